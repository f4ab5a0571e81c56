/- Parts. -/
import Derived.Test.YtfgpipfjalmooaaGreatMeetP
import Derived.Test.YtfgpipfjalmooaaGreatKpP
set_option linter.all false
noncomputable section
namespace Go.Proofs.YtfgpipfjalmooaaGreat
namespace Abs
abbrev ol:Ty:=.cons (.slice tInt) (.cons (.slice aw) .unit)
open Go Go.Proofs Go.RowKit Go.Maps Go.Shelf Tryz
def yn {w:World}{St:Sb}:∀l:List Int,Rep w St (chain (toD (.int .i64)) l) (intsI l)
 |[]=>rfl
 |i::l=>⟨[.int .i64 i],_,rfl,⟨rfl,rfl⟩,yn l⟩
def Ai (c:Cel):WK:=⟨c.1,c.2.1,c.2.2.1.1,c.2.2.1.2.1,⟨c.2.2.1.2.2.1.toArray⟩,c.2.2.1.2.2.2.1⟩
def rY (c:tCommit.den):CF:=⟨c.1,c.2.1,c.2.2.1,⟨c.2.2.2.1.toArray⟩,c.2.2.2.2.1.map Ai⟩
variable{w:World}{St:Sb}{v:Value}{l:List tCommit.den}{ws:List Int}{vs:List Value}
def ahD {c:Cel}{f:List Value}(h:Rep w St (toD aa c) f):f=gp (Ai c):=by obtain⟨a1,r1,rfl,⟨rfl,_⟩,a2,r2,rfl,⟨rfl,_⟩,a3,r3,rfl,⟨b1,s1,rfl,⟨rfl,_⟩,b2,s2,rfl,⟨rfl,_⟩,b3,s3,rfl,⟨rfl,_⟩,b4,s4,rfl,⟨rfl,_⟩,rfl⟩,rfl⟩:=h;rfl
def Yu (c:Cel):Rep w St (toD aa c) (gp (Ai c)) :=
 ⟨[_],_,rfl,⟨rfl,rfl⟩,[_],_,rfl,⟨rfl,rfl⟩,_,[],rfl,⟨[_],_,rfl,⟨rfl,rfl⟩,[_],_,rfl,⟨rfl,rfl⟩,[_],_,rfl,⟨rfl,rfl⟩,[_],[],rfl,⟨rfl,rfl⟩,rfl⟩,rfl⟩
def T1 {w:World}{St:Sb}:∀{l:List Cel} {f:List Value},Rep w St (chain (toD aa) l) f→f=flW (l.map Ai)
 |[],f,h=>h
 |c::l,f,h=>by obtain⟨c1,c2,rfl,j,g⟩:=h;rw[ahD j,T1 g];rfl
def Gk {w:World}{St:Sb}:∀l:List Cel,Rep w St (chain (toD aa) l) (flW (l.map Ai))
 |[]=>rfl
 |c::l=>⟨gp (Ai c),_,rfl,Yu c,Gk l⟩
def CZ {w:World}{St:Sb}:∀{l:List Int} {f:List Value},Rep w St (chain (toD (.int .i64)) l) f→f=intsI l
 |[],f,h=>h
 |c::l,f,h=>by obtain⟨c1,c2,rfl,⟨rfl,_⟩,h2⟩:=h;rw[CZ h2];rfl
def uC {t:Ty}(hz:0<t.size)(P:∀b o,St b o→b<w.heap.size){l:List t.den}{R:List Value}(h:Rep w St (toD (.slice t) l) [v])(hx:∀r,Rep w St (chain (toD t) l) r→r=R):mM w w.heap.size v l.length R:=by
 obtain⟨A,c,e,hc,U⟩:=dU h;injection e with e;refine⟨A,c,e,λhA=>?_,λhn=>?_⟩
 ·obtain h|⟨ad,r,rfl,_⟩:=U
  ·exact h
  ·cases hA
 ·obtain h|⟨ad,r,rfl,J,T,p⟩:=U
  ·omega
  ·obtain⟨b,g,sp⟩:=ad;have J:sp=none:=J;subst J;obtain rfl:=hx r T;have f:∀j u,r[j]? = some u→w.cell? ⟨b,g+j,none⟩=some u∧St b (g+j):=λj u C=>by
    have:=p j u C;rwa[dl]at this
   refine⟨b,g,rfl, ?_,λj u C=>(f j u C).1⟩;cases l with
   |nil=>simp at hn
   |cons x l=>
    obtain⟨c1,c2,rfl,h1,_⟩:=T;cases c1 with
    |nil =>have:=h1.size;simp at this;omega
    |cons u c1=>exact P _ _ (f 0 u rfl).2
open Classical in
def pI (l:List tCommit.den)(ws:List Int):Bool:=decide (GoodW ((l.map rY).map (·.wl)) ws∧l.length≤19∧(l.Pairwise λa b=>a.1<b.1)∧∀c∈l,c.2.1.length≤1048576∧c.2.2.1.length≤1048576)
def z7 (l:List tCommit.den):List WK:=((l.map rY).map (·.wl)).flatten
open Classical in
def dM (l:List tCommit.den)(ws:List Int):List Int:=if h:∃f,jU f (RchK (z7 l) ws)then h.choose else[]
def lX (l:List tCommit.den)(ws:List Int)(x:WK):Bool:=N2 (dM l ws) (z7 l) x
def lP (keep:WK→Bool)(c:tCommit.den):aw.den:=((c.1,c.2.1,c.2.2.1,c.2.2.2.1,c.2.2.2.2.1.filter λx=>keep (Ai x),()),((c.2.2.2.2.1.countP λx=>!keep (Ai x):Nat):Int),())
def lU (l:List tCommit.den)(ws:List Int):ol.den:=(DT ws,l.map (lP (lX l ws)),())
def abv:∀{a b:List Int},a.Pairwise (λx y=>x<y)→b.Pairwise (λx y=>x<y)→(∀x,x∈a↔x∈b)→a=b
 |[],[],_,_,_=>rfl
 |[],y::b,_,_,h=>absurd ((h y).2 (e_ ..)) Ψ
 |x::a,[],_,_,h=>absurd ((h x).1 (e_ ..)) Ψ
 |x::a,y::b,ha,hb,h=>by
  obtain⟨g,j⟩:=n_.1 ha;obtain⟨b1,b2⟩:=n_.1 hb;have e:x=y:=by
   rcases K'.1 ((h x).1 (e_ ..))with e|e
   ·exact e
   ·rcases K'.1 ((h y).2 (e_ ..))with e'|e'
    ·exact e'.symm
    ·have:=b1 x e;have:=g y e';omega
  subst e;rw[abv j b2 λz=>⟨λf=>?_,λf=>?_⟩]
  ·rcases K'.1 ((h z).1 (X' _ f))with e|e
   ·have:=g z f;omega
   ·exact e
  ·rcases K'.1 ((h z).2 (X' _ f))with e|e
   ·have:=b1 z f;omega
   ·exact e
def asc_uniq {P:Int→Prop}:∀{a b:List Int},jU a P→jU b P→a=b:=λ{a b} g f=>
 abv g.1 f.1 λx=>(g.2 x).trans (f.2 x).symm
def Fk {f:List Int}(h:jU f (RchK (z7 l) ws)):dM l ws=f:=by unfold dM;rw[ai4 ⟨f,h⟩];exact asc_uniq (Exists.choose_spec (⟨f,h⟩:∃f,jU f (RchK (z7 l) ws))) h
def AG:pI l ws=true↔GoodW ((l.map rY).map (·.wl)) ws∧l.length≤19∧(l.Pairwise λa b=>a.1<b.1)∧∀c∈l,c.2.1.length≤1048576∧c.2.2.1.length≤1048576:=by unfold pI;simp
def comsF_of (j:∀b o,St b o→b<w.heap.size){U:Value}(h:RepV w St (.slice tCommit) l U) :
  ∃A cap,U = .slice A l.length cap∧l.length≤cap∧wK w w.heap.size A (l.map rY):=by
 unfold RepV at h;rw[Θ (by simp[Ty.isStruct])]at h;obtain⟨A,cap,e0,hc,hh⟩:=dU h;cases e0;refine⟨A,cap,rfl,hc,λr=>?_⟩;rw[d_]at r;obtain h|⟨ad,J,rfl,T,hr,g⟩:=hh
 ·have h:l.length=0:=h;omega
 ·obtain⟨b,p,sp⟩:=ad;have T:sp=none:=T;subst T;have hl:J.length=l.length*5:=bj hr;refine⟨b,p,rfl,(j _ _ (g 0 _ (ε Ω)).2),λk hk=>?_⟩;rw[d_]at hk;have C:=tU hr k hk;have R:tCommit.size=5:=rfl;rw[R]at C;obtain⟨c1,r1,e1,⟨rfl,_⟩,c2,r2,rfl,h2,c3,r3,rfl,h3,c4,r4,rfl,⟨rfl,_⟩,c5,r5,rfl,h5,rfl⟩:=C;obtain⟨v2,rfl⟩:∃v,c2=[v]:=by obtain⟨A,n,c,e,_⟩:=h2;exact⟨_,e⟩
  obtain⟨v3,rfl⟩:∃v,c3=[v]:=by obtain⟨A,n,c,e,_⟩:=h3;exact⟨_,e⟩
  obtain⟨v5,rfl⟩:∃v,c5=[v]:=by obtain⟨A,n,c,e,_⟩:=h5;exact⟨_,e⟩
  have cell:∀f u,(((J.drop (k*5)).take 5))[f]? = some u→w.cell? ⟨b,p+k*5+f,none⟩=some u:=λf u P=>by
   have hf:f<5:=by have:=(f_.1 P).1;rw[o_]at this;omega
   rw[aiU hf,p_]at P;have:=(g (k*5+f) u P).1;rwa[dl,←Nat.add_assoc]at this
  rw[e1]at cell;rw[aj3];refine⟨v2,v3,v5,cell 0 _ rfl,cell 1 _ rfl,cell 2 _ rfl,cell 3 _ rfl,cell 4 _ rfl,uC (t :=.int .i64) Ϛ j h2 λJ h=>CZ h,uC (t :=.int .i64) Ϛ j h3 λJ h=>CZ h, ?_⟩;have:=uC (t:=aa) Ϛ j h5 λJ h=>T1 h;have e:(rY l[k]).wl.length=l[k].2.2.2.2.1.length:=by simp[rY]
  rw[e];exact this
def Yt {W:World}{T:Nat}{c:tCommit.den}{keep:WK→Bool}(h:fe W w.heap.size T (hZ keep (rY c)) vs):Rep W (yP w W St) (toD aw (lP keep c)) vs:=by
 obtain⟨pv,g,f,rfl,p,l,j,_⟩:=h;have e:(hZ keep (rY c)).c.wl=(c.2.2.2.2.1.filter λx=>keep (Ai x)).map Ai:=by simp[hZ,rY];rw[List.filter_map];rfl
 have r:(hZ keep (rY c)).left=c.2.2.2.2.1.countP λx=>!keep (Ai x):=by simp[hZ,rY];rfl
 rw[e,d_]at j;rw[r];exact⟨[_,pv,g,_,f],[_],rfl,⟨[_],_,rfl,⟨rfl,rfl⟩,[pv],_,rfl,qP (τ :=.int .i64) p (yn _),[g],_,rfl,qP (τ :=.int .i64) l (yn _),[_],_,rfl,⟨rfl,rfl⟩,[f],[],rfl,qP (τ:=aa) j (Gk _),rfl⟩,[_],[],rfl,⟨rfl,rfl⟩,rfl⟩
def As {w W:World}{St:Sb}{T:Nat}{keep:WK→Bool}:∀{l:List tCommit.den} {vs:List (List Value)},bP W w.heap.size T (l.map λc=>hZ keep (rY c)) vs →
  Rep W (yP w W St) (chain (toD aw) (l.map (lP keep))) vs.flatten
 |[],[],_=>rfl
 |_::_,_::_,h=>⟨_,_,rfl,Yt h.1,As h.2⟩
 |[],_::_,h=>h.elim
 |_::_,[],h=>h.elim
def Mc {t g:Ty}{x:t.den}{y:g.den}(h:RepVs w St [⟨t,x⟩,⟨g,y⟩] vs):∃v f,vs=[v,f]∧RepV w St t x v∧RepV w St g y f:=by
 match vs,h with
 |[v,f],⟨l,j,_⟩=>exact⟨v,f,rfl,l,j⟩
def ints_of (f:∀b o,St b o→b<w.heap.size){l:List Int}(h:RepV w St (.slice (.int .i64)) l v):∃A c,v = .slice A l.length c∧mM w w.heap.size (.slice A l.length c) l.length (intsI l):=by unfold RepV at h;rw[Θ (by simp[Ty.isStruct])]at h;have:=uC (t :=.int .i64) Ϛ f h λj h=>CZ h;obtain⟨A,c,rfl,g⟩:=this;exact⟨A,c,rfl,A,c,rfl,g⟩
def agp (l:List tCommit.den)(ws:List Int)(h:pI l ws=true):MeetsD prog 10 [⟨.slice tCommit,l⟩,⟨.slice (.int .i64),ws⟩] (.val (.slice (.int .i64)) (dM l ws)):=by obtain⟨R,_⟩:=AG.1 h;refine⟨⟨_,func10,rfl,Φ⟩,λw St g vs r=>?_⟩;obtain⟨v1,v2,rfl,h1,U⟩:=Mc r;obtain⟨A,cap,rfl,_,C⟩:=comsF_of g h1;obtain⟨A2,j,rfl,p⟩:=ints_of g U;have:=kept_calls _ ws R w A A2 cap j C.comms (ints_of_sl p rfl);rw[d_,d_]at this;refine this.mono ?_;rintro e w' ⟨v,J,rfl,f,T,P⟩;have e:dM l ws=J:=Fk f;rw[e];exact YG (τ :=.int .i64) T (ζ _) P (yn _)
def UW {l:List Prt}(h:Lw l=true)(w:World)(St:Sb)(f:∀b o,St b o→b<w.heap.size)(v:Value)(j:RepV w St (.slice aw) l v):Calls prog 39 #[v,.func (.func 40) #[] #[]] w λe g=>e = .returned (.tuple #[])∧Below w.heap.size w g:=by
 obtain⟨R,J,_,r⟩:=afu [.val (.slice aw) l,.fn 40 .pnil] (.tup (bh [])) (by
  show some (Lw l,_)=some (true,_);rw[h])
 refine(r w St f [v,.func (.func 40) #[] #[]] (J (aI w St) _ ⟨⟨v,rfl,j⟩,⟨[],rfl,rfl,rfl⟩,anO⟩)).mono ?_;rintro e g ⟨u,St',rfl,C,_,_,_,_,p⟩;obtain⟨U,T,P,_⟩:=p;obtain rfl:U=[]:=P;cases T;exact⟨rfl,C⟩
def agi (l:List tCommit.den)(ws:List Int)(h:pI l ws=true):MeetsD prog 13 [⟨.slice tCommit,l⟩,⟨.slice (.int .i64),ws⟩] (.val ol (lU l ws)):=by
 obtain⟨hg,hl,j,R⟩:=AG.1 h;refine⟨⟨_,func13,rfl,Φ⟩,λw St p vs J=>?_⟩;obtain⟨v1,v2,rfl,h1,h2⟩:=Mc J;obtain⟨A,cap,rfl,_,hcs⟩:=comsF_of p h1;obtain⟨A2,r,rfl,C⟩:=ints_of p h2;have:=VL (l.map rY) ws hg (λc hc=>by
  obtain⟨d,hd,rfl⟩:=r_.1 hc;exact R d hd) w A A2 cap r hcs C λkeep W B T v vs ho g=>?_
 ·rw[d_]at this;refine this.mono ?_;rintro e w' ⟨wv,pv,ks,vs,rfl,hks,hb,ho1,ho2,g⟩;have e:dM l ws=ks:=Fk hks;have hk:N2 ks ((l.map rY).map (·.wl)).flatten=lX l ws:=by unfold lX;rw[e];rfl
  rw[hk,T?]at g;have P:=As (St:=St) (l:=l) (keep:=lX l ws) g;refine Nl hb (ζ _) ?_;unfold RepV;rw[E' (show ol.isStruct=true from rfl)];refine⟨[wv,pv],rfl,[wv],[pv],rfl,qP (τ :=.int .i64) ho1 (yn _),[pv],[],rfl, ?_,rfl⟩;have:(lU l ws).2.1.length=l.length:=by simp[lU]
  exact qP (τ:=aw) (by rw[this];exact ho2) P
 ·have f:=fC ho (k_ B);have U:bP W ({ W with heap :=#[] }:World).heap.size T (l.map λc=>hZ keep (rY c)) vs:=by
   rw[T?]at g;exact g.all λx v hx=>hx.lo (k_ B)
  have hr:=As (w:={ W with heap :=#[] }) (St:=⟨λ_ _=>False,λ_ _ _ _=>False⟩) U;refine UW (l:=l.map (lP keep)) (Gv.2 ⟨by rw[d_];exact hl,ajq.2 (j.imp λh=>h)⟩) W (yP { W with heap :=#[] } W ⟨λ_ _=>False,λ_ _ _ _=>False⟩) (λb o h=>?_) v ?_
  ·obtain h|h:=h
   ·exact h.elim
   ·exact h.2
  ·unfold RepV;rw[Θ (by simp[Ty.isStruct])];refine qP (τ:=aw) (e:=54) ?_ hr;rw[d_]at f⊢;rw[d_]at f;exact f
