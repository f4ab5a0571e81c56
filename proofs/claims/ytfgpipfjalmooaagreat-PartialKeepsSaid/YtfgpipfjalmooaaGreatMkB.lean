/- Parts. -/
import Derived.Test.YtfgpipfjalmooaaGreatMeetP
import Derived.Test.YtfgpipfjalmooaaGreatKpP
set_option linter.all false
noncomputable section
namespace Go.Proofs.YtfgpipfjalmooaaGreat
namespace Abs
open Go Tryz
section
def I1:TabL:={
 ty:=[(3,tInt),(4,.bool),(9,.str),(23,(.slice tInt)),(24,(.slice tCommit)),(36,(.slice aa)),(38,tCommit),(42,aN),(44,aa),(94,(.slice ag)),(96,ah),(144,(.slice eL)),(146,ag),(168,eL)],
 cells:=[(3,1),(4,1),(9,1),(23,1),(24,1),(36,1),(38,5),(42,4),(44,6),(94,1),(96,1),(144,1),(146,3),(168,5)],
 offs:=[((38,0),0),((38,1),1),((38,2),2),((38,3),3),((38,4),4),((42,0),0),((42,1),1),((42,2),2),((42,3),3),((44,0),0),((44,1),1),((44,2),2),((96,0),0),((146,0),0),((146,1),1),((146,2),2),((168,0),0),((168,1),1)],
 one:=[],
 elem:=[(23,3),(24,38),(36,44),(94,146),(144,168)] }
def zk:TabOk prog I1.tab:=TabL.ok Φ
variable{g:Type}
def oU (m:Bool)(K:(List Int)→Option g)(l:(List tCommit.den)):Option g:=cl m ah (CB l) λr1=>cl m (.slice tInt) (aB r1 0) λf=>K f
def ld (l:(List tCommit.den)):Option (List Int):=oU false some l
def Dt:Ent:=evE (.cons (.slice tCommit) .unit) ap (zero (.slice tInt)) λx=>ld x.1
def QE:Par:=⟨I1.tab,E8 [(57,ady)] [] [] [] [(59,kx)],λ_=>look [],λ_=>look []⟩
def QD:ak prog 108 (Dt):=evX func108 (S:=QE) zk (vN ⟨ag8,apj⟩ trivial trivial trivial ⟨oV,apj⟩) (tys:=[(.slice tInt)]) (λf x=>oU true (sm ap) x.1) (λx=>by show _=Option.map ap _;simp only[oU,ld,ss])
def wQ (m:Bool)(K:Int→Option g)(l:(List tCommit.den))(x:Int):Option g:=cl m tInt (mod2_ev x 23) λr1=>cond (r1=22) (K 5242887) (cl m (.slice tInt) (ld l) (λj=>ck (!(2:Int)=0) (cl m tInt (be j (w64 (Int.tdiv x 2))) (λf=>K f))))
def sO (l:(List tCommit.den))(x:Int):Option Int:=wQ false some l x
def J9:Ent:=evE (.cons (.slice tCommit) (.cons tInt .unit)) av (zero tInt) λx=>sO x.1 x.2.1
def YT:Par:=⟨I1.tab,az [(18,yu),(108,Dt),(60,z6)],λ_=>look [],λ_=>look []⟩
def YS:ak prog 58 (J9):=evX func58 (S:=YT) zk (af ⟨mod2_x,QD,DV,apj⟩) (tys:=[tInt]) (λf x=>wQ true (sm av) x.1 x.2.1) (λx=>by show _=Option.map av _;simp only[wQ,sO,ss])
def Aj (m:Bool)(K:Int→Option g)(l:(List tCommit.den))(x:Int):Option g:=cl m ah (CB l) λr1=>cl m tInt (mod2_ev x 11) λJ=>cond (J=10) (ck (!(11:Int)=0) (cl m tInt (sO l (w64 (Int.tdiv x 11))) (λC=>K C))) (cl m (.slice tInt) (aB r1 2) (λf=>ck (lm (List.length ([]:List Int)+List.length f)) (cl m (.slice tInt) (aB r1 3) (λj=>ck (lm (List.length ([]++f)+List.length j)) (cl m (.slice tInt) (aB r1 1) (λp=>ck (lm (List.length ([]++f++j)+List.length p)) (cl m tInt (be ([]++f++j++p) x) (λr=>K r))))))))
def qu (l:(List tCommit.den))(x:Int):Option Int:=Aj false some l x
def Po:Ent:=evE (.cons (.slice tCommit) (.cons tInt .unit)) av (zero tInt) λx=>qu x.1 x.2.1
def abd:Par:=⟨I1.tab,E8 [(57,ady),(18,yu),(58,J9),(60,z6)] [] [] [] [(59,kx)],λ_=>look [],λ_=>look []⟩
def abc:ak prog 28 (Po):=evX func28 (S:=abd) zk (vN ⟨ag8,mod2_x,YS,DV,apj⟩ trivial trivial trivial ⟨oV,apj⟩) (tys:=[tInt]) (λf x=>Aj true (sm av) x.1 x.2.1) (λx=>by show _=Option.map av _;simp only[Aj,qu,ss])
def pI (m:Bool)(K:(List Int)→Option g)(f:aI g):aI g:=λh x out i=>nq m [2,1] (i<il x) (cond (cond (i<il x) (i<4) false) (ck (bd i x.length) (cl m tInt (qu h (ix tInt x i)) (λr1=>ck (lm (List.length out+List.length ([r1]:List Int))) (fz m (.slice tInt) (out++[r1]) (λl=>fz m tInt (w64 (i+1)) λj=>f h x l j))))) (K out))
def yZ (m:Bool)(K:(List Int)→Option g)(f:aI g)(h:(List tCommit.den))(x:(List Int)):Option g:=f h x [] 0
def rl:Nat→aI (List Int):=lp (λ_ _ _ _=>none) λf=>pI false some f
def pJ (h:(List tCommit.den))(x:(List Int)):Option (List Int):=yZ false some (rl FU) h x
def Nu:Ent:=evE (.cons (.slice tCommit) (.cons (.slice tInt) .unit)) ap (zero (.slice tInt)) λx=>pJ x.1 x.2.1
def EK:MS:=⟨0,[],[(0,.dat (.slice tCommit)),(1,.dat (.slice tInt)),(5,.own tInt 3),(6,.dat tInt)]⟩
def Nv:Par:=⟨I1.tab,az [(28,Po)],λ_=>look [],λ_=>look [(3,EK)]⟩
def ZH:KT:=bq I1.tab [.tmp 4] [(.slice tInt)]
def Ny (f g:Nat)(p:List Nat):Sg→KT→Option AV:=xc (bp fi0 hs0 f 0) Nv g f (sub (f8.body.getD .skip) p)
def rk (f n:Nat):aI AV:=λh x out i=>aE 0 EK (Ny f 0 [1,1,0,1,0,0]) (ai 0 (aQ 0 none (Ny f 0 [1,1,1]) ZH)) n ⟨mkE 27 [(0,.val (.slice tCommit) h),(1,.val (.slice tInt) x),(5,.own 0 0 tInt out),(6,.val tInt i)],mkH 1 [(0,.row tInt 3 0)]⟩
def Rz (f g:Nat):rk f (g+1)=pI true (sm ap) (rk f g):=Φ
def RB:∀n,rk FU n=mp4 ap (rl n):=bM Φ λf _ h=>(Rz FU f).trans (by rw[h];funext _ _ _ _;simp only[pI,ss])
def ZG:ak prog 8 (Nu):=evX func8 (S:=Nv) zk (af ⟨abc,apj⟩) (tys:=[(.slice tInt)]) (λf x=>yZ true (sm ap) (rk f f) x.1 x.2.1) (λx=>by show _=Option.map ap _;rw[RB FU];simp only[yZ,pJ,ss])
end
abbrev ba:Ty:=.cons (.slice tInt) (.cons (.slice aq) .unit)
open Go.Proofs Go.RowKit Go.Maps Go.Shelf
def zJ {w:World}{St:Sb}:∀l:List Int,Rep w St (chain (toD (.int .i64)) l) (intsI l)
 |[]=>rfl
 |i::l=>⟨[.int .i64 i],_,rfl,⟨rfl,rfl⟩,zJ l⟩
def fF (c:Cel):WK:=⟨c.1,c.2.1,c.2.2.1.1,c.2.2.1.2.1,⟨c.2.2.1.2.2.1.toArray⟩,c.2.2.1.2.2.2.1⟩
def tA (c:tCommit.den):CF:=⟨c.1,c.2.1,c.2.2.1,⟨c.2.2.2.1.toArray⟩,c.2.2.2.2.1.map fF⟩
variable{w:World}{St:Sb}{v:Value}{l:List tCommit.den}{ws:List Int}{vs:List Value}
def ajf {c:Cel}{f:List Value}(h:Rep w St (toD aa c) f):f=gH (fF c):=by obtain⟨a1,r1,rfl,⟨rfl,_⟩,a2,r2,rfl,⟨rfl,_⟩,a3,r3,rfl,⟨b1,s1,rfl,⟨rfl,_⟩,b2,s2,rfl,⟨rfl,_⟩,b3,s3,rfl,⟨rfl,_⟩,b4,s4,rfl,⟨rfl,_⟩,rfl⟩,rfl⟩:=h;rfl
def aaE (c:Cel):Rep w St (toD aa c) (gH (fF c)) :=
 ⟨[_],_,rfl,⟨rfl,rfl⟩,[_],_,rfl,⟨rfl,rfl⟩,_,[],rfl,⟨[_],_,rfl,⟨rfl,rfl⟩,[_],_,rfl,⟨rfl,rfl⟩,[_],_,rfl,⟨rfl,rfl⟩,[_],[],rfl,⟨rfl,rfl⟩,rfl⟩,rfl⟩
def Wf {w:World}{St:Sb}:∀{l:List Cel} {f:List Value},Rep w St (chain (toD aa) l) f→f=flW (l.map fF)
 |[],f,h=>h
 |c::l,f,h=>by obtain⟨c1,c2,rfl,j,g⟩:=h;rw[ajf j,Wf g];rfl
def HI {w:World}{St:Sb}:∀l:List Cel,Rep w St (chain (toD aa) l) (flW (l.map fF))
 |[]=>rfl
 |c::l=>⟨gH (fF c),_,rfl,aaE c,HI l⟩
def En {w:World}{St:Sb}:∀{l:List Int} {f:List Value},Rep w St (chain (toD (.int .i64)) l) f→f=intsI l
 |[],f,h=>h
 |c::l,f,h=>by obtain⟨c1,c2,rfl,⟨rfl,_⟩,h2⟩:=h;rw[En h2];rfl
def vP {t:Ty}(hz:0<t.size)(P:∀b o,St b o→b<w.heap.size){l:List t.den}{R:List Value}(h:Rep w St (toD (.slice t) l) [v])(hx:∀r,Rep w St (chain (toD t) l) r→r=R):nJ w w.heap.size v l.length R:=by
 obtain⟨A,c,e,hc,U⟩:=fx h;injection e with e;refine⟨A,c,e,λhA=>?_,λhn=>?_⟩
 ·obtain h|⟨ad,r,rfl,_⟩:=U
  ·exact h
  ·cases hA
 ·obtain h|⟨ad,r,rfl,J,T,p⟩:=U
  ·omega
  ·obtain⟨b,g,sp⟩:=ad;have J:sp=none:=J;subst J;obtain rfl:=hx r T;have f:∀j u,r[j]? = some u→w.cell? ⟨b,g+j,none⟩=some u∧St b (g+j):=λj u C=>by
    have:=p j u C;rwa[du]at this
   refine⟨b,g,rfl, ?_,λj u C=>(f j u C).1⟩;cases l with
   |nil=>simp at hn
   |cons x l=>
    obtain⟨c1,c2,rfl,h1,_⟩:=T;cases c1 with
    |nil =>have:=h1.size;simp at this;omega
    |cons u c1=>exact P _ _ (f 0 u rfl).2
open Classical in
def uD (l:List tCommit.den)(ws:List Int):Bool:=decide (GoodW ((l.map tA).map (·.wl)) ws∧l.length≤19∧(l.Pairwise λa b=>a.1<b.1)∧∀c∈l,c.2.1.length≤1048576∧c.2.2.1.length≤1048576)
def fD (l:List tCommit.den):List WK:=((l.map tA).map (·.wl)).flatten
open Classical in
def dj (l:List tCommit.den)(ws:List Int):List Int:=if h:∃f,iW f (RchK (fD l) ws)then h.choose else[]
def cQ (l:List tCommit.den)(ws:List Int)(x:WK):Bool:=PZ (dj l ws) (fD l) x
def tm (keep:WK→Bool)(c:tCommit.den):aq.den:=((c.1,c.2.1,c.2.2.1,c.2.2.2.1,c.2.2.2.2.1.filter λx=>keep (fF x),()),((c.2.2.2.2.1.countP λx=>!keep (fF x):Nat):Int),())
def gS (l:List tCommit.den)(ws:List Int):ba.den:=(zA ws,l.map (tm (cQ l ws)),())
def Ur:∀{a b:List Int},a.Pairwise (λx y=>x<y)→b.Pairwise (λx y=>x<y)→(∀x,x∈a↔x∈b)→a=b
 |[],[],_,_,_=>rfl
 |[],y::b,_,_,h=>absurd ((h y).2 (S' ..)) Ψ
 |x::a,[],_,_,h=>absurd ((h x).1 (S' ..)) Ψ
 |x::a,y::b,ha,hb,h=>by
  obtain⟨g,j⟩:=m_.1 ha;obtain⟨b1,b2⟩:=m_.1 hb;have e:x=y:=by
   rcases J'.1 ((h x).1 (S' ..))with e|e
   ·exact e
   ·rcases J'.1 ((h y).2 (S' ..))with e'|e'
    ·exact e'.symm
    ·have:=b1 x e;have:=g y e';omega
  subst e;rw[Ur j b2 λz=>⟨λf=>?_,λf=>?_⟩]
  ·rcases J'.1 ((h z).1 (K' _ f))with e|e
   ·have:=g z f;omega
   ·exact e
  ·rcases J'.1 ((h z).2 (K' _ f))with e|e
   ·have:=b1 z f;omega
   ·exact e
def asc_uniq {P:Int→Prop}:∀{a b:List Int},iW a P→iW b P→a=b:=λ{a b} g f=>
 Ur g.1 f.1 λx=>(g.2 x).trans (f.2 x).symm
def AA {f:List Int}(h:iW f (RchK (fD l) ws)):dj l ws=f:=by unfold dj;rw[akA ⟨f,h⟩];exact asc_uniq (Exists.choose_spec (⟨f,h⟩:∃f,iW f (RchK (fD l) ws))) h
def Cd:uD l ws=true↔GoodW ((l.map tA).map (·.wl)) ws∧l.length≤19∧(l.Pairwise λa b=>a.1<b.1)∧∀c∈l,c.2.1.length≤1048576∧c.2.2.1.length≤1048576:=by unfold uD;simp
def comsF_of (j:∀b o,St b o→b<w.heap.size){U:Value}(h:RepV w St (.slice tCommit) l U) :
  ∃A cap,U = .slice A l.length cap∧l.length≤cap∧xX w w.heap.size A (l.map tA):=by
 unfold RepV at h;rw[Θ (by simp[Ty.isStruct])]at h;obtain⟨A,cap,e0,hc,hh⟩:=fx h;cases e0;refine⟨A,cap,rfl,hc,λr=>?_⟩;rw[e_]at r;obtain h|⟨ad,J,rfl,T,hr,g⟩:=hh
 ·have h:l.length=0:=h;omega
 ·obtain⟨b,p,sp⟩:=ad;have T:sp=none:=T;subst T;have hl:J.length=l.length*5:=bJ hr;refine⟨b,p,rfl,(j _ _ (g 0 _ (ε Ω)).2),λk hk=>?_⟩;rw[e_]at hk;have C:=uX hr k hk;have R:tCommit.size=5:=rfl;rw[R]at C;obtain⟨c1,r1,e1,⟨rfl,_⟩,c2,r2,rfl,h2,c3,r3,rfl,h3,c4,r4,rfl,⟨rfl,_⟩,c5,r5,rfl,h5,rfl⟩:=C;obtain⟨v2,rfl⟩:∃v,c2=[v]:=by obtain⟨A,n,c,e,_⟩:=h2;exact⟨_,e⟩
  obtain⟨v3,rfl⟩:∃v,c3=[v]:=by obtain⟨A,n,c,e,_⟩:=h3;exact⟨_,e⟩
  obtain⟨v5,rfl⟩:∃v,c5=[v]:=by obtain⟨A,n,c,e,_⟩:=h5;exact⟨_,e⟩
  have cell:∀f u,(((J.drop (k*5)).take 5))[f]? = some u→w.cell? ⟨b,p+k*5+f,none⟩=some u:=λf u P=>by
   have hf:f<5:=by have:=(f_.1 P).1;rw[p_]at this;omega
   rw[akq hf,q_]at P;have:=(g (k*5+f) u P).1;rwa[du,←Nat.add_assoc]at this
  rw[e1]at cell;rw[alE];refine⟨v2,v3,v5,cell 0 _ rfl,cell 1 _ rfl,cell 2 _ rfl,cell 3 _ rfl,cell 4 _ rfl,vP (t :=.int .i64) Ϛ j h2 λJ h=>En h,vP (t :=.int .i64) Ϛ j h3 λJ h=>En h, ?_⟩;have:=vP (t:=aa) Ϛ j h5 λJ h=>Wf h;have e:(tA l[k]).wl.length=l[k].2.2.2.2.1.length:=by simp[tA]
  rw[e];exact this
def aaD {W:World}{T:Nat}{c:tCommit.den}{keep:WK→Bool}(h:fg W w.heap.size T (iJ keep (tA c)) vs):Rep W (Ai w W St) (toD aq (tm keep c)) vs:=by
 obtain⟨pv,g,f,rfl,p,l,j,_⟩:=h;have e:(iJ keep (tA c)).c.wl=(c.2.2.2.2.1.filter λx=>keep (fF x)).map fF:=by simp[iJ,tA];rw[List.filter_map];rfl
 have r:(iJ keep (tA c)).left=c.2.2.2.2.1.countP λx=>!keep (fF x):=by simp[iJ,tA];rfl
 rw[e,e_]at j;rw[r];exact⟨[_,pv,g,_,f],[_],rfl,⟨[_],_,rfl,⟨rfl,rfl⟩,[pv],_,rfl,rR (τ :=.int .i64) p (zJ _),[g],_,rfl,rR (τ :=.int .i64) l (zJ _),[_],_,rfl,⟨rfl,rfl⟩,[f],[],rfl,rR (τ:=aa) j (HI _),rfl⟩,[_],[],rfl,⟨rfl,rfl⟩,rfl⟩
def BW {w W:World}{St:Sb}{T:Nat}{keep:WK→Bool}:∀{l:List tCommit.den} {vs:List (List Value)},bO W w.heap.size T (l.map λc=>iJ keep (tA c)) vs →
  Rep W (Ai w W St) (chain (toD aq) (l.map (tm keep))) vs.flatten
 |[],[],_=>rfl
 |_::_,_::_,h=>⟨_,_,rfl,aaD h.1,BW h.2⟩
 |[],_::_,h=>h.elim
 |_::_,[],h=>h.elim
def NK {t g:Ty}{x:t.den}{y:g.den}(h:RepVs w St [⟨t,x⟩,⟨g,y⟩] vs):∃v f,vs=[v,f]∧RepV w St t x v∧RepV w St g y f:=by
 match vs,h with
 |[v,f],⟨l,j,_⟩=>exact⟨v,f,rfl,l,j⟩
def ints_of (f:∀b o,St b o→b<w.heap.size){l:List Int}(h:RepV w St (.slice (.int .i64)) l v):∃A c,v = .slice A l.length c∧nJ w w.heap.size (.slice A l.length c) l.length (intsI l):=by unfold RepV at h;rw[Θ (by simp[Ty.isStruct])]at h;have:=vP (t :=.int .i64) Ϛ f h λj h=>En h;obtain⟨A,c,rfl,g⟩:=this;exact⟨A,c,rfl,A,c,rfl,g⟩
def aic (l:List tCommit.den)(ws:List Int)(h:uD l ws=true):MeetsD prog 10 [⟨.slice tCommit,l⟩,⟨.slice (.int .i64),ws⟩] (.val (.slice (.int .i64)) (dj l ws)):=by obtain⟨R,_⟩:=Cd.1 h;refine⟨⟨_,func10,rfl,Φ⟩,λw St g vs r=>?_⟩;obtain⟨v1,v2,rfl,h1,U⟩:=NK r;obtain⟨A,cap,rfl,_,C⟩:=comsF_of g h1;obtain⟨A2,j,rfl,p⟩:=ints_of g U;have:=kept_calls _ ws R w A A2 cap j C.comms (ints_of_sl p rfl);rw[e_,e_]at this;refine this.mono ?_;rintro e w' ⟨v,J,rfl,f,T,P⟩;have e:dj l ws=J:=AA f;rw[e];exact aaO (τ :=.int .i64) T (ζ _) P (zJ _)
def Xi {l:List Prt}(h:MZ l=true)(w:World)(St:Sb)(f:∀b o,St b o→b<w.heap.size)(v:Value)(j:RepV w St (.slice aq) l v):Calls prog 39 #[v,.func (.func 40) #[] #[]] w λe g=>e = .returned (.tuple #[])∧Below w.heap.size w g:=by
 obtain⟨R,J,_,r⟩:=ahm [.val (.slice aq) l,.fn 40 .pnil] (.tup (bo [])) (by
  show some (MZ l,_)=some (true,_);rw[h])
 refine(r w St f [v,.func (.func 40) #[] #[]] (J (aG w St) _ ⟨⟨v,rfl,j⟩,⟨[],rfl,rfl,rfl⟩,apj⟩)).mono ?_;rintro e g ⟨u,St',rfl,C,_,_,_,_,p⟩;obtain⟨U,T,P,_⟩:=p;obtain rfl:U=[]:=P;cases T;exact⟨rfl,C⟩
def ah5 (l:List tCommit.den)(ws:List Int)(h:uD l ws=true):MeetsD prog 13 [⟨.slice tCommit,l⟩,⟨.slice (.int .i64),ws⟩] (.val ba (gS l ws)):=by
 obtain⟨hg,hl,j,R⟩:=Cd.1 h;refine⟨⟨_,func13,rfl,Φ⟩,λw St p vs J=>?_⟩;obtain⟨v1,v2,rfl,h1,h2⟩:=NK J;obtain⟨A,cap,rfl,_,hcs⟩:=comsF_of p h1;obtain⟨A2,r,rfl,C⟩:=ints_of p h2;have:=Yd (l.map tA) ws hg (λc hc=>by
  obtain⟨d,hd,rfl⟩:=l_.1 hc;exact R d hd) w A A2 cap r hcs C λkeep W B T v vs ho g=>?_
 ·rw[e_]at this;refine this.mono ?_;rintro e w' ⟨wv,pv,ks,vs,rfl,hks,hb,ho1,ho2,g⟩;have e:dj l ws=ks:=AA hks;have hk:PZ ks ((l.map tA).map (·.wl)).flatten=cQ l ws:=by unfold cQ;rw[e];rfl
  rw[hk,U?]at g;have P:=BW (St:=St) (l:=l) (keep:=cQ l ws) g;refine OZ hb (ζ _) ?_;unfold RepV;rw[G' (show ba.isStruct=true from rfl)];refine⟨[wv,pv],rfl,[wv],[pv],rfl,rR (τ :=.int .i64) ho1 (zJ _),[pv],[],rfl, ?_,rfl⟩;have:(gS l ws).2.1.length=l.length:=by simp[gS]
  exact rR (τ:=aq) (by rw[this];exact ho2) P
 ·have f:=fJ ho (k_ B);have U:bO W ({ W with heap :=#[] }:World).heap.size T (l.map λc=>iJ keep (tA c)) vs:=by
   rw[U?]at g;exact g.all λx v hx=>hx.lo (k_ B)
  have hr:=BW (w:={ W with heap :=#[] }) (St:=⟨λ_ _=>False,λ_ _ _ _=>False⟩) U;refine Xi (l:=l.map (tm keep)) (HR.2 ⟨by rw[e_];exact hl,ak2.2 (j.imp λh=>h)⟩) W (Ai { W with heap :=#[] } W ⟨λ_ _=>False,λ_ _ _ _=>False⟩) (λb o h=>?_) v ?_
  ·obtain h|h:=h
   ·exact h.elim
   ·exact h.2
  ·unfold RepV;rw[Θ (by simp[Ty.isStruct])];refine rR (τ:=aq) (e:=54) ?_ hr;rw[e_]at f⊢;rw[e_]at f;exact f
