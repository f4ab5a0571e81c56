/- What a closed run gives. -/
import Derived.Test.YtfgpipfjalmooaaGreatClpE
import Derived.Test.YtfgpipfjalmooaaGreatFstC
import Derived.Test.YtfgpipfjalmooaaGreatAbsK
set_option linter.all false
noncomputable section
namespace Go.Proofs.YtfgpipfjalmooaaGreat
namespace Clo
open Go Go.RowKit
variable [SymVal]
def agB (K:Pos→Bool):CV→Bool
 |.ptr k _ _=>K k
 |.sl k _ _ _ _=>K k
 |.emp k=>K k
 |.mp k=>K k
 |.clo k=>K k
 |.ifc k=>K k
 |_=>true
def kO (K:Pos→Bool)(l:List CV):Bool:=l.all (agB K)
def Hj (K:Pos→Bool)(l:List PV):Bool:=l.all λp=>kO K p.cells
def agA (K:Pos→Bool):TV→Bool
 |.unk=>true
 |.pv p=>kO K p.cells
 |.tup l=>Hj K l
def Gx.keep (f:Gx)(K:Pos→Bool):Gx:=⟨λk g=>if K k=true then f.loc k g else none,λk=>if K k=true then f.val k else none,λk=>if K k=true then f.mu k else none⟩
section
variable {P:Program}{Gl:Glt}{B:Nat}{W:W0}{φ ψ R:Gx}{h h' h'':Pos→EO}{w w':World}{K:Pos→Bool}
variable{v:Value}{k:Pos}{o:EO}
def Hi {c:CV}(f:agB K c=true)(g:den ψ c=some v):den (ψ.keep K) c=some v:=by
 cases c <;> first
  |exact g
  |(have f:K _=true:=f
    simp[den,Gx.keep,f]at g⊢;exact g)
def Kk:∀{l:List CV} {f:List Value},kO K l=true→dens ψ l=some f→dens (ψ.keep K) l=some f
 |[],_,_,r=>r
 |c::l,f,hk,r=>by simp only[kO,t?,ι]at hk;obtain⟨v,ws,rfl,j,g⟩:=bQ r;exact xb (Hi hk.1 j) (Kk hk.2 g)
def rg {p:PV}(f:kO K p.cells=true)(r:denP ψ p=some v):denP (ψ.keep K) p=some v:=by
 cases p with
 |one c =>simp[PV.cells,kO]at f;exact Hi f r
 |agg l=>
  have f:kO K l=true:=f;simp[denP]at r⊢;cases g:dens ψ l with
  |none=>rw[g]at r;cases r
  |some j=>rw[g]at r;rw[Kk f g];exact r
def sQ:∀{l:List PV} {f:List Value},Hj K l=true→cv ψ l=some f→cv (ψ.keep K) l=some f
 |[],_,_,r=>r
 |c::l,f,hk,r=>by simp only[Hj,t?,ι]at hk;obtain⟨v,ws,rfl,j,g⟩:=gL r;exact bI (rg hk.1 j) (sQ hk.2 g)
def ae9 {t:TV}(f:agA K t=true)(r:RT ψ t v):RT (ψ.keep K) t v:=by
 cases t with
 |unk=>trivial
 |pv p=>exact rg f r
 |tup l =>obtain⟨g,C,j⟩:=r;exact⟨g,sQ f C,j⟩
def aiv (ψ R:Gx):EO→Prop
 |.row _ _ p len j _=>∀i,i<len→(p.get dch i).m≤j→∀c∈(p.get dch i).cs,∀v,den ψ c=some v→den R c=some v
 |.map r _=>∀e∈r,(∀v,denP ψ e.key=some v→denP R e.key=some v)∧∀v,denP ψ e.val=some v→denP R e.val=some v
 |.mit (some m) _ _ _=>∀l,ψ.loc m 0=some l→R.loc m 0=some l
 |.mitU m _ _ _=>∀l,ψ.loc m 0=some l→R.loc m 0=some l
 |.clo _ first f=>(∀g,cv ψ first=some g→cv R first=some g)∧∀g,cv ψ f=some g→cv R f=some g
 |.ifc _ u=>∀v,denP ψ u=some v→denP R u=some v
 |_=>True
def iZ.less (f:∀g,R.loc k g=ψ.loc k g)(hv:R.val k=ψ.val k)(hm:R.mu k=ψ.mu k)(hc:aiv ψ R o)(T:iZ ψ w B k o):iZ R w B k o:=by
 cases o with
 |none=>exact⟨λg=>(f g).trans (T.1 g),hv.trans T.2.1,hm.trans T.2.2⟩
 |row e s el len gen fz =>obtain⟨h0,J,hmm,h2,h3⟩:=T;refine⟨h0,J,hmm,λg U=>(f g).trans (h2 g U),λg U=>?_⟩;obtain⟨l,q1,⟨r1,r2,arr,fr,r3,r4,r5,r6⟩,P⟩:=h3 g U;refine⟨l,(f g).trans q1,⟨r1,r2,arr,fr,r3,r4,r5,λi hi him=>?_⟩,P⟩;obtain⟨s1,s2,s3⟩:=r6 i hi him;refine⟨s1,s2,λj c hj=>?_⟩;obtain⟨v,t1,t2⟩:=s3 j c hj;exact⟨v,t1,hc i hi (Δ him U) c (X_ hj) v t2⟩
 |map es clock =>obtain⟨J,l,vs,q1,q2,P,q4⟩:=T;refine⟨λg U=>(f g).trans (J g U),l,vs,(f 0).trans q1,q2,P,q4.1,λi e he=>?_⟩;obtain⟨v,t1,t2,t3,t4⟩:=q4.2 i e he;obtain⟨c1,c2⟩:=hc e (X_ he);exact⟨v,t1,c1 _ t2,c2 _ t3,t4⟩
 |mit m since seen C=>
  obtain⟨J,l,q1,q2,P⟩:=T;refine⟨λg U=>(f g).trans (J g U),l,(f 0).trans q1,q2, ?_⟩;cases m with
  |none=>exact P
  |some m=>obtain⟨l',q4,q5⟩:=P;exact⟨l',hc l' q4,q5⟩
 |mitU m since bs st =>obtain⟨J,l,l',seen,C,n,q1,q2,P,q4,q5,q6,q7⟩:=T;exact⟨λg U=>(f g).trans (J g U),l,l',seen,C,n,(f 0).trans q1,q2,hc l' P,q4,q5,hm.trans q6,q7⟩
 |sit s p =>obtain⟨J,h2,l,q1,q2,P⟩:=T;exact⟨λg U=>(f g).trans (J g U),h2,l,(f 0).trans q1,q2,P⟩
 |clo fn first caps =>obtain⟨J,a,b,q1,q2,P⟩:=T;exact⟨λg=>(f g).trans (J g),a,b,hc.1 _ q1,hc.2 _ q2,hv.trans P⟩
 |ifc t v =>obtain⟨J,u,q1,q2⟩:=T;exact⟨λg=>(f g).trans (J g),u,hc _ q1,hv.trans q2⟩
 |emp =>obtain⟨J,a,c,q1⟩:=T;exact⟨λg=>(f g).trans (J g),a,c,hv.trans q1⟩
 |dead=>exact λg l q=>T g l ((f g).symm.trans q)
 |res=>exact λg l q=>T g l ((f g).symm.trans q)
 |yld =>obtain⟨J,l,q1,q2,P,r,q4⟩:=T;exact⟨λg U=>(f g).trans (J g U),l,(f 0).trans q1,q2,hv.trans P,r,q4⟩
def acT (g:φ.le ψ)(f:φ.le R)(T:iZ φ w B k o):aiv ψ R o:=by
 have p:∀{α:Type} {a b c:Option α} {x v:α},a=some x→(a=some x→b=some x)→(a=some x→c=some x)→b=some v→c=some v:=λ{α a b c x v} J h2 h3 h4=>by rw[h2 J]at h4;cases h4;exact h3 J
 cases o with
 |row e s el len gen fz =>intro i hi him c hc v hv;obtain⟨h0,J,hmm,h2,h3⟩:=T;obtain⟨l,q1,⟨r1,r2,arr,fr,r3,r4,r5,r6⟩,q3⟩:=h3 gen (ζ _);obtain⟨s1,s2,s3⟩:=r6 i hi him;obtain⟨j,hj⟩:=Y_ hc;obtain⟨u,t1,t2⟩:=s3 j c hj;exact p t2 (dY g) (dY f) hv
 |map es clock =>intro e he;obtain⟨J,l,vs,q1,q2,q3,U⟩:=T;obtain⟨i,hi⟩:=Y_ he;obtain⟨v,t1,t2,t3,t4⟩:=U.2 i e hi;exact⟨λu r=>p t2 (cP g) (cP f) r,λu r=>p t3 (cP g) (cP f) r⟩
 |mit m P seen C=>
  cases m with
  |none=>trivial
  |some m =>obtain⟨J,l,q1,q2,l',U,q5⟩:=T;exact λu r=>p U (g.loc _ _ _) (f.loc _ _ _) r
 |mitU m P bs st =>obtain⟨J,l,l',seen,C,n,q1,q2,q3,U⟩:=T;exact λu r=>p q3 (g.loc _ _ _) (f.loc _ _ _) r
 |clo fn first caps =>obtain⟨J,a,b,q1,q2,q3⟩:=T;exact⟨λu r=>p q1 (da g) (da f) r,λu r=>p q2 (da g) (da f) r⟩
 |ifc t v =>obtain⟨J,u,q1,q2⟩:=T;exact λu r=>p q1 (cP g) (cP f) r
 |_=>trivial
def pd (K:Pos→Bool):EO→Bool
 |.row _ _ j len _ _=>(List.range len).all λi=>kO K (j.get dch i).cs
 |.map g _=>g.all λe=>kO K e.key.cells&&kO K e.val.cells
 |.clo _ first f=>Hj K first&&Hj K f
 |.ifc _ u=>kO K u.cells
 |.emp=>true
 |.none=>true
 |.dead=>true
 |_=>false
def Zm (f:pd K o=true):aiv ψ (ψ.keep K) o:=by
 cases o with
 |row e s R len J fz =>intro i r p c C v g;simp[pd]at f;have:=f i r;simp[kO]at this;exact Hi (this c C) g
 |map P clock =>intro e j;simp[pd]at f;exact⟨λv g=>rg (f e j).1 g,λv g=>rg (f e j).2 g⟩
 |clo fn first l =>simp[pd]at f;exact⟨λv g=>sQ f.1 g,λv g=>sQ f.2 g⟩
 |ifc t u=>exact λv g=>rg f g
 |mit m _ _ _=>cases f
 |mitU m _ _ _=>cases f
 |sit _ _=>cases f
 |yld=>cases f
 |res=>cases f
 |none=>trivial
 |emp=>trivial
 |dead=>trivial
def cd.forget (hI:Inv B W φ h w)(R:cd B φ h w ψ h' w')(ha:∀k,K k=true→h'' k=h' k)(hb:∀k,K k=false→h'' k = .none∧h k = .none)(hc:∀k,K k=true→h' k=h k∨pd K (h' k)=true):cd B φ h w (ψ.keep K) h'' w':=by
 have r:∀k,K k=true→(∀g,(ψ.keep K).loc k g=ψ.loc k g)∧(ψ.keep K).val k=ψ.val k∧(ψ.keep K).mu k=ψ.mu k:=λk f=>by exact⟨λg=>by simp[Gx.keep,f],by simp[Gx.keep,f],by simp[Gx.keep,f]⟩
 have kf:∀k,K k=false→(∀g,(ψ.keep K).loc k g=none)∧(ψ.keep K).val k=none∧(ψ.keep K).mu k=none:=λk f=>by exact⟨λg=>by simp[Gx.keep,f],by simp[Gx.keep,f],by simp[Gx.keep,f]⟩
 have p:∀k,K k=false→(∀g,φ.loc k g=none)∧φ.val k=none∧φ.mu k=none:=λk f=>hI.free (hb k f).2;have P:φ.le (ψ.keep K):=by
  refine⟨λk g l T=>?_,λk v C=>?_,λk v C=>?_⟩
  ·cases f:K k with
   |true=>rw[(r k f).1 g];exact R.1.loc _ _ _ T
   |false=>rw[(p k f).1 g]at T;cases T
  ·cases f:K k with
   |true=>rw[(r k f).2.1];exact R.1.val _ _ C
   |false=>rw[(p k f).2.1]at C;cases C
  ·cases f:K k with
   |true=>rw[(r k f).2.2];exact R.1.mu _ _ C
   |false=>rw[(p k f).2.2]at C;cases C
 refine⟨P,λW' hW=>?_,λk f=>?_⟩
 ·have J:=R.2.1 W' hW;refine⟨J.below,J.kp,hW.le.trans P,λk f=>?_,J.size,λk=>?_,λk g l k' g' l' h1 h2 e=>?_⟩
  ·cases j:K k with
   |false=>rw[(hb k j).1]at f;cases f
   |true =>rw[ha k j]at f;obtain⟨z1,z2,z3,z4⟩:=J.res k f;obtain⟨U,t2,t3⟩:=r k j;exact⟨λg=>(U g).trans (z1 g),t2.trans z2,t3.trans z3,λg l T=>z4 g l ((U g).symm.trans T)⟩
  ·cases j:K k with
   |false =>rw[(hb k j).1];exact kf k j
   |true=>
    rw[ha k j];obtain⟨U,t2,t3⟩:=r k j;refine(J.obj k).less U t2 t3 ?_;obtain e|e:=hc k j
    ·rw[e];exact acT R.1 P (hW.obj k)
    ·exact Zm e
  ·refine J.sep k g l k' g' l' ?_ ?_ e
   ·cases j:K k with
    |true=>rw[(r k j).1 g]at h1;exact h1
    |false=>rw[(kf k j).1 g]at h1;cases h1
   ·cases j:K k' with
    |true=>rw[(r k' j).1 g']at h2;exact h2
    |false=>rw[(kf k' j).1 g']at h2;cases h2
 ·cases j:K k with
  |false=>rw[(hb k j).2];rfl
  |true=>rw[ha k j]at f;exact R.2.2 k f
end
variable [SymVal]
structure Ent where
 f:FuncId
 args:List TV
 N:Pos
 L:DM
 v:TV
 d:DM
 n:Pos
def X2 (a b:PV):Bool:=Xk (.pv a) (.pv b)
def Vz:List PV→List PV→Bool
 |[],[]=>true
 |a::l,b::m=>bif X2 a b then Vz l m else false
 |_,_=>false
def aad:TV→TV→Bool
 |.pv a,.pv b=>X2 a b
 |.tup l,.tup m=>Vz l m
 |_,_=>false
def Of:List TV→List TV→Bool
 |[],[]=>true
 |a::l,b::m=>bif aad a b then Of l m else false
 |_,_=>false
def ajf:Fz→Fz→Bool
 |.no,.no=>true
 |.out,.out=>true
 |.yes,.yes=>true
 |_,_=>false
def aaX:PT Ch→PT Ch→Bool
 |.leaf,.leaf=>true
 |.node l a r,.node j f g=>bif KW a.cs f.cs&&Nat.beq a.m f.m then(bif aaX l j then aaX r g else false)else false
 |_,_=>false
def VS:List ME→List ME→Bool
 |[],[]=>true
 |a::l,b::m=>bif X2 a.key b.key&&X2 a.val b.val&&Nat.beq a.born b.born then VS l m else false
 |_,_=>false
def Y9:EO→EO→Bool
 |.row e s T len j fz,.row U P r f g l=>Nat.beq e U&&Nat.beq s P&&aaX T r&&Nat.beq len f&&Nat.beq j g&&ajf fz l
 |.map R c,.map p c'=>VS R p&&Nat.beq c c'
 |.ifc t u,.ifc J C=>Nat.beq t J&&X2 u C
 |.emp,.emp=>true
 |_,_=>false
def abu (h:Pos→EO):DM→(Pos→Pos)→Bool
 |.leaf,_=>true
 |.node l a r,c=>(match a with
   |none=>true
   |some o=>Y9 (h (c .e)) o)&&abu h l (λp=>c (.o p))&&abu h r (λp=>c (.i p))
def aai (N:Nat):DM→Nat→Nat→Bool
 |.leaf,_,_=>true
 |.node l a r,v,w=>(match a with
   |none=>true
   |some o=>match o with
    |.none=>true
    |_=>Nat.blt v N)&&aai N l (Nat.add v w) (Nat.mul 2 w)&&aai N r (Nat.add v (Nat.mul 2 w)) (Nat.mul 2 w)
def Xo (N:Nat):HP→Bool
 |.nil=>true
 |.ov b d=>aai N d 0 1&&Xo N b
 |.cut b n=>match Nat.ble n.num N with
  |true=>true
  |false=>Xo N b
def afN (N:Nat)(a g:Option EO)(v:Nat):Bool:=match g with
 |some f=>match a with
  |some o=>Y9 o f
  |none=>false
 |none=>match a with
  |some _=>Nat.ble N v
  |none=>true
def IZ (N:Nat):DM→DM→Nat→Nat→Bool
 |.leaf,t,_,_=>match t with
  |.leaf=>true
  |.node _ _ _=>false
 |.node l a r,t,v,w=>match t with
  |.leaf=>afN N a none v&&IZ N l .leaf (Nat.add v w) (Nat.mul 2 w)&&IZ N r .leaf (Nat.add v (Nat.mul 2 w)) (Nat.mul 2 w)
  |.node g j f=>afN N a j v&&IZ N l g (Nat.add v w) (Nat.mul 2 w)&&IZ N r f (Nat.add v (Nat.mul 2 w)) (Nat.mul 2 w)
def adK (f:EO→Bool):DM→Bool
 |.leaf=>true
 |.node l a r=>(match a with
   |none=>true
   |some o=>f o)&&adK f l&&adK f r
def Hk (e:Ent)(k:Pos):Bool:=Nat.blt k.num e.N.num||(match PM.get none e.d k with|some _=>true|none=>false)
def ac2 (e:Ent)(v:TV)(d:DM)(n:Pos):Bool:=aad v e.v&&n.beq e.n&&IZ e.N.num d e.d 0 1&&adK (pd (Hk e)) e.d&&agA (Hk e) e.v
def aaM (T:Tb)(g:FuncId→Option Fi)(C j:Nat)(e:Ent)(r:HP):Bool:=RC.rec (motive:=λ_=>Bool) false (λv d n=>ac2 e v d n) (mkR T g C j noY (.ov (.cut r e.N) e.L) (.fn e.f) e.args .leaf e.N)
def bR (t:Bool)(a:RC):RC:=Bool.rec (motive:=λ_=>RC) .no a t
def aiW (e:Ent):Tb:=λf b args d n=>bR (Nat.beq f e.f) (bR (n.beq e.N) (bR (Of args e.args) (bR (abu (hG (.ov b d)) e.L id) (bR (Xo e.N.num (.ov b d)) (.ok e.v (mS e.d d) e.n)))))
def Fo (e:Ent)(T:Tb):Tb:=λf b args d n=>Mm (aiW e f b args d n) (T f b args d n)
def Aa {a b:PV}(h:X2 a b=true):a=b:=by have:=Lz (a :=.pv a) (b :=.pv b) h;injection this
def Pf:∀{l m:List PV},Vz l m=true→l=m
 |[],[],_=>rfl
 |a::l,b::m,h=>by
  simp only[Vz,k?]at h;split at h
  next h1=>rw[Aa h1,Pf h]
  ·cases h
 |[],_::_,h=>by cases h
 |_::_,[],h=>by cases h
def Oi {a b:TV}(h:aad a b=true):a=b:=by
 cases a with
 |unk=>cases b <;> cases h
 |pv a=>cases b with
  |pv b=>rw[Aa h]
  |_=>cases h
 |tup a=>cases b with
  |tup b=>rw[Pf h]
  |_=>cases h
def Ff:∀{l m:List TV},Of l m=true→l=m
 |[],[],_=>rfl
 |a::l,b::m,h=>by
  simp only[Of,k?]at h;split at h
  next h1=>rw[Oi h1,Ff h]
  ·cases h
 |[],_::_,h=>by cases h
 |_::_,[],h=>by cases h
def Md:∀{a b:PT Ch},aaX a b=true→a=b
 |.leaf,.leaf,_=>rfl
 |.node l a r,.node R J P,h=>by
  simp only[aaX,k?]at h;split at h
  next h1=>
   simp only[ι]at h1;split at h
   next h2=>obtain⟨C,m⟩:=a;obtain⟨f,g⟩:=J;have p:C=f:=BH h1.1;have j:m=g:=κ h1.2;rw[Md h2,Md h,p,j]
   ·cases h
  ·cases h
 |.leaf,.node _ _ _,h=>by cases h
 |.node _ _ _,.leaf,h=>by cases h
def PU:∀{l m:List ME},VS l m=true→l=m
 |[],[],_=>rfl
 |a::l,b::m,h=>by
  simp only[VS,k?]at h;split at h
  next h1=>simp only[ι]at h1;obtain⟨k,v,n⟩:=a;obtain⟨j,f,g⟩:=b;have C:k=j:=Aa h1.1.1;have r:v=f:=Aa h1.1.2;have p:n=g:=κ h1.2;rw[PU h,C,r,p]
  ·cases h
 |[],_::_,h=>by cases h
 |_::_,[],h=>by cases h
def Wp {a b:EO}(h:Y9 a b=true):a=b:=by
 cases a <;> cases b <;> first|(cases h;done)|skip
 ·simp only[Y9,ι]at h;obtain⟨⟨⟨⟨⟨l,j⟩,h3⟩,h4⟩,h5⟩,h6⟩:=h;rename_i g _ _ _ _ _ f;have p:g=f:=by cases g <;> cases f <;> first|rfl|cases h6
  rw[κ l,κ j,Md h3,κ h4,κ h5,p]
 ·simp only[Y9,ι]at h;rw[PU h.1,κ h.2]
 ·simp only[Y9,ι]at h;rw[κ h.1,Aa h.2]
 ·rfl
def G0 {h:Pos→EO}:∀{d:DM} {c:Pos→Pos},abu h d c=true→∀k o,PM.get none d k=some o→h (c k)=o
 |.leaf,_,_,k,o,f=>by cases f
 |.node l a r,c,g,k,o,f=>by
  simp[abu]at g;cases k with
  |e =>have f:a=some o:=f;rw[f]at g;exact Wp g.1.1
  |o k=>exact G0 g.1.2 k o f
  |i k=>exact G0 g.2 k o f
def Fh {N:Nat}:∀{d:DM} {v w:Nat},aai N d v w=true→∀k o,PM.get none d k=some o→o = .none∨v+w*k.num<N
 |.leaf,_,_,_,k,o,f=>by cases f
 |.node l a r,v,w,g,k,o,f=>by
  simp only[aai,ι]at g;cases k with
  |e=>
   have f:a=some o:=f;rw[f]at g;cases o with
   |none=>exact .inl rfl
   |_=>exact .inr (by have:=cx.1 g.1.1;simpa[Pos.num]using this)
  |o k=>
   obtain q|q:=Fh g.1.2 k o f
   ·exact .inl q
   ·refine .inr ?_;have p:Nat.add v w=v+w:=rfl;have j:Nat.mul 2 w=2*w:=rfl;rw[p,j]at q;simp[Pos.num];have:w*(2*k.num+1)=w+2*w*k.num:=by rw[ak6,Nat.mul_one,←Nat.mul_assoc,Y? w 2,K?]
    omega
  |i k=>
   obtain q|q:=Fh g.2 k o f
   ·exact .inl q
   ·refine .inr ?_;have p:Nat.add v (Nat.mul 2 w)=v+2*w:=rfl;have j:Nat.mul 2 w=2*w:=rfl;rw[p,j]at q;simp[Pos.num];have:w*(2*k.num+2)=2*w+2*w*k.num:=by rw[ak6,←Nat.mul_assoc,Y? w 2,K?]
    omega
def zy {N:Nat}:∀{b:HP},Xo N b=true→∀k:Pos,N≤k.num→b.get k = .none
 |.nil,_,_,_=>rfl
 |.ov b d,f,k,g=>by
  simp[Xo]at f;simp[HP.get];cases j:PM.get none d k with
  |none=>exact zy f.2 k g
  |some o=>
   obtain q|q:=Fh f.1 k o j
   ·exact q
   ·omega
 |.cut b n,f,k,g=>by
  simp[HP.get];split
  next hlt=>
   simp[Xo]at f;split at f
   next hle=>have p:=cx.1 hlt;have l:=bp.1 hle;omega
   ·exact zy (b:=b) f k g
  ·rfl
def afM {N:Nat}{a f:Option EO}{v:Nat}(h:afN N a f v=true):f=a∨(f=none∧N≤v):=by
 cases f with
 |some g=>cases a with
  |some o=>exact .inl (by rw[Wp h])
  |none=>cases h
 |none=>cases a with
  |some o=>exact .inr ⟨rfl,bp.1 h⟩
  |none=>exact .inl rfl
def H6 {N:Nat}:∀{d t:DM} {v w:Nat},IZ N d t v w=true→∀k,PM.get none t k=PM.get none d k∨(PM.get none t k=none∧N≤v+w*k.num)
 |.leaf,t,v,w,f,k=>by
  cases t with
  |leaf=>exact .inl rfl
  |node _ _ _=>cases f
 |.node l a r,t,v,w,f,k=>by
  have C:∀(j g:DM) (p:Option EO),afN N a p v=true→IZ N l j (Nat.add v w) (Nat.mul 2 w)=true→IZ N r g (Nat.add v (Nat.mul 2 w)) (Nat.mul 2 w)=true→PM.get none (.node j p g) k=PM.get none (.node l a r) k∨(PM.get none (.node j p g) k=none∧N≤v+w*k.num):=λj g p U T R=>by
   cases k with
   |e=>
    obtain q|q:=afM U
    ·exact .inl q
    ·exact .inr ⟨q.1,by simpa[Pos.num]using q.2⟩
   |o k=>
    obtain q|q:=H6 T k
    ·exact .inl q
    ·refine .inr ⟨q.1, ?_⟩;have q:=q.2;have P:Nat.add v w=v+w:=rfl;have J:Nat.mul 2 w=2*w:=rfl;rw[P,J]at q;simp[Pos.num];have:w*(2*k.num+1)=w+2*w*k.num:=by rw[ak6,Nat.mul_one,←Nat.mul_assoc,Y? w 2,K?]
     omega
   |i k=>
    obtain q|q:=H6 R k
    ·exact .inl q
    ·refine .inr ⟨q.1, ?_⟩;have q:=q.2;have P:Nat.add v (Nat.mul 2 w)=v+2*w:=rfl;have J:Nat.mul 2 w=2*w:=rfl;rw[P,J]at q;simp[Pos.num];have:w*(2*k.num+2)=2*w+2*w*k.num:=by rw[ak6,←Nat.mul_assoc,Y? w 2,K?]
     omega
  cases t with
  |leaf=>
   simp[IZ]at f;have:=C .leaf .leaf none f.1.1 f.1.2 f.2;have e:PM.get none (.node .leaf none .leaf:DM) k=PM.get none (.leaf:DM) k:=by cases k <;> rfl
   rw[e]at this;exact this
  |node j p g =>simp[IZ]at f;exact C j g p f.1.1 f.1.2 f.2
def Ik {f:EO→Bool}:∀{d:DM},adK f d=true→∀k o,PM.get none d k=some o→f o=true
 |.leaf,_,k,o,g=>by cases g
 |.node l a r,j,k,o,g=>by
  simp[adK]at j;cases k with
  |e =>have g:a=some o:=g;rw[g]at j;exact j.1.1
  |o k=>exact Ik j.1.2 k o g
  |i k=>exact Ik j.2 k o g
def yj {t:Bool}{a:RC}{v:TV}{d:DM}{n:Pos}(h:bR t a = .ok v d n):t=true∧a = .ok v d n:=by
 cases t with
 |true=>exact⟨rfl,h⟩
 |false=>cases h
section
variable {P:Program}{Gl:Glt}{B:Nat}{W:W0}{φ φ0 ψ:Gx}{h h0:Pos→EO}{w w0:World}
def ad3 (T:Tb):Ck:=λb t args d n=>match t with
 |.fn f=>T f b args d n
 |.yld _=>.no
def zd (P:Program)(Gl:Glt)(T:Tb):Prop:=∀B f,tH P Gl B (ad3 T) f
def gw:zd P Gl Tw:=λB f b t args d n v U g h=>by cases t <;> cases h
variable{C:Nat}
def Ka (hm:P.follows .mixedOrders=true){T:Tb}(htb:zd P Gl T):∀(dp:Nat) (yk:Yk) (R:List Lq),RU P Gl B yk R→tH P Gl B (mkT T (ju P Gl) C dp yk) R:=by
 intro dp;induction dp with
 |zero=>
  intro yk R J b t args d n v U n' g;cases t with
  |yld j=>exact J b j args d n v U n' g
  |fn f=>cases g
 |succ dp ih=>
  intro yk R J b t args d n v U n' g;cases t with
  |yld j=>exact J b j args d n v U n' g
  |fn f=>
   simp[mkT]at g;cases r:T f b args d n with
   |ok v1 d1 n1 =>rw[r]at g;exact htb B R b (.fn f) args d n v U n' (r.trans g)
   |no=>
   rw[r]at g;simp[Mm]at g;intro W φ w hG hI vs hr hcx;split at g
   ·rename_i x hx;obtain⟨fn,c,rs,f1,f2,f3,f4,rfl⟩:=KG hx;simp only at g;split at g
    ·rename_i hle;have hle:=bp.1 hle;have hlen:=hr.len;refine⟨⟨fn,f1,by simp[f2],f3⟩, ?_⟩;unfold XU at g;split at g
     ·rename_i X e1 d1 n1 hex;have hsz:(vs.toArray++Array.replicate (fn.ntmps-vs.toArray.size) undef).size=fn.ntmps:=by
       simp;omega
      have ckok:CkOk P Gl B (I1 (mkT T (ju P Gl) C dp) yk) R:=⟨ih yk R J,λyk' Γ' h=>ih yk' Γ' h⟩;refine callsIn_wide.1 (callsIn_of_wp_marks (F:=RF none) (n:=0) f1 f2 trivial (wpIn_mono ((jv hm ckok c).1 none 0 w.heap.size W φ _ w hI hG hcx (λl hl=>by cases hl) (.inl rfl) (ζ _) b (pJ args .e .leaf) d n _ w X e1 d1 n1 hex ⟨⟨φ,cd.refl,lW hr _⟩,hsz,[],rfl,w?,λD hD=>by cases hD⟩) λex a w' hn=>?_));have fin:(∀id,X ≠ .exit id)→Rl B w.heap.size φ (HP.ov b d).get w fn.ntmps e1 (HP.ov b d1).get a w'→LeavesInM (RF none) 0 P fn a.tmps (I6 B φ (HP.ov b d).get w (HP.ov b U).get v) a.defers .returning w':=λhX p=>by
       obtain⟨ψ,hs,hE⟩:=p.ex;obtain⟨ms,m1,m2,m3⟩:=p.df;have hres:∃l,eD e1 (HP.ov b d1).get rs=some l∧v=oY l∧U=d1:=by
        split at g
        ·exact(hX _ rfl).elim
        ·split at g
         next l hl=>injection g with y1 y2 y3;exact⟨l,hl,y1.symm,y2.symm⟩
         ·cases g
       obtain⟨l,hl,rfl,rfl⟩:=hres;rw[m1];refine dE hI ms w' hs m2 m3 λw2 hs2=>?_;obtain⟨u,r1,r2⟩:=d9 (hs2.2.1 _ hI) hE f4 hl;exact⟨u,r1,u,ψ,rfl,hs2,r2⟩
      cases ex with
      |normal=>obtain⟨rfl,p⟩:=hn;exact fin (λid e=>by cases e) p
      |ret=>obtain⟨rfl,p⟩:=hn;exact fin (λid e=>by cases e) p
      |exit id=>obtain⟨rfl,_⟩:=hn;cases g
      |goto l=>exact hn.elim
      |panic ch=>exact hn.elim
      |outgrown=>exact hn.elim
     ·cases g
    ·cases g
   ·cases g
def ar (P:Program)(Gl:Glt)(T:Tb)(C f:Nat)(e:Ent):Prop:=∀r,aaM T (ju P Gl) C f e r=true
def abj {f:List Lq}:RU P Gl B noY f:=λb j args d n v U g h=>by cases h
def Cg (hm:P.follows .mixedOrders=true){T tb':Tb}(htb:zd P Gl T){dp:Nat}{e:Ent}(he:ar P Gl T C dp e)(htb':zd P Gl tb'):zd P Gl (Fo e tb'):=by
 intro B Γ b t args d n v U n' g;cases t with
 |yld j=>cases g
 |fn f=>
  simp[ad3,Fo]at g;cases p:aiW e f b args d n with
  |no =>rw[p]at g;exact htb' B Γ b (.fn f) args d n v U n' g
  |ok v0 d0 n0=>
   rw[p]at g;simp only[Mm]at g;injection g with c1 c2 c3;subst c1;subst c2;subst c3;obtain⟨k1,p⟩:=yj p;obtain⟨k2,p⟩:=yj p;obtain⟨k3,p⟩:=yj p;obtain⟨k4,p⟩:=yj p;obtain⟨k5,p⟩:=yj p;injection p with g1 g2 g3;have ef:=κ k1;have en:=Pos.beq_iff.1 k2;have ea:=Ff k3;subst ef;subst en;subst ea;intro W φ w hGl hI vs hr hcx;have l:=he (.ov b d);unfold aaM at l;cases R:mkR T (ju P Gl) C dp noY (.ov (.cut (.ov b d) e.N) e.L) (.fn e.f) e.args .leaf e.N with
   |no=>rw[R]at l;cases l
   |ok v1 d1 n1=>
    rw[R]at l;simp[ac2]at l;obtain⟨⟨⟨⟨r1,r2⟩,r3⟩,r4⟩,r5⟩:=l;have ev:=Oi r1;subst ev;rw[TE]at R;have hG':hG (.ov b d)=(HP.ov b d).get:=funext λk=>Bh _ k;rw[hG']at k4;have J:(HP.ov (.cut (.ov b d) e.N) e.L).get=(HP.ov b d).get:=by
     funext k;show(match PM.get none e.L k with|some o=>o|none=>(HP.cut (.ov b d) e.N).get k)=_;cases hl:PM.get none e.L k with
     |some o=>exact(G0 k4 k o hl).symm
     |none=>
      show(match Nat.blt k.num e.N.num with|true=>(HP.ov b d).get k|false=>.none)=_;cases hb:Nat.blt k.num e.N.num with
      |true=>rfl
      |false=>
       refine(zy k5 k ?_).symm;exact Nat.le_of_not_lt λq=>by rw[cx.2 q]at hb;cases hb
    have h0:(HP.ov (.ov (.cut (.ov b d) e.N) e.L) .leaf).get=(HP.ov b d).get:=by rw[←J];funext k;rfl
    have call:=Ka (B:=B) hm htb dp noY Γ abj _ _ _ _ _ _ _ _ R W φ w hGl (by rw[h0];exact hI) vs hr hcx;rw[h0]at call;refine⟨call.1,call.2.mono ?_⟩;rintro x w' ⟨u,ψ,rfl,hs,hru⟩;have hd1:∀k,(HP.ov (.ov (.cut (.ov b d) e.N) e.L) d1).get k=match PM.get none d1 k with|some o=>o|none=>(HP.ov b d).get k:=λk=>by show(match PM.get none d1 k with|some o=>o|none=>(HP.ov (.cut (.ov b d) e.N) e.L).get k)=_;rw[J]
    have hd2:∀k,(HP.ov b d0).get k=match PM.get none e.d k with|some o=>o|none=>(HP.ov b d).get k:=λk=>by rw[←g2,HP.get_merge];rfl
    have kf:∀k,Hk e k=false→e.N.num≤k.num∧PM.get none e.d k=none:=λk r=>by
     simp[Hk]at r;have hk1:=r.1;refine⟨Nat.le_of_not_lt λq=>(by rw[cx.2 q]at hk1;cases hk1), ?_⟩;have:=r.2;cases hp:PM.get none e.d k with
     |none=>rfl
     |some o=>rw[hp]at this;cases this
    have same:∀k,Hk e k=true→PM.get none e.d k=PM.get none d1 k:=λk r=>by
     obtain q|⟨q1,q2⟩:=H6 r3 k
     ·exact q
     ·exfalso;simp only[Hk,q1,Bool.or_false]at r;have:=cx.1 r;omega
    refine⟨u,ψ.keep (Hk e),rfl,cd.forget hI hs (λk r=>?_) (λk r=>?_) (λk r=>?_), ?_⟩
    ·rw[hd1,hd2,same k r]
    ·obtain⟨q1,q2⟩:=kf k r;have:=zy k5 k q1;refine⟨?_,this⟩;rw[hd2,q2];exact this
    ·rw[hd1];cases hp:PM.get none d1 k with
     |none=>exact .inl rfl
     |some o =>refine .inr (Ik r4 k o ?_);rw[same k r,hp]
    ·rw[←g1];exact ae9 r5 hru
end
variable [SymVal]
variable{B:Nat}{φ:Gx}{h:Pos→EO}{w:World}{P:Program}{Gl:Glt}{f:FuncId}{as:List TV}{v:TV}{T:Tb}{vs:List Value}{U :DM}{n' :Pos}{W:W0}{e:TypeId}{l:List (List CV)}{St:Abs.Sb}
def Inv.grown {T:W0}{p :World}(f:Inv B T φ h w)(j:w.grownBy p none)(P:dz w≤dz p):Inv B T φ h p:=by
 have r:∀b,b<w.heap.size→p.heap[b]? = w.heap[b]?:=λb R=>j.block b R Ψ;refine⟨f.below.trans ⟨j.os,j.tape,j.output,j.size,λb R=>r b (f_ R f.size)⟩,f.kp.trans ⟨P,λk o J ho=>?_⟩,f.le,λk J=>?_,Δ f.size j.size,λk=>(f.obj k).keep (Gx.le.refl φ) (λ_=>rfl) rfl rfl (λg l C=>r _ (f.lt C)),f.sep⟩
 ·rw[r k (δ.1 J).1];exact J
 ·obtain⟨r1,r2,r3,U⟩:=f.res k J;exact⟨r1,r2,r3,λg l C=>(r _ (f.lt C)).trans (U g l C)⟩
def cd.grown {B:Nat}{φ:Gx}{h:Pos→EO}{w f:World}(j:w.grownBy f none)(g:dz w≤dz f):cd B φ h w φ h f:=⟨Gx.le.refl φ,λ_ l=>l.grown j g,λ_ h=>h⟩
def aiA (f:FuncId)(as:List TV)(v:TV):Tb:=λg _ args d n=>bR (Nat.beq g f) (bR (Of args as) (.ok v d n))
def zC (f:FuncId)(as:List TV)(v:TV)(T:Tb):Tb:=λg b args d n=>Mm (aiA f as v g b args d n) (T g b args d n)
def Si 
  (h:∀(φ:Gx) (vs:List Value) (w:World),SymVal.fact w→RTs φ as vs→cj P f∧Calls P f vs.toArray w λe r=>∃u,e = .returned u∧RT φ v u∧w.grownBy r none∧dz w≤dz r) (C:zd P Gl T):zd P Gl (zC f as v T):=by
 intro B R b t args d n v' U n' l;cases t with
 |yld j=>cases l
 |fn g=>
  simp[ad3,zC]at l;cases p:aiA f as v g b args d n with
  |no =>rw[p]at l;exact C B R b (.fn g) args d n v' U n' l
  |ok v0 d0 n0 =>rw[p]at l;simp only[Mm]at l;injection l with c1 c2 c3;subst c1;subst c2;subst c3;obtain⟨k1,p⟩:=yj p;obtain⟨k2,p⟩:=yj p;injection p with g1 g2 g3;have ef:=κ k1;have ea:=Ff k2;subst ef;subst ea;subst g1;subst g2;subst g3;intro W φ w J hI vs hr hcx;obtain⟨q1,q2⟩:=h φ vs w (J.2 w hI.below) hr;refine⟨q1,q2.mono ?_⟩;rintro e r ⟨u,rfl,r1,r2,r3⟩;exact⟨u,φ,rfl,cd.grown r2 r3,r1⟩
def I0 (hm:P.follows .mixedOrders=true)(r:zd P Gl T){C dp:Nat}(p:RTs φN as vs)(g:mkR T (ju P Gl) C dp noY .nil (.fn f) as .leaf .e = .ok v U n'):∀w,tG Gl P w.heap.size ⟨w,φN⟩→cj P f∧Calls P f vs.toArray w λe R=>∃u l,e = .returned u∧Inv w.heap.size ⟨w,φN⟩ l (HP.ov .nil U).get R∧RT l v u:=by rw[TE]at g;intro w J;obtain⟨j,hc⟩:=Ka (B:=w.heap.size) hm r dp noY [] abj _ _ _ _ _ _ _ _ g ⟨w,φN⟩ φN w J (aiS w) vs p (λq hq=>by cases hq);refine⟨j,hc.mono ?_⟩;rintro e R ⟨u,l,rfl,hs,hr⟩;exact⟨u,l,rfl,hs.2.1 _ (aiS w),hr⟩
def aek (n:Nat):RTs φN [.pv (.one (.sym n))] [SymVal.v n]:=⟨rfl,aoG⟩
variable [SymVal]
def Inv.made {T :World}(U:Inv B W φ h w){k:Pos}(hk:h k = .none){s g cap:Nat}{p:Array Value}(hs:0<s)(hl:∀a∈l,a.length=s)(hd:dens φ l.flatten=some vs)
  (P:w.grownBy T none) (hdr:dz w≤dz T) (hg:w.heap.size≤g) (hc:T.heap[g]? = some (.cells p e (0,0))) (hn:l.length≤cap) (hcs:p.size=cap*s) (ht:p.toList.take (l.length*s)=vs) (h32:l.length+2≤2^32) :
  φ.le (φ.add k ⟨g,cap,s⟩)∧Inv B W (φ.add k ⟨g,cap,s⟩) (upd h k (newRow e s l l.length)) T:=by
 have C:=U.le_add hk ⟨g,cap,s⟩;have r:=λj=>pB (m:=0) (l:=l) (el :=.leaf) (i:=0) Ω j;refine⟨C,U.turn C (λq hq=>⟨λg=>by simp[Gx.add,B' hq],rfl,rfl⟩) (λg' m f=>?_) (λb hlt _=>P.block b hlt Ψ) (λg m f=>by rw[(U.free hk).1 g]at f;cases f) P.os P.tape P.output P.size hdr ?_ rfl⟩
 ·refine .inr ?_;simp only[Gx.add,i?]at f;split at f
  ·injection f with f;rw[←f];exact hg
  ·cases f
 ·refine⟨hs,h32,λi hi=>?_,λg' hg'=>?_,λg' hg'=>⟨⟨g,cap,s⟩, ?_,⟨Δ U.size hg,rfl,p,(0,0),hc,hcs,rfl,λi hi _=>⟨by show i<cap;omega, ?_⟩⟩,λ_=>hn⟩⟩
  ·rw[r,ake Ω];exact ζ _
  ·simp only[Gx.add,i?];rw[B' Ω]
  ·obtain rfl:g'=0:=Ω
   exact Gx.add_self _ _ _
  ·rw[r,ake Ω];have J:l[i-0]'Ω∈l:=w_ _;refine⟨hl _ J,λj c hj=>?_⟩;have hj:(l[i-0]'Ω)[j]? = some c:=hj;obtain⟨v,R,z2⟩:=nO hd (ve hl (i:=i-0) (ε Ω) hj);rw[akf]at R;refine⟨v, ?_,dY C z2⟩;rw[←ht]at R;rw[←Array.getElem?_toList];have z2:=(S'.1 R).1;rw[g_]at z2;rwa[abs Ω]at R
def aiD (f:FuncId)(ok:HP→List TV→DM→Bool)(e:TypeId)(s:Nat)(l:List (List CV)):Tb:=λg b args d n=>
 bR (Nat.beq g f) (bR (ok b args d) (bR (bz true (hG (.ov b d)) n) (.ok (.pv (.one (.sl n 0 0 l.length none))) (fP d n (newRow e s l l.length)) n.succ)))
def Es (f:FuncId)(ok:HP→List TV→DM→Bool)(e:TypeId)(s:Nat)(l:List (List CV))(T:Tb):Tb:=λg b args d n=>Mm (aiD f ok e s l g b args d n) (T g b args d n)
def FW {ok:HP→List TV→DM→Bool}{s:Nat}{cs:List Value}(hs:0<s)(hl:∀a∈l,a.length=s)(hne:l≠[])(h32:l.length+2≤2^32)(hd:∀φ,dens φ l.flatten=some cs)
  (h:∀(B:Nat) (W:W0) (φ:Gx) (b:HP) (d:DM) (args:List TV) (vs:List Value) (w:World),ok b args d=true→Inv B W φ (HP.ov b d).get w→RTs φ args vs →
   cj P f∧Calls P f vs.toArray w λe' J=>∃v,e' = .returned v∧Below w.heap.size w J∧dz w≤dz J∧J.ownsRow w.heap.size e s v l.length cs) (htb:zd P Gl T):zd P Gl (Es f ok e s l T):=by
 intro B Γ b t args d n v' U n' p;cases t with
 |yld j=>cases p
 |fn g=>
  simp[ad3,Es]at p;cases C:aiD f ok e s l g b args d n with
  |no =>rw[C]at p;exact htb B Γ b (.fn g) args d n v' U n' p
  |ok v0 d0 n0=>
   rw[C]at p;simp only[Mm]at p;injection p with c1 c2 c3;subst c1;subst c2;subst c3;obtain⟨k1,C⟩:=yj C;obtain⟨k2,C⟩:=yj C;obtain⟨k3,C⟩:=yj C;injection C with g1 g2 g3;have ef:=κ k1;subst ef;subst g1;subst g2;subst g3;have r:(HP.ov b d).get n = .none:=by
    simp only[bz,Bh]at k3;split at k3
    ·assumption
    ·cases k3
   intro W φ w hGl hI vs hr hcx;obtain⟨q1,q2⟩:=h B W φ b d args vs w k2 hI hr;refine⟨q1,q2.mono ?_⟩;rintro e' J ⟨u,rfl,r1,r2,r3⟩;have hb:w.grownBy J none:=⟨r1.os,r1.tape,r1.output,r1.size,λk R _=>r1.block k R⟩;rcases r3.2 with⟨_,h0⟩|⟨gb,cap,cur,rfl,p1,p2,p3,p4,p5,p6⟩
   ·exact(hne (U' h0)).elim
   ·refine⟨_,φ.add n ⟨gb,cap,s⟩,rfl,⟨hI.le_add r _,λW' hW=>?_,λk R=>?_⟩, ?_⟩
    ·have:=(hW.made r hs hl (hd φ) hb r2 p1 p2 p3 p5 p6 h32).2;rwa[HP.get_set]
    ·rw[HP.get_set]at R;by_cases ek:n=k
     ·subst ek;exact r ▸ rfl
     ·rwa[bA _ _ ek]at R
    ·show den _ (.sl n 0 0 l.length none)=_;have hc:BR none l.length cap 0=true:=bp.2 Ω;simp[den,Gx.add_self,hc,iY]
open Go.Proofs.YtfgpipfjalmooaaGreat.Abs (Ty D Sb Rep RepV toD chain)
variable [SymVal]
def E7:Ty→Nat
 |.unit=>0
 |.cons a b=>E7 a+E7 b
 |_=>1
def agb {j g:Type}(f:j→g→Bool):List j→List g→Bool
 |[],[]=>true
 |a::l,b::m=>f a b&&agb f l m
 |_,_=>false
def chk (h:Pos→EO):(t:Ty)→t.den→List CV→Bool
 |.int k,n,[.int k' m]=>decide (k'=k)&&decide (m=n)
 |.bool,b,[.bl c]=>c == b
 |.str,s,[.str l]=>okStr l&&decide (l.map UInt8.ofNat=s)
 |.slice _,l,[.nils]=>l.isEmpty
 |.slice _,l,[.emp _]=>l.isEmpty
 |.slice t,l,[.sl k g off len cap]=>Nat.beq len l.length&&(match cap with|none=>true|some c=>Nat.ble len c)&&(match h k with
  |.row _ s _ _ _ _=>match pI (h k) g s len off with
   |some rows=>agb (chk h t) l rows
   |none=>false
  |_=>false)
 |.unit,_,[]=>true
 |.cons a b,x,f=>chk h a x.1 (f.take (E7 a))&&chk h b x.2 (f.drop (E7 a))
 |_,_,_=>false
def yU {φ:Gx}:∀{l m:List CV} {vs:List Value},dens φ (l++m)=some vs→∃a b,vs=a++b∧dens φ l=some a∧dens φ m=some b
 |[],m,vs,h=>⟨[],vs,rfl,rfl,h⟩
 |c::l,m,vs,h=>by obtain⟨v,ws,rfl,p,j⟩:=bQ (l:=l++m) h;obtain⟨a,b,rfl,g,f⟩:=yU j;exact⟨v::a,b,rfl,by simp[dens,p,g],f⟩
def Ri {c:CV}(h:dens φ [c]=some vs):∃v,vs=[v]∧den φ c=some v:=by obtain⟨v,ws,rfl,g,f⟩:=bQ h;simp[dens]at f;exact⟨v,by rw[←f],g⟩
def K1 {φ:Gx}{h:Pos→EO}{w:World}{St:Abs.Sb}{t:Ty}(g:∀(x:t.den) (j:List CV) (vs:List Value),chk h t x j=true→dens φ j=some vs→Rep w St (toD t x) vs) :
  ∀(l:List t.den) (rows:List (List CV)) (vs:List Value),agb (chk h t) l rows=true→dens φ rows.flatten=some vs→Rep w St (chain (toD t) l) vs
 |[],[],vs,_,hd=>by cases hd;rfl
 |x::l,r::rows,vs,f,hd=>by simp[agb]at f;rw[J_]at hd;obtain⟨a,b,rfl,C,p⟩:=yU hd;exact⟨a,b,rfl,g x r a f.1 C,K1 g l rows b f.2 p⟩
 |[],_::_,_,f,_=>by cases f
 |_::_,[],_,f,_=>by cases f
def WH (hI:Inv B W φ h w)(hSt:∀k g l,φ.loc k g=some l→∀o,St l.b o):∀(t:Ty) (x:t.den) (p:List CV) (vs:List Value),chk h t x p=true→dens φ p=some vs→Rep w St (toD t x) vs:=by
 intro t;induction t with
 |int k=>
  intro x p vs f C;obtain _|⟨c,_|⟨c2,r⟩⟩:=p
  ·cases f
  ·cases c <;> first|(cases f;done)|skip
   rename_i k' m;simp only[chk,ι,ρ]at f;obtain⟨rfl,rfl⟩:=f;obtain⟨v,rfl,q⟩:=Ri C;cases q;exact⟨rfl,rfl⟩
  ·cases c <;> cases f
 |bool=>
  intro x p vs f C;obtain _|⟨c,_|⟨c2,r⟩⟩:=p
  ·cases f
  ·cases c <;> first|(cases f;done)|skip
   simp only[chk,ajY]at f;subst f;obtain⟨v,rfl,q⟩:=Ri C;cases q;exact⟨rfl,rfl⟩
  ·cases c <;> cases f
 |str=>
  intro x p vs f C;obtain _|⟨c,_|⟨c2,r⟩⟩:=p
  ·cases f
  ·cases c <;> first|(cases f;done)|skip
   simp[chk]at f;obtain⟨P,rfl⟩:=f;obtain⟨v,rfl,q⟩:=Ri C;simp only[den,P,i?,θ]at q;subst q;exact⟨rfl,rfl⟩
  ·cases c <;> cases f
 |unit=>
  intro x p vs f C;obtain _|⟨c,r⟩:=p
  ·simp only[dens,θ]at C;subst C;rfl
  ·cases f
 |cons a b iha U=>
  intro x p vs f C;have f:chk h a x.1 (p.take (E7 a))=true∧chk h b x.2 (p.drop (E7 a))=true:=by unfold chk at f;simpa using f
  rw[←List.take_append_drop (E7 a) p]at C;obtain⟨u,v,rfl,P,h2⟩:=yU C;exact⟨u,v,rfl,iha _ _ _ f.1 P,U _ _ _ f.2 h2⟩
 |slice t ih=>
  intro x p vs f C;obtain _|⟨c,_|⟨c2,r⟩⟩:=p
  ·cases f
  ·cases c <;> first|(cases f;done)|skip
   ·simp only[chk,List.isEmpty_iff]at f;subst f;obtain⟨v,rfl,q⟩:=Ri C;simp only[den,θ]at q;subst q;exact⟨none,0,0,rfl,rfl,ζ _,.inl rfl⟩
   ·rename_i k g R len cap;simp only[chk,ι]at f;obtain⟨⟨P,h2⟩,h3⟩:=f;have P:=κ P;obtain⟨v,rfl,q⟩:=Ri C;simp only[den]at q;split at q
    ·rename_i lc hl;split at q
     ·rename_i T;simp only[θ]at q;subst q;split at h3
      ·rename_i e s el ln gn fz hk;split at h3
       ·rename_i rows J;obtain⟨r1,r2,ds,r3,r4⟩:=hI.rds hl J;refine⟨some ⟨lc.b,R,none⟩,len,_,rfl,P.trans (Abs.len_chain _ _).symm, ?_,.inr ⟨⟨lc.b,R,none⟩,ds,rfl,rfl,K1 ih x rows ds h3 r3,λj u hu=>⟨r4 j u hu,hSt _ _ _ hl _⟩⟩⟩;cases cap with
        |none=>simp only[BR,bp]at T;simp only[iY];omega
        |some c=>exact R_ h2
       ·cases h3
      ·cases h3
     ·cases q
    ·cases q
   ·simp only[chk,List.isEmpty_iff]at f;subst f;obtain⟨v,rfl,q⟩:=Ri C;simp only[den]at q;split at q
    next a c hv=>simp only[θ]at q;subst q;exact⟨some a,0,c,rfl,rfl,i_ _,.inl rfl⟩
    ·cases q
  ·cases c <;> cases f
 |tree=>intro x p vs f C;unfold chk at f;cases f
 |jsl e=>intro x p vs f C;unfold chk at f;cases f
def I2 (h:Pos→EO)(t:Ty)(x:t.den):TV→Bool
 |.pv (.one c)=>bif t.isStruct then false else chk h t x [c]
 |.pv (.agg l)=>bif t.isStruct then chk h t x l else false
 |_=>false
def ac1 (P:Inv B W φ h w)(C:∀k g l,φ.loc k g=some l→∀o,St l.b o){t:Ty}{x:t.den}{r:TV}{v:Value}(f:I2 h t x r=true)(j:RT φ r v):RepV w St t x v:=by
 cases r with
 |unk=>cases f
 |tup l=>cases f
 |pv p=>
  cases p with
  |one c=>
   simp only[I2,k?]at f;split at f
   ·cases f
   next J=>unfold RepV;rw[B' J];exact WH P C t x [c] [v] f (by have:den φ c=some v:=j;simp[dens,this])
  |agg l=>
   simp only[I2,k?]at f;split at f
   ·rename_i J;unfold RepV;rw[q' J];have j:(match dens φ l with|some vs=>some (.agg vs.toArray)|none=>none)=some v:=j;split at j
    next vs R=>cases j;exact⟨vs,rfl,WH P C t x l vs f R⟩
    ·cases j
   ·cases f
def gl0:Glt:=λ_ _=>none
def AG (p:∀w,SymVal.fact w)(hm:P.follows .mixedOrders=true)(htb:zd P gl0 T){C dp:Nat}{ds:List ((t:Ty)×t.den)}(hds:∀w St vs,Abs.RepVs w St ds vs→RTs φN as vs){t:Ty}{x:t.den}
  (r:mkR T (ju P gl0) C dp noY .nil (.fn f) as .leaf .e = .ok v U n') (J:I2 (HP.ov .nil U).get t x v=true) (hcb:cj P f):Abs.MeetsD P f ds (.val t x):=by
 refine⟨hcb,λw St hSt vs hvs=>?_⟩;obtain⟨_,hc⟩:=I0 hm htb (hds w St vs hvs) r w ⟨λg t v h=>(by cases h),λw _=>p w⟩;refine hc.mono ?_;rintro e w' ⟨u,ψ,rfl,R,hr⟩;refine⟨u,⟨λb o=>St b o∨(w.heap.size≤b∧b<w'.heap.size),St.j⟩,rfl,R.below,R.kp.dr,⟨λ_ _ h=>.inl h,λ_ _ _ _ h=>h⟩,λ_ _ h=>h,λ_ _ _ _ h=>.inl h,u,rfl, ?_⟩;exact ac1 (St:=⟨λb o=>St b o∨(w.heap.size≤b∧b<w'.heap.size),St.j⟩) R (λk g l hl o=>Or.inr ⟨(R.blk hl).1,R.lt hl⟩) J hr
