/- What a closed run gives. -/
import Derived.Test.YteiopcmalidhaaaGreatClpE
import Derived.Test.YteiopcmalidhaaaGreatFstC
import Derived.Test.YteiopcmalidhaaaGreatAbsK
set_option linter.all false
noncomputable section
namespace Go.Proofs.YteiopcmalidhaaaGreat
namespace Clo
open Go Go.RowKit
variable [SymVal]
def aea (K:Pos→Bool):CV→Bool
 |.ptr k _ _=>K k
 |.sl k _ _ _ _=>K k
 |.emp k=>K k
 |.mp k=>K k
 |.clo k=>K k
 |.ifc k=>K k
 |_=>true
def jV (K:Pos→Bool)(l:List CV):Bool:=l.all (aea K)
def EA (K:Pos→Bool)(l:List PV):Bool:=l.all λp=>jV K p.cells
def YV (K:Pos→Bool):TV→Bool
 |.unk=>true
 |.pv p=>jV K p.cells
 |.tup l=>EA K l
def Gx.keep (f:Gx)(K:Pos→Bool):Gx:=⟨λk g=>if K k=true then f.loc k g else none,λk=>if K k=true then f.val k else none,λk=>if K k=true then f.mu k else none⟩
section
variable {P:Program}{Gl:Glt}{B:Nat}{W:W0}{φ ψ C:Gx}{h h' h'':Pos→EO}{w w':World}{K:Pos→Bool}
variable{v:Value}{k:Pos}{o:EO}
def Ez {c:CV}(f:aea K c=true)(g:den ψ c=some v):den (ψ.keep K) c=some v:=by
 cases c <;> first
  |exact g
  |(have f:K _=true:=f
    simp[den,Gx.keep,f]at g⊢;exact g)
def HY:∀{l:List CV} {f:List Value},jV K l=true→aV ψ l=some f→aV (ψ.keep K) l=some f
 |[],_,_,r=>r
 |c::l,f,hk,r=>by simp only[jV,q?,κ]at hk;obtain⟨v,ws,rfl,j,g⟩:=bW r;exact u7 (Ez hk.1 j) (HY hk.2 g)
def pI {p:PV}(f:jV K p.cells=true)(r:aP ψ p=some v):aP (ψ.keep K) p=some v:=by
 cases p with
 |one c =>simp[PV.cells,jV]at f;exact Ez f r
 |agg l=>
  have f:jV K l=true:=f;simp[aP]at r⊢;cases g:aV ψ l with
  |none=>rw[g]at r;cases r
  |some j=>rw[g]at r;rw[HY f g];exact r
def qU:∀{l:List PV} {f:List Value},EA K l=true→cw ψ l=some f→cw (ψ.keep K) l=some f
 |[],_,_,r=>r
 |c::l,f,hk,r=>by simp only[EA,q?,κ]at hk;obtain⟨v,ws,rfl,j,g⟩:=gj r;exact bt (pI hk.1 j) (qU hk.2 g)
def S5 {t:TV}(f:YV K t=true)(r:RT ψ t v):RT (ψ.keep K) t v:=by
 cases t with
 |unk=>trivial
 |pv p=>exact pI f r
 |tup l =>obtain⟨g,C,j⟩:=r;exact⟨g,qU f C,j⟩
def agr (ψ C:Gx):EO→Prop
 |.row _ _ p len j _=>∀i,i<len→(p.get dch i).m≤j→∀c∈(p.get dch i).cs,∀v,den ψ c=some v→den C c=some v
 |.map r _=>∀e∈r,(∀v,aP ψ e.key=some v→aP C e.key=some v)∧∀v,aP ψ e.val=some v→aP C e.val=some v
 |.mit (some m) _ _ _=>∀l,ψ.loc m 0=some l→C.loc m 0=some l
 |.mitU m _ _ _=>∀l,ψ.loc m 0=some l→C.loc m 0=some l
 |.resI m _ _=>∀l,ψ.loc m 0=some l→C.loc m 0=some l
 |.clo _ first f=>(∀g,cw ψ first=some g→cw C first=some g)∧∀g,cw ψ f=some g→cw C f=some g
 |.ifc _ u=>∀v,aP ψ u=some v→aP C u=some v
 |_=>True
def gp.less (f:∀g,C.loc k g=ψ.loc k g)(hv:C.val k=ψ.val k)(hm:C.mu k=ψ.mu k)(hc:agr ψ C o)(ho:gp ψ w B k o):gp C w B k o:=by
 cases o with
 |none=>exact⟨λg=>(f g).trans (ho.1 g),hv.trans ho.2.1,hm.trans ho.2.2⟩
 |row e s el len gen fz =>obtain⟨h0,J,hmm,h2,h3⟩:=ho;refine⟨h0,J,hmm,λg T=>(f g).trans (h2 g T),λg T=>?_⟩;obtain⟨l,q1,⟨r1,r2,arr,fr,r3,r4,r5,r6⟩,R⟩:=h3 g T;refine⟨l,(f g).trans q1,⟨r1,r2,arr,fr,r3,r4,r5,λi hi him=>?_⟩,R⟩;obtain⟨s1,s2,s3⟩:=r6 i hi him;refine⟨s1,s2,λj c hj=>?_⟩;obtain⟨v,t1,t2⟩:=s3 j c hj;exact⟨v,t1,hc i hi (Θ him T) c (Y_ hj) v t2⟩
 |map es clock =>obtain⟨J,l,vs,q1,q2,R,q4⟩:=ho;refine⟨λg T=>(f g).trans (J g T),l,vs,(f 0).trans q1,q2,R,q4.1,λi e he=>?_⟩;obtain⟨v,t1,t2,t3,t4⟩:=q4.2 i e he;obtain⟨c1,c2⟩:=hc e (Y_ he);exact⟨v,t1,c1 _ t2,c2 _ t3,t4⟩
 |mit m U seen P=>
  obtain⟨J,l,q1,q2,R⟩:=ho;refine⟨λg T=>(f g).trans (J g T),l,(f 0).trans q1,q2, ?_⟩;cases m with
  |none=>exact R
  |some m=>obtain⟨l',q4,q5⟩:=R;exact⟨l',hc l' q4,q5⟩
 |mitU m U bs st =>obtain⟨J,l,l',seen,P,n,q1,q2,R,q4,q5,q6,q7⟩:=ho;exact⟨λg T=>(f g).trans (J g T),l,l',seen,P,n,(f 0).trans q1,q2,hc l' R,q4,q5,hm.trans q6,q7⟩
 |resI m b c =>obtain⟨J,l,l',U,seen,q1,q2,R,q4⟩:=ho;exact⟨λg T=>(f g).trans (J g T),l,l',U,seen,(f 0).trans q1,q2,hc l' R,q4⟩
 |sit s p =>obtain⟨J,h2,l,q1,q2,R⟩:=ho;exact⟨λg T=>(f g).trans (J g T),h2,l,(f 0).trans q1,q2,R⟩
 |clo fn first caps =>obtain⟨J,a,b,q1,q2,R⟩:=ho;exact⟨λg=>(f g).trans (J g),a,b,hc.1 _ q1,hc.2 _ q2,hv.trans R⟩
 |ifc t v =>obtain⟨J,u,q1,q2⟩:=ho;exact⟨λg=>(f g).trans (J g),u,hc _ q1,hv.trans q2⟩
 |emp =>obtain⟨J,a,c,q1⟩:=ho;exact⟨λg=>(f g).trans (J g),a,c,hv.trans q1⟩
 |dead=>exact λg l q=>ho g l ((f g).symm.trans q)
 |res=>exact λg l q=>ho g l ((f g).symm.trans q)
 |yld =>obtain⟨J,l,q1,q2,R,r,q4⟩:=ho;exact⟨λg T=>(f g).trans (J g T),l,(f 0).trans q1,q2,hv.trans R,r,q4⟩
def Z6 (g:φ.le ψ)(f:φ.le C)(T:gp φ w B k o):agr ψ C o:=by
 have p:∀{α:Type} {a b c:Option α} {x v:α},a=some x→(a=some x→b=some x)→(a=some x→c=some x)→b=some v→c=some v:=λ{α a b c x v} R h2 h3 h4=>by rw[h2 R]at h4;cases h4;exact h3 R
 cases o with
 |row e s el len gen fz =>intro i hi him c hc v hv;obtain⟨h0,R,hmm,h2,h3⟩:=T;obtain⟨l,q1,⟨r1,r2,arr,fr,r3,r4,r5,r6⟩,U⟩:=h3 gen (ζ _);obtain⟨s1,s2,s3⟩:=r6 i hi him;obtain⟨j,hj⟩:=N_ hc;obtain⟨u,t1,t2⟩:=s3 j c hj;exact p t2 (dZ g) (dZ f) hv
 |map es clock =>intro e he;obtain⟨R,l,vs,q1,q2,U,q4⟩:=T;obtain⟨i,hi⟩:=N_ he;obtain⟨v,t1,t2,t3,t4⟩:=q4.2 i e hi;exact⟨λu r=>p t2 (cF g) (cF f) r,λu r=>p t3 (cF g) (cF f) r⟩
 |mit m P seen J=>
  cases m with
  |none=>trivial
  |some m =>obtain⟨R,l,q1,q2,l',q4,q5⟩:=T;exact λu r=>p q4 (g.loc _ _ _) (f.loc _ _ _) r
 |mitU m P bs st =>obtain⟨R,l,l',seen,J,n,q1,q2,U,q4⟩:=T;exact λu r=>p U (g.loc _ _ _) (f.loc _ _ _) r
 |resI m b c =>obtain⟨R,l,l',P,seen,q1,q2,U,q4⟩:=T;exact λu r=>p U (g.loc _ _ _) (f.loc _ _ _) r
 |clo fn first caps =>obtain⟨R,a,b,q1,q2,U⟩:=T;exact⟨λu r=>p q1 (dj g) (dj f) r,λu r=>p q2 (dj g) (dj f) r⟩
 |ifc t v =>obtain⟨R,u,q1,q2⟩:=T;exact λu r=>p q1 (cF g) (cF f) r
 |_=>trivial
def l8 (K:Pos→Bool):EO→Bool
 |.row _ _ j len _ _=>(List.range len).all λi=>jV K (j.get dch i).cs
 |.map g _=>g.all λe=>jV K e.key.cells&&jV K e.val.cells
 |.clo _ first f=>EA K first&&EA K f
 |.ifc _ u=>jV K u.cells
 |.emp=>true
 |.none=>true
 |.dead=>true
 |_=>false
def Wg (f:l8 K o=true):agr ψ (ψ.keep K) o:=by
 cases o with
 |row e s R len J fz =>intro i r p c C v g;simp[l8]at f;have:=f i r;simp[jV]at this;exact Ez (this c C) g
 |map P clock =>intro e j;simp[l8]at f;exact⟨λv g=>pI (f e j).1 g,λv g=>pI (f e j).2 g⟩
 |clo fn first l =>simp[l8]at f;exact⟨λv g=>qU f.1 g,λv g=>qU f.2 g⟩
 |ifc t u=>exact λv g=>pI f g
 |mit m _ _ _=>cases f
 |mitU m _ _ _=>cases f
 |resI m _ _=>cases f
 |sit _ _=>cases f
 |yld=>cases f
 |res=>cases f
 |none=>trivial
 |emp=>trivial
 |dead=>trivial
def bv.forget (hI:Inv B W φ h w)(R:bv B φ h w ψ h' w')(ha:∀k,K k=true→h'' k=h' k)(hb:∀k,K k=false→h'' k = .none∧h k = .none)(hc:∀k,K k=true→h' k=h k∨l8 K (h' k)=true):bv B φ h w (ψ.keep K) h'' w':=by
 have r:∀k,K k=true→(∀g,(ψ.keep K).loc k g=ψ.loc k g)∧(ψ.keep K).val k=ψ.val k∧(ψ.keep K).mu k=ψ.mu k:=λk f=>by exact⟨λg=>by simp[Gx.keep,f],by simp[Gx.keep,f],by simp[Gx.keep,f]⟩
 have kf:∀k,K k=false→(∀g,(ψ.keep K).loc k g=none)∧(ψ.keep K).val k=none∧(ψ.keep K).mu k=none:=λk f=>by exact⟨λg=>by simp[Gx.keep,f],by simp[Gx.keep,f],by simp[Gx.keep,f]⟩
 have p:∀k,K k=false→(∀g,φ.loc k g=none)∧φ.val k=none∧φ.mu k=none:=λk f=>hI.free (hb k f).2;have P:φ.le (ψ.keep K):=by
  refine⟨λk g l T=>?_,λk v C=>?_,λk v C=>?_⟩
  ·cases f:K k with
   |true=>rw[(r k f).1 g];exact R.1.loc _ _ _ T
   |false=>rw[(p k f).1 g]at T;cases T
  ·cases f:K k with
   |true=>rw[(r k f).2.1];exact R.1.val _ _ C
   |false=>rw[(p k f).2.1]at C;cases C
  ·cases f:K k with
   |true=>rw[(r k f).2.2];exact R.1.mu _ _ C
   |false=>rw[(p k f).2.2]at C;cases C
 refine⟨P,λW' hW=>?_,λk f=>?_⟩
 ·have J:=R.2.1 W' hW;refine⟨J.below,J.kp,hW.le.trans P,λk f=>?_,J.size,λk=>?_,λk g l k' g' l' h1 h2 e=>?_⟩
  ·cases j:K k with
   |false=>rw[(hb k j).1]at f;cases f
   |true =>rw[ha k j]at f;obtain⟨z1,z2,z3,z4⟩:=J.res k f;obtain⟨U,t2,t3⟩:=r k j;exact⟨λg=>(U g).trans (z1 g),t2.trans z2,t3.trans z3,λg l T=>z4 g l ((U g).symm.trans T)⟩
  ·cases j:K k with
   |false =>rw[(hb k j).1];exact kf k j
   |true=>
    rw[ha k j];obtain⟨U,t2,t3⟩:=r k j;refine(J.obj k).less U t2 t3 ?_;obtain e|e:=hc k j
    ·rw[e];exact Z6 R.1 P (hW.obj k)
    ·exact Wg e
  ·refine J.sep k g l k' g' l' ?_ ?_ e
   ·cases j:K k with
    |true=>rw[(r k j).1 g]at h1;exact h1
    |false=>rw[(kf k j).1 g]at h1;cases h1
   ·cases j:K k' with
    |true=>rw[(r k' j).1 g']at h2;exact h2
    |false=>rw[(kf k' j).1 g']at h2;cases h2
 ·cases j:K k with
  |false=>rw[(hb k j).2];rfl
  |true=>rw[ha k j]at f;exact R.2.2 k f
end
variable [SymVal]
structure Ent where
 f:FuncId
 args:List TV
 N:Pos
 L:DM
 v:TV
 d:DM
 n:Pos
def UX (a b:PV):Bool:=Ui (.pv a) (.pv b)
def SB:List PV→List PV→Bool
 |[],[]=>true
 |a::l,b::m=>bif UX a b then SB l m else false
 |_,_=>false
def R9:TV→TV→Bool
 |.pv a,.pv b=>UX a b
 |.tup l,.tup m=>SB l m
 |_,_=>false
def LD:List TV→List TV→Bool
 |[],[]=>true
 |a::l,b::m=>bif R9 a b then LD l m else false
 |_,_=>false
def afB:Fz→Fz→Bool
 |.no,.no=>true
 |.out,.out=>true
 |.yes,.yes=>true
 |_,_=>false
def X2:PT Ch→PT Ch→Bool
 |.leaf,.leaf=>true
 |.node l a r,.node j f g=>bif Fj a.cs f.cs&&Nat.beq a.m f.m then(bif X2 l j then X2 r g else false)else false
 |_,_=>false
def SU:List ME→List ME→Bool
 |[],[]=>true
 |a::l,b::m=>bif UX a.key b.key&&UX a.val b.val&&Nat.beq a.born b.born then SU l m else false
 |_,_=>false
def Rq:EO→EO→Bool
 |.row e s T len j fz,.row U P r f g l=>Nat.beq e U&&Nat.beq s P&&X2 T r&&Nat.beq len f&&Nat.beq j g&&afB fz l
 |.map R c,.map p c'=>SU R p&&Nat.beq c c'
 |.ifc t u,.ifc J C=>Nat.beq t J&&UX u C
 |.emp,.emp=>true
 |_,_=>false
def YK (h:Pos→EO):DM→(Pos→Pos)→Bool
 |.leaf,_=>true
 |.node l a r,c=>(match a with
   |none=>true
   |some o=>Rq (h (c .e)) o)&&YK h l (λp=>c (.o p))&&YK h r (λp=>c (.i p))
def W8 (N:Nat):DM→Nat→Nat→Bool
 |.leaf,_,_=>true
 |.node l a r,v,w=>(match a with
   |none=>true
   |some o=>match o with
    |.none=>true
    |_=>Nat.blt v N)&&W8 N l (Nat.add v w) (Nat.mul 2 w)&&W8 N r (Nat.add v (Nat.mul 2 w)) (Nat.mul 2 w)
def Um (N:Nat):HP→Bool
 |.nil=>true
 |.ov b d=>W8 N d 0 1&&Um N b
 |.cut b n=>match Nat.ble n.num N with
  |true=>true
  |false=>Um N b
def adj (N:Nat)(a g:Option EO)(v:Nat):Bool:=match g with
 |some f=>match a with
  |some o=>Rq o f
  |none=>false
 |none=>match a with
  |some _=>Nat.ble N v
  |none=>true
def GM (N:Nat):DM→DM→Nat→Nat→Bool
 |.leaf,t,_,_=>match t with
  |.leaf=>true
  |.node _ _ _=>false
 |.node l a r,t,v,w=>match t with
  |.leaf=>adj N a none v&&GM N l .leaf (Nat.add v w) (Nat.mul 2 w)&&GM N r .leaf (Nat.add v (Nat.mul 2 w)) (Nat.mul 2 w)
  |.node g j f=>adj N a j v&&GM N l g (Nat.add v w) (Nat.mul 2 w)&&GM N r f (Nat.add v (Nat.mul 2 w)) (Nat.mul 2 w)
def WE (f:EO→Bool):DM→Bool
 |.leaf=>true
 |.node l a r=>(match a with
   |none=>true
   |some o=>f o)&&WE f l&&WE f r
def nF (e:Ent)(k:Pos):Bool:=Nat.blt k.num e.N.num||(match PM.get none e.d k with|some _=>true|none=>false)
def aaj (e:Ent)(v:TV)(d:DM)(n:Pos):Bool:=R9 v e.v&&n.beq e.n&&GM e.N.num d e.d 0 1&&WE (l8 (nF e)) e.d&&YV (nF e) e.v
def Xz (R:Tb)(j:FuncId→Option Fi)(g l:Nat)(e:Ent)(r:HP):Bool:=RC.rec (motive:=λ_=>Bool) false (λv d n=>aaj e v d n) (mkR R j g l noY (.ov (.cut r e.N) e.L) (.fn e.f) e.args .leaf e.N)
def bR (t:Bool)(a:RC):RC:=Bool.rec (motive:=λ_=>RC) .no a t
def afv (e:Ent):Tb:=λf b args d n=>bR (Nat.beq f e.f) (bR (n.beq e.N) (bR (LD args e.args) (bR (YK (hG (.ov b d)) e.L id) (bR (Um e.N.num (.ov b d)) (.ok e.v (eZ e.d d) e.n)))))
def av (e:Ent)(R:Tb):Tb:=λf b args d n=>F2 (afv e f b args d n) (R f b args d n)
def xT {a b:PV}(h:UX a b=true):a=b:=by have:=I6 (a :=.pv a) (b :=.pv b) h;injection this
def MD:∀{l m:List PV},SB l m=true→l=m
 |[],[],_=>rfl
 |a::l,b::m,h=>by
  simp only[SB,L_]at h;split at h
  next h1=>rw[xT h1,MD h]
  ·cases h
 |[],_::_,h=>by cases h
 |_::_,[],h=>by cases h
def CO {a b:TV}(h:R9 a b=true):a=b:=by
 cases a with
 |unk=>cases b <;> cases h
 |pv a=>cases b with
  |pv b=>rw[xT h]
  |_=>cases h
 |tup a=>cases b with
  |tup b=>rw[MD h]
  |_=>cases h
def xw:∀{l m:List TV},LD l m=true→l=m
 |[],[],_=>rfl
 |a::l,b::m,h=>by
  simp only[LD,L_]at h;split at h
  next h1=>rw[CO h1,xw h]
  ·cases h
 |[],_::_,h=>by cases h
 |_::_,[],h=>by cases h
def JI:∀{a b:PT Ch},X2 a b=true→a=b
 |.leaf,.leaf,_=>rfl
 |.node l a r,.node R J P,h=>by
  simp only[X2,L_]at h;split at h
  next h1=>
   simp only[κ]at h1;split at h
   next h2=>obtain⟨C,m⟩:=a;obtain⟨f,g⟩:=J;have p:C=f:=tH h1.1;have j:m=g:=ν h1.2;rw[JI h2,JI h,p,j]
   ·cases h
  ·cases h
 |.leaf,.node _ _ _,h=>by cases h
 |.node _ _ _,.leaf,h=>by cases h
def Nt:∀{l m:List ME},SU l m=true→l=m
 |[],[],_=>rfl
 |a::l,b::m,h=>by
  simp only[SU,L_]at h;split at h
  next h1=>simp only[κ]at h1;obtain⟨k,v,n⟩:=a;obtain⟨j,f,g⟩:=b;have C:k=j:=xT h1.1.1;have r:v=f:=xT h1.1.2;have p:n=g:=ν h1.2;rw[Nt h,C,r,p]
  ·cases h
 |[],_::_,h=>by cases h
 |_::_,[],h=>by cases h
def KJ {a b:EO}(h:Rq a b=true):a=b:=by
 cases a <;> cases b <;> first|(cases h;done)|skip
 ·simp only[Rq,κ]at h;obtain⟨⟨⟨⟨⟨l,j⟩,h3⟩,h4⟩,h5⟩,h6⟩:=h;rename_i g _ _ _ _ _ f;have p:g=f:=by cases g <;> cases f <;> first|rfl|cases h6
  rw[ν l,ν j,JI h3,ν h4,ν h5,p]
 ·simp only[Rq,κ]at h;rw[Nt h.1,ν h.2]
 ·simp only[Rq,κ]at h;rw[ν h.1,xT h.2]
 ·rfl
def yz {h:Pos→EO}:∀{d:DM} {c:Pos→Pos},YK h d c=true→∀k o,PM.get none d k=some o→h (c k)=o
 |.leaf,_,_,k,o,f=>by cases f
 |.node l a r,c,g,k,o,f=>by
  simp[YK]at g;cases k with
  |e =>have f:a=some o:=f;rw[f]at g;exact KJ g.1.1
  |o k=>exact yz g.1.2 k o f
  |i k=>exact yz g.2 k o f
def CQ {N:Nat}:∀{d:DM} {v w:Nat},W8 N d v w=true→∀k o,PM.get none d k=some o→o = .none∨v+w*k.num<N
 |.leaf,_,_,_,k,o,f=>by cases f
 |.node l a r,v,w,g,k,o,f=>by
  simp only[W8,κ]at g;cases k with
  |e=>
   have f:a=some o:=f;rw[f]at g;cases o with
   |none=>exact .inl rfl
   |_=>exact .inr (by have:=bM.1 g.1.1;simpa[Pos.num]using this)
  |o k=>
   obtain q|q:=CQ g.1.2 k o f
   ·exact .inl q
   ·refine .inr ?_;have p:Nat.add v w=v+w:=rfl;have j:Nat.mul 2 w=2*w:=rfl;rw[p,j]at q;simp[Pos.num];have:w*(2*k.num+1)=w+2*w*k.num:=by rw[ai8,aj1,←Nat.mul_assoc,E? w 2,G?]
    omega
  |i k=>
   obtain q|q:=CQ g.2 k o f
   ·exact .inl q
   ·refine .inr ?_;have p:Nat.add v (Nat.mul 2 w)=v+2*w:=rfl;have j:Nat.mul 2 w=2*w:=rfl;rw[p,j]at q;simp[Pos.num];have:w*(2*k.num+2)=2*w+2*w*k.num:=by rw[ai8,←Nat.mul_assoc,E? w 2,G?]
    omega
def oP {N:Nat}:∀{b:HP},Um N b=true→∀k:Pos,N≤k.num→b.get k = .none
 |.nil,_,_,_=>rfl
 |.ov b d,f,k,g=>by
  simp[Um]at f;simp[HP.get];cases j:PM.get none d k with
  |none=>exact oP f.2 k g
  |some o=>
   obtain q|q:=CQ f.1 k o j
   ·exact q
   ·omega
 |.cut b n,f,k,g=>by
  simp[HP.get];split
  next hlt=>
   simp[Um]at f;split at f
   next hle=>have p:=bM.1 hlt;have l:=bf.1 hle;omega
   ·exact oP (b:=b) f k g
  ·rfl
def adi {N:Nat}{a f:Option EO}{v:Nat}(h:adj N a f v=true):f=a∨(f=none∧N≤v):=by
 cases f with
 |some g=>cases a with
  |some o=>exact .inl (by rw[KJ h])
  |none=>cases h
 |none=>cases a with
  |some o=>exact .inr ⟨rfl,bf.1 h⟩
  |none=>exact .inl rfl
def Fo {N:Nat}:∀{d t:DM} {v w:Nat},GM N d t v w=true→∀k,PM.get none t k=PM.get none d k∨(PM.get none t k=none∧N≤v+w*k.num)
 |.leaf,t,v,w,f,k=>by
  cases t with
  |leaf=>exact .inl rfl
  |node _ _ _=>cases f
 |.node l a r,t,v,w,f,k=>by
  have C:∀(j g:DM) (p:Option EO),adj N a p v=true→GM N l j (Nat.add v w) (Nat.mul 2 w)=true→GM N r g (Nat.add v (Nat.mul 2 w)) (Nat.mul 2 w)=true→PM.get none (.node j p g) k=PM.get none (.node l a r) k∨(PM.get none (.node j p g) k=none∧N≤v+w*k.num):=λj g p U T R=>by
   cases k with
   |e=>
    obtain q|q:=adi U
    ·exact .inl q
    ·exact .inr ⟨q.1,by simpa[Pos.num]using q.2⟩
   |o k=>
    obtain q|q:=Fo T k
    ·exact .inl q
    ·refine .inr ⟨q.1, ?_⟩;have q:=q.2;have P:Nat.add v w=v+w:=rfl;have J:Nat.mul 2 w=2*w:=rfl;rw[P,J]at q;simp[Pos.num];have:w*(2*k.num+1)=w+2*w*k.num:=by rw[ai8,aj1,←Nat.mul_assoc,E? w 2,G?]
     omega
   |i k=>
    obtain q|q:=Fo R k
    ·exact .inl q
    ·refine .inr ⟨q.1, ?_⟩;have q:=q.2;have P:Nat.add v (Nat.mul 2 w)=v+2*w:=rfl;have J:Nat.mul 2 w=2*w:=rfl;rw[P,J]at q;simp[Pos.num];have:w*(2*k.num+2)=2*w+2*w*k.num:=by rw[ai8,←Nat.mul_assoc,E? w 2,G?]
     omega
  cases t with
  |leaf=>
   simp[GM]at f;have:=C .leaf .leaf none f.1.1 f.1.2 f.2;have e:PM.get none (.node .leaf none .leaf:DM) k=PM.get none (.leaf:DM) k:=by cases k <;> rfl
   rw[e]at this;exact this
  |node j p g =>simp[GM]at f;exact C j g p f.1.1 f.1.2 f.2
def zw {f:EO→Bool}:∀{d:DM},WE f d=true→∀k o,PM.get none d k=some o→f o=true
 |.leaf,_,k,o,g=>by cases g
 |.node l a r,j,k,o,g=>by
  simp[WE]at j;cases k with
  |e =>have g:a=some o:=g;rw[g]at j;exact j.1.1
  |o k=>exact zw j.1.2 k o g
  |i k=>exact zw j.2 k o g
def mG {t:Bool}{a:RC}{v:TV}{d:DM}{n:Pos}(h:bR t a = .ok v d n):t=true∧a = .ok v d n:=by
 cases t with
 |true=>exact⟨rfl,h⟩
 |false=>cases h
section
variable {P:Program}{Gl:Glt}{B:Nat}{W:W0}{φ φ0 ψ:Gx}{h h0:Pos→EO}{w w0:World}
def Xb (R:Tb):Ck:=λb t args d n=>match t with
 |.fn f=>R f b args d n
 |.yld _=>.no
def rK (P:Program)(Gl:Glt)(R:Tb):Prop:=∀B f,ry P Gl B (Xb R) f
def bS:rK P Gl dT:=λB f b t args d n v T g h=>by cases t <;> cases h
variable{fuel:Nat}
def uF (hm:P.follows .mixedOrders=true){R:Tb}(htb:rK P Gl R):∀(dp:Nat) (U:Yk) (J:List Lq),Pd P Gl B U J→ry P Gl B (mkT R (gK P Gl) fuel dp U) J:=by
 intro dp;induction dp with
 |zero=>
  intro U J C b t args d n v T n' g;cases t with
  |yld j=>exact C b j args d n v T n' g
  |fn f=>cases g
 |succ dp ih=>
  intro U J C b t args d n v T n' g;cases t with
  |yld j=>exact C b j args d n v T n' g
  |fn f=>
   simp[mkT]at g;cases r:R f b args d n with
   |ok v1 d1 n1 =>rw[r]at g;exact htb B J b (.fn f) args d n v T n' (r.trans g)
   |no=>
   rw[r]at g;simp[F2]at g;intro W φ w hG hI vs hr hcx;split at g
   ·rename_i x hx;obtain⟨fn,c,rs,f1,f2,f3,f4,rfl⟩:=Ao hx;simp only at g;split at g
    ·rename_i hle;have hle:=bf.1 hle;have hlen:=hr.len;refine⟨⟨fn,f1,by simp[f2],f3⟩, ?_⟩;unfold UP at g;split at g
     ·rename_i X e1 d1 n1 hex;have hsz:(vs.toArray++Array.replicate (fn.ntmps-vs.toArray.size) undef).size=fn.ntmps:=by
       simp;omega
      have ckok:CkOk P Gl B (BU (mkT R (gK P Gl) fuel dp) U) J:=⟨ih U J C,λyk' Γ' h=>ih yk' Γ' h⟩;refine callsIn_wide.1 (callsIn_of_wp_marks (F:=RF none) (n:=0) f1 f2 trivial (wpIn_mono ((gh hm ckok c).1 none 0 w.heap.size W φ _ w hI hG hcx (λl hl=>by cases hl) (.inl rfl) (ζ _) b (jU args .e .leaf) d n _ w X e1 d1 n1 hex ⟨⟨φ,bv.refl,iU hr _⟩,hsz,[],rfl,R?,λD hD=>by cases hD⟩) λex a w' hn=>?_));have fin:(∀id,X ≠ .exit id)→Rl B w.heap.size φ (HP.ov b d).get w fn.ntmps e1 (HP.ov b d1).get a w'→LeavesInM (RF none) 0 P fn a.tmps (FP B φ (HP.ov b d).get w (HP.ov b T).get v) a.defers .returning w':=λhX p=>by
       obtain⟨ψ,hs,hE⟩:=p.ex;obtain⟨ms,m1,m2,m3⟩:=p.df;have hres:∃l,dv e1 (HP.ov b d1).get rs=some l∧v=jA l∧T=d1:=by
        split at g
        ·exact(hX _ rfl).elim
        ·split at g
         next l hl=>injection g with y1 y2 y3;exact⟨l,hl,y1.symm,y2.symm⟩
         ·cases g
       obtain⟨l,hl,rfl,rfl⟩:=hres;rw[m1];refine de hI ms w' hs m2 m3 λw2 hs2=>?_;obtain⟨u,r1,r2⟩:=dg (hs2.2.1 _ hI) hE f4 hl;exact⟨u,r1,u,ψ,rfl,hs2,r2⟩
      cases ex with
      |normal=>obtain⟨rfl,p⟩:=hn;exact fin (λid e=>by cases e) p
      |ret=>obtain⟨rfl,p⟩:=hn;exact fin (λid e=>by cases e) p
      |exit id=>obtain⟨rfl,_⟩:=hn;cases g
      |goto l=>exact hn.elim
      |panic ch=>exact hn.elim
      |outgrown=>exact hn.elim
     ·cases g
    ·cases g
   ·cases g
def ai (P:Program)(Gl:Glt)(R:Tb)(fuel f:Nat)(e:Ent):Prop:=∀r,Xz R (gK P Gl) fuel f e r=true
def QB {f:List Lq}:Pd P Gl B noY f:=λb j args d n v T g h=>by cases h
def cA (hm:P.follows .mixedOrders=true){R U:Tb}(htb:rK P Gl R){dp:Nat}{e:Ent}(he:ai P Gl R fuel dp e)(htb':rK P Gl U):rK P Gl (av e U):=by
 intro B Γ b t args d n v T n' g;cases t with
 |yld j=>cases g
 |fn f=>
  simp[Xb,av]at g;cases p:afv e f b args d n with
  |no =>rw[p]at g;exact htb' B Γ b (.fn f) args d n v T n' g
  |ok v0 d0 n0=>
   rw[p]at g;simp only[F2]at g;injection g with c1 c2 c3;subst c1;subst c2;subst c3;obtain⟨k1,p⟩:=mG p;obtain⟨k2,p⟩:=mG p;obtain⟨k3,p⟩:=mG p;obtain⟨k4,p⟩:=mG p;obtain⟨k5,p⟩:=mG p;injection p with g1 g2 g3;have ef:=ν k1;have en:=Pos.beq_iff.1 k2;have ea:=xw k3;subst ef;subst en;subst ea;intro W φ w hGl hI vs hr hcx;have l:=he (.ov b d);unfold Xz at l;cases J:mkR R (gK P Gl) fuel dp noY (.ov (.cut (.ov b d) e.N) e.L) (.fn e.f) e.args .leaf e.N with
   |no=>rw[J]at l;cases l
   |ok v1 d1 n1=>
    rw[J]at l;simp[aaj]at l;obtain⟨⟨⟨⟨r1,r2⟩,r3⟩,r4⟩,r5⟩:=l;have ev:=CO r1;subst ev;rw[Kf]at J;have hG':hG (.ov b d)=(HP.ov b d).get:=funext λk=>vX _ k;rw[hG']at k4;have C:(HP.ov (.cut (.ov b d) e.N) e.L).get=(HP.ov b d).get:=by
     funext k;show(match PM.get none e.L k with|some o=>o|none=>(HP.cut (.ov b d) e.N).get k)=_;cases hl:PM.get none e.L k with
     |some o=>exact(yz k4 k o hl).symm
     |none=>
      show(match Nat.blt k.num e.N.num with|true=>(HP.ov b d).get k|false=>.none)=_;cases hb:Nat.blt k.num e.N.num with
      |true=>rfl
      |false=>
       refine(oP k5 k ?_).symm;exact ajd λq=>by rw[bM.2 q]at hb;cases hb
    have h0:(HP.ov (.ov (.cut (.ov b d) e.N) e.L) .leaf).get=(HP.ov b d).get:=by rw[←C];funext k;rfl
    have call:=uF (B:=B) hm htb dp noY Γ QB _ _ _ _ _ _ _ _ J W φ w hGl (by rw[h0];exact hI) vs hr hcx;rw[h0]at call;refine⟨call.1,call.2.mono ?_⟩;rintro x w' ⟨u,ψ,rfl,hs,hru⟩;have hd1:∀k,(HP.ov (.ov (.cut (.ov b d) e.N) e.L) d1).get k=match PM.get none d1 k with|some o=>o|none=>(HP.ov b d).get k:=λk=>by show(match PM.get none d1 k with|some o=>o|none=>(HP.ov (.cut (.ov b d) e.N) e.L).get k)=_;rw[C]
    have hd2:∀k,(HP.ov b d0).get k=match PM.get none e.d k with|some o=>o|none=>(HP.ov b d).get k:=λk=>by rw[←g2,HP.get_merge];rfl
    have kf:∀k,nF e k=false→e.N.num≤k.num∧PM.get none e.d k=none:=λk r=>by
     simp[nF]at r;have hk1:=r.1;refine⟨ajd λq=>(by rw[bM.2 q]at hk1;cases hk1), ?_⟩;have:=r.2;cases hp:PM.get none e.d k with
     |none=>rfl
     |some o=>rw[hp]at this;cases this
    have same:∀k,nF e k=true→PM.get none e.d k=PM.get none d1 k:=λk r=>by
     obtain q|⟨q1,q2⟩:=Fo r3 k
     ·exact q
     ·exfalso;simp only[nF,q1,akb]at r;have:=bM.1 r;omega
    refine⟨u,ψ.keep (nF e),rfl,bv.forget hI hs (λk r=>?_) (λk r=>?_) (λk r=>?_), ?_⟩
    ·rw[hd1,hd2,same k r]
    ·obtain⟨q1,q2⟩:=kf k r;have:=oP k5 k q1;refine⟨?_,this⟩;rw[hd2,q2];exact this
    ·rw[hd1];cases hp:PM.get none d1 k with
     |none=>exact .inl rfl
     |some o =>refine .inr (zw r4 k o ?_);rw[same k r,hp]
    ·rw[←g1];exact S5 r5 hru
end
variable [SymVal]
variable{B:Nat}{φ:Gx}{h:Pos→EO}{w:World}{P:Program}{Gl:Glt}{f:FuncId}{U:List TV}{v:TV}{R:Tb}{vs:List Value}{T :DM}{n' :Pos}{W:W0}{e:TypeId}{l:List (List CV)}{St:Abs.Sb}
def Inv.grown {T:W0}{p :World}(f:Inv B T φ h w)(j:w.grownBy p none)(P:dz w≤dz p):Inv B T φ h p:=by
 have r:∀b,b<w.heap.size→p.heap[b]? = w.heap[b]?:=λb R=>j.block b R Ψ;refine⟨f.below.trans ⟨j.os,j.tape,j.output,j.size,λb R=>r b (k_ R f.size)⟩,f.kp.trans ⟨P,λk o J U=>?_⟩,f.le,λk J=>?_,Θ f.size j.size,λk=>(f.obj k).keep (Gx.le.refl φ) (λ_=>rfl) rfl rfl (λg l C=>r _ (f.lt C)),f.sep⟩
 ·rw[r k (η.1 J).1];exact J
 ·obtain⟨r1,r2,r3,r4⟩:=f.res k J;exact⟨r1,r2,r3,λg l C=>(r _ (f.lt C)).trans (r4 g l C)⟩
def bv.grown {B:Nat}{φ:Gx}{h:Pos→EO}{w f:World}(j:w.grownBy f none)(g:dz w≤dz f):bv B φ h w φ h f:=⟨Gx.le.refl φ,λ_ l=>l.grown j g,λ_ h=>h⟩
def agy (f:FuncId)(U:List TV)(v:TV):Tb:=λg _ args d n=>bR (Nat.beq g f) (bR (LD args U) (.ok v d n))
def xB (f:FuncId)(U:List TV)(v:TV)(R:Tb):Tb:=λg b args d n=>F2 (agy f U v g b args d n) (R g b args d n)
def Ps 
  (h:∀(φ:Gx) (vs:List Value) (w:World),SymVal.fact w→RTs φ U vs→bE P f∧Calls P f vs.toArray w λe r=>∃u,e = .returned u∧RT φ v u∧w.grownBy r none∧dz w≤dz r) (C:rK P Gl R):rK P Gl (xB f U v R):=by
 intro B Γ b t args d n v' T n' l;cases t with
 |yld j=>cases l
 |fn g=>
  simp[Xb,xB]at l;cases p:agy f U v g b args d n with
  |no =>rw[p]at l;exact C B Γ b (.fn g) args d n v' T n' l
  |ok v0 d0 n0 =>rw[p]at l;simp only[F2]at l;injection l with c1 c2 c3;subst c1;subst c2;subst c3;obtain⟨k1,p⟩:=mG p;obtain⟨k2,p⟩:=mG p;injection p with g1 g2 g3;have ef:=ν k1;have ea:=xw k2;subst ef;subst ea;subst g1;subst g2;subst g3;intro W φ w J hI vs hr hcx;obtain⟨q1,q2⟩:=h φ vs w (J.2 w hI.below) hr;refine⟨q1,q2.mono ?_⟩;rintro e r ⟨u,rfl,r1,r2,r3⟩;exact⟨u,φ,rfl,bv.grown r2 r3,r1⟩
def GN (hm:P.follows .mixedOrders=true)(C:rK P Gl R){l dp:Nat}(r:RTs φN U vs)(g:mkR R (gK P Gl) l dp noY .nil (.fn f) U .leaf .e = .ok v T n'):∀w,mJ Gl P w.heap.size ⟨w,φN⟩→bE P f∧Calls P f vs.toArray w λe w'=>∃u p,e = .returned u∧Inv w.heap.size ⟨w,φN⟩ p (HP.ov .nil T).get w'∧RT p v u:=by rw[Kf]at g;intro w J;obtain⟨j,hc⟩:=uF (B:=w.heap.size) hm C dp noY [] QB _ _ _ _ _ _ _ _ g ⟨w,φN⟩ φN w J (ag5 w) vs r (λq hq=>by cases hq);refine⟨j,hc.mono ?_⟩;rintro e w' ⟨u,p,rfl,hs,hr⟩;exact⟨u,p,rfl,hs.2.1 _ (ag5 w),hr⟩
def abw (n:Nat):RTs φN [.pv (.one (.sym n))] [SymVal.v n]:=⟨rfl,ans⟩
variable [SymVal]
def Inv.made {T :World}(U:Inv B W φ h w){k:Pos}(hk:h k = .none){s g cap:Nat}{p:Array Value}(hs:0<s)(hl:∀a∈l,a.length=s)(hd:aV φ l.flatten=some vs)
  (P:w.grownBy T none) (hdr:dz w≤dz T) (hg:w.heap.size≤g) (hc:T.heap[g]? = some (.cells p e (0,0))) (hn:l.length≤cap) (hcs:p.size=cap*s) (ht:p.toList.take (l.length*s)=vs) (h32:l.length+2≤2^32) :
  φ.le (φ.add k ⟨g,cap,s⟩)∧Inv B W (φ.add k ⟨g,cap,s⟩) (upd h k (newRow e s l l.length)) T:=by
 have C:=U.le_add hk ⟨g,cap,s⟩;have r:=λj=>n9 (m:=0) (l:=l) (el :=.leaf) (i:=0) Ω j;refine⟨C,U.turn C (λq hq=>⟨λg=>by simp[Gx.add,B' hq],rfl,rfl⟩) (λg' m f=>?_) (λb hlt _=>P.block b hlt Ψ) (λg m f=>by rw[(U.free hk).1 g]at f;cases f) P.os P.tape P.output P.size hdr ?_ rfl⟩
 ·refine .inr ?_;simp only[Gx.add,h?]at f;split at f
  ·injection f with f;rw[←f];exact hg
  ·cases f
 ·refine⟨hs,h32,λi hi=>?_,λg' hg'=>?_,λg' hg'=>⟨⟨g,cap,s⟩, ?_,⟨Θ U.size hg,rfl,p,(0,0),hc,hcs,rfl,λi hi _=>⟨by show i<cap;omega, ?_⟩⟩,λ_=>hn⟩⟩
  ·rw[r,ai7 Ω];exact ζ _
  ·simp only[Gx.add,h?];rw[B' Ω]
  ·obtain rfl:g'=0:=Ω
   exact Gx.add_self _ _ _
  ·rw[r,ai7 Ω];have J:l[i-0]'Ω∈l:=e_ _;refine⟨hl _ J,λj c hj=>?_⟩;have hj:(l[i-0]'Ω)[j]? = some c:=hj;obtain⟨v,R,z2⟩:=mw hd (tp hl (i:=i-0) (δ Ω) hj);rw[aiZ]at R;refine⟨v, ?_,dZ C z2⟩;rw[←ht]at R;rw[←Array.getElem?_toList];have z2:=(N'.1 R).1;rw[l_]at z2;rwa[N? Ω]at R
def agC (f:FuncId)(ok:HP→List TV→DM→Bool)(e:TypeId)(s:Nat)(l:List (List CV)):Tb:=λg b args d n=>
 bR (Nat.beq g f) (bR (ok b args d) (bR (bD true (hG (.ov b d)) n) (.ok (.pv (.one (.sl n 0 0 l.length none))) (bO d n (newRow e s l l.length)) n.succ)))
def B4 (f:FuncId)(ok:HP→List TV→DM→Bool)(e:TypeId)(s:Nat)(l:List (List CV))(R:Tb):Tb:=λg b args d n=>F2 (agC f ok e s l g b args d n) (R g b args d n)
def Dd {ok:HP→List TV→DM→Bool}{s:Nat}{cs:List Value}(hs:0<s)(hl:∀a∈l,a.length=s)(hne:l≠[])(h32:l.length+2≤2^32)(hd:∀φ,aV φ l.flatten=some cs)
  (h:∀(B:Nat) (W:W0) (φ:Gx) (b:HP) (d:DM) (args:List TV) (vs:List Value) (w:World),ok b args d=true→Inv B W φ (HP.ov b d).get w→RTs φ args vs →
   bE P f∧Calls P f vs.toArray w λe' J=>∃v,e' = .returned v∧Below w.heap.size w J∧dz w≤dz J∧J.ownsRow w.heap.size e s v l.length cs) (htb:rK P Gl R):rK P Gl (B4 f ok e s l R):=by
 intro B Γ b t args d n v' T n' p;cases t with
 |yld j=>cases p
 |fn g=>
  simp[Xb,B4]at p;cases C:agC f ok e s l g b args d n with
  |no =>rw[C]at p;exact htb B Γ b (.fn g) args d n v' T n' p
  |ok v0 d0 n0=>
   rw[C]at p;simp only[F2]at p;injection p with c1 c2 c3;subst c1;subst c2;subst c3;obtain⟨k1,C⟩:=mG C;obtain⟨k2,C⟩:=mG C;obtain⟨k3,C⟩:=mG C;injection C with g1 g2 g3;have ef:=ν k1;subst ef;subst g1;subst g2;subst g3;have r:(HP.ov b d).get n = .none:=by
    simp only[bD,vX]at k3;split at k3
    ·assumption
    ·cases k3
   intro W φ w hGl hI vs hr hcx;obtain⟨q1,q2⟩:=h B W φ b d args vs w k2 hI hr;refine⟨q1,q2.mono ?_⟩;rintro e' J ⟨u,rfl,r1,r2,r3⟩;have hb:w.grownBy J none:=⟨r1.os,r1.tape,r1.output,r1.size,λk U _=>r1.block k U⟩;rcases r3.2 with⟨_,h0⟩|⟨gb,cap,cur,rfl,p1,p2,p3,p4,p5,p6⟩
   ·exact(hne (U' h0)).elim
   ·refine⟨_,φ.add n ⟨gb,cap,s⟩,rfl,⟨hI.le_add r _,λW' hW=>?_,λk U=>?_⟩, ?_⟩
    ·have:=(hW.made r hs hl (hd φ) hb r2 p1 p2 p3 p5 p6 h32).2;rwa[HP.get_set]
    ·rw[HP.get_set]at U;by_cases ek:n=k
     ·subst ek;exact r ▸ rfl
     ·rwa[aU _ _ ek]at U
    ·show den _ (.sl n 0 0 l.length none)=_;have hc:xb none l.length cap 0=true:=bf.2 Ω;simp[den,Gx.add_self,hc,gk]
open Go.Proofs.YteiopcmalidhaaaGreat.Abs (Ty D Sb Rep RepV toD chain)
variable [SymVal]
def CH:Ty→Nat
 |.unit=>0
 |.cons a b=>CH a+CH b
 |_=>1
def adL {j g:Type}(f:j→g→Bool):List j→List g→Bool
 |[],[]=>true
 |a::l,b::m=>f a b&&adL f l m
 |_,_=>false
def chk (h:Pos→EO):(t:Ty)→t.den→List CV→Bool
 |.int k,n,[.int k' m]=>decide (k'=k)&&decide (m=n)
 |.bool,b,[.bl c]=>c == b
 |.str,s,[.str l]=>cI l&&decide (l.map UInt8.ofNat=s)
 |.slice _,l,[.nils]=>l.isEmpty
 |.slice _,l,[.emp _]=>l.isEmpty
 |.slice t,l,[.sl k g off len cap]=>Nat.beq len l.length&&(match cap with|none=>true|some c=>Nat.ble len c)&&(match h k with
  |.row _ s _ _ _ _=>match oo (h k) g s len off with
   |some rows=>adL (chk h t) l rows
   |none=>false
  |_=>false)
 |.unit,_,[]=>true
 |.cons a b,x,f=>chk h a x.1 (f.take (CH a))&&chk h b x.2 (f.drop (CH a))
 |_,_,_=>false
def w8 {φ:Gx}:∀{l m:List CV} {vs:List Value},aV φ (l++m)=some vs→∃a b,vs=a++b∧aV φ l=some a∧aV φ m=some b
 |[],m,vs,h=>⟨[],vs,rfl,rfl,h⟩
 |c::l,m,vs,h=>by obtain⟨v,ws,rfl,p,j⟩:=bW (l:=l++m) h;obtain⟨a,b,rfl,g,f⟩:=w8 j;exact⟨v::a,b,rfl,by simp[aV,p,g],f⟩
def RE {c:CV}(h:aV φ [c]=some vs):∃v,vs=[v]∧den φ c=some v:=by obtain⟨v,ws,rfl,g,f⟩:=bW h;simp[aV]at f;exact⟨v,by rw[←f],g⟩
def IA {φ:Gx}{h:Pos→EO}{w:World}{St:Sb}{t:Ty}(g:∀(x:t.den) (j:List CV) (vs:List Value),chk h t x j=true→aV φ j=some vs→Rep w St (toD t x) vs) :
  ∀(l:List t.den) (rows:List (List CV)) (vs:List Value),adL (chk h t) l rows=true→aV φ rows.flatten=some vs→Rep w St (chain (toD t) l) vs
 |[],[],vs,_,hd=>by cases hd;rfl
 |x::l,r::rows,vs,f,hd=>by simp[adL]at f;rw[D_]at hd;obtain⟨a,b,rfl,C,p⟩:=w8 hd;exact⟨a,b,rfl,g x r a f.1 C,IA g l rows b f.2 p⟩
 |[],_::_,_,f,_=>by cases f
 |_::_,[],_,f,_=>by cases f
def KZ (hI:Inv B W φ h w)(hSt:∀k g l,φ.loc k g=some l→∀o,St l.b o):∀(t:Ty) (x:t.den) (p:List CV) (vs:List Value),chk h t x p=true→aV φ p=some vs→Rep w St (toD t x) vs:=by
 intro t;induction t with
 |int k=>
  intro x p vs f C;obtain _|⟨c,_|⟨c2,r⟩⟩:=p
  ·cases f
  ·cases c <;> first|(cases f;done)|skip
   rename_i k' m;simp only[chk,κ,ρ]at f;obtain⟨rfl,rfl⟩:=f;obtain⟨v,rfl,q⟩:=RE C;cases q;exact⟨rfl,rfl⟩
  ·cases c <;> cases f
 |bool=>
  intro x p vs f C;obtain _|⟨c,_|⟨c2,r⟩⟩:=p
  ·cases f
  ·cases c <;> first|(cases f;done)|skip
   simp only[chk,beq_iff_eq]at f;subst f;obtain⟨v,rfl,q⟩:=RE C;cases q;exact⟨rfl,rfl⟩
  ·cases c <;> cases f
 |str=>
  intro x p vs f C;obtain _|⟨c,_|⟨c2,r⟩⟩:=p
  ·cases f
  ·cases c <;> first|(cases f;done)|skip
   simp[chk]at f;obtain⟨P,rfl⟩:=f;obtain⟨v,rfl,q⟩:=RE C;simp only[den,P,h?,θ]at q;subst q;exact⟨rfl,rfl⟩
  ·cases c <;> cases f
 |unit=>
  intro x p vs f C;obtain _|⟨c,r⟩:=p
  ·simp only[aV,θ]at C;subst C;rfl
  ·cases f
 |cons a b iha U=>
  intro x p vs f C;have f:chk h a x.1 (p.take (CH a))=true∧chk h b x.2 (p.drop (CH a))=true:=by unfold chk at f;simpa using f
  rw[←List.take_append_drop (CH a) p]at C;obtain⟨u,v,rfl,P,h2⟩:=w8 C;exact⟨u,v,rfl,iha _ _ _ f.1 P,U _ _ _ f.2 h2⟩
 |slice t ih=>
  intro x p vs f C;obtain _|⟨c,_|⟨c2,r⟩⟩:=p
  ·cases f
  ·cases c <;> first|(cases f;done)|skip
   ·simp only[chk,ajW]at f;subst f;obtain⟨v,rfl,q⟩:=RE C;simp only[den,θ]at q;subst q;exact⟨none,0,0,rfl,rfl,ζ _,.inl rfl⟩
   ·rename_i k g R len cap;simp only[chk,κ]at f;obtain⟨⟨P,h2⟩,h3⟩:=f;have P:=ν P;obtain⟨v,rfl,q⟩:=RE C;simp only[den]at q;split at q
    ·rename_i lc hl;split at q
     ·rename_i T;simp only[θ]at q;subst q;split at h3
      ·rename_i e s el ln gn fz hk;split at h3
       ·rename_i rows J;obtain⟨r1,r2,ds,r3,r4⟩:=hI.rds hl J;refine⟨some ⟨lc.b,R,none⟩,len,_,rfl,P.trans (Abs.len_chain _ _).symm, ?_,.inr ⟨⟨lc.b,R,none⟩,ds,rfl,rfl,IA ih x rows ds h3 r3,λj u hu=>⟨r4 j u hu,hSt _ _ _ hl _⟩⟩⟩;cases cap with
        |none=>simp only[xb,bf]at T;simp only[gk];omega
        |some c=>exact v? h2
       ·cases h3
      ·cases h3
     ·cases q
    ·cases q
   ·simp only[chk,ajW]at f;subst f;obtain⟨v,rfl,q⟩:=RE C;simp only[den]at q;split at q
    next a c hv=>simp only[θ]at q;subst q;exact⟨some a,0,c,rfl,rfl,c_ _,.inl rfl⟩
    ·cases q
  ·cases c <;> cases f
 |tree=>intro x p vs f C;unfold chk at f;cases f
 |jsl e=>intro x p vs f C;unfold chk at f;cases f
def GO (h:Pos→EO)(t:Ty)(x:t.den):TV→Bool
 |.pv (.one c)=>bif t.isStruct then false else chk h t x [c]
 |.pv (.agg l)=>bif t.isStruct then chk h t x l else false
 |_=>false
def aai (P:Inv B W φ h w)(C:∀k g l,φ.loc k g=some l→∀o,St l.b o){t:Ty}{x:t.den}{r:TV}{v:Value}(f:GO h t x r=true)(j:RT φ r v):RepV w St t x v:=by
 cases r with
 |unk=>cases f
 |tup l=>cases f
 |pv p=>
  cases p with
  |one c=>
   simp only[GO,L_]at f;split at f
   ·cases f
   next J=>unfold RepV;rw[B' J];exact KZ P C t x [c] [v] f (by have:den φ c=some v:=j;simp[aV,this])
  |agg l=>
   simp only[GO,L_]at f;split at f
   ·rename_i J;unfold RepV;rw[β J];have j:(match aV φ l with|some vs=>some (.agg vs.toArray)|none=>none)=some v:=j;split at j
    next vs R=>cases j;exact⟨vs,rfl,KZ P C t x l vs f R⟩
    ·cases j
   ·cases f
def gl0:Glt:=λ_ _=>none
def yx (p:∀w,SymVal.fact w)(hm:P.follows .mixedOrders=true)(htb:rK P gl0 R){fuel dp:Nat}{ds:List ((t:Ty)×t.den)}(hds:∀w St vs,Abs.RepVs w St ds vs→RTs φN U vs){t:Ty}{x:t.den}
  (r:mkR R (gK P gl0) fuel dp noY .nil (.fn f) U .leaf .e = .ok v T n') (C:GO (HP.ov .nil T).get t x v=true) (hcb:bE P f):Abs.MeetsD P f ds (.val t x):=by
 refine⟨hcb,λw St hSt vs hvs=>?_⟩;obtain⟨_,hc⟩:=GN hm htb (hds w St vs hvs) r w ⟨λg t v h=>(by cases h),λw _=>p w⟩;refine hc.mono ?_;rintro e w' ⟨u,ψ,rfl,J,hr⟩;refine⟨u,⟨λb o=>St b o∨(w.heap.size≤b∧b<w'.heap.size),St.j⟩,rfl,J.below,J.kp.dr,⟨λ_ _ h=>.inl h,λ_ _ _ _ h=>h⟩,λ_ _ h=>h,λ_ _ _ _ h=>.inl h,u,rfl, ?_⟩;exact aai (St:=⟨λb o=>St b o∨(w.heap.size≤b∧b<w'.heap.size),St.j⟩) J (λk g l hl o=>Or.inr ⟨(J.blk hl).1,J.lt hl⟩) C hr
