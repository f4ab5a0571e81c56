/- Closed runs. -/
import Derived.Test.YthfdnklcgfkjoaaGreatDoorClpE
import Derived.Test.YthfdnklcgfkjoaaGreatDoorFstC
set_option linter.all false
noncomputable section
namespace Go.Proofs.YthfdnklcgfkjoaaGreatDoor.Clo
open Go Go.RowKit
variable [SymVal]
def alu (K:Pos→Bool):CV→Bool
 |.ptr k _ _=>K k
 |.sl k _ _ _ _=>K k
 |.emp k=>K k
 |.mp k=>K k
 |.clo k=>K k
 |.ifc k=>K k
 |_=>true
def kJ (K:Pos→Bool)(l:List CV):Bool:=l.all (alu K)
def Hy (K:Pos→Bool)(l:List PV):Bool:=l.all λp=>kJ K p.cells
def alt (K:Pos→Bool):TV→Bool
 |.unk=>true
 |.pv p=>kJ K p.cells
 |.tup l=>Hy K l
def Gx.keep (f:Gx)(K:Pos→Bool):Gx:=⟨λk g=>if K k=true then f.loc k g else none,λk=>if K k=true then f.val k else none,λk=>if K k=true then f.mu k else none⟩
section
variable {P:Program}{Gl:Glt}{B:Nat}{W:W0}{φ ψ C:Gx}{h h' U:Pos→EO}{w w':World}{K:Pos→Bool}
variable{v:Value}{k:Pos}{o:EO}
def Hx {c:CV}(f:alu K c=true)(g:den ψ c=some v):den (ψ.keep K) c=some v:=by
 cases c <;> first
  |exact g
  |(have f:K _=true:=f
    simp[den,Gx.keep,f]at g⊢;exact g)
def KZ:∀{l:List CV} {f:List Value},kJ K l=true→bq ψ l=some f→bq (ψ.keep K) l=some f
 |[],_,_,r=>r
 |c::l,f,hk,r=>by simp only[kJ,n?,ι]at hk;obtain⟨v,ws,rfl,j,g⟩:=co r;exact wW (Hx hk.1 j) (KZ hk.2 g)
def qM {p:PV}(f:kJ K p.cells=true)(r:bg ψ p=some v):bg (ψ.keep K) p=some v:=by
 cases p with
 |one c =>simp[PV.cells,kJ]at f;exact Hx f r
 |agg l=>
  have f:kJ K l=true:=f;simp[bg]at r⊢;cases g:bq ψ l with
  |none=>rw[g]at r;cases r
  |some j=>rw[g]at r;rw[KZ f g];exact r
def sn:∀{l:List PV} {f:List Value},Hy K l=true→cN ψ l=some f→cN (ψ.keep K) l=some f
 |[],_,_,r=>r
 |c::l,f,hk,r=>by simp only[Hy,n?,ι]at hk;obtain⟨v,ws,rfl,j,g⟩:=gR r;exact bU (qM hk.1 j) (sn hk.2 g)
def ajB {t:TV}(f:alt K t=true)(r:RT ψ t v):RT (ψ.keep K) t v:=by
 cases t with
 |unk=>trivial
 |pv p=>exact qM f r
 |tup l =>obtain⟨g,C,j⟩:=r;exact⟨g,sn f C,j⟩
def an4 (ψ C:Gx):EO→Prop
 |.row _ _ p len j _=>∀i,i<len→(p.get dch i).m≤j→∀c∈(p.get dch i).cs,∀v,den ψ c=some v→den C c=some v
 |.map r _=>∀e∈r,(∀v,bg ψ e.key=some v→bg C e.key=some v)∧∀v,bg ψ e.val=some v→bg C e.val=some v
 |.mit (some m) _ _ _=>∀l,ψ.loc m 0=some l→C.loc m 0=some l
 |.mitU m _ _ _=>∀l,ψ.loc m 0=some l→C.loc m 0=some l
 |.clo _ first f=>(∀g,cN ψ first=some g→cN C first=some g)∧∀g,cN ψ f=some g→cN C f=some g
 |.ifc _ u=>∀v,bg ψ u=some v→bg C u=some v
 |_=>True
def iZ.less (f:∀g,C.loc k g=ψ.loc k g)(hv:C.val k=ψ.val k)(hm:C.mu k=ψ.mu k)(hc:an4 ψ C o)(T:iZ ψ w B k o):iZ C w B k o:=by
 cases o with
 |none=>exact⟨λg=>(f g).trans (T.1 g),hv.trans T.2.1,hm.trans T.2.2⟩
 |row e s el len gen fz =>obtain⟨h0,P,hmm,h2,h3⟩:=T;refine⟨h0,P,hmm,λg U=>(f g).trans (h2 g U),λg U=>?_⟩;obtain⟨l,q1,⟨r1,r2,arr,fr,r3,r4,r5,r6⟩,R⟩:=h3 g U;refine⟨l,(f g).trans q1,⟨r1,r2,arr,fr,r3,r4,r5,λi hi him=>?_⟩,R⟩;obtain⟨s1,s2,s3⟩:=r6 i hi him;refine⟨s1,s2,λj c hj=>?_⟩;obtain⟨v,t1,t2⟩:=s3 j c hj;exact⟨v,t1,hc i hi (υ him U) c (M? hj) v t2⟩
 |map es clock =>obtain⟨P,l,vs,q1,q2,R,q4⟩:=T;refine⟨λg U=>(f g).trans (P g U),l,vs,(f 0).trans q1,q2,R,q4.1,λi e he=>?_⟩;obtain⟨v,t1,t2,t3,t4⟩:=q4.2 i e he;obtain⟨c1,c2⟩:=hc e (M? he);exact⟨v,t1,c1 _ t2,c2 _ t3,t4⟩
 |mit m since seen J=>
  obtain⟨P,l,q1,q2,R⟩:=T;refine⟨λg U=>(f g).trans (P g U),l,(f 0).trans q1,q2, ?_⟩;cases m with
  |none=>exact R
  |some m=>obtain⟨l',q4,q5⟩:=R;exact⟨l',hc l' q4,q5⟩
 |mitU m since bs st =>obtain⟨P,l,l',seen,J,n,q1,q2,R,q4,q5,q6,q7⟩:=T;exact⟨λg U=>(f g).trans (P g U),l,l',seen,J,n,(f 0).trans q1,q2,hc l' R,q4,q5,hm.trans q6,q7⟩
 |sit s p =>obtain⟨P,h2,l,q1,q2,R⟩:=T;exact⟨λg U=>(f g).trans (P g U),h2,l,(f 0).trans q1,q2,R⟩
 |clo fn first caps =>obtain⟨P,a,b,q1,q2,R⟩:=T;exact⟨λg=>(f g).trans (P g),a,b,hc.1 _ q1,hc.2 _ q2,hv.trans R⟩
 |ifc t v =>obtain⟨P,u,q1,q2⟩:=T;exact⟨λg=>(f g).trans (P g),u,hc _ q1,hv.trans q2⟩
 |emp =>obtain⟨P,a,c,q1⟩:=T;exact⟨λg=>(f g).trans (P g),a,c,hv.trans q1⟩
 |dead=>exact λg l q=>T g l ((f g).symm.trans q)
 |res=>exact λg l q=>T g l ((f g).symm.trans q)
 |yld =>obtain⟨P,l,q1,q2,R,r,q4⟩:=T;exact⟨λg U=>(f g).trans (P g U),l,(f 0).trans q1,q2,hv.trans R,r,q4⟩
def aff (g:φ.le ψ)(f:φ.le C)(T:iZ φ w B k o):an4 ψ C o:=by
 have p:∀{α:Type} {a b c:Option α} {x v:α},a=some x→(a=some x→b=some x)→(a=some x→c=some x)→b=some v→c=some v:=λ{α a b c x v} P h2 h3 h4=>by rw[h2 P]at h4;cases h4;exact h3 P
 cases o with
 |row e s el len gen fz =>intro i hi him c hc v hv;obtain⟨h0,P,hmm,h2,h3⟩:=T;obtain⟨l,q1,⟨r1,r2,arr,fr,r3,r4,r5,r6⟩,q3⟩:=h3 gen (δ _);obtain⟨s1,s2,s3⟩:=r6 i hi him;obtain⟨j,hj⟩:=v? hc;obtain⟨u,t1,t2⟩:=s3 j c hj;exact p t2 (fH g) (fH f) hv
 |map es clock =>intro e he;obtain⟨P,l,vs,q1,q2,q3,U⟩:=T;obtain⟨i,hi⟩:=v? he;obtain⟨v,t1,t2,t3,t4⟩:=U.2 i e hi;exact⟨λu r=>p t2 (cP g) (cP f) r,λu r=>p t3 (cP g) (cP f) r⟩
 |mit m R seen J=>
  cases m with
  |none=>trivial
  |some m =>obtain⟨P,l,q1,q2,l',U,q5⟩:=T;exact λu r=>p U (g.loc _ _ _) (f.loc _ _ _) r
 |mitU m R bs st =>obtain⟨P,l,l',seen,J,n,q1,q2,q3,U⟩:=T;exact λu r=>p q3 (g.loc _ _ _) (f.loc _ _ _) r
 |clo fn first caps =>obtain⟨P,a,b,q1,q2,q3⟩:=T;exact⟨λu r=>p q1 (dC g) (dC f) r,λu r=>p q2 (dC g) (dC f) r⟩
 |ifc t v =>obtain⟨P,u,q1,q2⟩:=T;exact λu r=>p q1 (cP g) (cP f) r
 |_=>trivial
def oX (K:Pos→Bool):EO→Bool
 |.row _ _ j len _ _=>(List.range len).all λi=>kJ K (j.get dch i).cs
 |.map g _=>g.all λe=>kJ K e.key.cells&&kJ K e.val.cells
 |.clo _ first f=>Hy K first&&Hy K f
 |.ifc _ u=>kJ K u.cells
 |.emp=>true
 |.none=>true
 |.dead=>true
 |_=>false
def aa9 (f:oX K o=true):an4 ψ (ψ.keep K) o:=by
 cases o with
 |row e s R len J fz =>intro i r p c C v g;simp[oX]at f;have:=f i r;simp[kJ]at this;exact Hx (this c C) g
 |map P clock =>intro e j;simp[oX]at f;exact⟨λv g=>qM (f e j).1 g,λv g=>qM (f e j).2 g⟩
 |clo fn first l =>simp[oX]at f;exact⟨λv g=>sn f.1 g,λv g=>sn f.2 g⟩
 |ifc t u=>exact λv g=>qM f g
 |mit m _ _ _=>cases f
 |mitU m _ _ _=>cases f
 |sit _ _=>cases f
 |yld=>cases f
 |res=>cases f
 |none=>trivial
 |emp=>trivial
 |dead=>trivial
def cG.forget (hI:Inv B W φ h w)(R:cG B φ h w ψ h' w')(ha:∀k,K k=true→U k=h' k)(hb:∀k,K k=false→U k = .none∧h k = .none)(hc:∀k,K k=true→h' k=h k∨oX K (h' k)=true):cG B φ h w (ψ.keep K) U w':=by
 have r:∀k,K k=true→(∀g,(ψ.keep K).loc k g=ψ.loc k g)∧(ψ.keep K).val k=ψ.val k∧(ψ.keep K).mu k=ψ.mu k:=λk f=>by exact⟨λg=>by simp[Gx.keep,f],by simp[Gx.keep,f],by simp[Gx.keep,f]⟩
 have kf:∀k,K k=false→(∀g,(ψ.keep K).loc k g=none)∧(ψ.keep K).val k=none∧(ψ.keep K).mu k=none:=λk f=>by exact⟨λg=>by simp[Gx.keep,f],by simp[Gx.keep,f],by simp[Gx.keep,f]⟩
 have p:∀k,K k=false→(∀g,φ.loc k g=none)∧φ.val k=none∧φ.mu k=none:=λk f=>hI.free (hb k f).2;have P:φ.le (ψ.keep K):=by
  refine⟨λk g l T=>?_,λk v C=>?_,λk v C=>?_⟩
  ·cases f:K k with
   |true=>rw[(r k f).1 g];exact R.1.loc _ _ _ T
   |false=>rw[(p k f).1 g]at T;cases T
  ·cases f:K k with
   |true=>rw[(r k f).2.1];exact R.1.val _ _ C
   |false=>rw[(p k f).2.1]at C;cases C
  ·cases f:K k with
   |true=>rw[(r k f).2.2];exact R.1.mu _ _ C
   |false=>rw[(p k f).2.2]at C;cases C
 refine⟨P,λW' hW=>?_,λk f=>?_⟩
 ·have J:=R.2.1 W' hW;refine⟨J.below,J.kp,hW.le.trans P,λk f=>?_,J.size,λk=>?_,λk g l k' g' l' h1 h2 e=>?_⟩
  ·cases j:K k with
   |false=>rw[(hb k j).1]at f;cases f
   |true =>rw[ha k j]at f;obtain⟨z1,z2,z3,z4⟩:=J.res k f;obtain⟨t1,t2,t3⟩:=r k j;exact⟨λg=>(t1 g).trans (z1 g),t2.trans z2,t3.trans z3,λg l T=>z4 g l ((t1 g).symm.trans T)⟩
  ·cases j:K k with
   |false =>rw[(hb k j).1];exact kf k j
   |true=>
    rw[ha k j];obtain⟨t1,t2,t3⟩:=r k j;refine(J.obj k).less t1 t2 t3 ?_;obtain e|e:=hc k j
    ·rw[e];exact aff R.1 P (hW.obj k)
    ·exact aa9 e
  ·refine J.sep k g l k' g' l' ?_ ?_ e
   ·cases j:K k with
    |true=>rw[(r k j).1 g]at h1;exact h1
    |false=>rw[(kf k j).1 g]at h1;cases h1
   ·cases j:K k' with
    |true=>rw[(r k' j).1 g']at h2;exact h2
    |false=>rw[(kf k' j).1 g']at h2;cases h2
 ·cases j:K k with
  |false=>rw[(hb k j).2];rfl
  |true=>rw[ha k j]at f;exact R.2.2 k f
end
open Go Go.RowKit
variable [SymVal]
structure Ent where
 f:FuncId
 args:List TV
 N:Pos
 L:DM
 v:TV
 d:DM
 n:Pos
def ZE (a b:PV):Bool:=abZ (.pv a) (.pv b)
def Xc:List PV→List PV→Bool
 |[],[]=>true
 |a::l,b::m=>bif ZE a b then Xc l m else false
 |_,_=>false
def abY:TV→TV→Bool
 |.pv a,.pv b=>ZE a b
 |.tup l,.tup m=>Xc l m
 |_,_=>false
def Pj:List TV→List TV→Bool
 |[],[]=>true
 |a::l,b::m=>bif abY a b then Pj l m else false
 |_,_=>false
def ari:Fz→Fz→Bool
 |.no,.no=>true
 |.out,.out=>true
 |.yes,.yes=>true
 |_,_=>false
def adf:PT Ch→PT Ch→Bool
 |.leaf,.leaf=>true
 |.node l a r,.node j f g=>bif LH a.cs f.cs&&Nat.beq a.m f.m then(bif adf l j then adf r g else false)else false
 |_,_=>false
def XD:List ME→List ME→Bool
 |[],[]=>true
 |a::l,b::m=>bif ZE a.key b.key&&ZE a.val b.val&&Nat.beq a.born b.born then XD l m else false
 |_,_=>false
def aaT:EO→EO→Bool
 |.row e s T len j fz,.row U P r f g l=>Nat.beq e U&&Nat.beq s P&&adf T r&&Nat.beq len f&&Nat.beq j g&&ari fz l
 |.map R c,.map p c'=>XD R p&&Nat.beq c c'
 |.ifc t u,.ifc J C=>Nat.beq t J&&ZE u C
 |.emp,.emp=>true
 |_,_=>false
def adK (h:Pos→EO):DM→(Pos→Pos)→Bool
 |.leaf,_=>true
 |.node l a r,c=>(match a with
   |none=>true
   |some o=>aaT (h (c .e)) o)&&adK h l (λp=>c (.o p))&&adK h r (λp=>c (.i p))
def ab3 (N:Nat):DM→Nat→Nat→Bool
 |.leaf,_,_=>true
 |.node l a r,v,w=>(match a with
   |none=>true
   |some o=>match o with
    |.none=>true
    |_=>Nat.blt v N)&&ab3 N l (Nat.add v w) (Nat.mul 2 w)&&ab3 N r (Nat.add v (Nat.mul 2 w)) (Nat.mul 2 w)
def YU (N:Nat):HP→Bool
 |.nil=>true
 |.ov b d=>ab3 N d 0 1&&YU N b
 |.cut b n=>match Nat.ble n.num N with
  |true=>true
  |false=>YU N b
def akB (N:Nat)(a g:Option EO)(v:Nat):Bool:=match g with
 |some f=>match a with
  |some o=>aaT o f
  |none=>false
 |none=>match a with
  |some _=>Nat.ble N v
  |none=>true
def Jw (N:Nat):DM→DM→Nat→Nat→Bool
 |.leaf,t,_,_=>match t with
  |.leaf=>true
  |.node _ _ _=>false
 |.node l a r,t,v,w=>match t with
  |.leaf=>akB N a none v&&Jw N l .leaf (Nat.add v w) (Nat.mul 2 w)&&Jw N r .leaf (Nat.add v (Nat.mul 2 w)) (Nat.mul 2 w)
  |.node g j f=>akB N a j v&&Jw N l g (Nat.add v w) (Nat.mul 2 w)&&Jw N r f (Nat.add v (Nat.mul 2 w)) (Nat.mul 2 w)
def agq (f:EO→Bool):DM→Bool
 |.leaf=>true
 |.node l a r=>(match a with
   |none=>true
   |some o=>f o)&&agq f l&&agq f r
def Hz (e:Ent)(k:Pos):Bool:=Nat.blt k.num e.N.num||(match PM.get none e.d k with|some _=>true|none=>false)
def afC (e:Ent)(v:TV)(d:DM)(n:Pos):Bool:=abY v e.v&&n.beq e.n&&Jw e.N.num d e.d 0 1&&agq (oX (Hz e)) e.d&&alt (Hz e) e.v
def acQ (R:Tb)(j:FuncId→Option Fi)(g l:Nat)(e:Ent)(r:HP):Bool:=RC.rec (motive:=λ_=>Bool) false (λv d n=>afC e v d n) (mkR R j g l noY (.ov (.cut r e.N) e.L) (.fn e.f) e.args .leaf e.N)
def bR (t:Bool)(a:RC):RC:=Bool.rec (motive:=λ_=>RC) .no a t
def aoA (e:Ent):Tb:=λf b args d n=>bR (Nat.beq f e.f) (bR (n.beq e.N) (bR (Pj args e.args) (bR (adK (hG (.ov b d)) e.L id) (bR (YU e.N.num (.ov b d)) (.ok e.v (mX e.d d) e.n)))))
def mh (e:Ent)(R:Tb):Tb:=λf b args d n=>UK (aoA e f b args d n) (R f b args d n)
def zW {a b:PV}(h:ZE a b=true):a=b:=by have:=tvEq_eq (a :=.pv a) (b :=.pv b) h;injection this
def Qz:∀{l m:List PV},Xc l m=true→l=m
 |[],[],_=>rfl
 |a::l,b::m,h=>by
  simp only[Xc,f?]at h;split at h
  next h1=>rw[zW h1,Qz h]
  ·cases h
 |[],_::_,h=>by cases h
 |_::_,[],h=>by cases h
def Pl {a b:TV}(h:abY a b=true):a=b:=by
 cases a with
 |unk=>cases b <;> cases h
 |pv a=>cases b with
  |pv b=>rw[zW h]
  |_=>cases h
 |tup a=>cases b with
  |tup b=>rw[Qz h]
  |_=>cases h
def Fm:∀{l m:List TV},Pj l m=true→l=m
 |[],[],_=>rfl
 |a::l,b::m,h=>by
  simp only[Pj,f?]at h;split at h
  next h1=>rw[Pl h1,Fm h]
  ·cases h
 |[],_::_,h=>by cases h
 |_::_,[],h=>by cases h
def M7:∀{a b:PT Ch},adf a b=true→a=b
 |.leaf,.leaf,_=>rfl
 |.node l a r,.node R J P,h=>by
  simp only[adf,f?]at h;split at h
  next h1=>
   simp only[ι]at h1;split at h
   next h2=>obtain⟨C,m⟩:=a;obtain⟨f,g⟩:=J;have p:C=f:=Br h1.1;have j:m=g:=κ h1.2;rw[M7 h2,M7 h,p,j]
   ·cases h
  ·cases h
 |.leaf,.node _ _ _,h=>by cases h
 |.node _ _ _,.leaf,h=>by cases h
def Rj:∀{l m:List ME},XD l m=true→l=m
 |[],[],_=>rfl
 |a::l,b::m,h=>by
  simp only[XD,f?]at h;split at h
  next h1=>simp only[ι]at h1;obtain⟨k,v,n⟩:=a;obtain⟨j,f,g⟩:=b;have C:k=j:=zW h1.1.1;have r:v=f:=zW h1.1.2;have p:n=g:=κ h1.2;rw[Rj h,C,r,p]
  ·cases h
 |[],_::_,h=>by cases h
 |_::_,[],h=>by cases h
def X3 {a b:EO}(h:aaT a b=true):a=b:=by
 cases a <;> cases b <;> first|(cases h;done)|skip
 ·simp only[aaT,ι]at h;obtain⟨⟨⟨⟨⟨l,j⟩,h3⟩,h4⟩,h5⟩,h6⟩:=h;rename_i g _ _ _ _ _ f;have p:g=f:=by cases g <;> cases f <;> first|rfl|cases h6
  rw[κ l,κ j,M7 h3,κ h4,κ h5,p]
 ·simp only[aaT,ι]at h;rw[Rj h.1,κ h.2]
 ·simp only[aaT,ι]at h;rw[κ h.1,zW h.2]
 ·rfl
def Ho {h:Pos→EO}:∀{d:DM} {c:Pos→Pos},adK h d c=true→∀k o,PM.get none d k=some o→h (c k)=o
 |.leaf,_,_,k,o,f=>by cases f
 |.node l a r,c,g,k,o,f=>by
  simp[adK]at g;cases k with
  |e =>have f:a=some o:=f;rw[f]at g;exact X3 g.1.1
  |o k=>exact Ho g.1.2 k o f
  |i k=>exact Ho g.2 k o f
def Fp {N:Nat}:∀{d:DM} {v w:Nat},ab3 N d v w=true→∀k o,PM.get none d k=some o→o = .none∨v+w*k.num<N
 |.leaf,_,_,_,k,o,f=>by cases f
 |.node l a r,v,w,g,k,o,f=>by
  simp only[ab3,ι]at g;cases k with
  |e=>
   have f:a=some o:=f;rw[f]at g;cases o with
   |none=>exact .inl rfl
   |_=>exact .inr (by have:=cD.1 g.1.1;simpa[Pos.num]using this)
  |o k=>
   obtain q|q:=Fp g.1.2 k o f
   ·exact .inl q
   ·refine .inr ?_;have p:Nat.add v w=v+w:=rfl;have j:Nat.mul 2 w=2*w:=rfl;rw[p,j]at q;simp[Pos.num];have:w*(2*k.num+1)=w+2*w*k.num:=by rw[ath,Nat.mul_one,←Nat.mul_assoc,R? w 2,U?]
    omega
  |i k=>
   obtain q|q:=Fp g.2 k o f
   ·exact .inl q
   ·refine .inr ?_;have p:Nat.add v (Nat.mul 2 w)=v+2*w:=rfl;have j:Nat.mul 2 w=2*w:=rfl;rw[p,j]at q;simp[Pos.num];have:w*(2*k.num+2)=2*w+2*w*k.num:=by rw[ath,←Nat.mul_assoc,R? w 2,U?]
    omega
def zk {N:Nat}:∀{b:HP},YU N b=true→∀k:Pos,N≤k.num→b.get k = .none
 |.nil,_,_,_=>rfl
 |.ov b d,f,k,g=>by
  simp[YU]at f;simp[HP.get];cases j:PM.get none d k with
  |none=>exact zk f.2 k g
  |some o=>
   obtain q|q:=Fp f.1 k o j
   ·exact q
   ·omega
 |.cut b n,f,k,g=>by
  simp[HP.get];split
  next hlt=>
   simp[YU]at f;split at f
   next hle=>have p:=cD.1 hlt;have l:=bD.1 hle;omega
   ·exact zk (b:=b) f k g
  ·rfl
def akA {N:Nat}{a f:Option EO}{v:Nat}(h:akB N a f v=true):f=a∨(f=none∧N≤v):=by
 cases f with
 |some g=>cases a with
  |some o=>exact .inl (by rw[X3 h])
  |none=>cases h
 |none=>cases a with
  |some o=>exact .inr ⟨rfl,bD.1 h⟩
  |none=>exact .inl rfl
def Iw {N:Nat}:∀{d t:DM} {v w:Nat},Jw N d t v w=true→∀k,PM.get none t k=PM.get none d k∨(PM.get none t k=none∧N≤v+w*k.num)
 |.leaf,t,v,w,f,k=>by
  cases t with
  |leaf=>exact .inl rfl
  |node _ _ _=>cases f
 |.node l a r,t,v,w,f,k=>by
  have C:∀(j g:DM) (p:Option EO),akB N a p v=true→Jw N l j (Nat.add v w) (Nat.mul 2 w)=true→Jw N r g (Nat.add v (Nat.mul 2 w)) (Nat.mul 2 w)=true→PM.get none (.node j p g) k=PM.get none (.node l a r) k∨(PM.get none (.node j p g) k=none∧N≤v+w*k.num):=λj g p U T R=>by
   cases k with
   |e=>
    obtain q|q:=akA U
    ·exact .inl q
    ·exact .inr ⟨q.1,by simpa[Pos.num]using q.2⟩
   |o k=>
    obtain q|q:=Iw T k
    ·exact .inl q
    ·refine .inr ⟨q.1, ?_⟩;have q:=q.2;have P:Nat.add v w=v+w:=rfl;have J:Nat.mul 2 w=2*w:=rfl;rw[P,J]at q;simp[Pos.num];have:w*(2*k.num+1)=w+2*w*k.num:=by rw[ath,Nat.mul_one,←Nat.mul_assoc,R? w 2,U?]
     omega
   |i k=>
    obtain q|q:=Iw R k
    ·exact .inl q
    ·refine .inr ⟨q.1, ?_⟩;have q:=q.2;have P:Nat.add v (Nat.mul 2 w)=v+2*w:=rfl;have J:Nat.mul 2 w=2*w:=rfl;rw[P,J]at q;simp[Pos.num];have:w*(2*k.num+2)=2*w+2*w*k.num:=by rw[ath,←Nat.mul_assoc,R? w 2,U?]
     omega
  cases t with
  |leaf=>
   simp[Jw]at f;have:=C .leaf .leaf none f.1.1 f.1.2 f.2;have e:PM.get none (.node .leaf none .leaf:DM) k=PM.get none (.leaf:DM) k:=by cases k <;> rfl
   rw[e]at this;exact this
  |node j p g =>simp[Jw]at f;exact C j g p f.1.1 f.1.2 f.2
def IT {f:EO→Bool}:∀{d:DM},agq f d=true→∀k o,PM.get none d k=some o→f o=true
 |.leaf,_,k,o,g=>by cases g
 |.node l a r,j,k,o,g=>by
  simp[agq]at j;cases k with
  |e =>have g:a=some o:=g;rw[g]at j;exact j.1.1
  |o k=>exact IT j.1.2 k o g
  |i k=>exact IT j.2 k o g
def IL {t:Bool}{a:RC}{v:TV}{d:DM}{n:Pos}(h:bR t a = .ok v d n):t=true∧a = .ok v d n:=by
 cases t with
 |true=>exact⟨rfl,h⟩
 |false=>cases h
section
variable {P:Program}{Gl:Glt}{B:Nat}{W:W0}{φ φ0 ψ:Gx}{h h0:Pos→EO}{w w0:World}
def alL (R:Tb):Ck:=λb t args d n=>match t with
 |.fn f=>R f b args d n
 |.yld _=>.no
def yX (P:Program)(Gl:Glt)(R:Tb):Prop:=∀B f,sR P Gl B (alL R) f
def noTb_ok:yX P Gl noTb:=λB f b t args d n v j g h=>by cases t <;> cases h
variable{R:Tb}{fuel:Nat}
def Cn (hm:P.follows .mixedOrders=true)(htb:yX P Gl R):∀(dp:Nat) (T:Yk) (J:List Lq),ON P Gl B T J→sR P Gl B (mkT R (fiOf P Gl) fuel dp T) J:=by
 intro dp;induction dp with
 |zero=>
  intro T J C b t args d n v d' n' g;cases t with
  |yld j=>exact C b j args d n v d' n' g
  |fn f=>cases g
 |succ dp ih=>
  intro T J C b t args d n v d' n' g;cases t with
  |yld j=>exact C b j args d n v d' n' g
  |fn f=>
   simp[mkT]at g;cases r:R f b args d n with
   |ok v1 d1 n1 =>rw[r]at g;exact htb B J b (.fn f) args d n v d' n' (r.trans g)
   |no=>
   rw[r]at g;simp[UK]at g;intro W φ w hG hI vs hr hcx;split at g
   ·rename_i x hx;obtain⟨fn,c,rs,f1,f2,f3,f4,rfl⟩:=Lo hx;simp only at g;split at g
    ·rename_i hle;have hle:=bD.1 hle;have hlen:=hr.len;refine⟨⟨fn,f1,by simp[f2],f3⟩, ?_⟩;unfold Zr at g;split at g
     ·rename_i X e1 d1 n1 hex;have hsz:(vs.toArray++Array.replicate (fn.ntmps-vs.toArray.size) undef).size=fn.ntmps:=by
       simp;omega
      have ckok:CkOk P Gl B (Ec (mkT R (fiOf P Gl) fuel dp) T) J:=⟨ih T J C,λyk' Γ' h=>ih yk' Γ' h⟩;refine callsIn_wide.1 (callsIn_of_wp_marks (F:=RF none) (n:=0) f1 f2 trivial (wpIn_mono ((jp hm ckok c).1 none 0 w.heap.size W φ _ w hI hG hcx (λl hl=>by cases hl) (.inl rfl) (δ _) b (pz args .e .leaf) d n _ w X e1 d1 n1 hex ⟨⟨φ,cG.refl,lR hr _⟩,hsz,[],rfl,asQ,λD hD=>by cases hD⟩) λex a w' U=>?_));have fin:(∀id,X ≠ .exit id)→Rl B w.heap.size φ (HP.ov b d).get w fn.ntmps e1 (HP.ov b d1).get a w'→LeavesInM (RF none) 0 P fn a.tmps (JD B φ (HP.ov b d).get w (HP.ov b d').get v) a.defers .returning w':=λhX p=>by
       obtain⟨ψ,hs,hE⟩:=p.ex;obtain⟨ms,m1,m2,m3⟩:=p.df;have hres:∃l,eT e1 (HP.ov b d1).get rs=some l∧v=oT l∧d'=d1:=by
        split at g
        ·exact(hX _ rfl).elim
        ·split at g
         next l hl=>injection g with y1 y2 y3;exact⟨l,hl,y1.symm,y2.symm⟩
         ·cases g
       obtain⟨l,hl,rfl,rfl⟩:=hres;rw[m1];refine dS hI ms w' hs m2 m3 λw2 hs2=>?_;obtain⟨u,r1,r2⟩:=eK (hs2.2.1 _ hI) hE f4 hl;exact⟨u,r1,u,ψ,rfl,hs2,r2⟩
      cases ex with
      |normal=>obtain⟨rfl,p⟩:=U;exact fin (λid e=>by cases e) p
      |ret=>obtain⟨rfl,p⟩:=U;exact fin (λid e=>by cases e) p
      |exit id=>obtain⟨rfl,_⟩:=U;cases g
      |goto l=>exact U.elim
      |panic ch=>exact U.elim
      |outgrown=>exact U.elim
     ·cases g
    ·cases g
   ·cases g
def am (P:Program)(Gl:Glt)(R:Tb)(fuel f:Nat)(e:Ent):Prop:=∀r,acQ R (fiOf P Gl) fuel f e r=true
def U3 {f:List Lq}:ON P Gl B noY f:=λb j args d n v l g h=>by cases h
def fT (hm:P.follows .mixedOrders=true){T :Tb}(htb:yX P Gl R){dp:Nat}{e:Ent}(he:am P Gl R fuel dp e)(U:yX P Gl T):yX P Gl (mh e T):=by
 intro B Γ b t args d n v d' n' g;cases t with
 |yld j=>cases g
 |fn f=>
  simp[alL,mh]at g;cases p:aoA e f b args d n with
  |no =>rw[p]at g;exact U B Γ b (.fn f) args d n v d' n' g
  |ok v0 d0 n0=>
   rw[p]at g;simp only[UK]at g;injection g with c1 c2 c3;subst c1;subst c2;subst c3;obtain⟨k1,p⟩:=IL p;obtain⟨k2,p⟩:=IL p;obtain⟨k3,p⟩:=IL p;obtain⟨k4,p⟩:=IL p;obtain⟨k5,p⟩:=IL p;injection p with g1 g2 g3;have ef:=κ k1;have en:=Pos.beq_iff.1 k2;have ea:=Fm k3;subst ef;subst en;subst ea;intro W φ w hGl hI vs hr hcx;have l:=he (.ov b d);unfold acQ at l;cases J:mkR R (fiOf P Gl) fuel dp noY (.ov (.cut (.ov b d) e.N) e.L) (.fn e.f) e.args .leaf e.N with
   |no=>rw[J]at l;cases l
   |ok v1 d1 n1=>
    rw[J]at l;simp[afC]at l;obtain⟨⟨⟨⟨r1,r2⟩,r3⟩,r4⟩,r5⟩:=l;have ev:=Pl r1;subst ev;rw[NH]at J;have hG':hG (.ov b d)=(HP.ov b d).get:=funext λk=>DL _ k;rw[hG']at k4;have C:(HP.ov (.cut (.ov b d) e.N) e.L).get=(HP.ov b d).get:=by
     funext k;show(match PM.get none e.L k with|some o=>o|none=>(HP.cut (.ov b d) e.N).get k)=_;cases hl:PM.get none e.L k with
     |some o=>exact(Ho k4 k o hl).symm
     |none=>
      show(match Nat.blt k.num e.N.num with|true=>(HP.ov b d).get k|false=>.none)=_;cases hb:Nat.blt k.num e.N.num with
      |true=>rfl
      |false=>
       refine(zk k5 k ?_).symm;exact Nat.le_of_not_lt λq=>by rw[cD.2 q]at hb;cases hb
    have h0:(HP.ov (.ov (.cut (.ov b d) e.N) e.L) .leaf).get=(HP.ov b d).get:=by rw[←C];funext k;rfl
    have call:=Cn (B:=B) hm htb dp noY Γ U3 _ _ _ _ _ _ _ _ J W φ w hGl (by rw[h0];exact hI) vs hr hcx;rw[h0]at call;refine⟨call.1,call.2.mono ?_⟩;rintro x w' ⟨u,ψ,rfl,hs,hru⟩;have hd1:∀k,(HP.ov (.ov (.cut (.ov b d) e.N) e.L) d1).get k=match PM.get none d1 k with|some o=>o|none=>(HP.ov b d).get k:=λk=>by show(match PM.get none d1 k with|some o=>o|none=>(HP.ov (.cut (.ov b d) e.N) e.L).get k)=_;rw[C]
    have hd2:∀k,(HP.ov b d0).get k=match PM.get none e.d k with|some o=>o|none=>(HP.ov b d).get k:=λk=>by rw[←g2,HP.get_merge];rfl
    have kf:∀k,Hz e k=false→e.N.num≤k.num∧PM.get none e.d k=none:=λk r=>by
     simp[Hz]at r;have hk1:=r.1;refine⟨Nat.le_of_not_lt λq=>(by rw[cD.2 q]at hk1;cases hk1), ?_⟩;have:=r.2;cases hp:PM.get none e.d k with
     |none=>rfl
     |some o=>rw[hp]at this;cases this
    have same:∀k,Hz e k=true→PM.get none e.d k=PM.get none d1 k:=λk r=>by
     obtain q|⟨q1,q2⟩:=Iw r3 k
     ·exact q
     ·exfalso;simp only[Hz,q1,Bool.or_false]at r;have:=cD.1 r;omega
    refine⟨u,ψ.keep (Hz e),rfl,cG.forget hI hs (λk r=>?_) (λk r=>?_) (λk r=>?_), ?_⟩
    ·rw[hd1,hd2,same k r]
    ·obtain⟨q1,q2⟩:=kf k r;have:=zk k5 k q1;refine⟨?_,this⟩;rw[hd2,q2];exact this
    ·rw[hd1];cases hp:PM.get none d1 k with
     |none=>exact .inl rfl
     |some o =>refine .inr (IT r4 k o ?_);rw[same k r,hp]
    ·rw[←g1];exact ajB r5 hru
def closedT_sound (hm:P.follows .mixedOrders=true)(l:yX P Gl R){C:Nat}{f:FuncId}{v:TV}{J:DM}{T:Pos}(g:mkR R (fiOf P Gl) fuel C noY .nil (.fn f) [] .leaf .e = .ok v J T):∀w,GlOk Gl P w.heap.size ⟨w,φN⟩→Callable P f∧Calls P f #[] w λe r=>∃u ψ,e = .returned u∧Inv w.heap.size ⟨w,φN⟩ ψ (HP.ov .nil J).get r∧RT ψ v u:=by rw[NH]at g;intro w p;obtain⟨j,hc⟩:=Cn (B:=w.heap.size) hm l C noY [] U3 _ _ _ _ _ _ _ _ g ⟨w,φN⟩ φN w p (ajO w) [] trivial (λq hq=>by cases hq);refine⟨j,hc.mono ?_⟩;rintro e r ⟨u,ψ,rfl,U,hr⟩;exact⟨u,ψ,rfl,U.2.1 _ (ajO w),hr⟩
end
open Go Go.RowKit
variable [SymVal]
def Inv.grown {B:Nat}{U:W0}{P:Gx}{h:Pos→EO}{w p:World}(f:Inv B U P h w)(j:w.grownBy p none)(R:w.drawn≤p.drawn):Inv B U P h p:=by
 have r:∀b,b<w.heap.size→p.heap[b]? = w.heap[b]?:=λb T=>j.block b T Ψ;refine⟨f.below.trans ⟨j.os,j.tape,j.output,j.size,λb T=>r b (J' T f.size)⟩,f.kp.trans ⟨R,λk o J ho=>?_⟩,f.le,λk J=>?_,υ f.size j.size,λk=>(f.obj k).keep (Gx.le.refl P) (λ_=>rfl) rfl rfl (λg l C=>r _ (f.lt C)),f.sep⟩
 ·rw[r k (θ.1 J).1];exact J
 ·obtain⟨r1,r2,r3,r4⟩:=f.res k J;exact⟨r1,r2,r3,λg l C=>(r _ (f.lt C)).trans (r4 g l C)⟩
def cG.grown {B:Nat}{f:Gx}{h:Pos→EO}{w g:World}(l:w.grownBy g none)(j:w.drawn≤g.drawn):cG B f h w f h g:=⟨Gx.le.refl f,λ_ p=>p.grown l j,λ_ h=>h⟩
def aoa (f:FuncId)(T:List TV)(v:TV):Tb:=λg _ args d n=>bR (Nat.beq g f) (bR (Pj args T) (.ok v d n))
def jy (f:FuncId)(T:List TV)(v:TV)(R:Tb):Tb:=λg b args d n=>UK (aoa f T v g b args d n) (R g b args d n)
variable{P:Program}{Gl:Glt}{f:FuncId}{T:List TV}{R:Tb}
def ml {v:TV}
  (h:∀(r:Gx) (C:List Value) (w:World),SymVal.fact w→RTs r T C→Callable P f∧Calls P f C.toArray w λe J=>∃u,e = .returned u∧RT r v u∧w.grownBy J none∧w.drawn≤J.drawn) (U:yX P Gl R):yX P Gl (jy f T v R):=by
 intro B Γ b t args d n v' d' n' l;cases t with
 |yld j=>cases l
 |fn g=>
  simp[alL,jy]at l;cases p:aoa f T v g b args d n with
  |no =>rw[p]at l;exact U B Γ b (.fn g) args d n v' d' n' l
  |ok v0 d0 n0 =>rw[p]at l;simp only[UK]at l;injection l with c1 c2 c3;subst c1;subst c2;subst c3;obtain⟨k1,p⟩:=IL p;obtain⟨k2,p⟩:=IL p;injection p with g1 g2 g3;have ef:=κ k1;have ea:=Fm k2;subst ef;subst ea;subst g1;subst g2;subst g3;intro W r w hGl hI C hr hcx;obtain⟨q1,q2⟩:=h r C w (hGl.2 w hI.below) hr;refine⟨q1,q2.mono ?_⟩;rintro e J ⟨u,rfl,r1,r2,r3⟩;exact⟨u,r,rfl,cG.grown r2 r3,r1⟩
def Jy (hm:P.follows .mixedOrders=true)(J:yX P Gl R){l dp:Nat}{r:List Value}(C:RTs φN T r){v:TV}{d':DM}{n':Pos}(g:mkR R (fiOf P Gl) l dp noY .nil (.fn f) T .leaf .e = .ok v d' n'):∀w,GlOk Gl P w.heap.size ⟨w,φN⟩→Callable P f∧Calls P f r.toArray w λe w'=>∃u p,e = .returned u∧Inv w.heap.size ⟨w,φN⟩ p (HP.ov .nil d').get w'∧RT p v u:=by rw[NH]at g;intro w U;obtain⟨j,hc⟩:=Cn (B:=w.heap.size) hm J dp noY [] U3 _ _ _ _ _ _ _ _ g ⟨w,φN⟩ φN w U (ajO w) r C (λq hq=>by cases hq);refine⟨j,hc.mono ?_⟩;rintro e w' ⟨u,p,rfl,hs,hr⟩;exact⟨u,p,rfl,hs.2.1 _ (ajO w),hr⟩
def aha (n:Nat):RTs φN [.pv (.one (.sym n))] [SymVal.v n]:=⟨rfl,awN⟩
