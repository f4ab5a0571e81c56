/- What a closed run gives. -/
import Derived.Test.YtfgpipfjalmooaaGreatClpE
import Derived.Test.YtfgpipfjalmooaaGreatFstC
import Derived.Test.YtfgpipfjalmooaaGreatAbsK
set_option linter.all false
noncomputable section
namespace Go.Proofs.YtfgpipfjalmooaaGreat
namespace Clo
open Go Go.RowKit
variable [SymVal]
def ag0 (K:Pos→Bool):CV→Bool
 |.ptr k _ _=>K k
 |.sl k _ _ _ _=>K k
 |.emp k=>K k
 |.mp k=>K k
 |.clo k=>K k
 |.ifc k=>K k
 |_=>true
def kE (K:Pos→Bool)(l:List CV):Bool:=l.all (ag0 K)
def GT (K:Pos→Bool)(l:List PV):Bool:=l.all λp=>kE K p.cells
def agZ (K:Pos→Bool):TV→Bool
 |.unk=>true
 |.pv p=>kE K p.cells
 |.tup l=>GT K l
def Gx.keep (f:Gx)(K:Pos→Bool):Gx:=⟨λk g=>if K k=true then f.loc k g else none,λk=>if K k=true then f.val k else none,λk=>if K k=true then f.mu k else none⟩
section
variable {P:Program}{Gl:Glt}{B:Nat}{W:W0}{φ ψ R:Gx}{h h' h'':Pos→EO}{w w':World}{K:Pos→Bool}
variable{v:Value}{k:Pos}{o:EO}
def GS {c:CV}(f:ag0 K c=true)(g:den ψ c=some v):den (ψ.keep K) c=some v:=by
 cases c <;> first
  |exact g
  |(have f:K _=true:=f
    simp[den,Gx.keep,f]at g⊢;exact g)
def JI:∀{l:List CV} {f:List Value},kE K l=true→aU ψ l=some f→aU (ψ.keep K) l=some f
 |[],_,_,r=>r
 |c::l,f,hk,r=>by simp only[kE,B?,η]at hk;obtain⟨v,ws,rfl,j,g⟩:=bQ r;exact wS (GS hk.1 j) (JI hk.2 g)
def qL {p:PV}(f:kE K p.cells=true)(r:aS ψ p=some v):aS (ψ.keep K) p=some v:=by
 cases p with
 |one c =>simp[PV.cells,kE]at f;exact GS f r
 |agg l=>
  have f:kE K l=true:=f;simp[aS]at r⊢;cases g:aU ψ l with
  |none=>rw[g]at r;cases r
  |some j=>rw[g]at r;rw[JI f g];exact r
def sx:∀{l:List PV} {f:List Value},GT K l=true→cv ψ l=some f→cv (ψ.keep K) l=some f
 |[],_,_,r=>r
 |c::l,f,hk,r=>by simp only[GT,B?,η]at hk;obtain⟨v,ws,rfl,j,g⟩:=gG r;exact bI (qL hk.1 j) (sx hk.2 g)
def afn {t:TV}(f:agZ K t=true)(r:RT ψ t v):RT (ψ.keep K) t v:=by
 cases t with
 |unk=>trivial
 |pv p=>exact qL f r
 |tup l =>obtain⟨g,C,j⟩:=r;exact⟨g,sx f C,j⟩
def ai5 (ψ R:Gx):EO→Prop
 |.row _ _ p len j _=>∀i,i<len→(p.get dch i).m≤j→∀c∈(p.get dch i).cs,∀v,den ψ c=some v→den R c=some v
 |.map r _=>∀e∈r,(∀v,aS ψ e.key=some v→aS R e.key=some v)∧∀v,aS ψ e.val=some v→aS R e.val=some v
 |.mit (some m) _ _ _=>∀l,ψ.loc m 0=some l→R.loc m 0=some l
 |.mitU m _ _ _=>∀l,ψ.loc m 0=some l→R.loc m 0=some l
 |.clo _ first f=>(∀g,cv ψ first=some g→cv R first=some g)∧∀g,cv ψ f=some g→cv R f=some g
 |.ifc _ u=>∀v,aS ψ u=some v→aS R u=some v
 |_=>True
def iY.less (f:∀g,R.loc k g=ψ.loc k g)(hv:R.val k=ψ.val k)(hm:R.mu k=ψ.mu k)(hc:ai5 ψ R o)(T:iY ψ w B k o):iY R w B k o:=by
 cases o with
 |none=>exact⟨λg=>(f g).trans (T.1 g),hv.trans T.2.1,hm.trans T.2.2⟩
 |row e s el len gen fz =>obtain⟨h0,J,hmm,h2,h3⟩:=T;refine⟨h0,J,hmm,λg U=>(f g).trans (h2 g U),λg U=>?_⟩;obtain⟨l,q1,⟨r1,r2,arr,fr,r3,r4,r5,r6⟩,P⟩:=h3 g U;refine⟨l,(f g).trans q1,⟨r1,r2,arr,fr,r3,r4,r5,λi hi him=>?_⟩,P⟩;obtain⟨s1,s2,s3⟩:=r6 i hi him;refine⟨s1,s2,λj c hj=>?_⟩;obtain⟨v,t1,t2⟩:=s3 j c hj;exact⟨v,t1,hc i hi (ν him U) c (L? hj) v t2⟩
 |map es clock =>obtain⟨J,l,vs,q1,q2,P,q4⟩:=T;refine⟨λg U=>(f g).trans (J g U),l,vs,(f 0).trans q1,q2,P,q4.1,λi e he=>?_⟩;obtain⟨v,t1,t2,t3,t4⟩:=q4.2 i e he;obtain⟨c1,c2⟩:=hc e (L? he);exact⟨v,t1,c1 _ t2,c2 _ t3,t4⟩
 |mit m since seen C=>
  obtain⟨J,l,q1,q2,P⟩:=T;refine⟨λg U=>(f g).trans (J g U),l,(f 0).trans q1,q2, ?_⟩;cases m with
  |none=>exact P
  |some m=>obtain⟨l',q4,q5⟩:=P;exact⟨l',hc l' q4,q5⟩
 |mitU m since bs st =>obtain⟨J,l,l',seen,C,n,q1,q2,P,q4,q5,q6,q7⟩:=T;exact⟨λg U=>(f g).trans (J g U),l,l',seen,C,n,(f 0).trans q1,q2,hc l' P,q4,q5,hm.trans q6,q7⟩
 |sit s p =>obtain⟨J,h2,l,q1,q2,P⟩:=T;exact⟨λg U=>(f g).trans (J g U),h2,l,(f 0).trans q1,q2,P⟩
 |clo fn first caps =>obtain⟨J,a,b,q1,q2,P⟩:=T;exact⟨λg=>(f g).trans (J g),a,b,hc.1 _ q1,hc.2 _ q2,hv.trans P⟩
 |ifc t v =>obtain⟨J,u,q1,q2⟩:=T;exact⟨λg=>(f g).trans (J g),u,hc _ q1,hv.trans q2⟩
 |emp =>obtain⟨J,a,c,q1⟩:=T;exact⟨λg=>(f g).trans (J g),a,c,hv.trans q1⟩
 |dead=>exact λg l q=>T g l ((f g).symm.trans q)
 |res=>exact λg l q=>T g l ((f g).symm.trans q)
 |yld =>obtain⟨J,l,q1,q2,P,r,q4⟩:=T;exact⟨λg U=>(f g).trans (J g U),l,(f 0).trans q1,q2,hv.trans P,r,q4⟩
def acQ (g:φ.le ψ)(f:φ.le R)(T:iY φ w B k o):ai5 ψ R o:=by
 have p:∀{α:Type} {a b c:Option α} {x v:α},a=some x→(a=some x→b=some x)→(a=some x→c=some x)→b=some v→c=some v:=λ{α a b c x v} J h2 h3 h4=>by rw[h2 J]at h4;cases h4;exact h3 J
 cases o with
 |row e s el len gen fz =>intro i hi him c hc v hv;obtain⟨h0,J,hmm,h2,h3⟩:=T;obtain⟨l,q1,⟨r1,r2,arr,fr,r3,r4,r5,r6⟩,q3⟩:=h3 gen (ζ _);obtain⟨s1,s2,s3⟩:=r6 i hi him;obtain⟨j,hj⟩:=w? hc;obtain⟨u,t1,t2⟩:=s3 j c hj;exact p t2 (dV g) (dV f) hv
 |map es clock =>intro e he;obtain⟨J,l,vs,q1,q2,q3,U⟩:=T;obtain⟨i,hi⟩:=w? he;obtain⟨v,t1,t2,t3,t4⟩:=U.2 i e hi;exact⟨λu r=>p t2 (cM g) (cM f) r,λu r=>p t3 (cM g) (cM f) r⟩
 |mit m P seen C=>
  cases m with
  |none=>trivial
  |some m =>obtain⟨J,l,q1,q2,l',U,q5⟩:=T;exact λu r=>p U (g.loc _ _ _) (f.loc _ _ _) r
 |mitU m P bs st =>obtain⟨J,l,l',seen,C,n,q1,q2,q3,U⟩:=T;exact λu r=>p q3 (g.loc _ _ _) (f.loc _ _ _) r
 |clo fn first caps =>obtain⟨J,a,b,q1,q2,q3⟩:=T;exact⟨λu r=>p q1 (cV g) (cV f) r,λu r=>p q2 (cV g) (cV f) r⟩
 |ifc t v =>obtain⟨J,u,q1,q2⟩:=T;exact λu r=>p q1 (cM g) (cM f) r
 |_=>trivial
def oN (K:Pos→Bool):EO→Bool
 |.row _ _ j len _ _=>(List.range len).all λi=>kE K (j.get dch i).cs
 |.map g _=>g.all λe=>kE K e.key.cells&&kE K e.val.cells
 |.clo _ first f=>GT K first&&GT K f
 |.ifc _ u=>kE K u.cells
 |.emp=>true
 |.none=>true
 |.dead=>true
 |_=>false
def Y1 (f:oN K o=true):ai5 ψ (ψ.keep K) o:=by
 cases o with
 |row e s R len J fz =>intro i r p c C v g;simp[oN]at f;have:=f i r;simp[kE]at this;exact GS (this c C) g
 |map P clock =>intro e j;simp[oN]at f;exact⟨λv g=>qL (f e j).1 g,λv g=>qL (f e j).2 g⟩
 |clo fn first l =>simp[oN]at f;exact⟨λv g=>sx f.1 g,λv g=>sx f.2 g⟩
 |ifc t u=>exact λv g=>qL f g
 |mit m _ _ _=>cases f
 |mitU m _ _ _=>cases f
 |sit _ _=>cases f
 |yld=>cases f
 |res=>cases f
 |none=>trivial
 |emp=>trivial
 |dead=>trivial
def cj.forget (hI:Inv B W φ h w)(R:cj B φ h w ψ h' w')(ha:∀k,K k=true→h'' k=h' k)(hb:∀k,K k=false→h'' k = .none∧h k = .none)(hc:∀k,K k=true→h' k=h k∨oN K (h' k)=true):cj B φ h w (ψ.keep K) h'' w':=by
 have r:∀k,K k=true→(∀g,(ψ.keep K).loc k g=ψ.loc k g)∧(ψ.keep K).val k=ψ.val k∧(ψ.keep K).mu k=ψ.mu k:=λk f=>by exact⟨λg=>by simp[Gx.keep,f],by simp[Gx.keep,f],by simp[Gx.keep,f]⟩
 have kf:∀k,K k=false→(∀g,(ψ.keep K).loc k g=none)∧(ψ.keep K).val k=none∧(ψ.keep K).mu k=none:=λk f=>by exact⟨λg=>by simp[Gx.keep,f],by simp[Gx.keep,f],by simp[Gx.keep,f]⟩
 have p:∀k,K k=false→(∀g,φ.loc k g=none)∧φ.val k=none∧φ.mu k=none:=λk f=>hI.free (hb k f).2;have P:φ.le (ψ.keep K):=by
  refine⟨λk g l T=>?_,λk v C=>?_,λk v C=>?_⟩
  ·cases f:K k with
   |true=>rw[(r k f).1 g];exact R.1.loc _ _ _ T
   |false=>rw[(p k f).1 g]at T;cases T
  ·cases f:K k with
   |true=>rw[(r k f).2.1];exact R.1.val _ _ C
   |false=>rw[(p k f).2.1]at C;cases C
  ·cases f:K k with
   |true=>rw[(r k f).2.2];exact R.1.mu _ _ C
   |false=>rw[(p k f).2.2]at C;cases C
 refine⟨P,λW' hW=>?_,λk f=>?_⟩
 ·have J:=R.2.1 W' hW;refine⟨J.below,J.kp,hW.le.trans P,λk f=>?_,J.size,λk=>?_,λk g l k' g' l' h1 h2 e=>?_⟩
  ·cases j:K k with
   |false=>rw[(hb k j).1]at f;cases f
   |true =>rw[ha k j]at f;obtain⟨z1,z2,z3,z4⟩:=J.res k f;obtain⟨U,t2,t3⟩:=r k j;exact⟨λg=>(U g).trans (z1 g),t2.trans z2,t3.trans z3,λg l T=>z4 g l ((U g).symm.trans T)⟩
  ·cases j:K k with
   |false =>rw[(hb k j).1];exact kf k j
   |true=>
    rw[ha k j];obtain⟨U,t2,t3⟩:=r k j;refine(J.obj k).less U t2 t3 ?_;obtain e|e:=hc k j
    ·rw[e];exact acQ R.1 P (hW.obj k)
    ·exact Y1 e
  ·refine J.sep k g l k' g' l' ?_ ?_ e
   ·cases j:K k with
    |true=>rw[(r k j).1 g]at h1;exact h1
    |false=>rw[(kf k j).1 g]at h1;cases h1
   ·cases j:K k' with
    |true=>rw[(r k' j).1 g']at h2;exact h2
    |false=>rw[(kf k' j).1 g']at h2;cases h2
 ·cases j:K k with
  |false=>rw[(hb k j).2];rfl
  |true=>rw[ha k j]at f;exact R.2.2 k f
end
variable [SymVal]
structure Ent where
 f:FuncId
 args:List TV
 N:Pos
 L:DM
 v:TV
 d:DM
 n:Pos
def XK (a b:PV):Bool:=WN (.pv a) (.pv b)
def U7:List PV→List PV→Bool
 |[],[]=>true
 |a::l,b::m=>bif XK a b then U7 l m else false
 |_,_=>false
def ZR:TV→TV→Bool
 |.pv a,.pv b=>XK a b
 |.tup l,.tup m=>U7 l m
 |_,_=>false
def NL:List TV→List TV→Bool
 |[],[]=>true
 |a::l,b::m=>bif ZR a b then NL l m else false
 |_,_=>false
def ajQ:Fz→Fz→Bool
 |.no,.no=>true
 |.out,.out=>true
 |.yes,.yes=>true
 |_,_=>false
def aaN:PT Ch→PT Ch→Bool
 |.leaf,.leaf=>true
 |.node l a r,.node j f g=>bif Km a.cs f.cs&&Nat.beq a.m f.m then(bif aaN l j then aaN r g else false)else false
 |_,_=>false
def Vq:List ME→List ME→Bool
 |[],[]=>true
 |a::l,b::m=>bif XK a.key b.key&&XK a.val b.val&&Nat.beq a.born b.born then Vq l m else false
 |_,_=>false
def YR:EO→EO→Bool
 |.row e s T len j fz,.row U P r f g l=>Nat.beq e U&&Nat.beq s P&&aaN T r&&Nat.beq len f&&Nat.beq j g&&ajQ fz l
 |.map R c,.map p c'=>Vq R p&&Nat.beq c c'
 |.ifc t u,.ifc J C=>Nat.beq t J&&XK u C
 |.emp,.emp=>true
 |_,_=>false
def abj (h:Pos→EO):DM→(Pos→Pos)→Bool
 |.leaf,_=>true
 |.node l a r,c=>(match a with
   |none=>true
   |some o=>YR (h (c .e)) o)&&abj h l (λp=>c (.o p))&&abj h r (λp=>c (.i p))
def ZW (N:Nat):DM→Nat→Nat→Bool
 |.leaf,_,_=>true
 |.node l a r,v,w=>(match a with
   |none=>true
   |some o=>match o with
    |.none=>true
    |_=>Nat.blt v N)&&ZW N l (Nat.add v w) (Nat.mul 2 w)&&ZW N r (Nat.add v (Nat.mul 2 w)) (Nat.mul 2 w)
def WT (N:Nat):HP→Bool
 |.nil=>true
 |.ov b d=>ZW N d 0 1&&WT N b
 |.cut b n=>match Nat.ble n.num N with
  |true=>true
  |false=>WT N b
def agd (N:Nat)(a g:Option EO)(v:Nat):Bool:=match g with
 |some f=>match a with
  |some o=>YR o f
  |none=>false
 |none=>match a with
  |some _=>Nat.ble N v
  |none=>true
def Ix (N:Nat):DM→DM→Nat→Nat→Bool
 |.leaf,t,_,_=>match t with
  |.leaf=>true
  |.node _ _ _=>false
 |.node l a r,t,v,w=>match t with
  |.leaf=>agd N a none v&&Ix N l .leaf (Nat.add v w) (Nat.mul 2 w)&&Ix N r .leaf (Nat.add v (Nat.mul 2 w)) (Nat.mul 2 w)
  |.node g j f=>agd N a j v&&Ix N l g (Nat.add v w) (Nat.mul 2 w)&&Ix N r f (Nat.add v (Nat.mul 2 w)) (Nat.mul 2 w)
def adJ (f:EO→Bool):DM→Bool
 |.leaf=>true
 |.node l a r=>(match a with
   |none=>true
   |some o=>f o)&&adJ f l&&adJ f r
def GU (e:Ent)(k:Pos):Bool:=Nat.blt k.num e.N.num||(match PM.get none e.d k with|some _=>true|none=>false)
def ac2 (e:Ent)(v:TV)(d:DM)(n:Pos):Bool:=ZR v e.v&&n.beq e.n&&Ix e.N.num d e.d 0 1&&adJ (oN (GU e)) e.d&&agZ (GU e) e.v
def aaA (T:Tb)(g:FuncId→Option Fi)(C j:Nat)(e:Ent)(r:HP):Bool:=RC.rec (motive:=λ_=>Bool) false (λv d n=>ac2 e v d n) (mkR T g C j noY (.ov (.cut r e.N) e.L) (.fn e.f) e.args .leaf e.N)
def bR (t:Bool)(a:RC):RC:=Bool.rec (motive:=λ_=>RC) .no a t
def ajv (e:Ent):Tb:=λf b args d n=>bR (Nat.beq f e.f) (bR (n.beq e.N) (bR (NL args e.args) (bR (abj (hG (.ov b d)) e.L id) (bR (WT e.N.num (.ov b d)) (.ok e.v (mD e.d d) e.n)))))
def EY (e:Ent)(T:Tb):Tb:=λf b args d n=>LQ (ajv e f b args d n) (T f b args d n)
def zO {a b:PV}(h:XK a b=true):a=b:=by have:=K0 (a :=.pv a) (b :=.pv b) h;injection this
def OQ:∀{l m:List PV},U7 l m=true→l=m
 |[],[],_=>rfl
 |a::l,b::m,h=>by
  simp only[U7,o?]at h;split at h
  next h1=>rw[zO h1,OQ h]
  ·cases h
 |[],_::_,h=>by cases h
 |_::_,[],h=>by cases h
def NN {a b:TV}(h:ZR a b=true):a=b:=by
 cases a with
 |unk=>cases b <;> cases h
 |pv a=>cases b with
  |pv b=>rw[zO h]
  |_=>cases h
 |tup a=>cases b with
  |tup b=>rw[OQ h]
  |_=>cases h
def EQ:∀{l m:List TV},NL l m=true→l=m
 |[],[],_=>rfl
 |a::l,b::m,h=>by
  simp only[NL,o?]at h;split at h
  next h1=>rw[NN h1,EQ h]
  ·cases h
 |[],_::_,h=>by cases h
 |_::_,[],h=>by cases h
def LH:∀{a b:PT Ch},aaN a b=true→a=b
 |.leaf,.leaf,_=>rfl
 |.node l a r,.node R J P,h=>by
  simp only[aaN,o?]at h;split at h
  next h1=>
   simp only[η]at h1;split at h
   next h2=>obtain⟨C,m⟩:=a;obtain⟨f,g⟩:=J;have p:C=f:=Bi h1.1;have j:m=g:=κ h1.2;rw[LH h2,LH h,p,j]
   ·cases h
  ·cases h
 |.leaf,.node _ _ _,h=>by cases h
 |.node _ _ _,.leaf,h=>by cases h
def Pt:∀{l m:List ME},Vq l m=true→l=m
 |[],[],_=>rfl
 |a::l,b::m,h=>by
  simp only[Vq,o?]at h;split at h
  next h1=>simp only[η]at h1;obtain⟨k,v,n⟩:=a;obtain⟨j,f,g⟩:=b;have C:k=j:=zO h1.1.1;have r:v=f:=zO h1.1.2;have p:n=g:=κ h1.2;rw[Pt h,C,r,p]
  ·cases h
 |[],_::_,h=>by cases h
 |_::_,[],h=>by cases h
def VT {a b:EO}(h:YR a b=true):a=b:=by
 cases a <;> cases b <;> first|(cases h;done)|skip
 ·simp only[YR,η]at h;obtain⟨⟨⟨⟨⟨l,j⟩,h3⟩,h4⟩,h5⟩,h6⟩:=h;rename_i g _ _ _ _ _ f;have p:g=f:=by cases g <;> cases f <;> first|rfl|cases h6
  rw[κ l,κ j,LH h3,κ h4,κ h5,p]
 ·simp only[YR,η]at h;rw[Pt h.1,κ h.2]
 ·simp only[YR,η]at h;rw[κ h.1,zO h.2]
 ·rfl
def GB {h:Pos→EO}:∀{d:DM} {c:Pos→Pos},abj h d c=true→∀k o,PM.get none d k=some o→h (c k)=o
 |.leaf,_,_,k,o,f=>by cases f
 |.node l a r,c,g,k,o,f=>by
  simp[abj]at g;cases k with
  |e =>have f:a=some o:=f;rw[f]at g;exact VT g.1.1
  |o k=>exact GB g.1.2 k o f
  |i k=>exact GB g.2 k o f
def ET {N:Nat}:∀{d:DM} {v w:Nat},ZW N d v w=true→∀k o,PM.get none d k=some o→o = .none∨v+w*k.num<N
 |.leaf,_,_,_,k,o,f=>by cases f
 |.node l a r,v,w,g,k,o,f=>by
  simp only[ZW,η]at g;cases k with
  |e=>
   have f:a=some o:=f;rw[f]at g;cases o with
   |none=>exact .inl rfl
   |_=>exact .inr (by have:=cw.1 g.1.1;simpa[Pos.num]using this)
  |o k=>
   obtain q|q:=ET g.1.2 k o f
   ·exact .inl q
   ·refine .inr ?_;have p:Nat.add v w=v+w:=rfl;have j:Nat.mul 2 w=2*w:=rfl;rw[p,j]at q;simp[Pos.num];have:w*(2*k.num+1)=w+2*w*k.num:=by rw[alH,Nat.mul_one,←Nat.mul_assoc,akm w 2,akn]
    omega
  |i k=>
   obtain q|q:=ET g.2 k o f
   ·exact .inl q
   ·refine .inr ?_;have p:Nat.add v (Nat.mul 2 w)=v+2*w:=rfl;have j:Nat.mul 2 w=2*w:=rfl;rw[p,j]at q;simp[Pos.num];have:w*(2*k.num+2)=2*w+2*w*k.num:=by rw[alH,←Nat.mul_assoc,akm w 2,akn]
    omega
def zj {N:Nat}:∀{b:HP},WT N b=true→∀k:Pos,N≤k.num→b.get k = .none
 |.nil,_,_,_=>rfl
 |.ov b d,f,k,g=>by
  simp[WT]at f;simp[HP.get];cases j:PM.get none d k with
  |none=>exact zj f.2 k g
  |some o=>
   obtain q|q:=ET f.1 k o j
   ·exact q
   ·omega
 |.cut b n,f,k,g=>by
  simp[HP.get];split
  next hlt=>
   simp[WT]at f;split at f
   next hle=>have p:=cw.1 hlt;have l:=br.1 hle;omega
   ·exact zj (b:=b) f k g
  ·rfl
def agc {N:Nat}{a f:Option EO}{v:Nat}(h:agd N a f v=true):f=a∨(f=none∧N≤v):=by
 cases f with
 |some g=>cases a with
  |some o=>exact .inl (by rw[VT h])
  |none=>cases h
 |none=>cases a with
  |some o=>exact .inr ⟨rfl,br.1 h⟩
  |none=>exact .inl rfl
def HD {N:Nat}:∀{d t:DM} {v w:Nat},Ix N d t v w=true→∀k,PM.get none t k=PM.get none d k∨(PM.get none t k=none∧N≤v+w*k.num)
 |.leaf,t,v,w,f,k=>by
  cases t with
  |leaf=>exact .inl rfl
  |node _ _ _=>cases f
 |.node l a r,t,v,w,f,k=>by
  have C:∀(j g:DM) (p:Option EO),agd N a p v=true→Ix N l j (Nat.add v w) (Nat.mul 2 w)=true→Ix N r g (Nat.add v (Nat.mul 2 w)) (Nat.mul 2 w)=true→PM.get none (.node j p g) k=PM.get none (.node l a r) k∨(PM.get none (.node j p g) k=none∧N≤v+w*k.num):=λj g p U T R=>by
   cases k with
   |e=>
    obtain q|q:=agc U
    ·exact .inl q
    ·exact .inr ⟨q.1,by simpa[Pos.num]using q.2⟩
   |o k=>
    obtain q|q:=HD T k
    ·exact .inl q
    ·refine .inr ⟨q.1, ?_⟩;have q:=q.2;have P:Nat.add v w=v+w:=rfl;have J:Nat.mul 2 w=2*w:=rfl;rw[P,J]at q;simp[Pos.num];have:w*(2*k.num+1)=w+2*w*k.num:=by rw[alH,Nat.mul_one,←Nat.mul_assoc,akm w 2,akn]
     omega
   |i k=>
    obtain q|q:=HD R k
    ·exact .inl q
    ·refine .inr ⟨q.1, ?_⟩;have q:=q.2;have P:Nat.add v (Nat.mul 2 w)=v+2*w:=rfl;have J:Nat.mul 2 w=2*w:=rfl;rw[P,J]at q;simp[Pos.num];have:w*(2*k.num+2)=2*w+2*w*k.num:=by rw[alH,←Nat.mul_assoc,akm w 2,akn]
     omega
  cases t with
  |leaf=>
   simp[Ix]at f;have:=C .leaf .leaf none f.1.1 f.1.2 f.2;have e:PM.get none (.node .leaf none .leaf:DM) k=PM.get none (.leaf:DM) k:=by cases k <;> rfl
   rw[e]at this;exact this
  |node j p g =>simp[Ix]at f;exact C j g p f.1.1 f.1.2 f.2
def HX {f:EO→Bool}:∀{d:DM},adJ f d=true→∀k o,PM.get none d k=some o→f o=true
 |.leaf,_,k,o,g=>by cases g
 |.node l a r,j,k,o,g=>by
  simp[adJ]at j;cases k with
  |e =>have g:a=some o:=g;rw[g]at j;exact j.1.1
  |o k=>exact HX j.1.2 k o g
  |i k=>exact HX j.2 k o g
def xW {t:Bool}{a:RC}{v:TV}{d:DM}{n:Pos}(h:bR t a = .ok v d n):t=true∧a = .ok v d n:=by
 cases t with
 |true=>exact⟨rfl,h⟩
 |false=>cases h
section
variable {P:Program}{Gl:Glt}{B:Nat}{W:W0}{φ φ0 ψ:Gx}{h h0:Pos→EO}{w w0:World}
def ad3 (T:Tb):Ck:=λb t args d n=>match t with
 |.fn f=>T f b args d n
 |.yld _=>.no
def yQ (P:Program)(Gl:Glt)(T:Tb):Prop:=∀B f,ta P Gl B (ad3 T) f
def gk:yQ P Gl S7:=λB f b t args d n v U g h=>by cases t <;> cases h
variable{C:Nat}
def JC (hm:P.follows .mixedOrders=true){T:Tb}(htb:yQ P Gl T):∀(dp:Nat) (yk:Yk) (R:List Lq),Rp P Gl B yk R→ta P Gl B (mkT T (jm P Gl) C dp yk) R:=by
 intro dp;induction dp with
 |zero=>
  intro yk R J b t args d n v U n' g;cases t with
  |yld j=>exact J b j args d n v U n' g
  |fn f=>cases g
 |succ dp ih=>
  intro yk R J b t args d n v U n' g;cases t with
  |yld j=>exact J b j args d n v U n' g
  |fn f=>
   simp[mkT]at g;cases r:T f b args d n with
   |ok v1 d1 n1 =>rw[r]at g;exact htb B R b (.fn f) args d n v U n' (r.trans g)
   |no=>
   rw[r]at g;simp[LQ]at g;intro W φ w hG hI vs hr hcx;split at g
   ·rename_i x hx;obtain⟨fn,c,rs,f1,f2,f3,f4,rfl⟩:=J7 hx;simp only at g;split at g
    ·rename_i hle;have hle:=br.1 hle;have hlen:=hr.len;refine⟨⟨fn,f1,by simp[f2],f3⟩, ?_⟩;unfold XC at g;split at g
     ·rename_i X e1 d1 n1 hex;have hsz:(vs.toArray++Array.replicate (fn.ntmps-vs.toArray.size) undef).size=fn.ntmps:=by
       simp;omega
      have ckok:CkOk P Gl B (Iz (mkT T (jm P Gl) C dp) yk) R:=⟨ih yk R J,λyk' Γ' h=>ih yk' Γ' h⟩;refine callsIn_wide.1 (callsIn_of_wp_marks (F:=RF none) (n:=0) f1 f2 trivial (wpIn_mono ((jn hm ckok c).1 none 0 w.heap.size W φ _ w hI hG hcx (λl hl=>by cases hl) (.inl rfl) (ζ _) b (pm args .e .leaf) d n _ w X e1 d1 n1 hex ⟨⟨φ,cj.refl,lI hr _⟩,hsz,[],rfl,akj,λD hD=>by cases hD⟩) λex a w' hn=>?_));have fin:(∀id,X ≠ .exit id)→Rl B w.heap.size φ (HP.ov b d).get w fn.ntmps e1 (HP.ov b d1).get a w'→LeavesInM (RF none) 0 P fn a.tmps (IE B φ (HP.ov b d).get w (HP.ov b U).get v) a.defers .returning w':=λhX p=>by
       obtain⟨ψ,hs,hE⟩:=p.ex;obtain⟨ms,m1,m2,m3⟩:=p.df;have hres:∃l,eu e1 (HP.ov b d1).get rs=some l∧v=oF l∧U=d1:=by
        split at g
        ·exact(hX _ rfl).elim
        ·split at g
         next l hl=>injection g with y1 y2 y3;exact⟨l,hl,y1.symm,y2.symm⟩
         ·cases g
       obtain⟨l,hl,rfl,rfl⟩:=hres;rw[m1];refine dy hI ms w' hs m2 m3 λw2 hs2=>?_;obtain⟨u,r1,r2⟩:=dY (hs2.2.1 _ hI) hE f4 hl;exact⟨u,r1,u,ψ,rfl,hs2,r2⟩
      cases ex with
      |normal=>obtain⟨rfl,p⟩:=hn;exact fin (λid e=>by cases e) p
      |ret=>obtain⟨rfl,p⟩:=hn;exact fin (λid e=>by cases e) p
      |exit id=>obtain⟨rfl,_⟩:=hn;cases g
      |goto l=>exact hn.elim
      |panic ch=>exact hn.elim
      |outgrown=>exact hn.elim
     ·cases g
    ·cases g
   ·cases g
def ak (P:Program)(Gl:Glt)(T:Tb)(C f:Nat)(e:Ent):Prop:=∀r,aaA T (jm P Gl) C f e r=true
def aa7 {f:List Lq}:Rp P Gl B noY f:=λb j args d n v U g h=>by cases h
def BN (hm:P.follows .mixedOrders=true){T tb':Tb}(htb:yQ P Gl T){dp:Nat}{e:Ent}(he:ak P Gl T C dp e)(htb':yQ P Gl tb'):yQ P Gl (EY e tb'):=by
 intro B Γ b t args d n v U n' g;cases t with
 |yld j=>cases g
 |fn f=>
  simp[ad3,EY]at g;cases p:ajv e f b args d n with
  |no =>rw[p]at g;exact htb' B Γ b (.fn f) args d n v U n' g
  |ok v0 d0 n0=>
   rw[p]at g;simp only[LQ]at g;injection g with c1 c2 c3;subst c1;subst c2;subst c3;obtain⟨k1,p⟩:=xW p;obtain⟨k2,p⟩:=xW p;obtain⟨k3,p⟩:=xW p;obtain⟨k4,p⟩:=xW p;obtain⟨k5,p⟩:=xW p;injection p with g1 g2 g3;have ef:=κ k1;have en:=Pos.beq_iff.1 k2;have ea:=EQ k3;subst ef;subst en;subst ea;intro W φ w hGl hI vs hr hcx;have l:=he (.ov b d);unfold aaA at l;cases R:mkR T (jm P Gl) C dp noY (.ov (.cut (.ov b d) e.N) e.L) (.fn e.f) e.args .leaf e.N with
   |no=>rw[R]at l;cases l
   |ok v1 d1 n1=>
    rw[R]at l;simp[ac2]at l;obtain⟨⟨⟨⟨r1,r2⟩,r3⟩,r4⟩,r5⟩:=l;have ev:=NN r1;subst ev;rw[Tf]at R;have hG':hG (.ov b d)=(HP.ov b d).get:=funext λk=>AS _ k;rw[hG']at k4;have J:(HP.ov (.cut (.ov b d) e.N) e.L).get=(HP.ov b d).get:=by
     funext k;show(match PM.get none e.L k with|some o=>o|none=>(HP.cut (.ov b d) e.N).get k)=_;cases hl:PM.get none e.L k with
     |some o=>exact(GB k4 k o hl).symm
     |none=>
      show(match Nat.blt k.num e.N.num with|true=>(HP.ov b d).get k|false=>.none)=_;cases hb:Nat.blt k.num e.N.num with
      |true=>rfl
      |false=>
       refine(zj k5 k ?_).symm;exact alC λq=>by rw[cw.2 q]at hb;cases hb
    have h0:(HP.ov (.ov (.cut (.ov b d) e.N) e.L) .leaf).get=(HP.ov b d).get:=by rw[←J];funext k;rfl
    have call:=JC (B:=B) hm htb dp noY Γ aa7 _ _ _ _ _ _ _ _ R W φ w hGl (by rw[h0];exact hI) vs hr hcx;rw[h0]at call;refine⟨call.1,call.2.mono ?_⟩;rintro x w' ⟨u,ψ,rfl,hs,hru⟩;have hd1:∀k,(HP.ov (.ov (.cut (.ov b d) e.N) e.L) d1).get k=match PM.get none d1 k with|some o=>o|none=>(HP.ov b d).get k:=λk=>by show(match PM.get none d1 k with|some o=>o|none=>(HP.ov (.cut (.ov b d) e.N) e.L).get k)=_;rw[J]
    have hd2:∀k,(HP.ov b d0).get k=match PM.get none e.d k with|some o=>o|none=>(HP.ov b d).get k:=λk=>by rw[←g2,HP.get_merge];rfl
    have kf:∀k,GU e k=false→e.N.num≤k.num∧PM.get none e.d k=none:=λk r=>by
     simp[GU]at r;have hk1:=r.1;refine⟨alC λq=>(by rw[cw.2 q]at hk1;cases hk1), ?_⟩;have:=r.2;cases hp:PM.get none e.d k with
     |none=>rfl
     |some o=>rw[hp]at this;cases this
    have same:∀k,GU e k=true→PM.get none e.d k=PM.get none d1 k:=λk r=>by
     obtain q|⟨q1,q2⟩:=HD r3 k
     ·exact q
     ·exfalso;simp only[GU,q1,Bool.or_false]at r;have:=cw.1 r;omega
    refine⟨u,ψ.keep (GU e),rfl,cj.forget hI hs (λk r=>?_) (λk r=>?_) (λk r=>?_), ?_⟩
    ·rw[hd1,hd2,same k r]
    ·obtain⟨q1,q2⟩:=kf k r;have:=zj k5 k q1;refine⟨?_,this⟩;rw[hd2,q2];exact this
    ·rw[hd1];cases hp:PM.get none d1 k with
     |none=>exact .inl rfl
     |some o =>refine .inr (HX r4 k o ?_);rw[same k r,hp]
    ·rw[←g1];exact afn r5 hru
end
variable [SymVal]
variable{B:Nat}{φ:Gx}{h:Pos→EO}{w:World}{P:Program}{Gl:Glt}{f:FuncId}{as:List TV}{v:TV}{T:Tb}{vs:List Value}{U :DM}{n' :Pos}{W:W0}{e:TypeId}{l:List (List CV)}{St:Abs.Sb}
def Inv.grown {R:W0}{w' :World}(f:Inv B R φ h w)(j:w.grownBy w' none)(J:dz w≤dz w'):Inv B R φ h w':=by
 have p:∀b,b<w.heap.size→w'.heap[b]? = w.heap[b]?:=λb P=>j.block b P Ψ;refine⟨f.below.trans ⟨j.os,j.tape,j.output,j.size,λb P=>p b (g_ P f.size)⟩,f.kp.trans ⟨J,λk o C ho=>?_⟩,f.le,λk C=>?_,ν f.size j.size,λk=>(f.obj k).keep (Gx.le.refl φ) (λ_=>rfl) rfl rfl (λg l r=>p _ (f.lt r)),f.sep⟩
 ·rw[p k (δ.1 C).1];exact C
 ·obtain⟨r1,r2,U,T⟩:=f.res k C;exact⟨r1,r2,U,λg l r=>(p _ (f.lt r)).trans (T g l r)⟩
def cj.grown {B:Nat}{φ:Gx}{h:Pos→EO}{w w':World}(g:w.grownBy w' none)(f:dz w≤dz w'):cj B φ h w φ h w':=⟨Gx.le.refl φ,λ_ j=>j.grown g f,λ_ h=>h⟩
def ajb (f:FuncId)(as:List TV)(v:TV):Tb:=λg _ args d n=>bR (Nat.beq g f) (bR (NL args as) (.ok v d n))
def zm (f:FuncId)(as:List TV)(v:TV)(T:Tb):Tb:=λg b args d n=>LQ (ajb f as v g b args d n) (T g b args d n)
def RK 
  (h:∀(φ:Gx) (vs:List Value) (w:World),SymVal.fact w→RTs φ as vs→bx P f∧Calls P f vs.toArray w λe r=>∃u,e = .returned u∧RT φ v u∧w.grownBy r none∧dz w≤dz r) (C:yQ P Gl T):yQ P Gl (zm f as v T):=by
 intro B R b t args d n v' U n' l;cases t with
 |yld j=>cases l
 |fn g=>
  simp[ad3,zm]at l;cases p:ajb f as v g b args d n with
  |no =>rw[p]at l;exact C B R b (.fn g) args d n v' U n' l
  |ok v0 d0 n0 =>rw[p]at l;simp only[LQ]at l;injection l with c1 c2 c3;subst c1;subst c2;subst c3;obtain⟨k1,p⟩:=xW p;obtain⟨k2,p⟩:=xW p;injection p with g1 g2 g3;have ef:=κ k1;have ea:=EQ k2;subst ef;subst ea;subst g1;subst g2;subst g3;intro W φ w J hI vs hr hcx;obtain⟨q1,q2⟩:=h φ vs w (J.2 w hI.below) hr;refine⟨q1,q2.mono ?_⟩;rintro e r ⟨u,rfl,r1,r2,r3⟩;exact⟨u,φ,rfl,cj.grown r2 r3,r1⟩
def Iy (hm:P.follows .mixedOrders=true)(r:yQ P Gl T){C dp:Nat}(p:RTs φN as vs)(g:mkR T (jm P Gl) C dp noY .nil (.fn f) as .leaf .e = .ok v U n'):∀w,sZ Gl P w.heap.size ⟨w,φN⟩→bx P f∧Calls P f vs.toArray w λe R=>∃u l,e = .returned u∧Inv w.heap.size ⟨w,φN⟩ l (HP.ov .nil U).get R∧RT l v u:=by rw[Tf]at g;intro w J;obtain⟨j,hc⟩:=JC (B:=w.heap.size) hm r dp noY [] aa7 _ _ _ _ _ _ _ _ g ⟨w,φN⟩ φN w J (ajs w) vs p (λq hq=>by cases hq);refine⟨j,hc.mono ?_⟩;rintro e R ⟨u,l,rfl,hs,hr⟩;exact⟨u,l,rfl,hs.2.1 _ (ajs w),hr⟩
def aep (n:Nat):RTs φN [.pv (.one (.sym n))] [SymVal.v n]:=⟨rfl,apj⟩
variable [SymVal]
def Inv.made {T :World}(U:Inv B W φ h w){k:Pos}(hk:h k = .none){s g cap:Nat}{p:Array Value}(hs:0<s)(hl:∀a∈l,a.length=s)(hd:aU φ l.flatten=some vs)
  (P:w.grownBy T none) (hdr:dz w≤dz T) (hg:w.heap.size≤g) (hc:T.heap[g]? = some (.cells p e (0,0))) (hn:l.length≤cap) (hcs:p.size=cap*s) (ht:p.toList.take (l.length*s)=vs) (h32:l.length+2≤2^32) :
  φ.le (φ.add k ⟨g,cap,s⟩)∧Inv B W (φ.add k ⟨g,cap,s⟩) (upd h k (newRow e s l l.length)) T:=by
 have C:=U.le_add hk ⟨g,cap,s⟩;have r:=λj=>pe (m:=0) (l:=l) (el :=.leaf) (i:=0) Ω j;refine⟨C,U.turn C (λq hq=>⟨λg=>by simp[Gx.add,Θ hq],rfl,rfl⟩) (λg' m f=>?_) (λb hlt _=>P.block b hlt Ψ) (λg m f=>by rw[(U.free hk).1 g]at f;cases f) P.os P.tape P.output P.size hdr ?_ rfl⟩
 ·refine .inr ?_;simp only[Gx.add,j?]at f;split at f
  ·injection f with f;rw[←f];exact hg
  ·cases f
 ·refine⟨hs,h32,λi hi=>?_,λg' hg'=>?_,λg' hg'=>⟨⟨g,cap,s⟩, ?_,⟨ν U.size hg,rfl,p,(0,0),hc,hcs,rfl,λi hi _=>⟨by show i<cap;omega, ?_⟩⟩,λ_=>hn⟩⟩
  ·rw[r,akA Ω];exact ζ _
  ·simp only[Gx.add,j?];rw[Θ Ω]
  ·obtain rfl:g'=0:=Ω
   exact Gx.add_self _ _ _
  ·rw[r,akA Ω];have J:l[i-0]'Ω∈l:=a_ _;refine⟨hl _ J,λj c hj=>?_⟩;have hj:(l[i-0]'Ω)[j]? = some c:=hj;obtain⟨v,R,z2⟩:=nr hd (uO hl (i:=i-0) (ε Ω) hj);rw[akR]at R;refine⟨v, ?_,dV C z2⟩;rw[←ht]at R;rw[←Array.getElem?_toList];have z2:=(f_.1 R).1;rw[p_]at z2;rwa[akq Ω]at R
def aje (f:FuncId)(ok:HP→List TV→DM→Bool)(e:TypeId)(s:Nat)(l:List (List CV)):Tb:=λg b args d n=>
 bR (Nat.beq g f) (bR (ok b args d) (bR (bw true (hG (.ov b d)) n) (.ok (.pv (.one (.sl n 0 0 l.length none))) (fP d n (newRow e s l l.length)) n.succ)))
def DT (f:FuncId)(ok:HP→List TV→DM→Bool)(e:TypeId)(s:Nat)(l:List (List CV))(T:Tb):Tb:=λg b args d n=>LQ (aje f ok e s l g b args d n) (T g b args d n)
def Fp {ok:HP→List TV→DM→Bool}{s:Nat}{cs:List Value}(hs:0<s)(hl:∀a∈l,a.length=s)(hne:l≠[])(h32:l.length+2≤2^32)(hd:∀φ,aU φ l.flatten=some cs)
  (h:∀(B:Nat) (W:W0) (φ:Gx) (b:HP) (d:DM) (args:List TV) (vs:List Value) (w:World),ok b args d=true→Inv B W φ (HP.ov b d).get w→RTs φ args vs →
   bx P f∧Calls P f vs.toArray w λe' J=>∃v,e' = .returned v∧Below w.heap.size w J∧dz w≤dz J∧J.ownsRow w.heap.size e s v l.length cs) (htb:yQ P Gl T):yQ P Gl (DT f ok e s l T):=by
 intro B Γ b t args d n v' U n' p;cases t with
 |yld j=>cases p
 |fn g=>
  simp[ad3,DT]at p;cases C:aje f ok e s l g b args d n with
  |no =>rw[C]at p;exact htb B Γ b (.fn g) args d n v' U n' p
  |ok v0 d0 n0=>
   rw[C]at p;simp only[LQ]at p;injection p with c1 c2 c3;subst c1;subst c2;subst c3;obtain⟨k1,C⟩:=xW C;obtain⟨k2,C⟩:=xW C;obtain⟨k3,C⟩:=xW C;injection C with g1 g2 g3;have ef:=κ k1;subst ef;subst g1;subst g2;subst g3;have r:(HP.ov b d).get n = .none:=by
    simp only[bw,AS]at k3;split at k3
    ·assumption
    ·cases k3
   intro W φ w hGl hI vs hr hcx;obtain⟨q1,q2⟩:=h B W φ b d args vs w k2 hI hr;refine⟨q1,q2.mono ?_⟩;rintro e' J ⟨u,rfl,r1,r2,r3⟩;have hb:w.grownBy J none:=⟨r1.os,r1.tape,r1.output,r1.size,λk R _=>r1.block k R⟩;rcases r3.2 with⟨_,h0⟩|⟨gb,cap,cur,rfl,p1,p2,p3,p4,p5,p6⟩
   ·exact(hne (Q' h0)).elim
   ·refine⟨_,φ.add n ⟨gb,cap,s⟩,rfl,⟨hI.le_add r _,λW' hW=>?_,λk R=>?_⟩, ?_⟩
    ·have:=(hW.made r hs hl (hd φ) hb r2 p1 p2 p3 p5 p6 h32).2;rwa[HP.get_set]
    ·rw[HP.get_set]at R;by_cases ek:n=k
     ·subst ek;exact r ▸ rfl
     ·rwa[bz _ _ ek]at R
    ·show den _ (.sl n 0 0 l.length none)=_;have hc:Bo none l.length cap 0=true:=br.2 Ω;simp[den,Gx.add_self,hc,iX]
open Go.Proofs.YtfgpipfjalmooaaGreat.Abs (Ty D Sb Rep RepV toD chain)
variable [SymVal]
def EG:Ty→Nat
 |.unit=>0
 |.cons a b=>EG a+EG b
 |_=>1
def agE {j g:Type}(f:j→g→Bool):List j→List g→Bool
 |[],[]=>true
 |a::l,b::m=>f a b&&agE f l m
 |_,_=>false
def chk (h:Pos→EO):(t:Ty)→t.den→List CV→Bool
 |.int k,n,[.int k' m]=>decide (k'=k)&&decide (m=n)
 |.bool,b,[.bl c]=>c == b
 |.str,s,[.str l]=>cE l&&decide (l.map UInt8.ofNat=s)
 |.slice _,l,[.nils]=>l.isEmpty
 |.slice _,l,[.emp _]=>l.isEmpty
 |.slice t,l,[.sl k g off len cap]=>Nat.beq len l.length&&(match cap with|none=>true|some c=>Nat.ble len c)&&(match h k with
  |.row _ s _ _ _ _=>match rW (h k) g s len off with
   |some rows=>agE (chk h t) l rows
   |none=>false
  |_=>false)
 |.unit,_,[]=>true
 |.cons a b,x,f=>chk h a x.1 (f.take (EG a))&&chk h b x.2 (f.drop (EG a))
 |_,_,_=>false
def yH {φ:Gx}:∀{l m:List CV} {vs:List Value},aU φ (l++m)=some vs→∃a b,vs=a++b∧aU φ l=some a∧aU φ m=some b
 |[],m,vs,h=>⟨[],vs,rfl,rfl,h⟩
 |c::l,m,vs,h=>by obtain⟨v,ws,rfl,p,j⟩:=bQ (l:=l++m) h;obtain⟨a,b,rfl,g,f⟩:=yH j;exact⟨v::a,b,rfl,by simp[aU,p,g],f⟩
def Uh {c:CV}(h:aU φ [c]=some vs):∃v,vs=[v]∧den φ c=some v:=by obtain⟨v,ws,rfl,g,f⟩:=bQ h;simp[aU]at f;exact⟨v,by rw[←f],g⟩
def Ks {φ:Gx}{h:Pos→EO}{w:World}{St:Abs.Sb}{t:Ty}(g:∀(x:t.den) (j:List CV) (vs:List Value),chk h t x j=true→aU φ j=some vs→Rep w St (toD t x) vs) :
  ∀(l:List t.den) (rows:List (List CV)) (vs:List Value),agE (chk h t) l rows=true→aU φ rows.flatten=some vs→Rep w St (chain (toD t) l) vs
 |[],[],vs,_,hd=>by cases hd;rfl
 |x::l,r::rows,vs,f,hd=>by simp[agE]at f;rw[L_]at hd;obtain⟨a,b,rfl,C,p⟩:=yH hd;exact⟨a,b,rfl,g x r a f.1 C,Ks g l rows b f.2 p⟩
 |[],_::_,_,f,_=>by cases f
 |_::_,[],_,f,_=>by cases f
def MU (hI:Inv B W φ h w)(hSt:∀k g l,φ.loc k g=some l→∀o,St l.b o):∀(t:Ty) (x:t.den) (p:List CV) (vs:List Value),chk h t x p=true→aU φ p=some vs→Rep w St (toD t x) vs:=by
 intro t;induction t with
 |int k=>
  intro x p vs f C;obtain _|⟨c,_|⟨c2,r⟩⟩:=p
  ·cases f
  ·cases c <;> first|(cases f;done)|skip
   rename_i k' m;simp only[chk,η,Δ]at f;obtain⟨rfl,rfl⟩:=f;obtain⟨v,rfl,q⟩:=Uh C;cases q;exact⟨rfl,rfl⟩
  ·cases c <;> cases f
 |bool=>
  intro x p vs f C;obtain _|⟨c,_|⟨c2,r⟩⟩:=p
  ·cases f
  ·cases c <;> first|(cases f;done)|skip
   simp only[chk,M_]at f;subst f;obtain⟨v,rfl,q⟩:=Uh C;cases q;exact⟨rfl,rfl⟩
  ·cases c <;> cases f
 |str=>
  intro x p vs f C;obtain _|⟨c,_|⟨c2,r⟩⟩:=p
  ·cases f
  ·cases c <;> first|(cases f;done)|skip
   simp[chk]at f;obtain⟨P,rfl⟩:=f;obtain⟨v,rfl,q⟩:=Uh C;simp only[den,P,j?,ι]at q;subst q;exact⟨rfl,rfl⟩
  ·cases c <;> cases f
 |unit=>
  intro x p vs f C;obtain _|⟨c,r⟩:=p
  ·simp only[aU,ι]at C;subst C;rfl
  ·cases f
 |cons a b iha U=>
  intro x p vs f C;have f:chk h a x.1 (p.take (EG a))=true∧chk h b x.2 (p.drop (EG a))=true:=by unfold chk at f;simpa using f
  rw[←List.take_append_drop (EG a) p]at C;obtain⟨u,v,rfl,P,h2⟩:=yH C;exact⟨u,v,rfl,iha _ _ _ f.1 P,U _ _ _ f.2 h2⟩
 |slice t ih=>
  intro x p vs f C;obtain _|⟨c,_|⟨c2,r⟩⟩:=p
  ·cases f
  ·cases c <;> first|(cases f;done)|skip
   ·simp only[chk,List.isEmpty_iff]at f;subst f;obtain⟨v,rfl,q⟩:=Uh C;simp only[den,ι]at q;subst q;exact⟨none,0,0,rfl,rfl,ζ _,.inl rfl⟩
   ·rename_i k g R len cap;simp only[chk,η]at f;obtain⟨⟨P,h2⟩,h3⟩:=f;have P:=κ P;obtain⟨v,rfl,q⟩:=Uh C;simp only[den]at q;split at q
    ·rename_i lc hl;split at q
     ·rename_i T;simp only[ι]at q;subst q;split at h3
      ·rename_i e s el ln gn fz hk;split at h3
       ·rename_i rows J;obtain⟨r1,r2,ds,r3,r4⟩:=hI.rds hl J;refine⟨some ⟨lc.b,R,none⟩,len,_,rfl,P.trans (Abs.len_chain _ _).symm, ?_,.inr ⟨⟨lc.b,R,none⟩,ds,rfl,rfl,Ks ih x rows ds h3 r3,λj u hu=>⟨r4 j u hu,hSt _ _ _ hl _⟩⟩⟩;cases cap with
        |none=>simp only[Bo,br]at T;simp only[iX];omega
        |some c=>exact N_ h2
       ·cases h3
      ·cases h3
     ·cases q
    ·cases q
   ·simp only[chk,List.isEmpty_iff]at f;subst f;obtain⟨v,rfl,q⟩:=Uh C;simp only[den]at q;split at q
    next a c hv=>simp only[ι]at q;subst q;exact⟨some a,0,c,rfl,rfl,k_ _,.inl rfl⟩
    ·cases q
  ·cases c <;> cases f
 |tree=>intro x p vs f C;unfold chk at f;cases f
 |jsl e=>intro x p vs f C;unfold chk at f;cases f
def IA (h:Pos→EO)(t:Ty)(x:t.den):TV→Bool
 |.pv (.one c)=>bif t.isStruct then false else chk h t x [c]
 |.pv (.agg l)=>bif t.isStruct then chk h t x l else false
 |_=>false
def ac1 (P:Inv B W φ h w)(C:∀k g l,φ.loc k g=some l→∀o,St l.b o){t:Ty}{x:t.den}{r:TV}{v:Value}(f:IA h t x r=true)(j:RT φ r v):RepV w St t x v:=by
 cases r with
 |unk=>cases f
 |tup l=>cases f
 |pv p=>
  cases p with
  |one c=>
   simp only[IA,o?]at f;split at f
   ·cases f
   next J=>unfold RepV;rw[Θ J];exact MU P C t x [c] [v] f (by have:den φ c=some v:=j;simp[aU,this])
  |agg l=>
   simp only[IA,o?]at f;split at f
   ·rename_i J;unfold RepV;rw[G' J];have j:(match aU φ l with|some vs=>some (.agg vs.toArray)|none=>none)=some v:=j;split at j
    next vs R=>cases j;exact⟨vs,rfl,MU P C t x l vs f R⟩
    ·cases j
   ·cases f
def gl0:Glt:=λ_ _=>none
def Aq (p:∀w,SymVal.fact w)(hm:P.follows .mixedOrders=true)(htb:yQ P gl0 T){C dp:Nat}{ds:List ((t:Ty)×t.den)}(hds:∀w St vs,Abs.RepVs w St ds vs→RTs φN as vs){t:Ty}{x:t.den}
  (r:mkR T (jm P gl0) C dp noY .nil (.fn f) as .leaf .e = .ok v U n') (J:IA (HP.ov .nil U).get t x v=true) (hcb:bx P f):Abs.MeetsD P f ds (.val t x):=by
 refine⟨hcb,λw St hSt vs hvs=>?_⟩;obtain⟨_,hc⟩:=Iy hm htb (hds w St vs hvs) r w ⟨λg t v h=>(by cases h),λw _=>p w⟩;refine hc.mono ?_;rintro e w' ⟨u,ψ,rfl,R,hr⟩;refine⟨u,⟨λb o=>St b o∨(w.heap.size≤b∧b<w'.heap.size),St.j⟩,rfl,R.below,R.kp.dr,⟨λ_ _ h=>.inl h,λ_ _ _ _ h=>h⟩,λ_ _ h=>h,λ_ _ _ _ h=>.inl h,u,rfl, ?_⟩;exact ac1 (St:=⟨λb o=>St b o∨(w.heap.size≤b∧b<w'.heap.size),St.j⟩) R (λk g l hl o=>Or.inr ⟨(R.blk hl).1,R.lt hl⟩) J hr
