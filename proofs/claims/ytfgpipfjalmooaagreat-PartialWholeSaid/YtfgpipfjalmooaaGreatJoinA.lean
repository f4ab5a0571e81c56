/- What a closed run gives. -/
import Derived.Test.YtfgpipfjalmooaaGreatClpE
import Derived.Test.YtfgpipfjalmooaaGreatFstC
import Derived.Test.YtfgpipfjalmooaaGreatAbsK
open Option renaming some→ä,none→ö
open Bool renaming true→ü,false→ß
open Go renaming World→æ,Value→ø,Program→å,FuncId→é
set_option linter.all false
noncomputable section
namespace Go.Proofs.YtfgpipfjalmooaaGreat
namespace Clo
open Go Go.RowKit
variable [SymVal]
def agJ (K:Pos→Bool):CV→Bool
 |.ptr k _ _=>K k
 |.sl k _ _ _ _=>K k
 |.emp k=>K k
 |.mp k=>K k
 |.clo k=>K k
 |.ifc k=>K k
 |_=>ü
def jS (K:Pos→Bool)(l:List CV):Bool:=l.all (agJ K)
def Ga (K:Pos→Bool)(l:List PV):Bool:=l.all λp=>jS K p.cells
def agI (K:Pos→Bool):TV→Bool
 |.unk=>ü
 |.pv p=>jS K p.cells
 |.tup l=>Ga K l
def Gx.keep (f:Gx)(K:Pos→Bool):Gx:=⟨λk g=>if K k=ü then f.loc k g else ö,λk=>if K k=ü then f.val k else ö,λk=>if K k=ü then f.mu k else ö⟩
section
variable {P:å}{Gl:Glt}{B:Nat}{W:W0}{φ ψ R:Gx}{h h' h'':Pos→EO}{w w':æ}{K:Pos→Bool}
variable{v:ø}{k:Pos}{o:EO}
def F9 {c:CV}(f:agJ K c=ü)(g:den ψ c=ä v):den (ψ.keep K) c=ä v:=by
 cases c <;> first
  |exact g
  |(have f:K _=true:=f
    simp[den,Gx.keep,f]at g⊢;exact g)
def I3:∀{l:List CV} {f:List ø},jS K l=ü→dens ψ l=ä f→dens (ψ.keep K) l=ä f
 |[],_,_,r=>r
 |c::l,f,hk,r=>by simp only[jS,C?,θ]at hk;obtain⟨v,ws,rfl,j,g⟩:=bS r;exact vY (F9 hk.1 j) (I3 hk.2 g)
def pW {p:PV}(f:jS K p.cells=ü)(r:denP ψ p=ä v):denP (ψ.keep K) p=ä v:=by
 cases p with
 |one c =>simp[PV.cells,jS]at f;exact F9 f r
 |agg l=>
  have f:jS K l=true:=f;simp[denP]at r⊢;cases g:dens ψ l with
  |none=>rw[g]at r;cases r
  |some j=>rw[g]at r;rw[I3 f g];exact r
def rC:∀{l:List PV} {f:List ø},Ga K l=ü→cA ψ l=ä f→cA (ψ.keep K) l=ä f
 |[],_,_,r=>r
 |c::l,f,hk,r=>by simp only[Ga,C?,θ]at hk;obtain⟨v,ws,rfl,j,g⟩:=gk r;exact bJ (pW hk.1 j) (rC hk.2 g)
def aeY {t:TV}(f:agI K t=ü)(r:RT ψ t v):RT (ψ.keep K) t v:=by
 cases t with
 |unk=>trivial
 |pv p=>exact pW f r
 |tup l =>obtain⟨g,C,j⟩:=r;exact⟨g,rC f C,j⟩
def aiO (ψ R:Gx):EO→Prop
 |.row _ _ p len j _=>∀i,i<len→(p.get dch i).m≤j→∀c∈(p.get dch i).cs,∀v,den ψ c=ä v→den R c=ä v
 |.map r _=>∀e∈r,(∀v,denP ψ e.key=ä v→denP R e.key=ä v)∧∀v,denP ψ e.val=ä v→denP R e.val=ä v
 |.mit (ä m) _ _ _=>∀l,ψ.loc m 0=ä l→R.loc m 0=ä l
 |.mitU m _ _ _=>∀l,ψ.loc m 0=ä l→R.loc m 0=ä l
 |.clo _ first f=>(∀g,cA ψ first=ä g→cA R first=ä g)∧∀g,cA ψ f=ä g→cA R f=ä g
 |.ifc _ u=>∀v,denP ψ u=ä v→denP R u=ä v
 |_=>True
def iB.less (f:∀g,R.loc k g=ψ.loc k g)(hv:R.val k=ψ.val k)(hm:R.mu k=ψ.mu k)(hc:aiO ψ R o)(T:iB ψ w B k o):iB R w B k o:=by
 cases o with
 |none=>exact⟨λg=>(f g).trans (T.1 g),hv.trans T.2.1,hm.trans T.2.2⟩
 |row e s el len gen fz =>obtain⟨h0,J,hmm,h2,h3⟩:=T;refine⟨h0,J,hmm,λg U=>(f g).trans (h2 g U),λg U=>?_⟩;obtain⟨l,q1,⟨r1,r2,e7,fr,r3,r4,r5,r6⟩,P⟩:=h3 g U;refine⟨l,(f g).trans q1,⟨r1,r2,e7,fr,r3,r4,r5,λi hi him=>?_⟩,P⟩;obtain⟨s1,s2,s3⟩:=r6 i hi him;refine⟨s1,s2,λj c hj=>?_⟩;obtain⟨v,t1,t2⟩:=s3 j c hj;exact⟨v,t1,hc i hi (ξ him U) c (x? hj) v t2⟩
 |map es clock =>obtain⟨J,l,vs,q1,q2,P,q4⟩:=T;refine⟨λg U=>(f g).trans (J g U),l,vs,(f 0).trans q1,q2,P,q4.1,λi e he=>?_⟩;obtain⟨v,t1,t2,t3,t4⟩:=q4.2 i e he;obtain⟨c1,c2⟩:=hc e (x? he);exact⟨v,t1,c1 _ t2,c2 _ t3,t4⟩
 |mit m since seen C=>
  obtain⟨J,l,q1,q2,P⟩:=T;refine⟨λg U=>(f g).trans (J g U),l,(f 0).trans q1,q2, ?_⟩;cases m with
  |none=>exact P
  |some m=>obtain⟨l',q4,q5⟩:=P;exact⟨l',hc l' q4,q5⟩
 |mitU m since bs st =>obtain⟨J,l,l',seen,C,n,q1,q2,P,q4,q5,q6,q7⟩:=T;exact⟨λg U=>(f g).trans (J g U),l,l',seen,C,n,(f 0).trans q1,q2,hc l' P,q4,q5,hm.trans q6,q7⟩
 |sit s p =>obtain⟨J,h2,l,q1,q2,P⟩:=T;exact⟨λg U=>(f g).trans (J g U),h2,l,(f 0).trans q1,q2,P⟩
 |clo fn first caps =>obtain⟨J,a,b,q1,q2,P⟩:=T;exact⟨λg=>(f g).trans (J g),a,b,hc.1 _ q1,hc.2 _ q2,hv.trans P⟩
 |ifc t v =>obtain⟨J,u,q1,q2⟩:=T;exact⟨λg=>(f g).trans (J g),u,hc _ q1,hv.trans q2⟩
 |emp =>obtain⟨J,a,c,q1⟩:=T;exact⟨λg=>(f g).trans (J g),a,c,hv.trans q1⟩
 |dead=>exact λg l q=>T g l ((f g).symm.trans q)
 |cz=>exact λg l q=>T g l ((f g).symm.trans q)
 |yld =>obtain⟨J,l,q1,q2,P,r,q4⟩:=T;exact⟨λg U=>(f g).trans (J g U),l,(f 0).trans q1,q2,hv.trans P,r,q4⟩
def acr (g:φ.le ψ)(f:φ.le R)(T:iB φ w B k o):aiO ψ R o:=by
 have p:∀{α:Type} {a b c:Option α} {x v:α},a=ä x→(a=ä x→b=ä x)→(a=ä x→c=ä x)→b=ä v→c=ä v:=λ{α a b c x v} J h2 h3 h4=>by rw[h2 J]at h4;cases h4;exact h3 J
 cases o with
 |row e s el len gen fz =>intro i hi him c hc v hv;obtain⟨h0,J,hmm,h2,h3⟩:=T;obtain⟨l,q1,⟨r1,r2,e7,fr,r3,r4,r5,r6⟩,q3⟩:=h3 gen (ε _);obtain⟨s1,s2,s3⟩:=r6 i hi him;obtain⟨j,hj⟩:=f? hc;obtain⟨u,t1,t2⟩:=s3 j c hj;exact p t2 (dT g) (dT f) hv
 |map es clock =>intro e he;obtain⟨J,l,vs,q1,q2,q3,U⟩:=T;obtain⟨i,hi⟩:=f? he;obtain⟨v,t1,t2,t3,t4⟩:=U.2 i e hi;exact⟨λu r=>p t2 (cO g) (cO f) r,λu r=>p t3 (cO g) (cO f) r⟩
 |mit m P seen C=>
  cases m with
  |none=>trivial
  |some m =>obtain⟨J,l,q1,q2,l',U,q5⟩:=T;exact λu r=>p U (g.loc _ _ _) (f.loc _ _ _) r
 |mitU m P bs st =>obtain⟨J,l,l',seen,C,n,q1,q2,q3,U⟩:=T;exact λu r=>p q3 (g.loc _ _ _) (f.loc _ _ _) r
 |clo fn first caps =>obtain⟨J,a,b,q1,q2,q3⟩:=T;exact⟨λu r=>p q1 (cZ g) (cZ f) r,λu r=>p q2 (cZ g) (cZ f) r⟩
 |ifc t v =>obtain⟨J,u,q1,q2⟩:=T;exact λu r=>p q1 (cO g) (cO f) r
 |_=>trivial
def w7 (K:Pos→Bool):EO→Bool
 |.row _ _ j len _ _=>(List.range len).all λi=>jS K (j.get dch i).cs
 |.map g _=>g.all λe=>jS K e.key.cells&&jS K e.val.cells
 |.clo _ first f=>Ga K first&&Ga K f
 |.ifc _ u=>jS K u.cells
 |.emp=>ü
 |.none=>ü
 |.dead=>ü
 |_=>ß
def Yq (f:w7 K o=ü):aiO ψ (ψ.keep K) o:=by
 cases o with
 |row e s R len J fz =>intro i r p c C v g;simp[w7]at f;have:=f i r;simp[jS]at this;exact F9 (this c C) g
 |map P clock =>intro e j;simp[w7]at f;exact⟨λv g=>pW (f e j).1 g,λv g=>pW (f e j).2 g⟩
 |clo fn first l =>simp[w7]at f;exact⟨λv g=>rC f.1 g,λv g=>rC f.2 g⟩
 |ifc t u=>exact λv g=>pW f g
 |mit m _ _ _=>cases f
 |mitU m _ _ _=>cases f
 |sit _ _=>cases f
 |yld=>cases f
 |cz=>cases f
 |none=>trivial
 |emp=>trivial
 |dead=>trivial
def cr.forget (hI:Inv B W φ h w)(R:cr B φ h w ψ h' w')(ha:∀k,K k=ü→h'' k=h' k)(hb:∀k,K k=ß→h'' k = .none∧h k = .none)(hc:∀k,K k=ü→h' k=h k∨w7 K (h' k)=ü):cr B φ h w (ψ.keep K) h'' w':=by
 have r:∀k,K k=ü→(∀g,(ψ.keep K).loc k g=ψ.loc k g)∧(ψ.keep K).val k=ψ.val k∧(ψ.keep K).mu k=ψ.mu k:=λk f=>by exact⟨λg=>by simp[Gx.keep,f],by simp[Gx.keep,f],by simp[Gx.keep,f]⟩
 have kf:∀k,K k=ß→(∀g,(ψ.keep K).loc k g=ö)∧(ψ.keep K).val k=ö∧(ψ.keep K).mu k=none:=λk f=>by exact⟨λg=>by simp[Gx.keep,f],by simp[Gx.keep,f],by simp[Gx.keep,f]⟩
 have p:∀k,K k=ß→(∀g,φ.loc k g=ö)∧φ.val k=ö∧φ.mu k=none:=λk f=>hI.free (hb k f).2;have P:φ.le (ψ.keep K):=by
  refine⟨λk g l T=>?_,λk v C=>?_,λk v C=>?_⟩
  ·cases f:K k with
   |true=>rw[(r k f).1 g];exact R.1.loc _ _ _ T
   |false=>rw[(p k f).1 g]at T;cases T
  ·cases f:K k with
   |true=>rw[(r k f).2.1];exact R.1.val _ _ C
   |false=>rw[(p k f).2.1]at C;cases C
  ·cases f:K k with
   |true=>rw[(r k f).2.2];exact R.1.mu _ _ C
   |false=>rw[(p k f).2.2]at C;cases C
 refine⟨P,λW' hW=>?_,λk f=>?_⟩
 ·have J:=R.2.1 W' hW;refine⟨J.below,J.kp,hW.le.trans P,λk f=>?_,J.size,λk=>?_,λk g l k' g' l' h1 h2 e=>?_⟩
  ·cases j:K k with
   |false=>rw[(hb k j).1]at f;cases f
   |true =>rw[ha k j]at f;obtain⟨z1,z2,z3,z4⟩:=J.cz k f;obtain⟨U,t2,t3⟩:=r k j;exact⟨λg=>(U g).trans (z1 g),t2.trans z2,t3.trans z3,λg l T=>z4 g l ((U g).symm.trans T)⟩
  ·cases j:K k with
   |false =>rw[(hb k j).1];exact kf k j
   |true=>
    rw[ha k j];obtain⟨U,t2,t3⟩:=r k j;refine(J.obj k).less U t2 t3 ?_;obtain e|e:=hc k j
    ·rw[e];exact acr R.1 P (hW.obj k)
    ·exact Yq e
  ·refine J.sep k g l k' g' l' ?_ ?_ e
   ·cases j:K k with
    |true=>rw[(r k j).1 g]at h1;exact h1
    |false=>rw[(kf k j).1 g]at h1;cases h1
   ·cases j:K k' with
    |true=>rw[(r k' j).1 g']at h2;exact h2
    |false=>rw[(kf k' j).1 g']at h2;cases h2
 ·cases j:K k with
  |false=>rw[(hb k j).2];rfl
  |true=>rw[ha k j]at f;exact R.2.2 k f
end
variable [SymVal]
structure Ent where
 f:é
 args:List TV
 N:Pos
 L:DM
 v:TV
 d:DM
 n:Pos
def WY (a b:PV):Bool:=V0 (.pv a) (.pv b)
def Ur:List PV→List PV→Bool
 |[],[]=>ü
 |a::l,b::m=>bif WY a b then Ur l m else ß
 |_,_=>ß
def Zm:TV→TV→Bool
 |.pv a,.pv b=>WY a b
 |.tup l,.tup m=>Ur l m
 |_,_=>ß
def Nc:List TV→List TV→Bool
 |[],[]=>ü
 |a::l,b::m=>bif Zm a b then Nc l m else ß
 |_,_=>ß
def ajx:Fz→Fz→Bool
 |.no,.no=>ü
 |.out,.out=>ü
 |.yes,.yes=>ü
 |_,_=>ß
def aap:PT Ch→PT Ch→Bool
 |.leaf,.leaf=>ü
 |.node l a r,.node j f g=>bif JI a.cs f.cs&&Nat.beq a.m f.m then(bif aap l j then aap r g else ß)else ß
 |_,_=>ß
def UM:List ME→List ME→Bool
 |[],[]=>ü
 |a::l,b::m=>bif WY a.key b.key&&WY a.val b.val&&Nat.beq a.born b.born then UM l m else ß
 |_,_=>ß
def Yd:EO→EO→Bool
 |.row e s T len j fz,.row U P r f g l=>Nat.beq e U&&Nat.beq s P&&aap T r&&Nat.beq len f&&Nat.beq j g&&ajx fz l
 |.map R c,.map p c'=>UM R p&&Nat.beq c c'
 |.ifc t u,.ifc J C=>Nat.beq t J&&WY u C
 |.emp,.emp=>ü
 |_,_=>ß
def aaU (h:Pos→EO):DM→(Pos→Pos)→Bool
 |.leaf,_=>ü
 |.node l a r,c=>(match a with
   |none=>ü
   |some o=>Yd (h (c .e)) o)&&aaU h l (λp=>c (.o p))&&aaU h r (λp=>c (.i p))
def Zr (N:Nat):DM→Nat→Nat→Bool
 |.leaf,_,_=>ü
 |.node l a r,v,w=>(match a with
   |none=>ü
   |some o=>match o with
    |.none=>ü
    |_=>Nat.blt v N)&&Zr N l (Nat.add v w) (Nat.mul 2 w)&&Zr N r (Nat.add v (Nat.mul 2 w)) (Nat.mul 2 w)
def V7 (N:Nat):HP→Bool
 |.nil=>ü
 |.ov b d=>Zr N d 0 1&&V7 N b
 |.cut b n=>match Nat.ble n.num N with
  |true=>ü
  |false=>V7 N b
def afQ (N:Nat)(a g:Option EO)(v:Nat):Bool:=match g with
 |some f=>match a with
  |some o=>Yd o f
  |none=>ß
 |none=>match a with
  |some _=>Nat.ble N v
  |none=>ü
def HQ (N:Nat):DM→DM→Nat→Nat→Bool
 |.leaf,t,_,_=>match t with
  |.leaf=>ü
  |.node _ _ _=>ß
 |.node l a r,t,v,w=>match t with
  |.leaf=>afQ N a ö v&&HQ N l .leaf (Nat.add v w) (Nat.mul 2 w)&&HQ N r .leaf (Nat.add v (Nat.mul 2 w)) (Nat.mul 2 w)
  |.node g j f=>afQ N a j v&&HQ N l g (Nat.add v w) (Nat.mul 2 w)&&HQ N r f (Nat.add v (Nat.mul 2 w)) (Nat.mul 2 w)
def adn (f:EO→Bool):DM→Bool
 |.leaf=>ü
 |.node l a r=>(match a with
   |none=>ü
   |some o=>f o)&&adn f l&&adn f r
def Gb (e:Ent)(k:Pos):Bool:=Nat.blt k.num e.N.num||(match PM.get ö e.d k with|some _=>ü|none=>ß)
def acE (e:Ent)(v:TV)(d:DM)(n:Pos):Bool:=Zm v e.v&&n.beq e.n&&HQ e.N.num d e.d 0 1&&adn (w7 (Gb e)) e.d&&agI (Gb e) e.v
def aac (T:Tb)(g:é→Option Fi)(C j:Nat)(e:Ent)(r:HP):Bool:=RC.rec (motive:=λ_=>Bool) ß (λv d n=>acE e v d n) (mkR T g C j noY (.ov (.cut r e.N) e.L) (.fn e.f) e.args .leaf e.N)
def bR (t:Bool)(a:RC):RC:=Bool.rec (motive:=λ_=>RC) .no a t
def ajd (e:Ent):Tb:=λf b args d n=>bR (Nat.beq f e.f) (bR (n.beq e.N) (bR (Nc args e.args) (bR (aaU (hG (.ov b d)) e.L id) (bR (V7 e.N.num (.ov b d)) (.ok e.v (l6 e.d d) e.n)))))
def Ej (e:Ent)(T:Tb):Tb:=λf b args d n=>Lc (ajd e f b args d n) (T f b args d n)
def yS {a b:PV}(h:WY a b=ü):a=b:=by have:=Kq (a :=.pv a) (b :=.pv b) h;injection this
def Oi:∀{l m:List PV},Ur l m=ü→l=m
 |[],[],_=>rfl
 |a::l,b::m,h=>by
  simp only[Ur,r?]at h;split at h
  next h1=>rw[yS h1,Oi h]
  ·cases h
 |[],_::_,h=>by cases h
 |_::_,[],h=>by cases h
def Nf {a b:TV}(h:Zm a b=ü):a=b:=by
 cases a with
 |unk=>cases b <;> cases h
 |pv a=>cases b with
  |pv b=>rw[yS h]
  |_=>cases h
 |tup a=>cases b with
  |tup b=>rw[Oi h]
  |_=>cases h
def Ec:∀{l m:List TV},Nc l m=ü→l=m
 |[],[],_=>rfl
 |a::l,b::m,h=>by
  simp only[Nc,r?]at h;split at h
  next h1=>rw[Nf h1,Ec h]
  ·cases h
 |[],_::_,h=>by cases h
 |_::_,[],h=>by cases h
def K3:∀{a b:PT Ch},aap a b=ü→a=b
 |.leaf,.leaf,_=>rfl
 |.node l a r,.node R J P,h=>by
  simp only[aap,r?]at h;split at h
  next h1=>
   simp only[θ]at h1;split at h
   next h2=>obtain⟨C,m⟩:=a;obtain⟨f,g⟩:=J;have p:C=f:=Af h1.1;have j:m=g:=ν h1.2;rw[K3 h2,K3 h,p,j]
   ·cases h
  ·cases h
 |.leaf,.node _ _ _,h=>by cases h
 |.node _ _ _,.leaf,h=>by cases h
def O0:∀{l m:List ME},UM l m=ü→l=m
 |[],[],_=>rfl
 |a::l,b::m,h=>by
  simp only[UM,r?]at h;split at h
  next h1=>simp only[θ]at h1;obtain⟨k,v,n⟩:=a;obtain⟨j,f,g⟩:=b;have C:k=j:=yS h1.1.1;have r:v=f:=yS h1.1.2;have p:n=g:=ν h1.2;rw[O0 h,C,r,p]
  ·cases h
 |[],_::_,h=>by cases h
 |_::_,[],h=>by cases h
def Vc {a b:EO}(h:Yd a b=ü):a=b:=by
 cases a <;> cases b <;> first|(cases h;done)|skip
 ·simp only[Yd,θ]at h;obtain⟨⟨⟨⟨⟨l,j⟩,h3⟩,h4⟩,h5⟩,h6⟩:=h;rename_i g _ _ _ _ _ f;have p:g=f:=by cases g <;> cases f <;> first|rfl|cases h6
  rw[ν l,ν j,K3 h3,ν h4,ν h5,p]
 ·simp only[Yd,θ]at h;rw[O0 h.1,ν h.2]
 ·simp only[Yd,θ]at h;rw[ν h.1,yS h.2]
 ·rfl
def FW {h:Pos→EO}:∀{d:DM} {c:Pos→Pos},aaU h d c=ü→∀k o,PM.get ö d k=ä o→h (c k)=o
 |.leaf,_,_,k,o,f=>by cases f
 |.node l a r,c,g,k,o,f=>by
  simp[aaU]at g;cases k with
  |e =>have f:a=ä o:=f;rw[f]at g;exact Vc g.1.1
  |o k=>exact FW g.1.2 k o f
  |i k=>exact FW g.2 k o f
def Ee {N:Nat}:∀{d:DM} {v w:Nat},Zr N d v w=ü→∀k o,PM.get ö d k=ä o→o = .none∨v+w*k.num<N
 |.leaf,_,_,_,k,o,f=>by cases f
 |.node l a r,v,w,g,k,o,f=>by
  simp only[Zr,θ]at g;cases k with
  |e=>
   have f:a=ä o:=f;rw[f]at g;cases o with
   |none=>exact .inl rfl
   |_=>exact .inr (by have:=cB.1 g.1.1;simpa[Pos.num]using this)
  |o k=>
   obtain q|q:=Ee g.1.2 k o f
   ·exact .inl q
   ·refine .inr ?_;have p:Nat.add v w=v+w:=rfl;have j:Nat.mul 2 w=2*w:=rfl;rw[p,j]at q;simp[Pos.num];have:w*(2*k.num+1)=w+2*w*k.num:=by rw[alv,Nat.mul_one,←Nat.mul_assoc,aj2 w 2,U?]
    omega
  |i k=>
   obtain q|q:=Ee g.2 k o f
   ·exact .inl q
   ·refine .inr ?_;have p:Nat.add v (Nat.mul 2 w)=v+2*w:=rfl;have j:Nat.mul 2 w=2*w:=rfl;rw[p,j]at q;simp[Pos.num];have:w*(2*k.num+2)=2*w+2*w*k.num:=by rw[alv,←Nat.mul_assoc,aj2 w 2,U?]
    omega
def yx {N:Nat}:∀{b:HP},V7 N b=ü→∀k:Pos,N≤k.num→b.get k = .none
 |.nil,_,_,_=>rfl
 |.ov b d,f,k,g=>by
  simp[V7]at f;simp[HP.get];cases j:PM.get ö d k with
  |none=>exact yx f.2 k g
  |some o=>
   obtain q|q:=Ee f.1 k o j
   ·exact q
   ·omega
 |.cut b n,f,k,g=>by
  simp[HP.get];split
  next hlt=>
   simp[V7]at f;split at f
   next hle=>have p:=cB.1 hlt;have l:=br.1 hle;omega
   ·exact yx (b:=b) f k g
  ·rfl
def afP {N:Nat}{a f:Option EO}{v:Nat}(h:afQ N a f v=ü):f=a∨(f=ö∧N≤v):=by
 cases f with
 |some g=>cases a with
  |some o=>exact .inl (by rw[Vc h])
  |none=>cases h
 |none=>cases a with
  |some o=>exact .inr ⟨rfl,br.1 h⟩
  |none=>exact .inl rfl
def G0 {N:Nat}:∀{d t:DM} {v w:Nat},HQ N d t v w=ü→∀k,PM.get ö t k=PM.get ö d k∨(PM.get ö t k=ö∧N≤v+w*k.num)
 |.leaf,t,v,w,f,k=>by
  cases t with
  |leaf=>exact .inl rfl
  |node _ _ _=>cases f
 |.node l a r,t,v,w,f,k=>by
  have C:∀(j g:DM) (p:Option EO),afQ N a p v=ü→HQ N l j (Nat.add v w) (Nat.mul 2 w)=ü→HQ N r g (Nat.add v (Nat.mul 2 w)) (Nat.mul 2 w)=ü→PM.get ö (.node j p g) k=PM.get ö (.node l a r) k∨(PM.get ö (.node j p g) k=ö∧N≤v+w*k.num):=λj g p U T R=>by
   cases k with
   |e=>
    obtain q|q:=afP U
    ·exact .inl q
    ·exact .inr ⟨q.1,by simpa[Pos.num]using q.2⟩
   |o k=>
    obtain q|q:=G0 T k
    ·exact .inl q
    ·refine .inr ⟨q.1, ?_⟩;have q:=q.2;have P:Nat.add v w=v+w:=rfl;have J:Nat.mul 2 w=2*w:=rfl;rw[P,J]at q;simp[Pos.num];have:w*(2*k.num+1)=w+2*w*k.num:=by rw[alv,Nat.mul_one,←Nat.mul_assoc,aj2 w 2,U?]
     omega
   |i k=>
    obtain q|q:=G0 R k
    ·exact .inl q
    ·refine .inr ⟨q.1, ?_⟩;have q:=q.2;have P:Nat.add v (Nat.mul 2 w)=v+2*w:=rfl;have J:Nat.mul 2 w=2*w:=rfl;rw[P,J]at q;simp[Pos.num];have:w*(2*k.num+2)=2*w+2*w*k.num:=by rw[alv,←Nat.mul_assoc,aj2 w 2,U?]
     omega
  cases t with
  |leaf=>
   simp[HQ]at f;have:=C .leaf .leaf ö f.1.1 f.1.2 f.2;have e:PM.get ö (.node .leaf ö .leaf:DM) k=PM.get ö (.leaf:DM) k:=by cases k <;> rfl
   rw[e]at this;exact this
  |node j p g =>simp[HQ]at f;exact C j g p f.1.1 f.1.2 f.2
def Hf {f:EO→Bool}:∀{d:DM},adn f d=ü→∀k o,PM.get ö d k=ä o→f o=ü
 |.leaf,_,k,o,g=>by cases g
 |.node l a r,j,k,o,g=>by
  simp[adn]at j;cases k with
  |e =>have g:a=ä o:=g;rw[g]at j;exact j.1.1
  |o k=>exact Hf j.1.2 k o g
  |i k=>exact Hf j.2 k o g
def xh {t:Bool}{a:RC}{v:TV}{d:DM}{n:Pos}(h:bR t a = .ok v d n):t=ü∧a = .ok v d n:=by
 cases t with
 |true=>exact⟨rfl,h⟩
 |false=>cases h
section
variable {P:å}{Gl:Glt}{B:Nat}{W:W0}{φ φ0 ψ:Gx}{h h0:Pos→EO}{w w0:æ}
def adG (T:Tb):Ck:=λb t args d n=>match t with
 |.fn f=>T f b args d n
 |.yld _=>.no
def yc (P:å)(Gl:Glt)(T:Tb):Prop:=∀B f,uD P Gl B (adG T) f
def fT:yc P Gl Sr:=λB f b t args d n v U g h=>by cases t <;> cases h
variable{C:Nat}
def IT (hm:P.follows .mixedOrders=ü){T:Tb}(htb:yc P Gl T):∀(dp:Nat) (yk:Yk) (R:List Lq),TL P Gl B yk R→uD P Gl B (mkT T (jU P Gl) C dp yk) R:=by
 intro dp;induction dp with
 |zero=>
  intro yk R J b t args d n v U n' g;cases t with
  |yld j=>exact J b j args d n v U n' g
  |fn f=>cases g
 |succ dp ih=>
  intro yk R J b t args d n v U n' g;cases t with
  |yld j=>exact J b j args d n v U n' g
  |fn f=>
   simp[mkT]at g;cases r:T f b args d n with
   |ok v1 d1 n1 =>rw[r]at g;exact htb B R b (.fn f) args d n v U n' (r.trans g)
   |no=>
   rw[r]at g;simp[Lc]at g;intro W φ w hG hI vs hr hcx;split at g
   ·rename_i x hx;obtain⟨fn,c,rs,f1,f2,f3,f4,rfl⟩:=Yc hx;simp only at g;split at g
    ·rename_i hle;have hle:=br.1 hle;have hlen:=hr.len;refine⟨⟨fn,f1,by simp[f2],f3⟩, ?_⟩;unfold ad6 at g;split at g
     ·rename_i X e1 d1 n1 hex;have hsz:(vs.toArray++Array.replicate (fn.ntmps-vs.toArray.size) undef).size=fn.ntmps:=by
       simp;omega
      have ckok:CkOk P Gl B (TA (mkT T (jU P Gl) C dp) yk) R:=⟨ih yk R J,λyk' Γ' h=>ih yk' Γ' h⟩;refine callsIn_wide.1 (callsIn_of_wp_marks (F:=RF ö) (n:=0) f1 f2 trivial (wpIn_mono ((mA hm ckok c).1 ö 0 w.heap.size W φ _ w hI hG hcx (λl hl=>by cases hl) (.inl rfl) (ε _) b (tB args .e .leaf) d n _ w X e1 d1 n1 hex ⟨⟨φ,cr.refl,qe hr _⟩,hsz,[],rfl,ajZ,λD hD=>by cases hD⟩) λex a w' hn=>?_));have fin:(∀id,X ≠ .exit id)→Rl B w.heap.size φ (HP.ov b d).get w fn.ntmps e1 (HP.ov b d1).get a w'→LeavesInM (RF ö) 0 P fn a.tmps (MC B φ (HP.ov b d).get w (HP.ov b U).get v) a.defers .returning w':=λhX p=>by
       obtain⟨ψ,hs,hE⟩:=p.ex;obtain⟨ms,m1,m2,m3⟩:=p.df;have hres:∃l,eP e1 (HP.ov b d1).get rs=ä l∧v=pF l∧U=d1:=by
        split at g
        ·exact(hX _ rfl).elim
        ·split at g
         next l hl=>injection g with y1 y2 y3;exact⟨l,hl,y1.symm,y2.symm⟩
         ·cases g
       obtain⟨l,hl,rfl,rfl⟩:=hres;rw[m1];refine eV hI ms w' hs m2 m3 λw2 hs2=>?_;obtain⟨u,r1,r2⟩:=fE (hs2.2.1 _ hI) hE f4 hl;exact⟨u,r1,u,ψ,rfl,hs2,r2⟩
      cases ex with
      |normal=>obtain⟨rfl,p⟩:=hn;exact fin (λid e=>by cases e) p
      |ret=>obtain⟨rfl,p⟩:=hn;exact fin (λid e=>by cases e) p
      |exit id=>obtain⟨rfl,_⟩:=hn;cases g
      |goto l=>exact hn.elim
      |panic ch=>exact hn.elim
      |outgrown=>exact hn.elim
     ·cases g
    ·cases g
   ·cases g
def aj (P:å)(Gl:Glt)(T:Tb)(C f:Nat)(e:Ent):Prop:=∀r,aac T (jU P Gl) C f e r=ü
def aaK {f:List Lq}:TL P Gl B noY f:=λb j args d n v U g h=>by cases h
def AH (hm:P.follows .mixedOrders=ü){T tb':Tb}(htb:yc P Gl T){dp:Nat}{e:Ent}(he:aj P Gl T C dp e)(htb':yc P Gl tb'):yc P Gl (Ej e tb'):=by
 intro B Γ b t args d n v U n' g;cases t with
 |yld j=>cases g
 |fn f=>
  simp[adG,Ej]at g;cases p:ajd e f b args d n with
  |no =>rw[p]at g;exact htb' B Γ b (.fn f) args d n v U n' g
  |ok v0 d0 n0=>
   rw[p]at g;simp only[Lc]at g;injection g with c1 c2 c3;subst c1;subst c2;subst c3;obtain⟨k1,p⟩:=xh p;obtain⟨k2,p⟩:=xh p;obtain⟨k3,p⟩:=xh p;obtain⟨k4,p⟩:=xh p;obtain⟨k5,p⟩:=xh p;injection p with g1 g2 g3;have ef:=ν k1;have en:=Pos.beq_iff.1 k2;have ea:=Ec k3;subst ef;subst en;subst ea;intro W φ w hGl hI vs hr hcx;have l:=he (.ov b d);unfold aac at l;cases R:mkR T (jU P Gl) C dp noY (.ov (.cut (.ov b d) e.N) e.L) (.fn e.f) e.args .leaf e.N with
   |no=>rw[R]at l;cases l
   |ok v1 d1 n1=>
    rw[R]at l;simp[acE]at l;obtain⟨⟨⟨⟨r1,r2⟩,r3⟩,r4⟩,r5⟩:=l;have ev:=Nf r1;subst ev;rw[SB]at R;have hG':hG (.ov b d)=(HP.ov b d).get:=funext λk=>zS _ k;rw[hG']at k4;have J:(HP.ov (.cut (.ov b d) e.N) e.L).get=(HP.ov b d).get:=by
     funext k;show(match PM.get ö e.L k with|some o=>o|none=>(HP.cut (.ov b d) e.N).get k)=_;cases hl:PM.get ö e.L k with
     |some o=>exact(FW k4 k o hl).symm
     |none=>
      show(match Nat.blt k.num e.N.num with|true=>(HP.ov b d).get k|false=>.none)=_;cases hb:Nat.blt k.num e.N.num with
      |true=>rfl
      |false=>
       refine(yx k5 k ?_).symm;exact alp λq=>by rw[cB.2 q]at hb;cases hb
    have h0:(HP.ov (.ov (.cut (.ov b d) e.N) e.L) .leaf).get=(HP.ov b d).get:=by rw[←J];funext k;rfl
    have call:=IT (B:=B) hm htb dp noY Γ aaK _ _ _ _ _ _ _ _ R W φ w hGl (by rw[h0];exact hI) vs hr hcx;rw[h0]at call;refine⟨call.1,call.2.mono ?_⟩;rintro x w' ⟨u,ψ,rfl,hs,hru⟩;have hd1:∀k,(HP.ov (.ov (.cut (.ov b d) e.N) e.L) d1).get k=match PM.get ö d1 k with|some o=>o|none=>(HP.ov b d).get k:=λk=>by show(match PM.get ö d1 k with|some o=>o|none=>(HP.ov (.cut (.ov b d) e.N) e.L).get k)=_;rw[J]
    have hd2:∀k,(HP.ov b d0).get k=match PM.get ö e.d k with|some o=>o|none=>(HP.ov b d).get k:=λk=>by rw[←g2,HP.get_merge];rfl
    have kf:∀k,Gb e k=ß→e.N.num≤k.num∧PM.get ö e.d k=none:=λk r=>by
     simp[Gb]at r;have hk1:=r.1;refine⟨alp λq=>(by rw[cB.2 q]at hk1;cases hk1), ?_⟩;have:=r.2;cases hp:PM.get ö e.d k with
     |none=>rfl
     |some o=>rw[hp]at this;cases this
    have same:∀k,Gb e k=ü→PM.get ö e.d k=PM.get ö d1 k:=λk r=>by
     obtain q|⟨q1,q2⟩:=G0 r3 k
     ·exact q
     ·exfalso;simp only[Gb,q1,Bool.or_false]at r;have:=cB.1 r;omega
    refine⟨u,ψ.keep (Gb e),rfl,cr.forget hI hs (λk r=>?_) (λk r=>?_) (λk r=>?_), ?_⟩
    ·rw[hd1,hd2,same k r]
    ·obtain⟨q1,q2⟩:=kf k r;have:=yx k5 k q1;refine⟨?_,this⟩;rw[hd2,q2];exact this
    ·rw[hd1];cases hp:PM.get ö d1 k with
     |none=>exact .inl rfl
     |some o =>refine .inr (Hf r4 k o ?_);rw[same k r,hp]
    ·rw[←g1];exact aeY r5 hru
end
variable [SymVal]
variable{B:Nat}{φ:Gx}{h:Pos→EO}{w:æ}{P:å}{Gl:Glt}{f:é}{as:List TV}{v:TV}{T:Tb}{vs:List ø}{U :DM}{n' :Pos}{W:W0}{e:TypeId}{l:List (List CV)}{St:Abs.Sb}
def Inv.grown {R:W0}{w' :æ}(f:Inv B R φ h w)(j:w.grownBy w' ö)(J:dz w≤dz w'):Inv B R φ h w':=by
 have p:∀b,b<w.heap.size→w'.heap[b]? = w.heap[b]?:=λb P=>j.block b P Ψ;refine⟨f.below.trans ⟨j.os,j.tape,j.output,j.size,λb P=>p b (d_ P f.size)⟩,f.kp.trans ⟨J,λk o C ho=>?_⟩,f.le,λk C=>?_,ξ f.size j.size,λk=>(f.obj k).keep (Gx.le.refl φ) (λ_=>rfl) rfl rfl (λg l r=>p _ (f.lt r)),f.sep⟩
 ·rw[p k (δ.1 C).1];exact C
 ·obtain⟨r1,r2,U,T⟩:=f.cz k C;exact⟨r1,r2,U,λg l r=>(p _ (f.lt r)).trans (T g l r)⟩
def cr.grown {B:Nat}{φ:Gx}{h:Pos→EO}{w w':æ}(g:w.grownBy w' ö)(f:dz w≤dz w'):cr B φ h w φ h w':=⟨Gx.le.refl φ,λ_ j=>j.grown g f,λ_ h=>h⟩
def aiU (f:é)(as:List TV)(v:TV):Tb:=λg _ args d n=>bR (Nat.beq g f) (bR (Nc args as) (.ok v d n))
def yA (f:é)(as:List TV)(v:TV)(T:Tb):Tb:=λg b args d n=>Lc (aiU f as v g b args d n) (T g b args d n)
def Q9 
  (h:∀(φ:Gx) (vs:List ø) (w:æ),SymVal.fact w→RTs φ as vs→bA P f∧Calls P f vs.toArray w λe r=>∃u,e = .returned u∧RT φ v u∧w.grownBy r ö∧dz w≤dz r) (C:yc P Gl T):yc P Gl (yA f as v T):=by
 intro B R b t args d n v' U n' l;cases t with
 |yld j=>cases l
 |fn g=>
  simp[adG,yA]at l;cases p:aiU f as v g b args d n with
  |no =>rw[p]at l;exact C B R b (.fn g) args d n v' U n' l
  |ok v0 d0 n0 =>rw[p]at l;simp only[Lc]at l;injection l with c1 c2 c3;subst c1;subst c2;subst c3;obtain⟨k1,p⟩:=xh p;obtain⟨k2,p⟩:=xh p;injection p with g1 g2 g3;have ef:=ν k1;have ea:=Ec k2;subst ef;subst ea;subst g1;subst g2;subst g3;intro W φ w J hI vs hr hcx;obtain⟨q1,q2⟩:=h φ vs w (J.2 w hI.below) hr;refine⟨q1,q2.mono ?_⟩;rintro e r ⟨u,rfl,r1,r2,r3⟩;exact⟨u,φ,rfl,cr.grown r2 r3,r1⟩
def HR (hm:P.follows .mixedOrders=ü)(r:yc P Gl T){C dp:Nat}(p:RTs φN as vs)(g:mkR T (jU P Gl) C dp noY .nil (.fn f) as .leaf .e = .ok v U n'):∀w,sj Gl P w.heap.size ⟨w,φN⟩→bA P f∧Calls P f vs.toArray w λe R=>∃u l,e = .returned u∧Inv w.heap.size ⟨w,φN⟩ l (HP.ov .nil U).get R∧RT l v u:=by rw[SB]at g;intro w J;obtain⟨j,hc⟩:=IT (B:=w.heap.size) hm r dp noY [] aaK _ _ _ _ _ _ _ _ g ⟨w,φN⟩ φN w J (ajb w) vs p (λq hq=>by cases hq);refine⟨j,hc.mono ?_⟩;rintro e R ⟨u,l,rfl,hs,hr⟩;exact⟨u,l,rfl,hs.2.1 _ (ajb w),hr⟩
def ad2 (n:Nat):RTs φN [.pv (.one (.sym n))] [SymVal.v n]:=⟨rfl,apa⟩
variable [SymVal]
def Inv.made {T :æ}(U:Inv B W φ h w){k:Pos}(hk:h k = .none){s g cap:Nat}{p:Array ø}(hs:0<s)(hl:∀a∈l,a.length=s)(hd:dens φ l.flatten=ä vs)
  (P:w.grownBy T ö) (hdr:dz w≤dz T) (hg:w.heap.size≤g) (hc:T.heap[g]? = ä (.cells p e (0,0))) (hn:l.length≤cap) (hcs:p.size=cap*s) (ht:p.toList.take (l.length*s)=vs) (h32:l.length+2≤2^32) :
  φ.le (φ.add k ⟨g,cap,s⟩)∧Inv B W (φ.add k ⟨g,cap,s⟩) (upd h k (newRow e s l l.length)) T:=by
 have C:=U.qa hk ⟨g,cap,s⟩;have r:=λj=>oq (m:=0) (l:=l) (el :=.leaf) (i:=0) Ω j;refine⟨C,U.lb C (λq hq=>⟨λg=>by simp[Gx.add,ω hq],rfl,rfl⟩) (λg' m f=>?_) (λb hlt _=>P.block b hlt Ψ) (λg m f=>by rw[(U.free hk).1 g]at f;cases f) P.os P.tape P.output P.size hdr ?_ rfl⟩
 ·refine .inr ?_;simp only[Gx.add,i?]at f;split at f
  ·injection f with f;rw[←f];exact hg
  ·cases f
 ·refine⟨hs,h32,λi hi=>?_,λg' hg'=>?_,λg' hg'=>⟨⟨g,cap,s⟩, ?_,⟨ξ U.size hg,rfl,p,(0,0),hc,hcs,rfl,λi hi _=>⟨by show i<cap;omega, ?_⟩⟩,λ_=>hn⟩⟩
  ·rw[r,aki Ω];exact ε _
  ·simp only[Gx.add,i?];rw[ω Ω]
  ·obtain rfl:g'=0:=Ω
   exact Gx.gh _ _ _
  ·rw[r,aki Ω];have J:l[i-0]'Ω∈l:=j_ _;refine⟨hl _ J,λj c hj=>?_⟩;have hj:(l[i-0]'Ω)[j]? = ä c:=hj;obtain⟨v,R,z2⟩:=mE hd (ub hl (i:=i-0) (ζ Ω) hj);rw[akB]at R;refine⟨v, ?_,dT C z2⟩;rw[←ht]at R;rw[←Array.getElem?_toList];have z2:=(f_.1 R).1;rw[g_]at z2;rwa[aj6 Ω]at R
def aiX (f:é)(ok:HP→List TV→DM→Bool)(e:TypeId)(s:Nat)(l:List (List CV)):Tb:=λg b args d n=>
 bR (Nat.beq g f) (bR (ok b args d) (bR (bz ü (hG (.ov b d)) n) (.ok (.pv (.one (.sl n 0 0 l.length ö))) (fA d n (newRow e s l l.length)) n.succ)))
def Db (f:é)(ok:HP→List TV→DM→Bool)(e:TypeId)(s:Nat)(l:List (List CV))(T:Tb):Tb:=λg b args d n=>Lc (aiX f ok e s l g b args d n) (T g b args d n)
def EN {ok:HP→List TV→DM→Bool}{s:Nat}{cs:List ø}(hs:0<s)(hl:∀a∈l,a.length=s)(hne:l≠[])(h32:l.length+2≤2^32)(hd:∀φ,dens φ l.flatten=ä cs)
  (h:∀(B:Nat) (W:W0) (φ:Gx) (b:HP) (d:DM) (args:List TV) (vs:List ø) (w:æ),ok b args d=ü→Inv B W φ (HP.ov b d).get w→RTs φ args vs →
   bA P f∧Calls P f vs.toArray w λe' J=>∃v,e' = .returned v∧Below w.heap.size w J∧dz w≤dz J∧J.ownsRow w.heap.size e s v l.length cs) (htb:yc P Gl T):yc P Gl (Db f ok e s l T):=by
 intro B Γ b t args d n v' U n' p;cases t with
 |yld j=>cases p
 |fn g=>
  simp[adG,Db]at p;cases C:aiX f ok e s l g b args d n with
  |no =>rw[C]at p;exact htb B Γ b (.fn g) args d n v' U n' p
  |ok v0 d0 n0=>
   rw[C]at p;simp only[Lc]at p;injection p with c1 c2 c3;subst c1;subst c2;subst c3;obtain⟨k1,C⟩:=xh C;obtain⟨k2,C⟩:=xh C;obtain⟨k3,C⟩:=xh C;injection C with g1 g2 g3;have ef:=ν k1;subst ef;subst g1;subst g2;subst g3;have r:(HP.ov b d).get n = .none:=by
    simp only[bz,zS]at k3;split at k3
    ·assumption
    ·cases k3
   intro W φ w hGl hI vs hr hcx;obtain⟨q1,q2⟩:=h B W φ b d args vs w k2 hI hr;refine⟨q1,q2.mono ?_⟩;rintro e' J ⟨u,rfl,r1,r2,r3⟩;have hb:w.grownBy J none:=⟨r1.os,r1.tape,r1.output,r1.size,λk R _=>r1.block k R⟩;rcases r3.2 with⟨_,h0⟩|⟨gb,cap,cur,rfl,p1,p2,p3,p4,p5,p6⟩
   ·exact(hne (Q' h0)).elim
   ·refine⟨_,φ.add n ⟨gb,cap,s⟩,rfl,⟨hI.qa r _,λW' hW=>?_,λk R=>?_⟩, ?_⟩
    ·have:=(hW.made r hs hl (hd φ) hb r2 p1 p2 p3 p5 p6 h32).2;rwa[HP.cf]
    ·rw[HP.cf]at R;by_cases ek:n=k
     ·subst ek;exact r ▸ rfl
     ·rwa[bB _ _ ek]at R
    ·show den _ (.sl n 0 0 l.length ö)=_;have hc:Am ö l.length cap 0=true:=br.2 Ω;simp[den,Gx.gh,hc,iA]
open Go.Proofs.YtfgpipfjalmooaaGreat.Abs (Ty D Sb Rep RepV toD chain)
variable [SymVal]
def DX:Ty→Nat
 |.unit=>0
 |.cons a b=>DX a+DX b
 |_=>1
def agh {j g:Type}(f:j→g→Bool):List j→List g→Bool
 |[],[]=>ü
 |a::l,b::m=>f a b&&agh f l m
 |_,_=>ß
def xb (h:Pos→EO):(t:Ty)→t.den→List CV→Bool
 |.int k,n,[.int k' m]=>decide (k'=k)&&decide (m=n)
 |.bool,b,[.bl c]=>c == b
 |.str,s,[.str l]=>okStr l&&decide (l.map UInt8.ofNat=s)
 |.slice _,l,[.nils]=>l.isEmpty
 |.slice _,l,[.emp _]=>l.isEmpty
 |.slice t,l,[.sl k g off len cap]=>Nat.beq len l.length&&(match cap with|none=>ü|some c=>Nat.ble len c)&&(match h k with
  |.row _ s _ _ _ _=>match rk (h k) g s len off with
   |some rows=>agh (xb h t) l rows
   |none=>ß
  |_=>ß)
 |.unit,_,[]=>ü
 |.cons a b,x,f=>xb h a x.1 (f.take (DX a))&&xb h b x.2 (f.drop (DX a))
 |_,_,_=>ß
def xW {φ:Gx}:∀{l m:List CV} {vs:List ø},dens φ (l++m)=ä vs→∃a b,vs=a++b∧dens φ l=ä a∧dens φ m=ä b
 |[],m,vs,h=>⟨[],vs,rfl,rfl,h⟩
 |c::l,m,vs,h=>by obtain⟨v,ws,rfl,p,j⟩:=bS (l:=l++m) h;obtain⟨a,b,rfl,g,f⟩:=xW j;exact⟨v::a,b,rfl,by simp[dens,p,g],f⟩
def Tv {c:CV}(h:dens φ [c]=ä vs):∃v,vs=[v]∧den φ c=ä v:=by obtain⟨v,ws,rfl,g,f⟩:=bS h;simp[dens]at f;exact⟨v,by rw[←f],g⟩
def JN {φ:Gx}{h:Pos→EO}{w:æ}{St:Abs.Sb}{t:Ty}(g:∀(x:t.den) (j:List CV) (vs:List ø),xb h t x j=ü→dens φ j=ä vs→Rep w St (toD t x) vs) :
  ∀(l:List t.den) (rows:List (List CV)) (vs:List ø),agh (xb h t) l rows=ü→dens φ rows.flatten=ä vs→Rep w St (chain (toD t) l) vs
 |[],[],vs,_,hd=>by cases hd;rfl
 |x::l,r::rows,vs,f,hd=>by simp[agh]at f;rw[K_]at hd;obtain⟨a,b,rfl,C,p⟩:=xW hd;exact⟨a,b,rfl,g x r a f.1 C,JN g l rows b f.2 p⟩
 |[],_::_,_,f,_=>by cases f
 |_::_,[],_,f,_=>by cases f
def Mj (hI:Inv B W φ h w)(hSt:∀k g l,φ.loc k g=ä l→∀o,St l.b o):∀(t:Ty) (x:t.den) (p:List CV) (vs:List ø),xb h t x p=ü→dens φ p=ä vs→Rep w St (toD t x) vs:=by
 intro t;induction t with
 |int k=>
  intro x p vs f C;obtain _|⟨c,_|⟨c2,r⟩⟩:=p
  ·cases f
  ·cases c <;> first|(cases f;done)|skip
   rename_i k' m;simp only[xb,θ,υ]at f;obtain⟨rfl,rfl⟩:=f;obtain⟨v,rfl,q⟩:=Tv C;cases q;exact⟨rfl,rfl⟩
  ·cases c <;> cases f
 |bool=>
  intro x p vs f C;obtain _|⟨c,_|⟨c2,r⟩⟩:=p
  ·cases f
  ·cases c <;> first|(cases f;done)|skip
   simp only[xb,M_]at f;subst f;obtain⟨v,rfl,q⟩:=Tv C;cases q;exact⟨rfl,rfl⟩
  ·cases c <;> cases f
 |str=>
  intro x p vs f C;obtain _|⟨c,_|⟨c2,r⟩⟩:=p
  ·cases f
  ·cases c <;> first|(cases f;done)|skip
   simp[xb]at f;obtain⟨P,rfl⟩:=f;obtain⟨v,rfl,q⟩:=Tv C;simp only[den,P,i?,ι]at q;subst q;exact⟨rfl,rfl⟩
  ·cases c <;> cases f
 |unit=>
  intro x p vs f C;obtain _|⟨c,r⟩:=p
  ·simp only[dens,ι]at C;subst C;rfl
  ·cases f
 |cons a b iha U=>
  intro x p vs f C;have f:xb h a x.1 (p.take (DX a))=ü∧xb h b x.2 (p.drop (DX a))=true:=by unfold xb at f;simpa using f
  rw[←List.take_append_drop (DX a) p]at C;obtain⟨u,v,rfl,P,h2⟩:=xW C;exact⟨u,v,rfl,iha _ _ _ f.1 P,U _ _ _ f.2 h2⟩
 |slice t ih=>
  intro x p vs f C;obtain _|⟨c,_|⟨c2,r⟩⟩:=p
  ·cases f
  ·cases c <;> first|(cases f;done)|skip
   ·simp only[xb,List.isEmpty_iff]at f;subst f;obtain⟨v,rfl,q⟩:=Tv C;simp only[den,ι]at q;subst q;exact⟨ö,0,0,rfl,rfl,ε _,.inl rfl⟩
   ·rename_i k g R len cap;simp only[xb,θ]at f;obtain⟨⟨P,h2⟩,h3⟩:=f;have P:=ν P;obtain⟨v,rfl,q⟩:=Tv C;simp only[den]at q;split at q
    ·rename_i lc hl;split at q
     ·rename_i T;simp only[ι]at q;subst q;split at h3
      ·rename_i e s el ln gn fz hk;split at h3
       ·rename_i rows J;obtain⟨r1,r2,ds,r3,r4⟩:=hI.rds hl J;refine⟨ä ⟨lc.b,R,ö⟩,len,_,rfl,P.trans (Abs.len_chain _ _).symm, ?_,.inr ⟨⟨lc.b,R,ö⟩,ds,rfl,rfl,JN ih x rows ds h3 r3,λj u hu=>⟨r4 j u hu,hSt _ _ _ hl _⟩⟩⟩;cases cap with
        |none=>simp only[Am,br]at T;simp only[iA];omega
        |some c=>exact L_ h2
       ·cases h3
      ·cases h3
     ·cases q
    ·cases q
   ·simp only[xb,List.isEmpty_iff]at f;subst f;obtain⟨v,rfl,q⟩:=Tv C;simp only[den]at q;split at q
    next a c hv=>simp only[ι]at q;subst q;exact⟨ä a,0,c,rfl,rfl,Y' _,.inl rfl⟩
    ·cases q
  ·cases c <;> cases f
 |tree=>intro x p vs f C;unfold xb at f;cases f
 |jsl e=>intro x p vs f C;unfold xb at f;cases f
def HS (h:Pos→EO)(t:Ty)(x:t.den):TV→Bool
 |.pv (.one c)=>bif t.an then ß else xb h t x [c]
 |.pv (.agg l)=>bif t.an then xb h t x l else ß
 |_=>ß
def acD (P:Inv B W φ h w)(C:∀k g l,φ.loc k g=ä l→∀o,St l.b o){t:Ty}{x:t.den}{r:TV}{v:ø}(f:HS h t x r=ü)(j:RT φ r v):RepV w St t x v:=by
 cases r with
 |unk=>cases f
 |tup l=>cases f
 |pv p=>
  cases p with
  |one c=>
   simp only[HS,r?]at f;split at f
   ·cases f
   next J=>unfold RepV;rw[ω J];exact Mj P C t x [c] [v] f (by have:den φ c=ä v:=j;simp[dens,this])
  |agg l=>
   simp only[HS,r?]at f;split at f
   ·rename_i J;unfold RepV;rw[Θ J];have j:(match dens φ l with|some vs=>ä (.agg vs.toArray)|none=>ö)=ä v:=j;split at j
    next vs R=>cases j;exact⟨vs,rfl,Mj P C t x l vs f R⟩
    ·cases j
   ·cases f
def gl0:Glt:=λ_ _=>ö
def zy (p:∀w,SymVal.fact w)(hm:P.follows .mixedOrders=ü)(htb:yc P gl0 T){C dp:Nat}{ds:List ((t:Ty)×t.den)}(hds:∀w St vs,Abs.RepVs w St ds vs→RTs φN as vs){t:Ty}{x:t.den}
  (r:mkR T (jU P gl0) C dp noY .nil (.fn f) as .leaf .e = .ok v U n') (J:HS (HP.ov .nil U).get t x v=ü) (hcb:bA P f):Abs.MeetsD P f ds (.val t x):=by
 refine⟨hcb,λw St hSt vs hvs=>?_⟩;obtain⟨_,hc⟩:=HR hm htb (hds w St vs hvs) r w ⟨λg t v h=>(by cases h),λw _=>p w⟩;refine hc.mono ?_;rintro e w' ⟨u,ψ,rfl,R,hr⟩;refine⟨u,⟨λb o=>St b o∨(w.heap.size≤b∧b<w'.heap.size),St.j⟩,rfl,R.below,R.kp.dr,⟨λ_ _ h=>.inl h,λ_ _ _ _ h=>h⟩,λ_ _ h=>h,λ_ _ _ _ h=>.inl h,u,rfl, ?_⟩;exact acD (St:=⟨λb o=>St b o∨(w.heap.size≤b∧b<w'.heap.size),St.j⟩) R (λk g l hl o=>Or.inr ⟨(R.kd hl).1,R.lt hl⟩) J hr
