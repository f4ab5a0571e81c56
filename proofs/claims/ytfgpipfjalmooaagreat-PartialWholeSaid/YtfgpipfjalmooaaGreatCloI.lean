/- Closed runs. -/
import Derived.Below
import Derived.Test.YtfgpipfjalmooaaGreatAbsJ
import Derived.Calls
import Derived.KernelRfl
import Derived.Laws.StructEq
import Derived.Maps.AppendAt
import Derived.Orders
open Option renaming some→ä,none→ö
open Bool renaming true→ü,false→ß
open Go renaming World→æ,Value→ø,Program→å,TypeId→é,Operand→è,execOp→ê,Oper→ë,eqGuard→ï
set_option linter.all false
namespace Go.Proofs.YtfgpipfjalmooaaGreat
namespace Clo
open Go Go.RowKit
variable{a b:Nat}
def cB:Nat.blt a b=ü↔a<b:=by rw[Nat.blt_eq]
def agR (h:¬a<b):Nat.blt a b=false:=by cases f:Nat.blt a b with|false=>rfl|true=>exact absurd (cB.1 f) h
def br:Nat.ble a b=ü↔a≤b:=by rw[Nat.ble_eq]
def qj:Nat.beq a b=ü↔a=b:=by rw[Nat.beq_eq]
inductive Pos where
 |e
 |o (p:Pos)
 |i (p:Pos)
def Pos.num:Pos→Nat
 |.e=>0
 |.o p=>2*p.num+1
 |.i p=>2*p.num+2
def Pos.inj:∀{p q:Pos},p.num=q.num→p=q
 |.e,.e,_=>rfl
 |.e,.o q,h=>by simp only[Pos.num]at h;omega
 |.e,.i q,h=>by simp only[Pos.num]at h;omega
 |.o p,.e,h=>by simp only[Pos.num]at h;omega
 |.i p,.e,h=>by simp only[Pos.num]at h;omega
 |.o p,.o q,h=>by simp[Pos.num]at h;rw[Pos.inj (p:=p) (q:=q) Ω]
 |.i p,.i q,h=>by simp[Pos.num]at h;rw[Pos.inj (p:=p) (q:=q) Ω]
 |.o p,.i q,h=>by simp[Pos.num]at h;omega
 |.i p,.o q,h=>by simp[Pos.num]at h;omega
instance:DecidableEq Pos:=λp q=>if h:p.num=q.num then .isTrue (Pos.inj h)else .isFalse (λe=>h (by rw[e]))
def Pos.beq:Pos→Pos→Bool
 |.e,.e=>ü
 |.o p,.o q=>p.beq q
 |.i p,.i q=>p.beq q
 |_,_=>ß
def Pos.beq_iff:∀{p q:Pos},p.beq q=ü↔p=q
 |.e,.e=>by simp[Pos.beq]
 |.e,.o q=>by simp[Pos.beq]
 |.e,.i q=>by simp[Pos.beq]
 |.o p,.e=>by simp[Pos.beq]
 |.i p,.e=>by simp[Pos.beq]
 |.o p,.o q=>by simp[Pos.beq,Pos.beq_iff (p:=p) (q:=q)]
 |.i p,.i q=>by simp[Pos.beq,Pos.beq_iff (p:=p) (q:=q)]
 |.o p,.i q=>by simp[Pos.beq]
 |.i p,.o q=>by simp[Pos.beq]
def Pos.succ:Pos→Pos
 |.e=>.o .e
 |.o p=>.i p
 |.i p=>.o p.succ
def Pos.Pr:∀p:Pos,p.succ.num=p.num+1
 |.e=>rfl
 |.o p=>rfl
 |.i p=>by simp[Pos.succ,Pos.num,Pos.Pr p];omega
def aar:Nat→Nat→Pos
 |0,_=>.e
 |_+1,0=>.e
 |f+1,n+1=>match Nat.beq (n%2) 0 with
  |true=>.o (aar f (n/2))
  |false=>.i (aar f (n/2))
def pos (n:Nat):Pos:=aar 64 n
def tv:∀(f n:Nat),n+2≤2^f→(aar f n).num=n
 |0,n,h=>by simp at h
 |f+1,0,_=>rfl
 |f+1,n+1,h=>by
  have j:2^(f+1)=2*2^f:=by rw[Nat.pow_succ];omega
  simp[aar];cases g:Nat.beq (n%2) 0 with
  |true =>have:=ν g;simp[Pos.num];rw[tv f (n/2) Ω];omega
  |false =>have:=J_ g;simp[Pos.num];rw[tv f (n/2) Ω];omega
inductive PM (R:Type) where
 |leaf
 |node (l:PM R) (a:R) (r:PM R)
section
variable {R:Type}
def PM.get (d:R):PM R→Pos→R
 |.leaf,_=>d
 |.node l a r,p=>match p with
  |.e=>a
  |.o p=>l.get d p
  |.i p=>r.get d p
def PM.set (d:R):Pos→PM R→R→PM R
 |.e,.leaf,x=>.node .leaf x .leaf
 |.e,.node l _ r,x=>.node l x r
 |.o p,.leaf,x=>.node (PM.set d p .leaf x) d .leaf
 |.o p,.node l a r,x=>.node (PM.set d p l x) a r
 |.i p,.leaf,x=>.node .leaf d (PM.set d p .leaf x)
 |.i p,.node l a r,x=>.node l a (PM.set d p r x)
def upd (f:Pos→R)(k:Pos)(x:R):Pos→R:=λq=>if k=q then x else f q
def aU (f:Pos→R)(k:Pos)(x:R):upd f k x k=x:=Θ rfl
def bB (f:Pos→R){k q:Pos}(x:R)(h:k≠q):upd f k x q=f q:=ω h
def PM.cf (d x:R):∀(p:Pos) (t:PM R),(PM.set d p t x).get d=upd (t.get d) p x
 |.e,.leaf=>by funext q;cases q <;> simp[PM.set,PM.get,upd]
 |.e,.node l a r=>by funext q;cases q <;> simp[PM.set,PM.get,upd]
 |.o p,.leaf=>by funext q;cases q <;> simp[PM.set,PM.get,upd];rw[PM.cf d x p .leaf];simp[upd,PM.get]
 |.o p,.node l a r=>by funext q;cases q <;> simp[PM.set,PM.get,upd];rw[PM.cf d x p l];simp[upd]
 |.i p,.leaf=>by funext q;cases q <;> simp[PM.set,PM.get,upd];rw[PM.cf d x p .leaf];simp[upd,PM.get]
 |.i p,.node l a r=>by funext q;cases q <;> simp[PM.set,PM.get,upd];rw[PM.cf d x p r];simp[upd]
end
inductive PT (R:Type) where
 |leaf
 |node (l:PT R) (a:R) (r:PT R)
section
variable {R:Type}
def PT.get (d:R):PT R→Nat→R
 |.leaf,_=>d
 |.node l a r,i=>match i with
  |0=>a
  |i+1=>match Nat.beq (i%2) 0 with
   |true=>l.get d (i/2)
   |false=>r.get d (i/2)
def PT.set (d:R):Nat→PT R→Nat→R→PT R
 |0,t,_,_=>t
 |f+1,t,i,x=>match t,i with
  |.leaf,0=>.node .leaf x .leaf
  |.node l _ r,0=>.node l x r
  |.leaf,i+1=>match Nat.beq (i%2) 0 with
   |true=>.node (PT.set d f .leaf (i/2) x) d .leaf
   |false=>.node .leaf d (PT.set d f .leaf (i/2) x)
  |.node l a r,i+1=>match Nat.beq (i%2) 0 with
   |true=>.node (PT.set d f l (i/2) x) a r
   |false=>.node l a (PT.set d f r (i/2) x)
def Vx (i:Nat):Nat.beq (i%2) 0=decide (i%2=0):=by
 cases h:Nat.beq (i%2) 0 with
 |true=>exact(Q_ (ν h)).symm
 |false=>exact(I? (J_ h)).symm
def PT.cf (d x:R):∀(f:Nat) (t:PT R) (i j:Nat),i+2≤2^f→(t.set d f i x).get d j=if i=j then x else t.get d j
 |0,t,i,j,h=>by simp at h
 |f+1,t,i,j,h=>by
  have J:2^(f+1)=2*2^f:=by rw[Nat.pow_succ];omega
  cases i with
  |zero=>
   cases t with
   |leaf=>cases j with
    |zero=>rfl
    |succ j=>simp[PT.set,PT.get];cases Nat.beq (j%2) 0 <;> simp
   |node l a r=>cases j with
    |zero=>rfl
    |succ j=>simp only[PT.set,PT.get];cases Nat.beq (j%2) 0 <;> simp
  |succ i=>
   have C:∀(t:PT R) (j:Nat),(t.set d f (i/2) x).get d j=if i/2=j then x else t.get d j:=λt j=>PT.cf d x f t (i/2) j Ω
   cases t with
   |leaf=>
    cases j with
    |zero=>simp[PT.set];cases Nat.beq (i%2) 0 <;> simp[PT.get]
    |succ j=>
     simp[PT.set];by_cases p:i%2=0 <;> by_cases g:j%2=0 <;> simp only[p,g,B?,t?,PT.get,Vx,C]
     ·by_cases e:i=j
      ·simp[e]
      ·rw[ω Ω,ω Ω]
     ·rw[ω Ω]
     ·rw[ω Ω]
     ·by_cases e:i=j
      ·simp[e]
      ·rw[ω Ω,ω Ω]
   |node l a r=>
    cases j with
    |zero=>simp[PT.set];cases Nat.beq (i%2) 0 <;> simp[PT.get]
    |succ j=>
     simp[PT.set];by_cases p:i%2=0 <;> by_cases g:j%2=0 <;> simp only[p,g,B?,t?,PT.get,Vx,C]
     ·by_cases e:i=j
      ·simp[e]
      ·rw[ω Ω,ω Ω]
     ·rw[ω Ω]
     ·rw[ω Ω]
     ·by_cases e:i=j
      ·simp[e]
      ·rw[ω Ω,ω Ω]
end
inductive CV where
 |bl (b:Bool)
 |int (k:IntKind) (n:Int)
 |str (s:List Nat)
 |nilp
 |ptr (k:Pos) (g off:Nat)
 |glob (b:Nat)
 |nils
 |sl (k:Pos) (g off len:Nat) (cap:Option Nat)
 |emp (k:Pos)
 |nilm
 |mp (k:Pos)
 |nilf
 |fnc (f:FuncId)
 |clo (k:Pos)
 |nili
 |ifc (k:Pos)
 |sym (n:Nat)
inductive PV where
 |one (c:CV)
 |agg (l:List CV)
inductive TV where
 |unk
 |pv (v:PV)
 |tup (l:List PV)
structure Ch where
 cs:List CV
 m:Nat
inductive Fz where
 |no|out|yes
structure ME where
 key:PV
 val:PV
 born:Nat
inductive EO where
 |none
 |row (e:é) (s:Nat) (el:PT Ch) (len gen:Nat) (fz:Fz)
 |map (es:List ME) (clock:Nat)
 |mit (m:Option Pos) (since:Nat) (seen:List Nat) (stepped:Nat)
 |mitU (m:Pos) (since:Nat) (bs:List Nat) (at_:Option (Nat×Nat))
 |sit (s:List Nat) (p:Nat)
 |clo (fn:Fn) (first caps:List PV)
 |ifc (t:é) (v:PV)
 |emp
 |yld
 |dead
 |cz
structure Loc where
 b:Nat
 n:Nat
 s:Nat
structure Gx where
 loc:Pos→Nat→Option Loc
 val:Pos→Option ø
 mu:Pos→Option Nat
def iA (cap:Option Nat)(n d:Nat):Nat:=match cap with|some c=>c|none=>n-d
def Am (cap:Option Nat)(len n d:Nat):Bool:=match cap with|some _=>ü|none=>Nat.ble (d+len) n
def strV (s:List Nat):Value :=.string ⟨(s.map UInt8.ofNat).toArray⟩
def okStr (s:List Nat):Bool:=s.all λb=>Nat.blt b 256
class SymVal where
 v:Nat→ø
 one:∀n,(v n).oneCell'=ü
 fact:æ→Prop
variable [SymVal]
def den (p:Gx):CV→Option ø
 |.bl b=>ä (.bool b)
 |.int k n=>ä (.int k n)
 |.str s=>if okStr s=ü then ä (strV s)else ö
 |.nilp=>ä (.pointer ö)
 |.ptr k g j=>match p.loc k g with
  |some l=>ä (.pointer (ä ⟨l.b,j,ö⟩))
  |none=>ö
 |.glob b=>ä (.pointer (ä ⟨b,0,ö⟩))
 |.nils=>ä (.slice ö 0 0)
 |.sl k g j len cap=>match p.loc k g with
  |some l=>if Am cap len l.n (j/l.s)=ü then ä (.slice (ä ⟨l.b,j,ö⟩) len (iA cap l.n (j/l.s)))else ö
  |none=>ö
 |.emp k=>match p.val k with
  |some (.slice (ä a) 0 c)=>ä (.slice (ä a) 0 c)
  |_=>ö
 |.nilm=>ä (.map ö)
 |.mp k=>match p.loc k 0 with
  |some l=>ä (.map (ä l.b))
  |none=>ö
 |.nilf=>ä .nilFunc
 |.fnc f=>ä (.func (.func f) #[] #[])
 |.clo k=>match p.val k with
  |some (.func fn a b)=>ä (.func fn a b)
  |_=>ö
 |.nili=>ä .nilIface
 |.sym n=>ä (SymVal.v n)
 |.ifc k=>match p.val k with
  |some (.iface t v)=>ä (.iface t v)
  |_=>ö
structure Gx.le (φ ψ:Gx):Prop where
 loc:∀k g l,φ.loc k g=ä l→ψ.loc k g=ä l
 val:∀k v,φ.val k=ä v→ψ.val k=ä v
 mu:∀k v,φ.mu k=ä v→ψ.mu k=ä v
def Gx.le.refl (f:Gx):f.le f:=⟨λ_ _ _ h=>h,λ_ _ h=>h,λ_ _ h=>h⟩
def Gx.le.trans {a b c:Gx}(h:a.le b)(k:b.le c):a.le c:=⟨λp g l x=>k.loc p g l (h.loc p g l x),λp v x=>k.val p v (h.val p v x),λp v x=>k.mu p v (h.mu p v x)⟩
variable{φ ψ:Gx}{l:List CV}{vs:List ø}{v:ø}{o:EO}
def dT (h:φ.le ψ):∀{c:CV} {v:ø},den φ c=ä v→den ψ c=ä v
 |.bl _,_,r=>r
 |.int _ _,_,r=>r
 |.str _,_,r=>r
 |.nilp,_,r=>r
 |.glob _,_,r=>r
 |.nils,_,r=>r
 |.nilm,_,r=>r
 |.nilf,_,r=>r
 |.fnc _,_,r=>r
 |.nili,_,r=>r
 |.sym _,_,r=>r
 |.ptr k g j,v,r=>by
  simp[den]at r⊢;cases f:φ.loc k g with
  |none=>simp[f]at r
  |some l=>rw[f]at r;rw[h.loc k g l f];exact r
 |.sl k g j len cap,v,r=>by
  simp[den]at r⊢;cases f:φ.loc k g with
  |none=>simp[f]at r
  |some l=>rw[f]at r;rw[h.loc k g l f];exact r
 |.mp k,v,r=>by
  simp[den]at r⊢;cases f:φ.loc k 0 with
  |none=>simp[f]at r
  |some l=>rw[f]at r;rw[h.loc k 0 l f];exact r
 |.clo k,v,r=>by
  simp[den]at r⊢;cases f:φ.val k with
  |none=>simp[f]at r
  |some l=>rw[f]at r;rw[h.val k l f];exact r
 |.emp k,v,r=>by
  simp[den]at r⊢;cases f:φ.val k with
  |none=>simp[f]at r
  |some l=>rw[f]at r;rw[h.val k l f];exact r
 |.ifc k,v,r=>by
  simp[den]at r⊢;cases f:φ.val k with
  |none=>simp[f]at r
  |some l=>rw[f]at r;rw[h.val k l f];exact r
def Vm:∀{c:CV} {v:ø},den φ c=ä v→v.oneCell'=ü
 |.bl _,_,r=>by cases r;rfl
 |.int _ _,_,r=>by cases r;rfl
 |.str _,_,r=>by
  simp only[den]at r;split at r
  ·cases r;rfl
  ·cases r
 |.nilp,_,r=>by cases r;rfl
 |.glob _,_,r=>by cases r;rfl
 |.nils,_,r=>by cases r;rfl
 |.nilm,_,r=>by cases r;rfl
 |.nilf,_,r=>by cases r;rfl
 |.fnc _,_,r=>by cases r;rfl
 |.nili,_,r=>by cases r;rfl
 |.sym n,_,r=>by cases r;exact SymVal.one n
 |.ptr k g f,v,r=>by
  simp[den]at r;split at r
  ·cases r;rfl
  ·cases r
 |.sl k g f len cap,v,r=>by
  simp[den]at r;split at r
  ·split at r
   ·cases r;rfl
   ·cases r
  ·cases r
 |.mp k,v,r=>by
  simp[den]at r;split at r
  ·cases r;rfl
  ·cases r
 |.clo k,v,r=>by
  simp[den]at r;split at r
  ·cases r;rfl
  ·cases r
 |.emp k,v,r=>by
  simp[den]at r;split at r
  ·cases r;rfl
  ·cases r
 |.ifc k,v,r=>by
  simp[den]at r;split at r
  ·cases r;rfl
  ·cases r
def dens (φ:Gx):List CV→Option (List ø)
 |[]=>ä []
 |c::r=>match den φ c,dens φ r with
  |some v,ä vs=>ä (v::vs)
  |_,_=>ö
def JE {φ ψ:Gx}(h:φ.le ψ):∀{l:List CV} {vs:List ø},dens φ l=ä vs→dens ψ l=ä vs
 |[],_,r=>r
 |c::l,vs,r=>by
  simp[dens]at r⊢;cases f:den φ c with
  |none=>simp[f]at r
  |some v=>
   cases g:dens φ l with
   |none=>simp[f,g]at r
   |some ws=>rw[f,g]at r;rw[dT h f,JE h g];exact r
def ba {φ:Gx}:∀{l:List CV} {vs:List ø},dens φ l=ä vs→vs.length=l.length
 |[],_,r=>by cases r;rfl
 |c::l,vs,r=>by
  simp[dens]at r;split at r
  next v ws h1 h2=>cases r;simp[ba h2]
  ·cases r
def bS {c:CV}(r:dens φ (c::l)=ä vs):∃v ws,vs=v::ws∧den φ c=ä v∧dens φ l=ä ws:=by
 simp[dens]at r;split at r
 next v ws g f=>simp at r;exact⟨v,ws,r.symm,g,f⟩
 ·cases r
def vY {c:CV}(h:den φ c=ä v)(r:dens φ l=ä vs):dens φ (c::l)=ä (v::vs):=by simp[dens,h,r]
def mE {φ:Gx}:∀{l:List CV} {vs:List ø},dens φ l=ä vs→∀{i:Nat} {c:CV},l[i]? = ä c→∃v,vs[i]? = ä v∧den φ c=ä v
 |[],_,_,i,c,h=>by simp at h
 |x::l,vs,r,i,c,h=>by
  obtain⟨v,ws,rfl,g,f⟩:=bS r;cases i with
  |zero=>simp at h;subst h;exact⟨v,rfl,g⟩
  |succ i=>simp at h;obtain⟨u,q1,q2⟩:=mE f h;exact⟨u,by simpa using q1,q2⟩
def cx {φ:Gx}:∀{l m:List CV} {vs ws:List ø},dens φ l=ä vs→dens φ m=ä ws→dens φ (l++m)=ä (vs++ws)
 |[],m,vs,ws,r,q=>by cases r;exact q
 |c::l,m,vs,ws,r,q=>by obtain⟨v,j,rfl,g,f⟩:=bS r;exact vY g (cx f q)
def la {φ:Gx}:∀{l:List CV} {vs:List ø} (n:Nat),dens φ l=ä vs→dens φ (l.take n)=ä (vs.take n)
 |[],vs,n,r=>by cases r;simp[dens]
 |c::l,vs,0,r=>by simp[dens]
 |c::l,vs,n+1,r=>by obtain⟨v,j,rfl,g,f⟩:=bS r;exact vY g (la n f)
def iP {φ:Gx}:∀{l:List CV} {vs:List ø} (n:Nat),dens φ l=ä vs→dens φ (l.drop n)=ä (vs.drop n)
 |[],vs,n,r=>by cases r;simp[dens]
 |c::l,vs,0,r=>r
 |c::l,vs,n+1,r=>by obtain⟨v,g,rfl,j,f⟩:=bS r;exact iP n f
def GR {φ:Gx}:∀{l:List CV} {vs:List ø},dens φ l=ä vs→∀u∈vs,u.oneCell'=ü
 |[],vs,r,u,hu=>by cases r;cases hu
 |c::l,vs,r,u,hu=>by
  obtain⟨v,j,rfl,g,f⟩:=bS r;obtain rfl|hu:=c_.1 hu
  ·exact Vm g
  ·exact GR f u hu
def PV.cells:PV→List CV
 |.one c=>[c]
 |.agg l=>l
def denP (φ:Gx):PV→Option ø
 |.one c=>den φ c
 |.agg l=>match dens φ l with
  |some vs=>ä (.agg vs.toArray)
  |none=>ö
def cO (h:φ.le ψ):∀{p:PV} {v:ø},denP φ p=ä v→denP ψ p=ä v
 |.one c,v,r=>dT h r
 |.agg l,v,r=>by
  simp[denP]at r⊢;cases f:dens φ l with
  |none=>simp[f]at r
  |some vs=>rw[f]at r;rw[JE h f];exact r
def Bz (h:v.oneCell'=ü):v.cells = #[v]:=by
 cases v <;> first|rfl|cases h
def da {p:PV}(h:denP φ p=ä v):dens φ p.cells=ä v.cells.toList:=by
 cases p with
 |one c =>have h:den φ c=ä v:=h;simp[PV.cells];rw[vY h rfl,Bz (Vm h)]
 |agg l=>
  simp[denP]at h;split at h
  next vs hv=>cases h;exact hv
  ·cases h
def cA (φ:Gx):List PV→Option (List ø)
 |[]=>ä []
 |c::r=>match denP φ c,cA φ r with
  |some v,ä vs=>ä (v::vs)
  |_,_=>ö
def gk {c:PV}{l:List PV}(r:cA φ (c::l)=ä vs):∃v ws,vs=v::ws∧denP φ c=ä v∧cA φ l=ä ws:=by
 simp[cA]at r;split at r
 next v ws g f=>simp at r;exact⟨v,ws,r.symm,g,f⟩
 ·cases r
def bJ {c:PV}{l:List PV}(h:denP φ c=ä v)(r:cA φ l=ä vs):cA φ (c::l)=ä (v::vs):=by simp[cA,h,r]
def cZ {φ ψ:Gx}(h:φ.le ψ):∀{l:List PV} {vs:List ø},cA φ l=ä vs→cA ψ l=ä vs
 |[],_,r=>r
 |c::l,vs,r=>by obtain⟨v,j,rfl,g,f⟩:=gk r;exact bJ (cO h g) (cZ h f)
def JG {φ:Gx}:∀{l:List PV} {vs:List ø},cA φ l=ä vs→∀{i:Nat} {c:PV},l[i]? = ä c→∃v,vs[i]? = ä v∧denP φ c=ä v
 |[],_,_,i,c,h=>by simp at h
 |x::l,vs,r,i,c,h=>by
  obtain⟨v,ws,rfl,g,f⟩:=gk r;cases i with
  |zero=>simp at h;subst h;exact⟨v,rfl,g⟩
  |succ i=>simp at h;obtain⟨u,q1,q2⟩:=JG f h;exact⟨u,by simpa using q1,q2⟩
def RT (φ:Gx):TV→ø→Prop
 |.unk,_=>True
 |.pv p,v=>denP φ p=ä v
 |.tup l,v=>∃vs,cA φ l=ä vs∧v = .tuple vs.toArray
def RT.mono (h:φ.le ψ):∀{t:TV} {v:ø},RT φ t v→RT ψ t v
 |.unk,_,_=>trivial
 |.pv _,_,r=>cO h r
 |.tup _,_,⟨vs,r,e⟩=>⟨vs,cZ h r,e⟩
variable [SymVal]
def stays:Obj→Bool
 |.loop _=>ü
 |.deferred _=>ü
 |_=>ß
structure Kp (w w':æ):Prop where
 dr:dz w≤dz w'
 keep:∀(k:Nat) (o:Obj),w.heap[k]? = ä o→stays o=ü→w'.heap[k]? = ä o
def Kp.refl (w:æ):Kp w w:=⟨ε _,λ_ _ h _=>h⟩
def Kp.trans {a b c:æ}(h:Kp a b)(k:Kp b c):Kp a c:=⟨ξ h.dr k.dr,λi o x y=>k.keep i o (h.keep i o x y) y⟩
def ajp (f:Nat×Nat)(size:Nat)(fz:Fz):Prop:=match fz with
 |.no=>f=(0,0)
 |.out=>∀o,o<size→¬(f.1≤o∧o<f.2)
 |.yes=>True
def ags (φ:Gx)(f:Array ø)(s i:Nat)(ch:Ch):Prop :=
 ch.cs.length=s∧∀(j:Nat) (c:CV),ch.cs[j]? = ä c→∃v,f[i*s+j]? = ä v∧den φ c=ä v
def dch:Ch:=⟨[],0⟩
structure RowAt (φ:Gx)(w:æ)(B:Nat)(e:é)(s:Nat)(el:PT Ch)(len:Nat)(fz:Fz)(g:Nat)(l:Loc):Prop where
 lo:B≤l.b
 sz:l.s=s
 e7:∃e7 fr,w.heap[l.b]? = ä (.cells e7 e fr)∧e7.size=l.n*s∧ajp fr e7.size fz ∧
  ∀i,i<len→(el.get dch i).m≤g→i<l.n∧ags φ e7 s i (el.get dch i)
def denEs (φ:Gx)(f:List ME)(vs:List MapEntry):Prop :=
 vs.length=f.length∧∀(i:Nat) (e:ME),f[i]? = ä e→∃v,vs[i]? = ä v∧denP φ e.key=ä v.key∧denP φ e.val=ä v.val∧v.born=e.born
def iB (φ:Gx)(w:æ)(B:Nat)(k:Pos):EO→Prop
 |.none=>(∀g,φ.loc k g=ö)∧φ.val k=ö∧φ.mu k=ö
 |.row e s T len C fz=>0<s∧len+2≤2^32∧(∀i,i<len→(T.get dch i).m≤C)∧(∀g,C<g→φ.loc k g=ö)∧(∀g,g≤C→∃l,φ.loc k g=ä l∧RowAt φ w B e s T len fz g l∧(g=C→len≤l.n))
 |.map U clock=>(∀g,0<g→φ.loc k g=ö)∧∃l vs,φ.loc k 0=ä l∧B≤l.b∧w.heap[l.b]? = ä (.map vs clock)∧denEs φ U vs.toList
 |.mit m j seen f=>(∀g,0<g→φ.loc k g=ö)∧∃l,φ.loc k 0=ä l∧B≤l.b ∧
   match m with
   |none=>w.heap[l.b]? = ä (.mapIter ö j seen.toArray f)
   |some m=>∃J,φ.loc m 0=ä J∧w.heap[l.b]? = ä (.mapIter (ä J.b) j seen.toArray f)
 |.mitU m j bs R=>(∀g,0<g→φ.loc k g=ö)∧∃l J seen f n,φ.loc k 0=ä l∧B≤l.b∧φ.loc m 0=ä J∧w.heap[l.b]? = ä (.mapIter (ä J.b) j seen f)∧j≤f∧φ.mu k=ä n∧(bs.filter λb=>!seen.contains b).length+(match R with|some _=>1|none=>0)≤n∧(∀p,R=ä p→seen.back? = ä p.1∧f=p.2)
 |.sit s p=>(∀g,0<g→φ.loc k g=ö)∧okStr s=ü∧∃l,φ.loc k 0=ä l∧B≤l.b∧w.heap[l.b]? = ä (.stringIter ⟨(s.map UInt8.ofNat).toArray⟩ p)
 |.clo fn first P=>(∀g,φ.loc k g=ö)∧∃a b,cA φ first=ä a∧cA φ P=ä b∧φ.val k=ä (.func fn a.toArray b.toArray)
 |.ifc t v=>(∀g,φ.loc k g=ö)∧∃u,denP φ v=ä u∧φ.val k=ä (.iface t u)
 |.emp=>(∀g,φ.loc k g=ö)∧∃a c,φ.val k=ä (.slice (ä a) 0 c)
 |.dead=>∀g l,φ.loc k g=ä l→B≤l.b∧∃o,w.heap[l.b]? = ä o
 |.cz=>∀g l,φ.loc k g=ä l→B≤l.b∧∃o,w.heap[l.b]? = ä o
 |.yld=>(∀g,0<g→φ.loc k g=ö)∧∃l,φ.loc k 0=ä l∧B≤l.b∧φ.val k=ä (.func (.yield l.b) #[] #[])∧∃r,w.heap[l.b]? = ä (.loop r)
structure W0 where
 w:æ
 φ:Gx
def Cq:EO→Bool
 |.cz=>ü
 |_=>ß
def iE:EO→Bool
 |.none=>ü
 |.cz=>ü
 |_=>ß
def YC (h:iE o=ß):Cq o=false:=by cases o <;> first|rfl|cases h
def WS (h:Cq o=ü):iE o=true:=by cases o <;> first|rfl|cases h
structure Inv (B:Nat)(J:W0)(φ:Gx)(h:Pos→EO)(w:æ):Prop where
 below:Below B J.w w
 kp:Kp J.w w
 le:J.φ.le φ
 cz:∀k,Cq (h k)=ü→(∀g,φ.loc k g=J.φ.loc k g)∧φ.val k=J.φ.val k∧φ.mu k=J.φ.mu k∧∀g l,φ.loc k g=ä l→w.heap[l.b]? = J.w.heap[l.b]?
 size:B≤w.heap.size
 obj:∀k,iB φ w B k (h k)
 sep:∀k g l k' g' l',φ.loc k g=ä l→φ.loc k' g'=ä l'→l.b=l'.b→k=k'
def Tu (h:φ.le ψ){f:List ME}{vs:List MapEntry}(r:denEs φ f vs):denEs ψ f vs :=
 ⟨r.1,λi e l=>let ⟨v,q1,q2,j,g⟩:=r.2 i e l;⟨v,q1,cO h q2,cO h j,g⟩⟩
def ags.mono (h:φ.le ψ){f:Array ø}{s i:Nat}{ch:Ch}(r:ags φ f s i ch):ags ψ f s i ch :=
 ⟨r.1,λj c g=>let ⟨v,q1,q2⟩:=r.2 j c g;⟨v,q1,dT h q2⟩⟩
def RowAt.mono {φ ψ:Gx}{w w':æ}{B:Nat}{e:é}{s:Nat}{J:PT Ch}{len:Nat}{fz:Fz}{g:Nat}{l:Loc}(h:φ.le ψ)(hw:w'.heap[l.b]? = w.heap[l.b]?)(r:RowAt φ w B e s J len fz g l):RowAt ψ w' B e s J len fz g l:=by obtain⟨r1,U,f,fr,T,R,P,j⟩:=r;exact⟨r1,U,f,fr,hw.trans T,R,P,λi C p=>⟨(j i C p).1,(j i C p).2.mono h⟩⟩
def iB.keep {w w':æ}{B:Nat}{k:Pos}(J:φ.le ψ)(f:∀g,ψ.loc k g=φ.loc k g)(hv:ψ.val k=φ.val k)(hm:ψ.mu k=φ.mu k)(T:∀g l,φ.loc k g=ä l→w'.heap[l.b]? = w.heap[l.b]?)(h:iB φ w B k o):iB ψ w' B k o:=by
 cases o with
 |none=>exact⟨λg=>(f g).trans (h.1 g),hv.trans h.2.1,hm.trans h.2.2⟩
 |mitU m U bs st =>obtain⟨C,l,l',seen,j,n,q1,q2,P,q4,q5,q6,q7⟩:=h;exact⟨λg R=>(f g).trans (C g R),l,l',seen,j,n,(f 0).trans q1,q2,J.loc _ _ _ P,(T 0 l q1).trans q4,q5,hm.trans q6,q7⟩
 |row e s el len gen fz =>obtain⟨h0,C,hmm,h2,h3⟩:=h;refine⟨h0,C,hmm,λg R=>(f g).trans (h2 g R),λg R=>?_⟩;obtain⟨l,q1,q2,P⟩:=h3 g R;exact⟨l,(f g).trans q1,q2.mono J (T g l q1),P⟩
 |map es clock =>obtain⟨C,l,vs,q1,q2,P,q4⟩:=h;exact⟨λg R=>(f g).trans (C g R),l,vs,(f 0).trans q1,q2,(T 0 l q1).trans P,Tu J q4⟩
 |mit m U seen j=>
  obtain⟨C,l,q1,q2,P⟩:=h;refine⟨λg R=>(f g).trans (C g R),l,(f 0).trans q1,q2, ?_⟩;cases m with
  |none=>exact(T 0 l q1).trans P
  |some m=>obtain⟨l',q4,q5⟩:=P;exact⟨l',J.loc _ _ _ q4,(T 0 l q1).trans q5⟩
 |sit s p =>obtain⟨C,h2,l,q1,q2,P⟩:=h;exact⟨λg R=>(f g).trans (C g R),h2,l,(f 0).trans q1,q2,(T 0 l q1).trans P⟩
 |clo fn first caps =>obtain⟨C,a,b,q1,q2,P⟩:=h;exact⟨λg=>(f g).trans (C g),a,b,cZ J q1,cZ J q2,hv.trans P⟩
 |ifc t v =>obtain⟨C,u,q1,q2⟩:=h;exact⟨λg=>(f g).trans (C g),u,cO J q1,hv.trans q2⟩
 |emp =>obtain⟨C,a,c,q1⟩:=h;exact⟨λg=>(f g).trans (C g),a,c,hv.trans q1⟩
 |cz=>exact λg l q=>⟨(h g l ((f g).symm.trans q)).1,by rw[T g l ((f g).symm.trans q)];exact(h g l ((f g).symm.trans q)).2⟩
 |dead=>exact λg l q=>⟨(h g l ((f g).symm.trans q)).1,by rw[T g l ((f g).symm.trans q)];exact(h g l ((f g).symm.trans q)).2⟩
 |yld =>obtain⟨C,l,q1,q2,P,r,q4⟩:=h;exact⟨λg R=>(f g).trans (C g R),l,(f 0).trans q1,q2,hv.trans P,r,(T 0 l q1).trans q4⟩
section
variable {B:Nat}{J:W0}{φ:Gx}{h:Pos→EO}{w:æ}
variable{k:Pos}{g:Nat}{l:Loc}{o' :EO}
def Inv.kd (hI:Inv B J φ h w)(f:φ.loc k g=ä l):B≤l.b∧∃o,w.heap[l.b]? = ä o:=by
 have j:=hI.obj k;cases C:h k with
 |none=>rw[C]at j;rw[j.1 g]at f;cases f
 |row e s el len gen fz=>
  rw[C]at j;obtain⟨h0,R,hm,h2,h3⟩:=j;obtain x|x:=i_ gen g
  ·rw[h2 g x]at f;cases f
  ·obtain⟨l',q1,⟨q2,T,e7,fr,q4,_⟩,_⟩:=h3 g x;rw[q1]at f;cases f;exact⟨q2,_,q4⟩
 |map es clock=>
  rw[C]at j;obtain⟨R,l',vs,q1,q2,T,_⟩:=j;cases g with
  |zero=>rw[q1]at f;cases f;exact⟨q2,_,T⟩
  |succ g=>rw[R _ Ω]at f;cases f
 |mit m U seen P=>
  rw[C]at j;obtain⟨R,l',q1,q2,T⟩:=j;cases g with
  |zero=>
   rw[q1]at f;cases f;cases m with
   |none=>exact⟨q2,_,T⟩
   |some m=>obtain⟨l',_,q5⟩:=T;exact⟨q2,_,q5⟩
  |succ g=>rw[R _ Ω]at f;cases f
 |mitU m U bs st=>
  rw[C]at j;obtain⟨R,l1,l2,seen,P,n,q1,q2,T,q4,_⟩:=j;cases g with
  |zero=>rw[q1]at f;cases f;exact⟨q2,_,q4⟩
  |succ g=>rw[R _ Ω]at f;cases f
 |sit s p=>
  rw[C]at j;obtain⟨R,_,l',q1,q2,T⟩:=j;cases g with
  |zero=>rw[q1]at f;cases f;exact⟨q2,_,T⟩
  |succ g=>rw[R _ Ω]at f;cases f
 |clo fn first caps=>rw[C]at j;rw[j.1 g]at f;cases f
 |ifc t v=>rw[C]at j;rw[j.1 g]at f;cases f
 |emp=>rw[C]at j;rw[j.1 g]at f;cases f
 |dead=>rw[C]at j;exact j g l f
 |cz=>rw[C]at j;exact j g l f
 |yld=>
  rw[C]at j;obtain⟨R,l',q1,q2,T,r,q4⟩:=j;cases g with
  |zero=>rw[q1]at f;cases f;exact⟨q2,_,q4⟩
  |succ g=>rw[R _ Ω]at f;cases f
def Inv.lt (p:Inv B J φ h w)(j:φ.loc k g=ä l):l.b<w.heap.size:=by obtain⟨_,o,f⟩:=p.kd j;exact(δ.1 f).1
def Inv.lb (p:Inv B J φ h w){ψ:Gx}{P:æ}{r:Pos}(hle:φ.le ψ)
  (j:∀k,k≠r→(∀g,ψ.loc k g=φ.loc k g)∧ψ.val k=φ.val k∧ψ.mu k=φ.mu k)
  (U:∀g l,ψ.loc r g=ä l→(∃g1 l1,φ.loc r g1=ä l1∧l1.b=l.b)∨w.heap.size≤l.b)
  (hw:∀b,b<w.heap.size→(∀g l,φ.loc r g=ä l→l.b≠b)→P.heap[b]? = w.heap[b]?)
  (hs:∀g l,φ.loc r g=ä l→∀o,w.heap[l.b]? = ä o→stays o=ü→P.heap[l.b]? = ä o)
  (hos:P.os=w.os) (htp:P.tape=w.tape) (hou:P.output=w.output) (hsz:w.heap.size≤P.heap.size) (hdr:dz w≤dz P)
  (hob:iB ψ P B r o') (hno:iE o'=false:=by rfl):Inv B J ψ (upd h r o') P:=by
 have hblk:∀b,b<B→P.heap[b]? = w.heap[b]?:=λb hb=>hw b (d_ hb p.size) λg l R e=>by have:=(p.kd R).1;omega
 refine⟨p.below.trans ⟨hos,htp,hou,hsz,hblk⟩,p.kp.trans ⟨hdr,λk o f ho=>?_⟩,p.le.trans hle,λk f=>?_,ξ p.size hsz,λk=>?_,λk g l k' g' l' h1 h2 e=>?_⟩
 ·by_cases hx:∃g l,φ.loc r g=ä l∧l.b=k
  ·obtain⟨g,l,q1,rfl⟩:=hx;exact hs g l q1 o f ho
  ·rw[hw k (δ.1 f).1 λg l q e=>hx ⟨g,l,q,e⟩];exact f
 ·by_cases T:r=k
  ·subst T;rw[aU,YC hno]at f;cases f
  ·rw[bB h o' T]at f;obtain⟨q1,q2,q3⟩:=j k (λe=>T e.symm);obtain⟨r1,r2,r3,r4⟩:=p.cz k f;refine⟨λg=>(q1 g).trans (r1 g),q2.trans r2,q3.trans r3,λg l R=>?_⟩;rw[q1 g]at R;rw[hw _ (p.lt R) λg' l' hl' e=>T (p.sep _ _ _ _ _ _ hl' R e)];exact r4 g l R
 ·by_cases f:r=k
  ·subst f;rw[aU];exact hob
  ·rw[bB h o' f];obtain⟨q1,q2,q3⟩:=j k (λe=>f e.symm);refine(p.obj k).keep hle q1 q2 q3 λg l R=>hw _ (p.lt R) λg' l' hl' e=>f (p.sep _ _ _ _ _ _ hl' R e)
 ·by_cases f:k=r
  ·by_cases C:k'=r
   ·rw[f,C]
   ·rw[(j k' C).1]at h2;rw[f]at h1;rcases U g l h1 with⟨g1,l1,q1,q2⟩|q
    ·have:=p.sep _ _ _ _ _ _ q1 h2 (q2.trans e);exact absurd this.symm C
    ·have:=p.lt h2;omega
  ·rw[(j k f).1]at h1;by_cases C:k'=r
   ·rw[C]at h2;rcases U g' l' h2 with⟨g1,l1,q1,q2⟩|q
    ·have:=p.sep _ _ _ _ _ _ h1 q1 (e.trans q2.symm);exact absurd this f
    ·have:=p.lt h1;omega
   ·rw[(j k' C).1]at h2;exact p.sep _ _ _ _ _ _ h1 h2 e
def Gx.add (φ:Gx)(k:Pos)(l:Loc):Gx:=⟨λq g=>if q=k then(if g=0 then ä l else ö)else φ.loc q g,φ.val,φ.mu⟩
def Gx.zc (φ:Gx)(k:Pos)(v:ø):Gx:=⟨φ.loc,λq=>if q=k then ä v else φ.val q,φ.mu⟩
def Inv.free (j:Inv B J φ h w)(f:h k = .none):(∀g,φ.loc k g=ö)∧φ.val k=ö∧φ.mu k=none:=by have:=j.obj k;rw[f]at this;exact this
def Inv.qa (r:Inv B J φ h w)(p:h k = .none)(l:Loc):φ.le (φ.add k l) :=
 ⟨λq g m j=>by
  by_cases e:q=k
  ·subst e;rw[(r.free p).1 g]at j;cases j
  ·simp[Gx.add,ω e];exact j,λ_ _ f=>f,λ_ _ f=>f⟩
def Inv.le_addV (p:Inv B J φ h w)(l:h k = .none)(v:ø):φ.le (φ.zc k v) :=
 ⟨λ_ _ _ j=>j,λq u f=>by
  by_cases e:q=k
  ·subst e;rw[(p.free l).2.1]at f;cases f
  ·simp[Gx.zc,ω e];exact f,λ_ _ g=>g⟩
def Gx.gh (φ:Gx)(k:Pos)(l:Loc):(φ.add k l).loc k 0=ä l:=by simp[Gx.add]
def Gx.py (φ:Gx)(k:Pos)(v:ø):(φ.zc k v).val k=ä v:=by simp[Gx.zc]
def Inv.new (r:Inv B J φ h w)(C:h k = .none){o:Obj}(R:l.b=w.heap.size)(j:iB (φ.add k l) (w.alloc o) B k o')(p:iE o'=false:=by rfl):Inv B J (φ.add k l) (upd h k o') (w.alloc o):=by
 refine r.lb (r.qa C l) (λq P=>⟨λg=>by simp[Gx.add,ω P],rfl,rfl⟩) (λg m f=>?_) (λb T _=>@heap_alloc_old w o b T) (λg m f=>by rw[(r.free C).1 g]at f;cases f) rfl rfl rfl Ψ (ε _) j p;refine .inr ?_;simp only[Gx.add,i?]at f;split at f
 ·injection f with f;rw[←f,R];exact ε _
 ·cases f
def Inv.newV (j:Inv B J φ h w)(r:h k = .none){v:ø}(l:iB (φ.zc k v) w B k o')(p:iE o'=false:=by rfl):Inv B J (φ.zc k v) (upd h k o') w :=
 j.lb (j.le_addV r v) (λq C=>⟨λ_=>rfl,by simp[Gx.zc,ω C],rfl⟩) (λg m f=>by rw[show(φ.zc k v).loc k g=φ.loc k g from rfl,(j.free r).1 g]at f;cases f) (λ_ _ _=>rfl) (λg m f=>by rw[(j.free r).1 g]at f;cases f) rfl rfl rfl (ε _) (ε _) l p
def Inv.drew (f:Inv B J φ h w):Inv B J φ h w.drew:=⟨f.below.drew,⟨ξ f.kp.dr ((by first|exact(by first|exact ak1 _|exact Y' _)|exact Y' _)),f.kp.keep⟩,f.le,f.cz,f.size,λk=>iB.keep (w:=w) (w':=w.drew) (Gx.le.refl φ) (λ_=>rfl) rfl rfl (λ_ _ _=>rfl) (f.obj k),f.sep⟩
def Inv.drewW (f:Inv B J φ h w):Inv B J φ h { w with drawn:=w.drawn+1 }:=f.drew
end
inductive CK where
 |b
 |i (k:IntKind)
 |s
inductive EqK where
 |flat (ks:List CK) (agg:Bool)
 |ptr
 |slc
inductive K where
 |mov|pick
 |alloc (e:é) (zs:List CV)
 |box (e:é) (s:Nat)
 |build (zs:List CV) (ps:List (Nat×Nat))
 |lit (e:é) (s len:Nat) (zs:List CV) (idx:List Nat)
 |load (s:Nat) (agg:Bool)
 |store (s:Nat)
 |nilchk
 |bin (op:BinOp)
 |eql (neg:Bool) (q:EqK)
 |un (op:UnOp)
 |cint (k:IntKind)|b2s
 |mkf (fn:Fn) (nf:Nat)|mkm
 |mks (e:é) (s bytes:Nat) (zs:List CV)
 |subs (lo hi:Bool)|subl (s:Nat) (lo hi mx:Bool)
 |fadr (d:Nat)|fld (off s:Nat) (agg:Bool)
 |idxl (s:Nat)|idxa (n s:Nat)|idxs
 |look (q:EqK) (z:PV) (ok:Bool)|put (q:EqK)|ment (q:EqK) (z:PV)|mest
 |rngm|ext (i:Nat)
 |lens|lenl|lenm
 |ke (e:é) (s bytes:Nat) (str:Bool)
 |mx (big:Bool)
 |ent|p2u|u2p (ok:é→Nat→Nat→Bool)|usd|ust (e:é) (ok:é→Nat→Nat→Nat→Bool)
 |ibs
 |bad
inductive Src where
 |t (p:Pos)
 |c (v:TV)
structure FO where
 k:K
 args:List Src
 dst:Option Pos
 guard:Option (Pos×Bool)
inductive Q where
 |fail
 |ret (out:TV) (wr:Option (Pos×EO))
 |rd (k:Pos) (f:EO→Q)
def Q.run (h:Pos→EO):Q→Option (TV×Option (Pos×EO))
 |.fail=>ö
 |.ret out wr=>ä (out,wr)
 |.rd k f=>(f (h k)).run h
def Q.tr (h:Pos→EO):Q→List Pos
 |.fail=>[]
 |.ret _ _=>[]
 |.rd k f=>k::(f (h k)).tr h
def Q.run_congr {h h':Pos→EO}:∀{q:Q},(∀k∈q.tr h,h' k=h k)→q.run h'=q.run h∧q.tr h'=q.tr h
 |.fail,_=>⟨rfl,rfl⟩
 |.ret _ _,_=>⟨rfl,rfl⟩
 |.rd k f,g=>by have e:h' k=h k:=g k (by simp[Q.tr]);have:=Q.run_congr (q:=f (h k)) (h:=h) (h':=h') λi j=>g i (by simp[Q.tr,j]);simp[Q.run,Q.tr,e];exact⟨this.1,by rw[this.2]⟩
def one (c:CV):TV :=.pv (.one c)
def ri (c:CV):Q :=.ret (.pv (.one c)) ö
def th (b:Bool):Q :=.ret (.pv (.one (.bl b))) ö
def kq:IntKind→IntKind→Bool
 |.i8,.i8=>ü|.i16,.i16=>ü|.i32,.i32=>ü|.i64,.i64=>ü
 |.u8,.u8=>ü|.u16,.u16=>ü|.u32,.u32=>ü|.u64,.u64=>ü
 |_,_=>ß
def nfI (n:Int)(k:Int→Q):Q:=match n with
 |.ofNat m=>match m with
  |0=>k (.ofNat 0)
  |m+1=>k (.ofNat (m+1))
 |.negSucc m=>match m with
  |0=>k (.negSucc 0)
  |m+1=>k (.negSucc (m+1))
def xJ (n:Int)(k:Int→Q):nfI n k=k n:=by unfold nfI;split <;> split <;> rfl
def gc (k:IntKind)(n:Int):Q:=nfI n λn=>.ret (.pv (.one (.int k n))) ö
def Ha (op:BinOp)(k:IntKind)(a b:Int):Q:=match op with
 |.add=>gc k (k.wrap (a+b))
 |.sub=>gc k (k.wrap (a-b))
 |.mul=>gc k (k.wrap (a*b))
 |.quo=>bif b == 0 then .fail else gc k (k.wrap (a.tdiv b))
 |.rem=>bif b == 0 then .fail else gc k (a.tmod b)
 |.eql=>th (decide (a=b))
 |.neq=>th (!decide (a=b))
 |.lss=>th (decide (a<b))
 |.leq=>th (decide (a≤b))
 |.gtr=>th (decide (a>b))
 |.geq=>th (decide (a≥b))
 |.and=>gc k (k.wrap ((BitVec.ofInt k.bits a &&& BitVec.ofInt k.bits b).toNat:Int))
 |.or=>gc k (k.wrap ((BitVec.ofInt k.bits a ||| BitVec.ofInt k.bits b).toNat:Int))
 |.xor=>gc k (k.wrap ((BitVec.ofInt k.bits a ^^^ BitVec.ofInt k.bits b).toNat:Int))
 |_=>.fail
def shI (op:BinOp)(k:IntKind)(a b:Int):Q:=bif decide (b<0)then .fail else match op with
 |.shl=>gc k (k.wrap (a*2^(min b.toNat k.bits)))
 |.shr=>gc k (a.fdiv (2^(min b.toNat k.bits)))
 |_=>.fail
def lsEq:List Nat→List Nat→Bool
 |[],[]=>ü
 |a::l,b::m=>bif Nat.beq a b then lsEq l m else ß
 |_,_=>ß
def SG:List Nat→List Nat→Bool
 |_,[]=>ß
 |[],_::_=>ü
 |a::l,b::m=>bif Nat.blt a b then ü else bif Nat.beq a b then SG l m else ß
def ac7 (op:BinOp)(a b:List Nat):Q:=match op with
 |.add=>bif Nat.blt (a.length+b.length) 4294967296 then ri (.str (a++b))else .fail
 |.eql=>th (lsEq a b)
 |.neq=>th (!lsEq a b)
 |.lss=>th (SG a b)
 |.leq=>th (SG a b||lsEq a b)
 |.gtr=>th (!(SG a b||lsEq a b))
 |.geq=>th (!SG a b)
 |_=>.fail
def eqC:CK→CV→CV→Option Bool
 |.b,.bl a,.bl b=>ä (match a with|true=>b|false=>!b)
 |.i k,.int g a,.int f b=>bif kq k g&&kq k f then ä (decide (a=b))else ö
 |.s,.str a,.str b=>ä (lsEq a b)
 |_,_,_=>ö
def eqL:List CK→List CV→List CV→Option Bool
 |[],[],[]=>ä ü
 |k::ks,a::l,b::m=>match eqC k a b,eqL ks l m with
  |some x,ä y=>ä (bif x then y else ß)
  |_,_=>ö
 |_,_,_=>ö
def eqP (f:List CK)(agg:Bool):PV→PV→Option Bool
 |.one a,.one b=>bif agg then ö else eqL f [a] [b]
 |.agg l,.agg m=>bif agg then eqL f l m else ö
 |_,_=>ö
def eqQ:EqK→TV→TV→Option Bool
 |.flat j agg,.pv x,.pv y=>eqP j agg x y
 |.ptr,.pv (.one x),.pv (.one y)=>match x,y with
  |.nilp,.nilp=>ä ü
  |.nilp,.ptr _ _ _=>ä ß
  |.ptr _ _ _,.nilp=>ä ß
  |.nilp,.glob _=>ä ß
  |.glob _,.nilp=>ä ß
  |.ptr k g o,.ptr l p f=>bif k.beq l&&Nat.beq g p then ä (Nat.beq o f)else ö
  |_,_=>ö
 |.slc,.pv (.one x),.pv (.one y)=>match x,y with
  |.nils,.nils=>ä ü
  |.nils,.sl _ _ _ _ _=>ä ß
  |.sl _ _ _ _ _,.nils=>ä ß
  |.nils,.emp _=>ä ß
  |.emp _,.nils=>ä ß
  |_,_=>ö
 |_,_,_=>ö
def E2 (o:EO)(g f m:Nat):Option (List CV):=match o with
 |.row _ s p len j _=>bif Nat.ble g j&&Nat.blt (f/s) len then
   match p.get dch (f/s)with
   |⟨r,l⟩=>bif Nat.ble l g&&Nat.ble (f%s+m) s then ä ((r.drop (f%s)).take m)else ö
  else ö
 |_=>ö
def PC:Fz→Bool
 |.no=>ü
 |_=>ß
def dh (g:List CV)(f:Nat)(new:List CV):List CV:=g.take f++new++g.drop (f+new.length)
def DT (o:EO)(g f:Nat)(new:List CV):Option EO:=match o with
 |.row e s l len j fz=>bif Nat.beq g j&&Nat.blt (f/s) len&&Nat.ble (f%s+new.length) s&&PC fz then
   match l.get dch (f/s)with
   |⟨p,_⟩=>ä (.row e s (l.set dch 32 (f/s) ⟨dh p (f%s) new,j⟩) len j fz)
  else ö
 |_=>ö
def rk (o:EO)(g s:Nat):Nat→Nat→Option (List (List CV))
 |0,_=>ä []
 |n+1,off=>match E2 o g off s,rk o g s n (off+s)with
  |some a,ä l=>ä (a::l)
  |_,_=>ö
def ou (g s:Nat):List (List CV)→EO→Nat→Option EO
 |[],o,_=>ä o
 |a::l,o,off=>match DT o g off a with
  |some f=>ou g s l f (off+s)
  |none=>ö
def se (m:Nat):List (List CV)→PT Ch→Nat→PT Ch
 |[],el,_=>el
 |a::l,el,i=>se m l (el.set dch 32 i ⟨a,m⟩) (i+1)
def ag8 (s:Nat)(str:Bool)(x:TV)(k:List (List CV)→Q):Q:=match x with
 |.pv (.one (.sl j g off n _))=>bif str then .fail else .rd j λo=>match rk o g s n off with
  |some l=>k l
  |none=>.fail
 |.pv (.one .nils)=>bif str then .fail else k []
 |.pv (.one (.emp _))=>bif str then .fail else k []
 |.pv (.one (.str b))=>bif str then k (b.map λc=>[.int .u8 (Int.ofNat c)])else .fail
 |_=>.fail
def Kr (agg:Bool)(f:List CV):Option PV:=match agg with
 |true=>ä (.agg f)
 |false=>match f with
  |[c]=>ä (.one c)
  |_=>ö
def WR (p:Option PV)(wr:Option (Pos×EO)):Q:=match p with
 |some p=>.ret (.pv p) wr
 |none=>.fail
def newRow (e:é)(s:Nat)(l:List (List CV))(n:Nat):EO :=.row e s (se 0 l .leaf 0) n 0 .no
def km (s:Nat):List (List CV)→Bool
 |[]=>ü
 |a::l=>bif Nat.beq a.length s then km s l else ß
def CD:List (Nat×Nat)→List TV→List CV→Option (List CV)
 |[],[],cs=>ä cs
 |(off,s)::ps,.pv p::vs,cs=>bif Nat.beq p.cells.length s&&Nat.ble (off+s) cs.length then CD ps vs (dh cs off p.cells)else ö
 |_,_,_=>ö
def O7 (s:Nat):Nat→List Nat→List TV→Option (List (List CV))
 |_,[],[]=>ä []
 |i,j::js,.pv p::vs=>bif Nat.beq i j&&Nat.beq p.cells.length s then match O7 s (i+1) js vs with
   |some l=>ä (p.cells::l)
   |none=>ö
  else ö
 |_,_,_=>ö
def findE (f:List CK)(agg:Bool)(k:PV):List ME→Nat→Option (Option (Nat×ME))
 |[],_=>ä ö
 |e::es,i=>match eqP f agg k e.key with
  |some ü=>ä (ä (i,e))
  |some ß=>findE f agg k es (i+1)
  |none=>ö
def U9 (b:Nat):List ME→Nat→Option Nat
 |[],_=>ö
 |e::es,i=>bif Nat.beq e.born b then ä i else U9 b es (i+1)
def keyOk (f:List CK)(agg:Bool)(k:PV):Bool:=match eqP f agg k k with|some _=>ü|none=>ß
def AL (g:List ME)(i:Nat)(f:ME→ME):List ME:=match g,i with
 |[],_=>[]
 |e::g,0=>f e::g
 |e::g,i+1=>e::AL g i f
def AF (seen:List Nat):List ME→List ME
 |[]=>[]
 |e::es=>bif seen.any (Nat.beq e.born)then AF seen es else e::AF seen es
def ajk (e:é)(s bytes:Nat)(fresh:Pos)(b:TV)(l:List (List CV)):Q :=
 match b with
 |.pv (.one .nils)=>match l with
  |[]=>ri .nils
  |_=>bif Nat.ble (l.length*bytes) 140737488355328&&km s l&&Nat.ble (l.length) 4294967290 then .ret (.pv (.one (.sl fresh 0 0 l.length ö))) (ä (fresh,newRow e s l l.length))else .fail
 |.pv (.one (.sl k g off n cap))=>match l with
  |[]=>bif (match cap with|some c=>Nat.ble n c|none=>ü)then .ret b ö else .fail
  |_=>.rd k λo=>match cap with
   |some c=>bif Nat.ble (n+l.length) c then match ou g s l o (off+n*s)with
     |some p=>.ret (.pv (.one (.sl k g off (n+l.length) cap))) (ä (k,p))
     |none=>.fail
    else match rk o g s n off with
     |some j=>bif Nat.ble ((n+l.length)*bytes) 140737488355328&&km s j&&km s l&&Nat.ble (n+l.length) 4294967290 then .ret (.pv (.one (.sl fresh 0 0 (n+l.length) ö))) (ä (fresh,newRow e s (j++l) (n+l.length)))else .fail
     |none=>.fail
   |none=>match o with
    |.row J r C len f fz=>bif Nat.beq e J&&Nat.beq s r&&Nat.beq g f&&Nat.beq (off%s) 0&&km s l&&Nat.ble ((n+l.length)*bytes) 140737488355328&&Nat.ble (n+l.length) 4294967290&&PC fz then
      bif Nat.ble (off/s+n+l.length) len then match ou g s l o (off+n*s)with
       |some p=>.ret (.pv (.one (.sl k g off (n+l.length) cap))) (ä (k,p))
       |none=>.fail
      else bif Nat.beq off 0&&Nat.ble n len then .ret (.pv (.one (.sl k (f+1) 0 (n+l.length) ö))) (ä (k,.row e s (se (f+1) l C n) (n+l.length) (f+1) fz))else .fail
     else .fail
    |_=>.fail
 |_=>.fail
def vH (ok:Bool)(z:PV)(r:Option PV):Q:=match ok with
 |true=>match r with
  |some v=>.ret (.tup [v,.one (.bl ü)]) ö
  |none=>.ret (.tup [z,.one (.bl ß)]) ö
 |false=>match r with
  |some v=>.ret (.pv v) ö
  |none=>.ret (.pv z) ö
def Ao:List (List CV)→Option (List Nat)
 |[]=>ä []
 |[.int .u8 (.ofNat n)]::l=>bif Nat.blt n 256 then match Ao l with
   |some b=>ä (n::b)
   |none=>ö
  else ö
 |_=>ö
def pvs:List TV→Option (List PV)
 |[]=>ä []
 |.pv p::l=>match pvs l with
  |some r=>ä (p::r)
  |none=>ö
 |_=>ö
def Tq  (vs:List TV)(_:Pos):Q:=match vs with
 |[x]=>.ret x ö
 |_=>.fail
def Vg  (vs:List TV)(_:Pos):Q:=match vs with
 |[c,a,b]=>match c with
  |.pv (.one (.bl c))=>.ret (match c with|true=>a|false=>b) ö
  |_=>.fail
 |_=>.fail
def L3 (e:é)(g:List CV)(vs:List TV)(f:Pos):Q:=match vs with
 |[]=>.ret (.pv (.one (.ptr f 0 0))) (ä (f,.row e g.length (.node .leaf ⟨g,0⟩ .leaf) 1 0 .no))
 |_=>.fail
def ab7 (e:é)(s:Nat)(vs:List TV)(f:Pos):Q:=match vs with
 |[x]=>match x with
  |.pv p=>bif Nat.beq p.cells.length s then .ret (.pv (.one (.ptr f 0 0))) (ä (f,.row e s (.node .leaf ⟨p.cells,0⟩ .leaf) 1 0 .no))else .fail
  |_=>.fail
 |_=>.fail
def GM (f:List CV)(ps:List (Nat×Nat))(vs:List TV)(_:Pos):Q:=match CD ps vs f with
  |some g=>.ret (.pv (.agg g)) ö
  |none=>.fail
def afx (e:é)(s len:Nat)(j:List CV)(g:List Nat)(vs:List TV)(f:Pos):Q:=match O7 s 0 g vs with
  |some l=>bif Nat.ble l.length len&&Nat.ble (len*s) 16777216 then .ret (.pv (.one (.sl f 0 0 len (ä len)))) (ä (f,newRow e s (l++List.replicate (len-l.length) j) len))else .fail
  |none=>.fail
def GL (s:Nat)(agg:Bool)(vs:List TV)(_:Pos):Q:=match vs with
 |[x]=>match x with
  |.pv (.one (.ptr k g off))=>.rd k λo=>match E2 o g off s with
   |some f=>WR (Kr agg f) ö
   |none=>.fail
  |_=>.fail
 |_=>.fail
def Bq (s:Nat)(vs:List TV)(_:Pos):Q:=match vs with
 |[x,y]=>match x,y with
  |.pv (.one (.ptr k g off)),.pv p=>bif Nat.beq p.cells.length s then .rd k λo=>match DT o g off p.cells with
    |some f=>.ret .unk (ä (k,f))
    |none=>.fail
   else .fail
  |_,_=>.fail
 |_=>.fail
def Aa  (vs:List TV)(_:Pos):Q:=match vs with
 |[x]=>match x with
  |.pv (.one (.ptr _ _ _))=>.ret x ö
  |.pv (.one (.glob _))=>.ret x ö
  |.pv (.one (.fnc _))=>.ret x ö
  |.pv (.one (.ifc _))=>.ret x ö
  |_=>.fail
 |_=>.fail
def sC (op:BinOp)(vs:List TV)(_:Pos):Q:=match vs with
 |[x,y]=>match x,y with
  |.pv (.one x),.pv (.one y)=>match x,y with
   |.int k a,.int f b=>match op with
    |.shl=>shI .shl k a b
    |.shr=>shI .shr k a b
    |op=>bif kq k f then Ha op k a b else .fail
   |.str a,.str b=>ac7 op a b
   |_,_=>.fail
  |_,_=>.fail
 |_=>.fail
def ab6 (neg:Bool)(q:EqK)(vs:List TV)(_:Pos):Q:=match vs with
 |[x,y]=>match eqQ q x y with
  |some b=>th (match neg with|true=>!b|false=>b)
  |none=>.fail
 |_=>.fail
def eUn (op:UnOp)(vs:List TV)(_:Pos):Q:=match vs with
 |[x]=>match op,x with
  |.not,.pv (.one (.bl b))=>th (!b)
  |.neg,.pv (.one (.int k n))=>gc k (k.wrap (0-n))
  |.xor,.pv (.one (.int k n))=>gc k (k.wrap ((BitVec.ofInt k.bits (if k.signed then -1 else k.max) ^^^ BitVec.ofInt k.bits n).toNat:Int))
  |_,_=>.fail
 |_=>.fail
def P9 (k:IntKind)(vs:List TV)(_:Pos):Q:=match vs with
 |[x]=>match x with
  |.pv (.one (.int _ n))=>gc k (k.wrap n)
  |_=>.fail
 |_=>.fail
def afz  (vs:List TV)(_:Pos):Q:=match vs with
 |[x]=>match x with
  |.pv (.one .nils)=>ri (.str [])
  |.pv (.one (.sl k g off n _))=>.rd k λo=>match rk o g 1 n off with
   |some l=>match Ao l with
    |some b=>ri (.str b)
    |none=>.fail
   |none=>.fail
  |_=>.fail
 |_=>.fail
def afw (fn:Fn)(nf:Nat)(vs:List TV)(f:Pos):Q:=match pvs vs with
  |some l=>.ret (.pv (.one (.clo f))) (ä (f,.clo fn (l.take nf) (l.drop nf)))
  |none=>.fail
def afv  (vs:List TV)(f:Pos):Q:=match vs with
  |[]=>.ret (.pv (.one (.mp f))) (ä (f,.map [] 0))
  |[.pv (.one (.int _ _))]=>.ret (.pv (.one (.mp f))) (ä (f,.map [] 0))
  |_=>.fail
def afu (e:é)(s bytes:Nat)(g:List CV)(vs:List TV)(f:Pos):Q:=match vs with
 |[x,y]=>match x,y with
  |.pv (.one (.int _ (.ofNat n))),.pv (.one (.int _ (.ofNat c)))=>bif Nat.ble n c&&Nat.ble c 16777216&&Nat.ble (c*bytes) 16777216 then .ret (.pv (.one (.sl f 0 0 n (ä c)))) (ä (f,newRow e s (List.replicate c g) c))else .fail
  |_,_=>.fail
 |_=>.fail
def aax (f:Bool)(vs:List TV):Option (Option Nat×List TV):=match f with
 |false=>ä (ö,vs)
 |true=>match vs with
  |x::r=>match x with
   |.pv (.one (.int _ (.ofNat n)))=>ä (ä n,r)
   |_=>ö
  |[]=>ö
def ac6 (f g mx:Bool)(r:List TV)(k:Option Nat→Option Nat→Option Nat→Q):Q:=match aax f r with
 |some (l,r)=>match aax g r with
  |some (h,r)=>match aax mx r with
   |some (m,[])=>k l h m
   |_=>.fail
  |none=>.fail
 |none=>.fail
def gD (o:Option Nat)(d:Nat):Nat:=match o with|some x=>x|none=>d
def aiV (k:Pos)(g f s l h m:Nat):Q:=ri (.sl k g (cond (Nat.beq l m) f (f+l*s)) (h-l) (ä (m-l)))
def FL (h m:Option Nat):Bool:=match m with|none=>ü|some _=>match h with|some _=>ü|none=>ß
def agu (s:Nat)(x:TV)(f:Pos)(l h m:Option Nat):Q:=match x with
 |.pv (.one .nils)=>bif Nat.beq (gD l 0) 0&&Nat.beq (gD h 0) 0&&Nat.beq (gD m 0) 0&&FL h m then ri .nils else .fail
 |.pv (.one (.sl k g off n cap))=>match cap with
  |some c=>bif Nat.ble (gD m c) c&&Nat.ble (gD h n) (gD m c)&&Nat.ble (gD l 0) (gD h n)&&FL h m then aiV k g off s (gD l 0) (gD h n) (gD m c)else .fail
  |none=>match m with
   |some m=>match h with
    |some h=>bif Nat.ble m n&&Nat.ble h m&&Nat.ble (gD l 0) h then aiV k g off s (gD l 0) h m else .fail
    |none=>.fail
   |none=>bif Nat.ble (gD h n) n&&Nat.ble (gD l 0) (gD h n)then
     bif Nat.beq (gD l 0) 0 then ri (.sl k g off (gD h n) ö)
     else bif Nat.blt (gD l 0) n then .rd k λo=>match o with
      |.row _ j _ _ _ _=>bif Nat.beq s j then ri (.sl k g (off+gD l 0*s) (gD h n-gD l 0) ö)else .fail
      |_=>.fail
     else .ret (.pv (.one (.emp f))) (ä (f,.emp))
    else .fail
 |_=>.fail
def Vd (s:Nat)(g j mx:Bool)(vs:List TV)(f:Pos):Q:=match vs with
 |x::r=>ac6 g j mx r (agu s x f)
 |[]=>.fail
def P4 (f g:Bool)(vs:List TV)(_:Pos):Q:=match vs with
 |x::r=>ac6 f g ß r λl h _=>match x with
  |.pv (.one (.str b))=>bif Nat.ble (gD h b.length) b.length&&Nat.ble (gD l 0) (gD h b.length)then ri (.str ((b.take (gD h b.length)).drop (gD l 0)))else .fail
  |_=>.fail
 |[]=>.fail
def P8 (d:Nat)(vs:List TV)(_:Pos):Q:=match vs with
 |[x]=>match x with
  |.pv (.one (.ptr k g off))=>ri (.ptr k g (off+d))
  |_=>.fail
 |_=>.fail
def ab5 (f s:Nat)(agg:Bool)(vs:List TV)(_:Pos):Q:=match vs with
 |[x]=>match x with
  |.pv (.agg cs)=>bif Nat.ble (f+s) cs.length then WR (Kr agg ((cs.drop f).take s)) ö else .fail
  |_=>.fail
 |_=>.fail
def JB (s:Nat)(vs:List TV)(_:Pos):Q:=match vs with
 |[x,y]=>match x,y with
  |.pv (.one (.sl k g off n _)),.pv (.one (.int _ (.ofNat i)))=>bif Nat.blt i n then ri (.ptr k g (off+i*s))else .fail
  |_,_=>.fail
 |_=>.fail
def P7 (n s:Nat)(vs:List TV)(_:Pos):Q:=match vs with
 |[x,y]=>match x,y with
  |.pv (.one (.ptr k g off)),.pv (.one (.int _ (.ofNat i)))=>bif Nat.blt i n then ri (.ptr k g (off+i*s))else .fail
  |_,_=>.fail
 |_=>.fail
def JA  (vs:List TV)(_:Pos):Q:=match vs with
 |[x,y]=>match x,y with
  |.pv (.one (.str b)),.pv (.one (.int _ (.ofNat i)))=>match b.drop i with
   |c::_=>gc .u8 (Int.ofNat c)
   |[]=>.fail
  |_,_=>.fail
 |_=>.fail
def P5 (q:EqK)(z:PV)(ok:Bool)(vs:List TV)(_:Pos):Q:=match vs with
 |[x,y]=>match q,y with
  |.flat g agg,.pv f=>bif keyOk g agg f then(match x with
   |.pv (.one .nilm)=>vH ok z ö
   |.pv (.one (.mp m))=>.rd m λo=>match o with
    |.map j _=>match findE g agg f j 0 with
     |some r=>vH ok z (r.map (·.2.val))
     |none=>.fail
    |_=>.fail
   |_=>.fail)else .fail
  |_,_=>.fail
 |_=>.fail
def afs (q:EqK)(vs:List TV)(_:Pos):Q:=match vs with
 |[x,y,z]=>match q,x,y,z with
  |.flat ks agg,.pv (.one (.mp m)),.pv f,.pv v=>bif keyOk ks agg f then .rd m λo=>match o with
    |.map g clock=>match findE ks agg f g 0 with
     |some (ä (i,_))=>.ret .unk (ä (m,.map (AL g i λe=>⟨f,v,e.born⟩) clock))
     |some ö=>.ret .unk (ä (m,.map (g++[⟨f,v,clock⟩]) (clock+1)))
     |none=>.fail
    |_=>.fail
   else .fail
  |_,_,_,_=>.fail
 |_=>.fail
def Vi (q:EqK)(z:PV)(vs:List TV)(_:Pos):Q:=match vs with
 |[x,y]=>match q,x,y with
  |.flat ks agg,.pv (.one (.mp m)),.pv f=>bif keyOk ks agg f then .rd m λo=>match o with
    |.map g clock=>match findE ks agg f g 0 with
     |some (ä (i,e))=>.ret (.tup [e.val,.one (.int .i64 (Int.ofNat e.born))]) (ä (m,.map (AL g i λe=>⟨f,e.val,e.born⟩) clock))
     |some ö=>.ret (.tup [z,.one (.int .i64 (Int.ofNat clock))]) (ä (m,.map (g++[⟨f,z,clock⟩]) (clock+1)))
     |none=>.fail
    |_=>.fail
   else .fail
  |_,_,_=>.fail
 |_=>.fail
def Vh  (vs:List TV)(_:Pos):Q:=match vs with
 |[x,y,z]=>match x,y,z with
  |.pv (.one (.mp m)),.pv (.one (.int _ (.ofNat b))),.pv v=>.rd m λo=>match o with
   |.map f clock=>match U9 b f 0 with
    |some i=>.ret .unk (ä (m,.map (AL f i λe=>⟨e.key,v,e.born⟩) clock))
    |none=>.fail
   |_=>.fail
  |_,_,_=>.fail
 |_=>.fail
def Ve  (vs:List TV)(f:Pos):Q:=match vs with
 |[x]=>match x with
  |.pv (.one .nilm)=>.ret (.pv (.one (.ptr f 0 0))) (ä (f,.mit ö 0 [] 0))
  |.pv (.one (.mp m))=>.rd m λo=>match o with
   |.map _ clock=>.ret (.pv (.one (.ptr f 0 0))) (ä (f,.mit (ä m) clock [] clock))
   |_=>.fail
  |_=>.fail
 |_=>.fail
def Yg (i:Nat)(vs:List TV)(_:Pos):Q:=match vs with
 |[x]=>match x with
  |.tup l=>match l.drop i with
   |p::_=>.ret (.pv p) ö
   |[]=>.fail
  |_=>.fail
 |_=>.fail
def Jy  (vs:List TV)(_:Pos):Q:=match vs with
 |[x]=>match x with
  |.pv (.one (.str b))=>gc .i64 (Int.ofNat b.length)
  |_=>.fail
 |_=>.fail
def Jz  (vs:List TV)(_:Pos):Q:=match vs with
 |[x]=>match x with
  |.pv (.one .nils)=>gc .i64 0
  |.pv (.one (.emp _))=>gc .i64 0
  |.pv (.one (.sl _ _ _ n _))=>gc .i64 (Int.ofNat n)
  |_=>.fail
 |_=>.fail
def P6  (vs:List TV)(_:Pos):Q:=match vs with
 |[x]=>match x with
  |.pv (.one .nilm)=>gc .i64 0
  |.pv (.one (.mp m))=>.rd m λo=>match o with
   |.map f _=>gc .i64 (Int.ofNat f.length)
   |_=>.fail
  |_=>.fail
 |_=>.fail
def afA (e:é)(s bytes:Nat)(str:Bool)(vs:List TV)(f:Pos):Q:=match vs with
 |[b,x]=>ag8 s str x λl=>ajk e s bytes f b l
 |_=>.fail
def eMx (f:Bool)(vs:List TV)(_:Pos):Q:=match vs with
 |[x,y]=>match x,y with
  |.pv (.one (.int k a)),.pv (.one (.int k' b))=>bif kq k k' then gc k (match f with|true=>if b>a then b else a|false=>if b<a then b else a)else .fail
  |_,_=>.fail
 |_=>.fail
def LY (b:Nat):List ME→Option ME
 |[]=>ö
 |e::es=>bif Nat.beq e.born b then ä e else LY b es
def aa2:List Nat→Option Nat
 |[]=>ö
 |[b]=>ä b
 |_::l=>aa2 l
def afn (m:Pos)(g f:Nat):Q :=.rd m λo=>match o with
 |.map j clock=>bif Nat.beq clock f then match LY g j with
   |some e=>.ret (.tup [e.key,e.val]) ö
   |none=>.fail
  else .fail
 |_=>.fail
def afy  (vs:List TV)(_:Pos):Q:=match vs with
 |[x]=>match x with
  |.pv (.one (.ptr k _ 0))=>.rd k λo=>match o with
   |.mit (ä m) _ seen stepped=>match aa2 seen with
    |some b=>afn m b stepped
    |none=>.fail
   |.mitU m _ _ (ä (b,c))=>afn m b c
   |_=>.fail
  |_=>.fail
 |_=>.fail
def aft  (vs:List TV)(_:Pos):Q:=match vs with
 |[x]=>match x with
  |.pv (.one (.ptr k g off))=>.rd k λo=>match E2 o g off 1 with
   |some _=>.ret x ö
   |none=>.fail
  |.pv (.one .nilp)=>.ret x ö
  |_=>.fail
 |_=>.fail
def afr (ok:é→Nat→Nat→Bool)(vs:List TV)(_:Pos):Q:=match vs with
 |[x]=>match x with
  |.pv (.one (.ptr k _ off))=>.rd k λo=>match o with
   |.row e s _ 1 0 .no=>bif ok e s off then .ret x ö else .fail
   |_=>.fail
  |.pv (.one .nilp)=>.ret x ö
  |_=>.fail
 |_=>.fail
def ab3  (vs:List TV)(_:Pos):Q:=match vs with
 |[x]=>match x with
  |.pv (.one .nils)=>ri .nilp
  |.pv (.one (.sl k g off (_+1) cap))=>bif (match cap with|some c=>Nat.blt 0 c|none=>ü)then ri (.ptr k g off)else .fail
  |_=>.fail
 |_=>.fail
def afq (e:é)(ok:é→Nat→Nat→Nat→Bool)(vs:List TV)(_:Pos):Q:=match vs with
 |[x,y]=>match x,y with
  |.pv (.one .nilp),.pv (.one (.int .i64 (.ofNat 0)))=>ri (.str [])
  |.pv (.one (.ptr k g off)),.pv (.one (.int .i64 (.ofNat n)))=>match n with
   |0=>ri (.str [])
   |n+1=>.rd k λo=>match rk o g 1 (n+1) off with
    |some l=>match Ao l with
     |some b=>match o with
      |.row j 1 p len f _=>bif Nat.beq e j&&Nat.beq off 0&&ok j len off (n+1)then .ret (.pv (.one (.str b))) (ä (k,.row j 1 p len f .yes))else .fail
      |_=>.fail
     |none=>.fail
    |none=>.fail
  |_,_=>.fail
 |_=>.fail
def abr (c:Nat):List Nat→Nat→Int
 |[],_=>-1
 |b::l,i=>bif Nat.beq b c then Int.ofNat i else abr c l (i+1)
def ab4  (vs:List TV)(_:Pos):Q:=match vs with
 |[x,y]=>match x,y with
  |.pv (.one (.str b)),.pv (.one (.int .u8 (.ofNat c)))=>bif Nat.blt c 256 then gc .i64 (abr c b 0)else .fail
  |_,_=>.fail
 |_=>.fail
def dR:K→List TV→Pos→Q
 |.mov=>Tq
 |.pick=>Vg
 |.alloc e f=>L3 e f
 |.box e s=>ab7 e s
 |.build f ps=>GM f ps
 |.lit e s len f l=>afx e s len f l
 |.load s agg=>GL s agg
 |.store s=>Bq s
 |.nilchk=>Aa
 |.bin op=>sC op
 |.eql neg q=>ab6 neg q
 |.un op=>eUn op
 |.cint k=>P9 k
 |.b2s=>afz
 |.mkf fn nf=>afw fn nf
 |.mkm=>afv
 |.mks e s bytes f=>afu e s bytes f
 |.subs j p=>P4 j p
 |.subl s j p mx=>Vd s j p mx
 |.fadr d=>P8 d
 |.fld g s agg=>ab5 g s agg
 |.idxl s=>JB s
 |.idxa n s=>P7 n s
 |.idxs=>JA
 |.look q z ok=>P5 q z ok
 |.put q=>afs q
 |.ment q z=>Vi q z
 |.mest=>Vh
 |.rngm=>Ve
 |.ext i=>Yg i
 |.lens=>Jy
 |.lenl=>Jz
 |.lenm=>P6
 |.ke e s bytes str=>afA e s bytes str
 |.mx r=>eMx r
 |.ent=>afy
 |.p2u=>aft
 |.u2p ok=>afr ok
 |.usd=>ab3
 |.ust e ok=>afq e ok
 |.ibs=>ab4
 |_=>λ_ _=>.fail
abbrev DM:=PM (Option EO)
inductive HP where
 |nil
 |ov (b:HP) (d:DM)
 |cut (b:HP) (n:Pos)
def HP.get:HP→Pos→EO
 |.nil,_=>.none
 |.cut b n,k=>match Nat.blt k.num n.num with
  |true=>b.get k
  |false=>.none
 |.ov b d,k=>match PM.get ö d k with
  |some o=>o
  |none=>b.get k
def fA (d:DM)(k:Pos)(o:EO):DM:=PM.set ö k d (ä o)
def HP.cf (b:HP)(d:DM)(k:Pos)(o:EO):(HP.ov b (fA d k o)).get=upd (HP.ov b d).get k o:=by
 funext q;simp[HP.get,fA,PM.cf,upd];by_cases e:k=q
 ·rw[Θ e,Θ e]
 ·rw[ω e,ω e]
def orO (a b:Option EO):Option EO:=match a with|some o=>ä o|none=>b
def l6:DM→DM→DM
 |.leaf,d=>d
 |.node l a r,.leaf=>.node l a r
 |.node l a r,.node g j f=>.node (l6 l g) (orO a j) (l6 r f)
def xM:∀(x d:DM) (q:Pos),PM.get ö (l6 x d) q=orO (PM.get ö x q) (PM.get ö d q)
 |.leaf,d,q=>rfl
 |.node l a r,.leaf,q=>by simp[l6];cases h:PM.get ö (.node l a r) q <;> rfl
 |.node l a r,.node g j f,q=>by
  cases q with
  |e=>rfl
  |o q=>exact xM l g q
  |i q=>exact xM r f q
def HP.get_merge (b:HP)(d x:DM):(HP.ov b (l6 x d)).get=(HP.ov (.ov b d) x).get:=by funext q;simp[HP.get,xM];cases PM.get ö x q <;> rfl
abbrev Env:=PM TV
def bm (e:Env):Src→TV
 |.t p=>e.get .unk p
 |.c v=>v
def aT (e:Env):List Src→List TV
 |[]=>[]
 |s::r=>bm e s::aT e r
def aV (e:Env)(d:Option Pos)(v:TV):Env:=match d with
 |some d=>PM.set .unk d e v
 |none=>e
def sX (d:DM)(w:Option (Pos×EO)):DM:=match w with
 |some (k,o)=>fA d k o
 |none=>d
def gd (e:Env)(g:Option (Pos×Bool)):Option Bool:=match g with
 |none=>ä ü
 |some (p,w)=>match e.get .unk p with
  |.pv (.one (.bl b))=>ä (match w with|true=>b|false=>!b)
  |.tup _=>ä ß
  |_=>ö
inductive OP where
 |op (o:FO) (al:Bool)
 |call (args:List Src) (dst:Option Pos) (g:Option (Pos×Bool))
 |nxt (x:Src) (dst:Option Pos)
 |bad
def qF (e:Env)(f:Pos)(o:FO):Q:=match gd e o.guard with
 |some ü=>dR o.k (aT e o.args) f
 |_=>.fail
def j7 (e:Env)(h:Pos→EO)(f:Pos)(o:FO):Option (TV×Option (Pos×EO)):=match gd e o.guard with
 |some b=>match b with
  |true=>(dR o.k (aT e o.args) f).run h
  |false=>ä (.tup [],ö)
 |none=>ö
def trF (e:Env)(h:Pos→EO)(f:Pos)(o:FO):List Pos:=match gd e o.guard with
 |some ü=>(dR o.k (aT e o.args) f).tr h
 |_=>[]
inductive Tgt where
 |fn (f:FuncId)
 |yld (k:Pos)
inductive RC where
 |no
 |ok (v:TV) (d:DM) (n:Pos)
inductive RS where
 |no
 |ok (e:Env) (d:DM) (n:Pos)
inductive Ex where
 |normal
 |exit (id:Nat)
 |ret
inductive RX where
 |no
 |ok (x:Ex) (e:Env) (d:DM) (n:Pos)
abbrev Ck:=HP→Tgt→List TV→DM→Pos→RC
abbrev Yk:=HP→Pos→List TV→DM→Pos→RC
structure Callk where
 call:Ck
 iter:Yk→Ck
def pvT:List PV→List TV
 |[]=>[]
 |p::l=>.pv p::pvT l
def cI (h:Pos→EO):List TV→Option (Tgt×List TV)
 |.pv (.one (.fnc f))::r=>ä (.fn f,r)
 |.pv (.one (.clo k))::r=>match h k with
  |.clo (.func f) first caps=>ä (.fn f,pvT first++r++pvT caps)
  |.yld=>ä (.yld k,r)
  |_=>ö
 |_=>ö
def dq:List ME→List Nat
 |[]=>[]
 |e::es=>e.born::dq es
def Em:TV :=.tup [.one (.bl ß)]
def Nr (f val:PV):TV :=.tup [.one (.bl ü),f,val]
def FI (h:Pos→EO)(x:TV):Option (TV×Option (Pos×EO)):=match x with
 |.pv (.one (.ptr it _ 0))=>match h it with
  |.mit ö _ _ _=>ä (Em,ö)
  |.mit (ä m) since seen sp=>match h m with
   |.map f clock=>match AF seen f with
    |[]=>bif seen.isEmpty||f.isEmpty||f.any (λe=>Nat.blt e.born sp)then ä (Em,ö)else ö
    |[x]=>bif Nat.blt x.born since&&Nat.blt x.born sp then ä (Nr x.key x.val,ä (it,.mit (ä m) since (seen++[x.born]) clock))else ö
    |_=>ö
   |_=>ö
  |_=>ö
 |_=>ö
def bz (f:Bool)(h:Pos→EO)(n:Pos):Bool:=match f with
 |true=>(match h n with|.none=>ü|_=>ß)
 |false=>ü
def cN (f:Bool)(n:Pos):Pos:=match f with|true=>n.succ|false=>n
def aQ (ck:Callk)(b:HP):List OP→Env→DM→Pos→RS
 |[],e,d,n=>.ok e d n
 |o::r,e,d,n=>match o with
  |.op o j=>bif bz j (HP.ov b d).get n then match j7 e (HP.ov b d).get n o with
   |some (out,wr)=>aQ ck b r (aV e o.dst out) (sX d wr) (cN j n)
   |none=>.no
   else .no
  |.call args f g=>match gd e g with
   |some ü=>match cI (HP.ov b d).get (aT e args)with
    |some (t,vs)=>match ck.call b t vs d n with
     |.ok out p l=>aQ ck b r (aV e f out) p l
     |.no=>.no
    |none=>.no
   |some ß=>aQ ck b r (aV e f (.tup [])) d n
   |none=>.no
  |.nxt x f=>match FI (HP.ov b d).get (bm e x)with
   |some (out,wr)=>aQ ck b r (aV e f out) (sX d wr) n
   |none=>.no
  |.bad=>.no
inductive Inf where
 |op (key:Option Pos) (rds:List Pos) (fr:Bool) (q:Q) (out:TV)
 |call (h:HP) (d:DM)
inductive RT' where
 |no
 |ok (l:List Inf) (e:Env) (d:DM) (n:Pos)
def eW (w:Option (Pos×EO)):Option Pos:=match w with
 |some (k,_)=>ä k
 |none=>ö
def oJ (f:Bool)(n:Pos)(w:Option (Pos×EO)):Bool:=match w with
 |some (k,_)=>f&&k.beq n
 |none=>ü
def okW (h:Pos→EO)(w:Option (Pos×EO)):Bool:=match w with
 |some (k,_)=>!Cq (h k)
 |none=>ü
def Ai (i:Inf):RT'→RT'
 |.no=>.no
 |.ok l e d n=>.ok (i::l) e d n
def sq (b:HP):List OP→DM→Pos→Option (List Pos×DM×Pos)
 |[],d,n=>ä ([],d,n)
 |.op _ ü::r,d,n=>match (HP.ov b d).get n with
  |.none=>match sq b r (fA d n .cz) n.succ with
   |some (l,d',n')=>ä (n::l,d',n')
   |none=>ö
  |_=>ö
 |_::r,d,n=>sq b r d n
def su (d:DM):List Pos→Bool
 |[]=>ü
 |p::l=>match PM.get ö d p with
  |some _=>ß
  |none=>su d l
def ez (f:Bool)(d:DM)(r:Pos):DM:=match f with
 |true=>fA d r .none
 |false=>d
def mS (ck:Callk)(b:HP)(p:List Pos):List OP→Env→DM→Pos→Pos→RT'
 |[],e,d,_,n=>.ok [] e d n
 |o::l,e,d,r,n=>match o with
  |.op o j=>match j7 e (HP.ov b (ez j d r)).get r o with
   |some (out,wr)=>bif okW (HP.ov b (ez j d r)).get wr then Ai (.op (eW wr) (trF e (HP.ov b (ez j d r)).get r o) (oJ j r wr) (qF e r o) out) (mS ck b p l (aV e o.dst out) (sX d wr) (cN j r) n)else .no
   |none=>.no
  |.call args f g=>match gd e g with
   |some ü=>match cI (HP.ov b d).get (aT e args)with
    |some (t,vs)=>match ck.call (.ov b d) t vs .leaf n with
     |.ok out C J=>bif su C p then Ai (.call (.ov b d) C) (mS ck b p l (aV e f out) (l6 C d) r J)else .no
     |.no=>.no
    |none=>.no
   |some ß=>Ai (.op ö [] ü .fail .unk) (mS ck b p l (aV e f (.tup [])) d r n)
   |none=>.no
  |_=>.no
def Ym:CV→CV→Bool
 |.bl a,.bl b=>match a with|true=>b|false=>!b
 |.int k a,.int j b=>kq k j&&decide (a=b)
 |.str a,.str b=>lsEq a b
 |.nilp,.nilp=>ü
 |.ptr k g o,.ptr j p l=>k.beq j&&Nat.beq g p&&Nat.beq o l
 |.glob a,.glob b=>Nat.beq a b
 |.nils,.nils=>ü
 |.sl k g o n c,.sl j p l r C=>k.beq j&&Nat.beq g p&&Nat.beq o l&&Nat.beq n r&&(match c,C with|none,ö=>ü|some a,ä b=>Nat.beq a b|_,_=>ß)
 |.emp k,.emp j=>k.beq j
 |.nilm,.nilm=>ü
 |.mp k,.mp j=>k.beq j
 |.nilf,.nilf=>ü
 |.fnc f,.fnc g=>Nat.beq f g
 |.clo k,.clo j=>k.beq j
 |.nili,.nili=>ü
 |.ifc k,.ifc j=>k.beq j
 |.sym m,.sym n=>Nat.beq m n
 |_,_=>ß
def JI:List CV→List CV→Bool
 |[],[]=>ü
 |a::l,b::m=>bif Ym a b then JI l m else ß
 |_,_=>ß
def SC (k:Pos):List Pos→Bool
 |[]=>ß
 |p::l=>bif k.beq p then ü else SC k l
def BH (k:Option Pos)(l:List Pos):Bool:=match k with
 |some k=>!SC k l
 |none=>ü
def Ms (k f:Option Pos):Bool:=match k with
 |some k=>match f with
  |some f=>!k.beq f
  |none=>ü
 |none=>ü
def nth {R:Type}:List R→Nat→Option R
 |[],_=>ö
 |a::_,0=>ä a
 |_::l,i+1=>nth l i
def V0:TV→TV→Bool
 |.pv (.one c),.pv (.one c')=>Ym c c'
 |.pv (.agg cs),.pv (.agg cs')=>JI cs cs'
 |_,_=>ß
def B9 (f:EO→Q)(o:EO)(out:TV):Bool:=match f o with
 |.ret g ö=>V0 g out
 |_=>ß
def Kt (h:HP)(d:DM)(l:List Pos)(q:Q)(out:TV):Bool:=su d l||(match q with
 |.rd k f=>match l with
  |[_]=>match PM.get ö d k with
   |some o=>B9 f o out&&B9 f (h.get k) out
   |none=>ß
  |_=>ß
 |_=>ß)
def dN:Inf→Inf→Bool
 |.op k l _ _ _,.op f g _ _ _=>BH k g&&BH f l&&Ms k f
 |.op ö l _ q out,.call h d=>Kt h d l q out
 |.call h d,.op ö l _ q out=>Kt h d l q out
 |.call _ d,.op _ l ü _ _=>su d l
 |_,_=>ß
def fy (l:List Inf)(p:Nat×Nat):Bool:=match nth l p.1 with
 |some a=>match nth l p.2 with
  |some b=>dN a b
  |none=>ß
 |none=>ß
def dH (l:List Inf):List (Nat×Nat)→Bool
 |[]=>ü
 |p::r=>bif fy l p then dH l r else ß
inductive FC where
 |skip
 |region (ops:List OP)
 |drawn (ops:List OP) (ps:List (Nat×Nat))
 |seq (a b:FC)
 |cond (c:Src) (a b:FC)
 |block (id:Nat) (c:FC)
 |loop (c:FC)
 |rloop (x:Src) (dst:Option Pos) (ops:List OP) (asg:List Pos) (c:FC)
 |rng (f:Src) (ps:List Pos) (asg body:FC)
 |exit (id:Nat)
 |ret
 |bad
def pQ (g:Env→DM→Pos→RX):Nat→Env→DM→Pos→RX
 |0,_,_,_=>.no
 |f+1,e,d,n=>match g e d n with
  |.ok x l p j=>match x with
   |.normal=>pQ g f l p j
   |x=>.ok x l p j
  |.no=>.no
def T8:List Pos→List TV→Env→Option Env
 |[],[],e=>ä e
 |t::ts,a::as,e=>T8 ts as (PM.set .unk t e a)
 |_,_,_=>ö
def RM (j:Pos)(call:Ck)(e:Env)(ps:List Pos)(f:HP→Env→DM→Pos→RX):Yk:=λb g args d n=>match g.beq j with
 |true=>match T8 ps args e with
  |some p=>match f b p d n with
   |.ok x _ r l=>match x with
    |.normal=>.ok (.pv (.one (.bl ü))) r l
    |_=>.no
   |.no=>.no
  |none=>.no
 |false=>call b (.yld g) args d n
def YQ (f:Pos)(h:Pos→EO):DM→(Pos→Pos)→Bool
 |.leaf,_=>ü
 |.node l a r,c=>(match a with
   |none=>ü
   |some _=>match h (c .e)with
    |.none=>ü
    |_=>(c .e).beq f)&&YQ f h l (λp=>c (.o p))&&YQ f h r (λp=>c (.i p))
def xa:List Pos→Env→Env
 |[],e=>e
 |p::l,e=>xa l (PM.set .unk p e .unk)
def Nd (a f:TV):Bool:=match a with
 |.unk=>ü
 |.pv (.one c)=>match f with|.pv (.one c')=>Ym c c'|_=>ß
 |.pv (.agg cs)=>match f with|.pv (.agg cs')=>JI cs cs'|_=>ß
 |.tup _=>ß
def Hq:Env→Env→Bool
 |.leaf,_=>ü
 |.node l a r,.leaf=>Nd a .unk&&Hq l .leaf&&Hq r .leaf
 |.node l a r,.node g j f=>Nd a j&&Hq l g&&Hq r f
def ul:Env→Env
 |.leaf=>.leaf
 |.node l a r=>.node (ul l) (match a with|.tup _=>.unk|a=>a) (ul r)
def P0 (f:ME→RX)(ok:Env→DM→Bool):List ME→Bool
 |[]=>ü
 |x::es=>match f x with
  |.ok .normal e d _=>bif ok e d then P0 f ok es else ß
  |_=>ß
def wJ (r:RS)(f:Env→DM→Pos→RX):RX:=match r with
 |.ok e d n=>f e d n
 |.no=>.no
def T9 (m:Pos)(f:Nat)(g:List Nat)(o:EO):Bool:=match o with
 |.mitU m' since' bs' (ä _)=>m.beq m'&&Nat.beq f since'&&lsEq g bs'
 |_=>ß
def exec (ck:Callk)(j:Nat):FC→HP→Env→DM→Pos→RX
 |.skip,_,e,d,n=>.ok .normal e d n
 |.region p,b,e,d,n=>match aQ ck b p e d n with
  |.ok e d n=>.ok .normal e d n
  |.no=>.no
 |.drawn p ps,b,e,d,n=>match sq b p d n with
  |some (rs,d1,n1)=>match mS ck b rs p e d1 n n1 with
   |.ok l e d n=>bif dH l ps then .ok .normal e d n else .no
   |.no=>.no
  |none=>.no
 |.seq x y,b,e,d,n=>match exec ck j x b e d n with
  |.ok U e d n=>match U with
   |.normal=>exec ck j y b e d n
   |U=>.ok U e d n
  |.no=>.no
 |.cond c x y,b,e,d,n=>match bm e c with
  |.pv (.one (.bl t))=>match t with
   |true=>exec ck j x b e d n
   |false=>exec ck j y b e d n
  |_=>.no
 |.block id c,b,e,d,n=>match exec ck j c b e d n with
  |.ok x e d n=>match x with
   |.exit R=>match Nat.beq R id with
    |true=>.ok .normal e d n
    |false=>.ok (.exit R) e d n
   |x=>.ok x e d n
  |.no=>.no
 |.loop c,b,e,d,n=>pQ (exec ck j c b) j e d n
 |.rloop x P p C c,b,e,d,n=>match bm (xa C (ul e)) x with
  |.pv (.one (.ptr it _ 0))=>match (HP.ov b d).get it with
   |.mit (ä m) since [] sp=>match (HP.ov b d).get m with
    |.map J clock=>match J with
     |_::_::_=>bif Nat.ble since sp&&Nat.ble since clock&&J.all (λx=>Nat.blt x.born since)then
       bif P0 (λy=>wJ (aQ ck (.ov b (fA d it (.mitU m since (dq J) ö))) p (aV (xa C (ul e)) P (Nr y.key y.val)) (fA .leaf it (.mitU m since (dq J) (ä (y.born,clock)))) n) (exec ck j c (.ov b (fA d it (.mitU m since (dq J) ö)))))
         (λe' d'=>YQ it (HP.ov b (fA d it (.mitU m since (dq J) ö))).get d' id&&Hq (xa C (ul e)) e'&&T9 m since (dq J) ((HP.ov (.ov b (fA d it (.mitU m since (dq J) ö))) d').get it)) J
       then match wJ (aQ ck b p (aV (xa C (ul e)) P Em) (fA d it .dead) n) (exec ck j c b)with
        |.ok .normal _ _ _=>.no
        |r=>r
       else .no
      else .no
     |_=>pQ (λe d n=>wJ (aQ ck b (.nxt x P::p) e d n) (exec ck j c b)) j e d n
    |_=>.no
   |.mit ö _ _ _=>pQ (λe d n=>wJ (aQ ck b (.nxt x P::p) e d n) (exec ck j c b)) j e d n
   |_=>.no
  |_=>.no
 |.rng f ps C T,b,e,d,n=>match bz ü (HP.ov b d).get n with
  |true=>match cI (HP.ov b (fA d n .yld)).get (bm e f::[.pv (.one (.clo n))])with
   |some (.fn g,vs)=>match ck.iter (RM n ck.call e ps λb e d n=>match exec ck j C b e d n with
     |.ok .normal e d n=>exec ck j T b e d n
     |_=>.no) b (.fn g) vs (fA d n .yld) n.succ with
    |.ok _ d n=>.ok .normal e d n
    |.no=>.no
   |_=>.no
  |false=>.no
 |.exit id,_,e,d,n=>.ok (.exit id) e d n
 |.ret,_,e,d,n=>.ok .ret e d n
 |.bad,_,_,_,_=>.no
inductive FR where
 |t (p:Pos)
 |cell (p:Pos) (s:Nat) (agg:Bool)
def yO (e:Env)(h:Pos→EO):FR→Option PV
 |.t p=>match e.get .unk p with
  |.pv v=>ä v
  |_=>ö
 |.cell p s agg=>match e.get .unk p with
  |.pv (.one (.ptr k g off))=>match E2 (h k) g off s with
   |some f=>Kr agg f
   |none=>ö
  |_=>ö
def eP (e:Env)(h:Pos→EO):List FR→Option (List PV)
 |[]=>ä []
 |r::l=>match yO e h r with
  |some a=>match eP e h l with
   |some f=>ä (a::f)
   |none=>ö
  |none=>ö
def pF:List PV→TV
 |[a]=>.pv a
 |l=>.tup l
structure Fi where
 code:FC
 cz:List FR
 nt:Nat
def tB:List TV→Pos→Env→Env
 |[],_,e=>e
 |a::l,p,e=>tB l p.succ (PM.set .unk p e a)
def ad6 (b:HP)(f:List FR)(r:RX):RC:=match r with
 |.ok x e d n=>match x with
  |.exit _=>.no
  |_=>match eP e (HP.ov b d).get f with
   |some l=>.ok (pF l) d n
   |none=>.no
 |.no=>.no
def TA (call:Yk→Ck)(f:Yk):Callk:=⟨call f,call⟩
def noY:Yk:=λ_ _ _ _ _=>.no
def afG:ø→Option CV
 |.bool b=>ä (.bl b)
 |.int k n=>ä (.int k n)
 |.string s=>ä (.str (s.data.toList.map UInt8.toNat))
 |.pointer ö=>ä .nilp
 |.slice ö 0 0=>ä .nils
 |.map ö=>ä .nilm
 |.nilFunc=>ä .nilf
 |.func (.func f) a b=>if a.size=0∧b.size=0 then ä (.fnc f)else ö
 |.nilIface=>ä .nili
 |_=>ö
def Vn:List ø→Option (List CV)
 |[]=>ä []
 |v::l=>match afG v,Vn l with
  |some c,ä r=>ä (c::r)
  |_,_=>ö
def aea:ø→Option PV
 |.agg f=>match Vn f.toList with
  |some l=>ä (.agg l)
  |none=>ö
 |v=>match afG v with
  |some c=>ä (.one c)
  |none=>ö
def aiT (v:ø):TV:=match aea v with
 |some p=>.pv p
 |none=>.unk
def nC:è→Src
 |.tmp t=>if t+2≤2^64 then .t (pos t)else .c .unk
 |.const v=>.c (aiT v)
 |.global g=>.c (.pv (.one (.glob g)))
 |.func f=>.c (.pv (.one (.fnc f)))
def ap (P:å)(t:é):Nat:=match P.info? t with
 |some i=>i.size
 |none=>0
def wC (P:å)(t:é):Nat:=match P.info? t with
 |some i=>i.bytes
 |none=>0
def mc:Option TypeDesc→Option Bool
 |some (.struct _)=>ä ü
 |some (.array _ _)=>ä ü
 |some _=>ä ß
 |none=>ö
def dZ (P:å)(t:é):Option PV:=match P.info? t with
 |some i=>match i.zero with
  |some v=>aea v
  |none=>ö
 |none=>ö
def Yx (sz:é→Nat)(f:é→Option (List CK)):List Field→Nat→Option (List CK)
 |[],_=>ä []
 |x::r,off=>if x.name ≠ "_" ∧ x.offset=off then match f x.type with
   |some a=>if sz x.type=a.length∧a.length≠0 then match Yx sz f r (off+a.length)with
     |some b=>ä (a++b)
     |none=>ö
    else ö
   |none=>ö
  else ö
def iD (P:å):Nat→é→Option (List CK)
 |0,_=>ö
 |d+1,t=>match P.underlying t with
  |some .bool=>ä [.b]
  |some (.int k)=>ä [.i k]
  |some .string=>ä [.s]
  |some (.struct T)=>if P.stoodInHeld t then ö else Yx (ap P) (iD P d) T.toList 0
  |_=>ö
def GJ (P:å)(t:é)(g:Bool):Option EqK:=match P.underlying t with
 |some (.pointer e)=>if ap P e=0 then ö else ä .ptr
 |some (.slice _)=>ä .slc
 |some (.struct _)=>if P.eqGuardType P.depth t then ö else match iD P 20 t with
  |some f=>ä (.flat f ü)
  |none=>ö
 |some (.array _ _)=>ö
 |some _=>match iD P 20 t with
  |some f=>ä (.flat f ß)
  |none=>ö
 |none=>ö
def Cp (P:å)(t:é):Option EqK:=match P.underlying t with
 |some (.struct _)=>match iD P 20 t with
  |some f=>ä (.flat f ü)
  |none=>ö
 |some _=>match iD P 20 t with
  |some f=>ä (.flat f ß)
  |none=>ö
 |none=>ö
def isC:è→Bool
 |.const _=>ü
 |_=>ß
def y9 (P:å)(T:Array Field):List (Nat×è)→Option (List (Nat×Nat))
 |[]=>ä []
 |(i,_)::r=>match T[i]? with
  |some f=>match y9 P T r with
   |some l=>ä ((f.offset,ap P f.type)::l)
   |none=>ö
  |none=>ö
def Zk (P:å)(u:é)(e:é)(s f:Nat):Bool:=liesAt P P.depth e (s/P.cellsOf e) f u 1
def TW (P:å)(e:é)(len f n:Nat):Bool:=P.cellsOf e=1&&Nat.ble (f+n) len
def aiD (fn:Func)(P:å):Option K :=
 if (Extern.findNext fn).isSome then ö
 else if fn.name = "internal/abi.NoEscape" then ä .mov
 else if fn.name = "internal/bytealg.IndexByteString" then ä .ibs
 else ö
def G8 (P:å)(c:Call)(b:Builtin):Option (K×List è):=match b,c.args.toList,c.argTypes.toList with
 |.len,[x],[t]=>match P.underlying t with
  |some .string=>ä (.lens,[x])
  |some (.slice _)=>ä (.lenl,[x])
  |some (.map _ _)=>ä (.lenm,[x])
  |_=>ö
 |.append,[s,x],[t,u]=>match P.underlying t with
  |some (.slice e)=>match dZ P e with
   |some z=>if ap P e=0∨z.cells.length≠ap P e then ö else match P.underlying u with
    |some (.slice _)=>ä (.ke e (ap P e) (wC P e) ß,[s,x])
    |some .string=>if ap P e=1 then ä (.ke e (ap P e) (wC P e) ü,[s,x])else ö
    |_=>ö
   |none=>ö
  |_=>ö
 |.unsafeSliceData,[x],_=>ä (.usd,[x])
 |.unsafeString,[x,y],[t,_]=>match P.underlying t with
  |some (.pointer e)=>match P.underlying e with
   |some (.int .u8)=>ä (.ust e (TW P),[x,y])
   |_=>ö
  |_=>ö
 |.max,[x,y],_=>ä (.mx ü,[x,y])
 |.min,[x,y],_=>ä (.mx ß,[x,y])
 |_,_,_=>ö
abbrev Glt:=Nat→é→Option (ø ⊕ Nat)
def cK (P:å)(U:Glt):Op→Option (K×List è)
 |.move x=>ä (.mov,[x])
 |.assign x=>ä (.mov,[x])
 |.pick c a b=>ä (.pick,[c,a,b])
 |.alloc e=>match dZ P e with
  |some z=>if z.cells.length=0 then ö else ä (.alloc e z.cells,[])
  |none=>ö
 |.box e x=>if ap P e=0 then ö else ä (.box e (ap P e),[x])
 |.build t parts=>match dZ P t,P.underlying t with
  |some z,ä (.struct T)=>if T.toList.all (λf=>(P.info? f.type).isSome)then match y9 P T parts.toList with
    |some ps=>ä (.build z.cells ps,parts.toList.map (·.2))
    |none=>ö
   else ö
  |some z,ä (.array _ e)=>if ap P e=0 then ö else ä (.build z.cells (parts.toList.map λp=>(p.1*ap P e,ap P e)),parts.toList.map (·.2))
  |_,_=>ö
 |.buildSlice t len parts=>match P.underlying t with
  |some (.slice e)=>match dZ P e with
   |some z=>if ap P e=0∨z.cells.length≠ap P e then ö else ä (.lit e (ap P e) len z.cells (parts.toList.map (·.1)),parts.toList.map (·.2))
   |none=>ö
  |_=>ö
 |.load t a=>match a with
  |.global g=>match U g t with
   |some (.inl v)=>ä (.mov,[.const v])
   |_=>ö
  |a=>if ap P t=0 then ö else match mc (P.underlying t)with
   |some b=>ä (.load (ap P t) b,[a])
   |none=>ö
 |.store t a x=>if ap P t=0 then ö else ä (.store (ap P t),[a,x])
 |.nilCheck x=>ä (.nilchk,[x])
 |.binOp op t x y _=>match op with
  |.eql=>match P.underlying t with
   |some (.int _)=>ä (.bin .eql,[x,y])
   |some .string=>ä (.bin .eql,[x,y])
   |_=>match GJ P t (isC x||isC y)with
    |some q=>ä (.eql ß q,[x,y])
    |none=>ö
  |.neq=>match P.underlying t with
   |some (.int _)=>ä (.bin .neq,[x,y])
   |some .string=>ä (.bin .neq,[x,y])
   |_=>match GJ P t (isC x||isC y)with
    |some q=>ä (.eql ü q,[x,y])
    |none=>ö
  |op=>ä (.bin op,[x,y])
 |.unOp op _ x=>ä (.un op,[x])
 |.convert s t x=>match P.underlying s,P.underlying t with
  |some (.int _),ä (.int k)=>ä (.cint k,[x])
  |some (.pointer e),ä .unsafePointer=>if ap P e=0 then ö else ä (.p2u,[x])
  |some .unsafePointer,ä (.pointer u)=>if ap P u=0 then ö else ä (.u2p (Zk P u),[x])
  |some (.slice e),ä .string=>if P.underlying e matches ä (.int .u8)then ä (.b2s,[x])else ö
  |_,_=>ö
 |.makeFunc fn first j=>ä (.mkf fn first.size,first.toList++j.toList)
 |.makeMap t r=>match P.underlying t with
  |some (.map _ _)=>ä (.mkm,r.toList)
  |_=>ö
 |.makeSlice t l c=>match P.underlying t with
  |some (.slice e)=>match dZ P e with
   |some z=>if ap P e=0∨z.cells.length≠ap P e then ö else ä (.mks e (ap P e) (wC P e) z.cells,[l,c])
   |none=>ö
  |_=>ö
 |.slice t x C J mx=>match P.underlying t with
  |some .string=>if mx.isSome then ö else ä (.subs C.isSome J.isSome,x::(C.toList++J.toList))
  |some (.slice e)=>if ap P e=0 then ö else ä (.subl (ap P e) C.isSome J.isSome mx.isSome,x::(C.toList++J.toList++mx.toList))
  |_=>ö
 |.fieldAddr s x f=>match P.underlying s with
  |some (.struct T)=>match T[f]? with
   |some f=>if ap P f.type=0 then ö else ä (.fadr f.offset,[x])
   |none=>ö
  |_=>ö
 |.field s x f=>match P.underlying s with
  |some (.struct T)=>match T[f]? with
   |some f=>if ap P f.type=0 then ö else match mc (P.underlying f.type)with
    |some b=>ä (.fld f.offset (ap P f.type) b,[x])
    |none=>ö
   |none=>ö
  |_=>ö
 |.indexAddr t x i=>match P.underlying t with
  |some (.slice e)=>if ap P e=0 then ö else ä (.idxl (ap P e),[x,i])
  |some (.array n e)=>if ap P e=0 then ö else ä (.idxa n (ap P e),[x,i])
  |_=>ö
 |.index t x i=>match P.underlying t with
  |some .string=>ä (.idxs,[x,i])
  |_=>ö
 |.lookup t x i ok=>match P.underlying t with
  |some (.map k e)=>match Cp P k,dZ P e with
   |some q,ä z=>ä (.look q z ok,[x,i])
   |_,_=>ö
  |_=>ö
 |.mapUpdate t m k x=>match P.underlying t with
  |some (.map kt _)=>match Cp P kt with
   |some q=>ä (.put q,[m,k,x])
   |none=>ö
  |_=>ö
 |.mapEntry t m k=>match P.underlying t with
  |some (.map kt e)=>match Cp P kt,dZ P e with
   |some q,ä z=>ä (.ment q z,[m,k])
   |_,_=>ö
  |_=>ö
 |.entryStore _ m s x=>ä (.mest,[m,s,x])
 |.range t x=>match P.underlying t with
  |some (.map _ _)=>ä (.rngm,[x])
  |_=>ö
 |.entry R=>ä (.ent,[R])
 |.extract x i=>ä (.ext i,[x])
 |.call c=>match c.callee with
  |.builtin b=>G8 P c b
  |.value (.func f)=>match P.funcs[f]? with
   |some fn=>match fn.body with
    |some _=>ö
    |none=>match aiD fn P with
     |some k=>ä (k,c.args.toList)
     |none=>ö
   |none=>ö
  |_=>ö
 |_=>ö
def kAl:K→Bool
 |.alloc _ _=>ü|.box _ _=>ü|.lit _ _ _ _ _=>ü|.mkf _ _=>ü|.mkm=>ü|.mks _ _ _ _=>ü|.rngm=>ü|.subl _ _ _ _=>ü|.ke _ _ _ _=>ü
 |_=>ß
def BA (f:List ë):Option (Nat×Bool)→Option (Option (Pos×Bool))
 |none=>ä ö
 |some (j,w)=>match (f[j]?).bind (·.dst)with
  |some d=>if d+2≤2^64 then ä (ä (pos d,w))else ö
  |none=>ö
def TD (f:Nat):Option Tmp→Option (Option Pos)
 |none=>ä ö
 |some d=>if d<f∧d+2≤2^64 then ä (ä (pos d))else ö
def cOp (P:å)(J:Glt)(r:Nat)(l:List ë)(o:ë):OP:=match TD r o.dst with
 |none=>.bad
 |some j=>match BA l o.guard with
  |none=>.bad
  |some g=>match cK P J o.op with
   |some (k,p)=>.op ⟨k,p.map nC,j,g⟩ (kAl k)
   |none=>match o.op with
    |.call c=>match c.callee with
     |.value f=>.call (nC f::c.args.toList.map nC) j g
     |_=>.bad
    |.next C ß=>match g with
     |none=>.nxt (nC C) j
     |some _=>.bad
    |_=>.bad
def mI (P:å)(j:Glt)(g:Nat)(f:List ë):List ë→List OP
 |[]=>[]
 |o::r=>cOp P j g f o::mI P j g f r
def aK:List ë→List Nat→List Nat
 |[],acc=>acc
 |o::r,acc=>aK r (acc++[o.after.toList.foldl (λs e=>if Region.binds .any e then s ||| 2^e.on ||| acc.getD e.on 0 else s) 0])
def bU:Nat→List ë→Bool
 |_,[]=>ü
 |i,o::r=>o.after.toList.all (λe=>!Region.binds .any e||decide (e.on<i))&&bU (i+1) r
def B0:List Src→List Pos
 |[]=>[]
 |.t p::l=>p::B0 l
 |.c _::l=>B0 l
def LR:Option (Pos×Bool)→List Pos
 |some (p,_)=>[p]
 |none=>[]
def eo:OP→List Pos
 |.op o _=>LR o.guard++B0 o.args
 |.call args _ g=>LR g++B0 args
 |_=>[]
def Qc:OP→Option Pos
 |.op o _=>o.dst
 |.call _ d _=>d
 |.nxt _ d=>d
 |.bad=>ö
def AI (a b:OP):Bool :=
 (match Qc a with|some d=>!SC d (eo b) && !(match Qc b with|some f=>d.beq f|none=>ß)|none=>ü)&&(match Qc b with|some d=>!SC d (eo a)|none=>ü)
def abf:OP→Bool
 |.call _ _ _=>ü
 |_=>ß
def ajU:OP→Nat
 |.op _ ü=>2
 |.call _ _ _=>1
 |_=>0
def ahl (f:List Nat)(n:Nat)(done:List Nat)(i:Nat):Bool :=
 !done.contains i&&(List.range n).all λj=>!(f.getD i 0).testBit j||done.contains j
def NS (g:List Nat)(cl:List Nat):Nat→List Nat→List Nat
 |0,done=>done.reverse
 |f+1,done=>
  let l:=(List.range cl.length).filter (ahl g cl.length done);match l.find? (λi=>cl.getD i 0 == 0)with
  |some i=>NS g cl f (i::done)
  |none=>match l.find? (λi=>cl.getD i 0 == 1)with
   |some i=>NS g cl f (i::done)
   |none=>match l.find? (λi=>(List.range cl.length).any λj=>cl.getD j 0 == 1&&(g.getD j 0).testBit i)with
    |some i=>NS g cl f (i::done)
    |none=>match l with
     |i::_=>NS g cl f (i::done)
     |[]=>done.reverse
def aay (g:List Nat)(f:List Nat)(p q:Nat):Bool :=!(g.getD (f.getD q 0) 0).testBit (f.getD p 0)
def adc (g:List OP)(f:List Nat)(p q:Nat):Bool:=match g[f.getD p 0]?,g[f.getD q 0]? with
 |some x,ä y=>AI x y && !(abf x&&abf y)
 |_,_=>ß
def Lp:List Nat→Bool
 |[]=>ü
 |a::l=>!l.contains a&&Lp l
def K8 (g:List ë)(j:List OP)(l:List Nat)(f:List Nat):Option (List (Nat×Nat)) :=
 let all:=(List.range f.length).flatMap λq=>((List.range q).filter λp=>aay l f p q).map λp=>(p,q)
 if bU 0 g&&Nat.beq f.length g.length&&Lp f&&(List.range g.length).all (λi=>f.contains i)&&f.all (λi=>decide (i<g.length))&&all.all (λp=>adc j f p.1 p.2)then ä all else ö
def ac2 (g:List ë)(j:List OP)(l:List Nat)(f:List Nat):FC:=match K8 g j l f with
 |some ps=>.drawn (f.map λi=>j.getD i .bad) ps
 |none=>.bad
def GN:List OP→List Pos
 |[]=>[]
 |o::r=>(match o with|.op o _=>o.dst.toList|.call _ d _=>d.toList|.nxt _ d=>d.toList|.bad=>[])++GN r
def sx:FC→List Pos
 |.region f=>GN f
 |.drawn f _=>GN f
 |.seq a b=>sx a++sx b
 |.cond _ a b=>sx a++sx b
 |.block _ c=>sx c
 |.loop c=>sx c
 |.rloop _ d f _ c=>d.toList++GN f++sx c
 |.rng _ ps a b=>ps++sx a++sx b
 |_=>[]
def cm:Code→Bool
 |.region _ f _=>f.toList.all λo=>match o.op with|.defer _=>ß|_=>ü
 |.seq a b=>cm a&&cm b
 |.cond _ a b=>cm a&&cm b
 |.block _ a=>cm a
 |.loop a=>cm a
 |.scope a=>cm a
 |.rangeFunc _ _ a b=>cm a&&cm b
 |_=>ü
def cC (P:å)(p:Glt)(j:Nat):Code→FC
 |.skip=>.skip
 |.label _=>.skip
 |.region _ g r=>match r with
  |false=>.region (mI P p j g.toList g.toList)
  |true=>ac2 g.toList (mI P p j g.toList g.toList) (aK g.toList []) (NS (aK g.toList []) ((mI P p j g.toList g.toList).map ajU) g.size [])
 |.seq a b=>.seq (cC P p j a) (cC P p j b)
 |.cond c a b=>.cond (nC c) (cC P p j a) (cC P p j b)
 |.block id c=>.block id (cC P p j c)
 |.loop (.seq (.region id g ß) y)=>match mI P p j g.toList g.toList with
  |.nxt x dst::l=>.rloop x dst l (dst.toList++GN l++sx (cC P p j y)) (cC P p j y)
  |_=>.loop (cC P p j (.seq (.region id g ß) y))
 |.loop c=>.loop (cC P p j c)
 |.rangeFunc f ps a b=>if cm a&&cm b&&ps.toList.all (λt=>decide (t<j∧t+2≤2^64))then .rng (nC f) (ps.toList.map pos) (cC P p j a) (cC P p j b)else .bad
 |.scope c=>cC P p j c
 |.exit id=>.exit id
 |.ret=>.ret
 |_=>.bad
def afZ (P:å):ResultVar→Option FR
 |.tmp t=>if t+2≤2^64 then ä (.t (pos t))else ö
 |.cell t f=>match mc (P.underlying f)with
  |some b=>if t+2≤2^64∧ap P f≠0 then ä (.cell (pos t) (ap P f) b)else ö
  |none=>ö
def JP (P:å):List ResultVar→Option (List FR)
 |[]=>ä []
 |r::l=>match afZ P r,JP P l with
  |some a,ä b=>ä (a::b)
  |_,_=>ö
def jU (P:å)(Gl:Glt)(f:FuncId):Option Fi:=match P.funcs[f]? with
 |some fn=>match fn.body with
  |some b=>if fn.name == "runtime.NumGoroutine" then ö else match JP P fn.results.toList with
   |some rs=>ä ⟨cC P Gl fn.ntmps b,rs,fn.ntmps⟩
   |none=>ö
  |none=>ö
 |none=>ö
variable [SymVal]
def RTs (φ:Gx):List TV→List ø→Prop
 |[],[]=>True
 |t::l,v::vs=>RT φ t v∧RTs φ l vs
 |_,_=>False
def RTs.mono {φ ψ:Gx}(h:φ.le ψ):∀{l:List TV} {vs:List ø},RTs φ l vs→RTs ψ l vs
 |[],[],_=>trivial
 |_::_,_::_,⟨a,b⟩=>⟨a.mono h,b.mono h⟩
def RTs.len {φ:Gx}:∀{l:List TV} {vs:List ø},RTs φ l vs→vs.length=l.length
 |[],[],_=>rfl
 |_::_,_::_,⟨_,b⟩=>by simp[b.len]
def RTs.append {φ:Gx}:∀{l m:List TV} {vs ws:List ø},RTs φ l vs→RTs φ m ws→RTs φ (l++m) (vs++ws)
 |[],_,[],_,_,h=>h
 |_::_,_,_::_,_,⟨a,b⟩,h=>⟨a,b.append h⟩
variable{φ:Gx}{vs:List ø}
def RTs.one {t:TV}(h:RTs φ [t] vs):∃v,vs=[v]∧RT φ t v:=by
 match vs,h with
 |[v],⟨a,_⟩=>exact⟨v,rfl,a⟩
def RTs.cons {t:TV}{l:List TV}(h:RTs φ (t::l) vs):∃v ws,vs=v::ws∧RT φ t v∧RTs φ l ws:=by
 match vs,h with
 |v::ws,⟨a,b⟩=>exact⟨v,ws,rfl,a,b⟩
def RTs.nil (h:RTs φ [] vs):vs=[]:=by
 match vs,h with
 |[],_=>rfl
def MA {φ:Gx}:∀{l:List PV} {vs:List ø},cA φ l=ä vs→RTs φ (pvT l) vs
 |[],vs,r=>by cases r;trivial
 |p::l,vs,r=>by obtain⟨v,j,rfl,g,f⟩:=gk r;exact⟨g,MA f⟩
def IC {φ:Gx}:∀{l:List TV} {r:List PV} {vs:List ø},pvs l=ä r→RTs φ l vs→cA φ r=ä vs
 |[],r,vs,h,hr=>by cases h;rw[hr.nil];rfl
 |.pv p::l,r,vs,h,hr=>by
  simp[pvs]at h;split at h
  next q hq=>cases h;obtain⟨v,ws,rfl,g,f⟩:=hr.cons;exact bJ g (IC hq f)
  ·cases h
 |.unk::_,_,_,h,_=>by cases h
 |.tup _::_,_,_,h,_=>by cases h
def sL (h:Pos→EO)(w:Option (Pos×EO)):Pos→EO:=match w with
 |some (k,o)=>upd h k o
 |none=>h
def OkX (P:å)(B:Nat)(J:W0)(φ:Gx)(h:Pos→EO)(w:æ)(o:ë)(a:Act)(out:TV)(wr:Option (Pos×EO)):Prop :=
 (∀(K:Act→æ→Prop) (Q:Exit→Act→æ→Prop),(∀v ψ f,φ.le ψ→Inv B J ψ (sL h wr) f→RT ψ out v→K (a.put o.dst v) f)→o.wp P a w K Q)∧∀k g,wr=ä (k,g)→iE g=ß
def gv:ø ⊕ Nat→ø
 |.inl v=>v
 |.inr n=>SymVal.v n
def sj (f:Glt)(P:å)(B:Nat)(J:W0):Prop:=(∀g t v,f g t=ä v→∀w,Below B J.w w→(Instr.loadAt t (.pointer (ä ⟨g,0,ö⟩))).run P w = .ok (gv v) w)∧∀w,Below B J.w w→SymVal.fact w
def BP {o j:EO}{g f:Nat}{new:List CV}(h:DT o g f new=ä j):iE j=false:=by
 unfold DT at h;split at h
 next e s el len gen fz=>
  cases l:(Nat.beq g gen&&Nat.blt (f/s) len&&Nat.ble (f%s+new.length) s&&PC fz)with
  |false=>rw[l]at h;cases h
  |true =>rw[l,U']at h;split at h;cases h;rfl
 ·cases h
def yi {g s:Nat}:∀{l:List (List CV)} {x:List CV} {o j:EO} {f:Nat},ou g s (x::l) o f=ä j→iE j=ß
 |[],x,o,j,f,h=>by
  rw[ou]at h;split at h
  next o1 h1=>cases h;exact BP h1
  ·cases h
 |y::l,x,o,j,f,h=>by
  rw[ou]at h;split at h
  ·exact yi h
  ·cases h
section
variable {P:å}{B:Nat}{J:W0}{φ:Gx}{h:Pos→EO}{w:æ}{o:ë}{a:Act}
variable{v:ø}{out:TV}{ψ:Gx}{w' :æ}{o' :EO}{k:IntKind}{n:Int}{b:Bool}{s:List Nat}{off:Nat}{cap:Option Nat}{x y:è}{op:BinOp}{tx ty:é}{C:List TV}{f:Pos}
def au (l:Inv B J φ h w)(f:(ê a.eval o).run P w = .ok (.value v) w)(g:RT φ out v):OkX P B J φ h w o a out none:=⟨λK Q j=>by
 unfold Oper.wp;rw[f];exact j v φ w (Gx.le.refl φ) l g,λ_ _ e=>by cases e⟩
def ju {k:Pos}(j:(ê a.eval o).run P w = .ok (.value v) w')(g:φ.le ψ)(r:Inv B J ψ (upd h k o') w')(l:RT ψ out v)(f:iE o'=false:=by rfl):OkX P B J φ h w o a out (ä (k,o')):=⟨λK Q p=>by
 unfold Oper.wp;rw[j];exact p v ψ w' g r l,λ_ _ e=>by cases e;exact f⟩
def Dg {k:Pos}(j:(ê a.eval o).run P w = .ok .skip w')(g:φ.le ψ)(p:Inv B J ψ (upd h k o') w')(f:iE o'=false:=by rfl):OkX P B J φ h w o a .unk (ä (k,o')):=⟨λK Q l=>by
 unfold Oper.wp;rw[j];exact l undef ψ w' g p trivial,λ_ _ e=>by cases e;exact f⟩
def dE (h:RT φ (.pv (.one (.int k n))) v):v = .int k n:=(Δ h).symm
def Iv (h:RT φ (.pv (.one (.bl b))) v):v = .bool b:=(Δ h).symm
def oE (h:RT φ (.pv (.one (.str s))) v):okStr s=ü∧v=strV s:=by
 have h:den φ (.str s)=ä v:=h;simp only[den]at h;split at h
 next q=>exact⟨q,(Δ h).symm⟩
 ·cases h
def gV {k:Pos}{g:Nat}(h:RT φ (.pv (.one (.ptr k g off))) v):∃l,φ.loc k g=ä l∧v = .pointer (ä ⟨l.b,off,ö⟩):=by
 have h:den φ (.ptr k g off)=ä v:=h;simp[den]at h;split at h
 next l q=>exact⟨l,q,(Δ h).symm⟩
 ·cases h
def KH {k:Pos}{g len:Nat}(h:RT φ (.pv (.one (.sl k g off len cap))) v):∃l,φ.loc k g=ä l∧v = .slice (ä ⟨l.b,off,ö⟩) len (iA cap l.n (off/l.s))∧Am cap len l.n (off/l.s)=true:=by
 have h:den φ (.sl k g off len cap)=ä v:=h;simp[den]at h;split at h
 next l q=>
  split at h
  next f=>exact⟨l,q,(Δ h).symm,f⟩
  ·cases h
 ·cases h
def Iu {k:Pos}{g len:Nat}(h:RT φ (.pv (.one (.sl k g off len cap))) v):∃l,φ.loc k g=ä l∧v = .slice (ä ⟨l.b,off,ö⟩) len (iA cap l.n (off/l.s)):=by obtain⟨l,j,f,_⟩:=KH h;exact⟨l,j,f⟩
def agx {k:Pos}(h:RT φ (.pv (.one (.mp k))) v):∃l,φ.loc k 0=ä l∧v = .map (ä l.b):=by
 have h:den φ (.mp k)=ä v:=h;simp[den]at h;split at h
 next l q=>exact⟨l,q,(Δ h).symm⟩
 ·cases h
def KJ {k:Pos}(h:RT φ (.pv (.one (.emp k))) v):∃a c,v = .slice (ä a) 0 c:=by
 have h:den φ (.emp k)=ä v:=h;simp[den]at h;split at h
 next a c q=>exact⟨a,c,(Δ h).symm⟩
 ·cases h
def xz {f:List CV}(h:RT φ (.pv (.agg f)) v):∃vs,v = .agg vs.toArray∧dens φ f=ä vs:=by
 have h:denP φ (.agg f)=ä v:=h;simp[denP]at h;split at h
 next vs q=>exact⟨vs,(Δ h).symm,q⟩
 ·cases h
def dl (k:IntKind)(n:Int):RT φ (.pv (.one (.int k n))) (.int k n):=rfl
def zw (b:Bool):RT φ (.pv (.one (.bl b))) (.bool b):=rfl
def xL (f:okStr s=ü):RT φ (.pv (.one (.str s))) (strV s):=by show den φ (.str s)=_;simp[den,f]
def cR {h:Pos→EO}:(gc k n).run h=ä (.pv (.one (.int k n)),ö):=by simp[gc,xJ,Q.run]
def yN {h:Pos→EO}:(th b).run h=ä (.pv (.one (.bl b)),ö):=rfl
def Le {z:è}(C:Inv B J φ h w)(l:o.op = .pick x y z){p q:TV}(j:RT φ (.pv (.one (.bl b))) (a.eval x))(g:RT φ p (a.eval y))(f:RT φ q (a.eval z)):OkX P B J φ h w o a (match b with|true=>p|false=>q) none:=by
 have r:=Iv j;refine au C (v:=if b then a.eval y else a.eval z) ?_ ?_
 ·unfold ê;simp[l,r,asBool]
 ·cases b
  ·exact f
  ·exact g
def rY (m n:Int):(m == n)=decide (m=n):=by by_cases h:m=n <;> simp[h]
def IZ {f :IntKind}(h:kq k f=ü):k=f:=by cases k <;> cases f <;> first|rfl|cases h
def aeD (l:Inv B J φ h w)(j:o.op = .binOp op tx x y ty){m:Int}(g:a.eval x = .int k m)(f:a.eval y = .int k n){wr:Option (Pos×EO)}(p:(Ha op k m n).run h=ä (out,wr)):OkX P B J φ h w o a out wr:=by
 cases op <;> simp[Ha]at p <;> first|(cases p;done)|skip
 case quo=>
  by_cases r:n=0
  ·simp[r,Q.run]at p
  ·have C:(n == 0)=false:=by simpa using r
   rw[C,I_,cR]at p;cases p;refine au l ?_ (dl _ _);unfold ê;simp[j,g,f,ï,binOp,Op.intDiv,r]
 case rem=>
  by_cases r:n=0
  ·simp[r,Q.run]at p
  ·have C:(n == 0)=false:=by simpa using r
   rw[C,I_,cR]at p;cases p;refine au l ?_ (dl _ _);unfold ê;simp[j,g,f,ï,binOp,Op.intDiv,r]
 all_goals first|rw[cR]at p|rw[yN]at p
 all_goals (simp at p;obtain⟨rfl,rfl⟩:=p)
 case add=>refine au l ?_ (dl _ _);unfold ê;simp[j,g,f,ï,binOp,Op.intArith]
 case sub=>refine au l ?_ (dl _ _);unfold ê;simp[j,g,f,ï,binOp,Op.intArith]
 case mul=>refine au l ?_ (dl _ _);unfold ê;simp[j,g,f,ï,binOp,Op.intArith]
 case and=>refine au l ?_ (dl _ _);unfold ê;simp[j,g,f,ï,binOp,Op.intBits]
 case or=>refine au l ?_ (dl _ _);unfold ê;simp[j,g,f,ï,binOp,Op.intBits]
 case xor=>refine au l ?_ (dl _ _);unfold ê;simp[j,g,f,ï,binOp,Op.intBits]
 case eql=>refine au l ?_ (zw _);unfold ê;simp[j,g,f,ï,binOp,Op.intCmp,rY]
 case neq=>refine au l ?_ (zw _);unfold ê;simp[j,g,f,ï,binOp,Op.intCmp,bne,rY]
 case lss=>refine au l ?_ (zw _);unfold ê;simp[j,g,f,ï,binOp,Op.intCmp]
 case leq=>refine au l ?_ (zw _);unfold ê;simp[j,g,f,ï,binOp,Op.intCmp]
 case gtr=>refine au l ?_ (zw _);unfold ê;simp[j,g,f,ï,binOp,Op.intCmp]
 case geq=>refine au l ?_ (zw _);unfold ê;simp[j,g,f,ï,binOp,Op.intCmp]
def aaA (C:Inv B J φ h w)(r:o.op = .binOp op tx x y ty){j :IntKind}{m:Int}(p:a.eval x = .int k m)(l:a.eval y = .int j n){wr:Option (Pos×EO)}(f:(shI op k m n).run h=ä (out,wr)):OkX P B J φ h w o a out wr:=by
 unfold shI at f;by_cases g:n<0
 ·simp[g,Q.run]at f
 ·simp[g]at f;cases op <;> first|(cases f;done)|skip
  all_goals (rw[cR]at f;cases f;refine au C ?_ (dl _ _);unfold ê;simp[r,p,l,ï,binOp,Op.shift,g])
def bytes_toList (l:List UInt8):(⟨l.toArray⟩:ByteArray).toList=l:=by rw[ByteArray.toList_eq]
def gi {b:Nat}(h:okStr (b::s)=ü):b<256∧okStr s=true:=by simp only[okStr,C?,θ]at h;exact⟨cB.1 h.1,h.2⟩
def OM {b:Nat}(h:b<256)(f:okStr s=ü):okStr (b::s)=true:=by simp only[okStr,C?,θ];exact⟨cB.2 h,f⟩
def AU {a b:Nat}(g:a<256)(f:b<256)(h:UInt8.ofNat a=UInt8.ofNat b):a=b:=by have:=l_ UInt8.toNat h;simpa[akM g,akM f]using this
def AZ:∀{a b:List Nat},okStr a=ü→okStr b=ü→lsEq a b=(a.map UInt8.ofNat == b.map UInt8.ofNat)
 |[],[],_,_=>rfl
 |[],_::_,_,_=>rfl
 |_::_,[],_,_=>rfl
 |x::a,y::b,ha,f=>by
  obtain⟨r,p⟩:=gi ha;obtain⟨l,j⟩:=gi f;have g:=AZ p j;simp only[lsEq,c?];by_cases e:x=y
  ·subst e;have:Nat.beq x x=true:=akT x;rw[this,U',g];simp
  ·have:Nat.beq x y=false:=by cases f:Nat.beq x y with|false=>rfl|true=>exact absurd (ν f) e
   rw[this,I_];symm;simp;exact λq=>absurd (AU r l q) e
def IV:∀{a b:List Nat},okStr a=ü→okStr b=ü→SG a b=Op.bytesLess (a.map UInt8.ofNat) (b.map UInt8.ofNat)
 |[],[],_,_=>rfl
 |[],_::_,_,_=>rfl
 |_::_,[],_,_=>rfl
 |x::a,y::b,ha,g=>by
  obtain⟨p,J⟩:=gi ha;obtain⟨l,C⟩:=gi g;have r:=IV J C;simp[SG,Op.bytesLess];have f:(UInt8.ofNat x<UInt8.ofNat y)↔x<y:=by rw[UInt8.lt_iff_toNat_lt];simp[akM p,akM l]
  by_cases e:x<y
  ·rw[show Nat.blt x y=ü from cB.2 e];simp[f.2 e]
  ·rw[show Nat.blt x y=ß from agR e];have:¬UInt8.ofNat x<UInt8.ofNat y:=λq=>e (f.1 q);simp[this];by_cases j:x=y
   ·subst j;rw[show Nat.beq x x=ü from akT x];simp[r]
   ·rw[show Nat.beq x y=ß by cases g:Nat.beq x y with|false=>rfl|true=>exact absurd (ν g) j];have:¬UInt8.ofNat x=UInt8.ofNat y:=λq=>j (AU p l q);simp[this]
def Ln {a b:List Nat}(g:okStr a=ü)(f:okStr b=ü):okStr (a++b)=true:=by simp only[okStr,List.all_append,θ];exact⟨g,f⟩
def So {a:List Nat}(n:Nat)(g:okStr a=ü):okStr (a.take n)=true:=by simp[okStr]at *;exact λb f=>g b (L? f)
def Fv {a:List Nat}(n:Nat)(g:okStr a=ü):okStr (a.drop n)=true:=by simp[okStr]at *;exact λb f=>g b (aj0 f)
def Nu (a b:List Nat):strV (a++b) = .string ((⟨(a.map UInt8.ofNat).toArray⟩:ByteArray)++⟨(b.map UInt8.ofNat).toArray⟩):=by unfold strV;congr 1;apply alH;simp
def uT (a:List Nat):(⟨(a.map UInt8.ofNat).toArray⟩:ByteArray).size=a.length:=by simp[ByteArray.size]
def aeC (U:Inv B J φ h w)(R:o.op = .binOp op tx x y ty){m n:List Nat}(j:okStr m=ü)(g:okStr n=ü)(C:a.eval x=strV m)(r:a.eval y=strV n){wr:Option (Pos×EO)}(f:(ac7 op m n).run h=ä (out,wr)):OkX P B J φ h w o a out wr:=by
 have p:=AZ j g;have l:=IV j g;cases op <;> simp[ac7]at f <;> first|(cases f;done)|skip
 case add=>
  by_cases T:m.length+n.length<4294967296
  ·rw[show Nat.blt (m.length+n.length) 4294967296=ü from cB.2 T,U']at f;cases f;refine au U ?_ (xL (Ln j g));rw[Nu];unfold ê;simp only[R,C,r,strV,ï,binOp,Op.stringOp,uT];simp;omega
  ·rw[show Nat.blt (m.length+n.length) 4294967296=ß from agR T]at f;cases f
 all_goals (rw[yN]at f;cases f;refine au U ?_ (zw _);unfold ê;simp[R,C,r,strV,ï,binOp,Op.stringOp,p,l])
def ai5 (p:Inv B J φ h w){op:UnOp}{t:é}(l:o.op = .unOp op t x)(r:RTs φ C [a.eval x]){wr:Option (Pos×EO)}(g:(eUn op C f).run h=ä (out,wr)):OkX P B J φ h w o a out wr:=by
 unfold eUn at g;split at g
 ·obtain⟨v,e,j⟩:=r.one;cases e;split at g
  ·rw[yN]at g;cases g;refine au p ?_ (zw _);unfold ê;simp[l,Iv j,Op.unary]
  ·rw[cR]at g;cases g;refine au p ?_ (dl _ _);unfold ê;simp[l,dE j,Op.unary,Op.intArith]
  ·rw[cR]at g;cases g;refine au p ?_ (dl _ _);unfold ê;simp[l,dE j,Op.unary,Op.intBits]
  ·cases g
 ·cases g
def aeA (U:Inv B J φ h w){s t:é}(T:o.op = .convert s t x){j:IntKind}(r:P.underlying s=ä (.int j))(p:P.underlying t=ä (.int k))(l:RTs φ C [a.eval x]){wr:Option (Pos×EO)}(g:(P9 k C f).run h=ä (out,wr)):OkX P B J φ h w o a out wr:=by
 unfold P9 at g;split at g
 ·obtain⟨v,e,R⟩:=l.one;cases e;split at g
  ·rw[cR]at g;cases g;refine au U ?_ (dl _ _);unfold ê;simp[T,dE R,convert,η r,η p,Conv.intToInt]
  ·cases g
 ·cases g
end
variable [SymVal]
def Vl {φ:Gx}:∀{l:List CV},(∀c∈l,∃v,den φ c=ä v)→∃vs,dens φ l=ä vs
 |[],_=>⟨[],rfl⟩
 |c::l,h=>by obtain⟨v,g⟩:=h c Ψ;obtain⟨vs,j⟩:=Vl (l:=l) λx f=>h x (by simp[f]);exact⟨v::vs,vY g j⟩
def oQ (b f j:Nat):(⟨b,f,ö⟩:Addr).add j=⟨b,f+j,ö⟩:=by unfold Addr.add;split <;> simp_all
section
variable {P:å}{B:Nat}{J:W0}{φ:Gx}{h:Pos→EO}{w:æ}{o:ë}{a:Act}
variable{k f:Pos}{off:Nat}{cs:List CV}{l:Loc}{t:é}{b:Bool}{C:List TV}{out:TV}{news:List ø}
def Inv.rd (hI:Inv B J φ h w){g m:Nat}(f:E2 (h k) g off m=ä cs)(hl:φ.loc k g=ä l) :
  ∃vs,dens φ cs=ä vs∧cs.length=m∧(∀j u,vs[j]? = ä u→w.cell? ((⟨l.b,off,ö⟩:Addr).add j)=ä u)∧∃e len C fz s el,h k = .row e s el len C fz∧l.s=s∧0<s:=by
 have ho:=hI.obj k;unfold E2 at f;split at f
 next e s el len C fz hk=>
  rw[hk]at ho;obtain⟨h0,_,_,h2,h3⟩:=ho;cases R:(Nat.ble g C&&Nat.blt (off/s) len)with
  |false=>rw[R]at f;cases f
  |true=>
   rw[R,U']at f;simp[br,cB]at R;obtain⟨c1,c2⟩:=R;split at f;rename_i p mm U;cases hd:(Nat.ble mm g&&Nat.ble (off%s+m) s)with
   |false=>rw[hd]at f;cases f
   |true=>
    rw[hd,U']at f;simp[br]at hd;obtain⟨d1,d2⟩:=hd;cases f;obtain⟨l',q1,⟨q2,q3,e7,fr,q4,q5,q6,q7⟩,q8⟩:=h3 g c1;rw[q1]at hl;injection hl with hl;subst hl;obtain⟨r1,r2,r3⟩:=q7 (off/s) c2 (by rw[U];exact d1);rw[U]at r2 r3;have hdm:off/s*s+off%s=off:=by rw[aj2];exact aly off s
    have pt:∀(j:Nat) (c:CV),((p.drop (off%s)).take m)[j]? = ä c→∃v,e7[off+j]? = ä v∧den φ c=ä v:=λj c r=>by
     rw[b_]at r;split at r
     ·rw[o_]at r;obtain⟨v,z1,z2⟩:=r3 _ _ r;rw[←Nat.add_assoc,hdm]at z1;exact⟨v,z1,z2⟩
     ·cases r
    obtain⟨vs,P⟩:=Vl (φ:=φ) (l:=(p.drop (off%s)).take m) λc R=>by obtain⟨j,r⟩:=f? R;obtain⟨v,_,z⟩:=pt j c r;exact⟨v,z⟩
    have T:((p.drop (off%s)).take m).length=m:=by rw[g_,akQ];have r2:p.length=s:=r2;omega
    refine⟨vs,P,T,λj u hu=>?_,e,len,C,fz,s,el,hk,q3,h0⟩;have r:j<((p.drop (off%s)).take m).length:=by rw[←ba P];exact(f_.1 hu).1
    obtain⟨v,z1,z2⟩:=pt j _ (ζ r);obtain⟨v',z3,z4⟩:=mE P (ζ r);rw[hu]at z3;cases z3;rw[z2]at z4;cases z4;rw[oQ,ak0 w l'.b _ e7 e fr q4];exact z1
 ·cases f
def adH (f:ap P t≠0):∃i,P.info? t=ä i∧i.size=ap P t:=by
 unfold ap at f⊢;split at f
 next i g=>exact⟨i,g,rfl⟩
 ·exact absurd rfl f
def aH (f:ap P t≠0)(w:æ):(sizeOf t).run P w = .ok (ap P t) w:=by obtain⟨i,g,e⟩:=adH f;simp[sizeOf,typeInfo,g,e]
def cF (f:mc (P.underlying t)=ä b)(w:æ):(isAgg t).run P w = .ok b w:=by
 cases g:P.underlying t with
 |none=>rw[g]at f;cases f
 |some d =>rw[g]at f;simp[isAgg,π,η g];cases d <;> simp[mc]at f <;> subst f <;> rfl
def aes (U:Inv B J φ h w){x:è}(ho:o.op = .load t x)(hs:ap P t≠0)(hb:mc (P.underlying t)=ä b)(hv:RTs φ C [a.eval x]){wr:Option (Pos×EO)}(j:(GL (ap P t) b C f).run h=ä (out,wr)):OkX P B J φ h w o a out wr:=by
 unfold GL at j;split at j
 ·obtain⟨v,e,hr⟩:=hv.one;cases e;split at j
  next k g off=>
   simp[Q.run]at j;split at j
   ·rename_i cs T;obtain⟨l,hl,e⟩:=gV hr;obtain⟨vs,q1,q2,q3,_⟩:=U.rd T hl;have R:vs.length=ap P t:=by rw[ba q1,q2]
    unfold WR at j;split at j
    ·rename_i p r;cases j;unfold Kr at r;cases b with
     |true =>cases r;refine au U (v :=.agg vs.toArray) ?_ (by show denP φ (.agg cs)=_;simp[denP,q1]);unfold ê;have:=aj9 (P:=P) w ⟨l.b,off,ö⟩ vs q3;rw[R]at this;simp[ho,e,Instr.loadAt,Instr.sureAddr,loadVar,cF hb,aH hs,this]
     |false=>
      simp only at r;split at r
      next c=>cases r;obtain⟨v,ws,rfl,z1,z2⟩:=bS q1;refine au U (v:=v) ?_ z1;unfold ê;have hc:=q3 0 v rfl;rw[show((⟨l.b,off,ö⟩:Addr).add 0)=⟨l.b,off,ö⟩by simp[Addr.add]]at hc;simp[ho,e,Instr.loadAt,Instr.sureAddr,loadVar,cF hb,run_load,hc]
      ·cases r
    ·cases j
   ·cases j
  ·cases j
 ·cases j
def Re {new:List CV}{j:Nat}(f:off+new.length≤cs.length):(dh cs off new)[j]? = if off≤j∧j<off+new.length then new[j-off]? else cs[j]?:=by
 unfold dh;by_cases g:j<off
 ·rw[ω Ω,G_,I' (by rw[g_];omega),b_,Θ g]
 ·by_cases l:j<off+new.length
  ·rw[Θ Ω,G_,h_ (by rw[g_];omega),g_,X? Ω,I' Ω]
  ·rw[ω Ω,h_ (by rw[J',g_];omega),J',g_,X? Ω,o_];congr 1;omega
def Rd {new:List CV}(f:off+new.length≤cs.length):(dh cs off new).length=cs.length:=by unfold dh;simp;omega
def yo {f:Array ø}{j:Nat}(g:off+news.length≤f.size):(f.toList.take off++news++f.toList.drop (off+news.length)).toArray[j]? = if off≤j∧j<off+news.length then news[j-off]? else f[j]?:=by
 rw[Z_];have l:f.toList.length=f.size:=ο;by_cases p:j<off
 ·rw[ω Ω,G_,I' (by rw[g_];omega),b_,Θ p,p_]
 ·by_cases r:j<off+news.length
  ·rw[Θ Ω,G_,h_ (by rw[g_];omega),g_,X? Ω,I' Ω]
  ·rw[ω Ω,h_ (by rw[J',g_];omega),J',g_,X? Ω,o_,p_];congr 1;omega
def Inv.wr (hI:Inv B J φ h w){g:Nat}{new:List CV}{o':EO}(hr:DT (h k) g off new=ä o')(hl:φ.loc k g=ä l)(hn:dens φ new=ä news) :
  ∃p e,w.heap[l.b]? = ä (.cells p e (0,0))∧off+news.length≤p.size∧Inv B J φ (upd h k o') (w.setRow l.b (p.toList.take off++news++p.toList.drop (off+news.length)).toArray):=by
 have ho:=hI.obj k;have hnl:=ba hn;unfold DT at hr;split at hr
 next e s el len gen fz hk=>
  rw[hk]at ho;obtain⟨h0,h1,hm,h2,h3⟩:=ho;cases hc:(Nat.beq g gen&&Nat.blt (off/s) len&&Nat.ble (off%s+new.length) s&&PC fz)with
  |false=>rw[hc]at hr;cases hr
  |true=>
   rw[hc,U']at hr;simp[br,cB]at hc;obtain⟨⟨⟨rfl,c2⟩,c3⟩,c4⟩:=hc;have c4:fz = .no:=by cases fz <;> first|rfl|cases c4
   subst c4;split at hr;rename_i R mm hch;cases hr;obtain⟨l',q1,⟨q2,q3,p,fr,q4,q5,q6,q7⟩,q8⟩:=h3 g (ε _);rw[q1]at hl;injection hl with hl;subst hl;have q6:fr=(0,0):=q6;subst q6;have hmc:=hm _ c2;rw[hch]at hmc;obtain⟨r1,r2,r3⟩:=q7 (off/s) c2 (by rw[hch];exact hmc);rw[hch]at r2 r3;have r2:R.length=s:=r2;have hdm:off/s*s+off%s=off:=by rw[aj2];exact aly off s
   have P:off+news.length≤p.size:=by have h5:(off/s+1)*s≤l'.n*s:=r_ s r1;have h6:(off/s+1)*s=off/s*s+s:=j? _ _;rw[q5,hnl];omega
   refine⟨p,e,q4,P, ?_⟩;refine hI.lb (ψ:=φ) (Gx.le.refl φ) (λ_ _=>⟨λ_=>rfl,rfl,rfl⟩) (λg1 l1 x=>.inl ⟨g1,l1,x,rfl⟩) (λb hb hne=>akz w l'.b b _ (λe=>hne g l' q1 e.symm)) ?_ rfl rfl rfl (by simp[World.setRow]) (ε _) ?_
   ·intro g1 l1 z1 ob z2 z3;obtain hgt|hle:=i_ g g1
    ·rw[h2 g1 hgt]at z1;cases z1
    ·obtain⟨l2,y1,⟨y2,y3,arr2,fr2,U,_⟩,_⟩:=h3 g1 hle;rw[y1]at z1;cases z1;rw[U]at z2;cases z2;cases z3
   ·have C:∀i,(el.set dch 32 (off/s) ⟨dh R (off%s) new,g⟩).get dch i=if off/s=i then⟨dh R (off%s) new,g⟩else el.get dch i:=λi=>PT.cf dch _ 32 el (off/s) i Ω
    refine⟨h0,h1,λi hi=>?_,h2,λg1 hg1=>?_⟩
    ·rw[C];split
     ·exact ε _
     ·exact hm i hi
    ·obtain⟨l2,y1,⟨y2,y3,arr2,fr2,U,y5,y6,y7⟩,y8⟩:=h3 g1 hg1;refine⟨l2,y1, ?_,y8⟩;by_cases hb:l2.b=l'.b
     ·rw[hb,q4]at U;injection U with U;injection U with U _ y6';subst U;subst y6';have hsz:(p.toList.take off++news++p.toList.drop (off+news.length)).toArray.size=p.size:=by
       simp;omega
      refine⟨by rw[hb];exact q2,y3,_,(0,0),by rw[hb];exact akY w l'.b p _ e _ q4,by rw[hsz];exact y5,rfl,λi hi f=>?_⟩;rw[C]at f⊢;by_cases r:off/s=i
      ·rw[Θ r]at f⊢;have:g1=g:=alx hg1 f;subst this;rw[q1]at y1;cases y1;subst r;refine⟨r1,by show(dh R (off%s) new).length=s;rw[Rd Ω];exact r2,λj c T=>?_⟩;have T:(dh R (off%s) new)[j]? = ä c:=T;rw[Re Ω]at T;rw[yo P];by_cases hin:off%s≤j∧j<off%s+new.length
       ·rw[Θ hin]at T;obtain⟨v,z1,z2⟩:=mE hn T;refine⟨v, ?_,z2⟩;rw[Θ (by rw[hnl];omega),show off/s*s+j-off=j-off%s by omega];exact z1
       ·rw[ω hin]at T;rw[ω (by rw[hnl];omega)];exact r3 j c T
      ·rw[ω r]at f⊢;obtain⟨x1,x2,x3⟩:=y7 i hi f;refine⟨x1,x2,λj c T=>?_⟩;have hjs:j<s:=by
        have:=(f_.1 T).1;omega
       have hne:¬(off≤i*s+j∧i*s+j<off+news.length):=by
        rw[hnl];intro hx;rcases i_ i (off/s)with hlt|hge
        ·have h5:(i+1)*s≤off/s*s:=r_ s hlt;have h6:(i+1)*s=i*s+s:=j? _ _;omega
        ·have h5:(off/s+1)*s≤i*s:=r_ s Ω;have h6:(off/s+1)*s=off/s*s+s:=j? _ _;omega
       rw[yo P,ω hne];exact x3 j c T
     ·refine⟨y2,y3,arr2,fr2,by rw[akz w l'.b l2.b _ hb];exact U,y5,y6,λi hi f=>?_⟩;rw[C]at f⊢;by_cases r:off/s=i
      ·rw[Θ r]at f;have:g1=g:=alx hg1 f;subst this;rw[q1]at y1;cases y1;exact absurd rfl hb
      ·rw[ω r]at f⊢;exact y7 i hi f
 ·cases hr
def Fp (hI:Inv B J φ h w){x y:è}(ho:o.op = .store t x y)(hs:ap P t≠0)(hv:RTs φ C [a.eval x,a.eval y]){wr:Option (Pos×EO)}(j:(Bq (ap P t) C f).run h=ä (out,wr)):OkX P B J φ h w o a out wr:=by
 unfold Bq at j;split at j
 ·obtain⟨v1,ws,e,hr1,hr2⟩:=hv.cons;obtain⟨v2,e2,U⟩:=hr2.one;subst e2;simp at e;obtain⟨e1,e2⟩:=e;subst e1;subst e2;split at j
  next k g off p=>
   cases R:Nat.beq p.cells.length (ap P t)with
   |false=>rw[R]at j;cases j
   |true=>
    rw[R,U']at j;have R:=qj.1 R;simp[Q.run]at j;split at j
    ·rename_i o' hw;cases j;obtain⟨l,hl,e⟩:=gV hr1;have hd:=da U;obtain⟨e7,e',z1,z2,z3⟩:=hI.wr hw hl hd;refine Dg ?_ (Gx.le.refl φ) z3 (BP hw);have T:(a.eval y).cells.size=ap P t:=by
      have:=ba hd;rw[←R,←this,ο]
     have r:=akI P l.b off e' (a.eval y).cells.toList 0 e7 w z1 (by simpa using z2) (GR hd);simp at r;unfold ê;simp[ho,e,Instr.storeAt,Instr.sureAddr,storeVar,aH hs,T,r]
    ·cases j
  ·cases j
 ·cases j
end
variable [SymVal]
def TX:∀l:List UInt8,(l.map UInt8.toNat).map UInt8.ofNat=l
 |[]=>rfl
 |b::l=>by simp[TX l,UInt8.ofNat_toNat]
def OL:∀l:List UInt8,okStr (l.map UInt8.toNat)=ü
 |[]=>rfl
 |b::l=>OM (UInt8.toNat_lt b) (OL l)
variable{v:ø}
def GW {c:CV}(h:afG v=ä c)(φ:Gx):den φ c=ä v:=by
 unfold afG at h;split at h;all_goals first|(simp at h;subst h)|skip
 all_goals first|rfl|skip
 next s=>simp only[den,OL,i?,strV,TX]
 next f a b=>
  split at h
  next hab=>cases h;simp only[den];have j:a = #[]:=s? hab.1;have g:b = #[]:=s? hab.2;rw[j,g]
  ·cases h
 ·cases h
def CJ:∀{l:List ø} {f:List CV},Vn l=ä f→∀φ,dens φ f=ä l
 |[],f,h,φ=>by cases h;rfl
 |v::l,f,h,φ=>by
  simp[Vn]at h;split at h
  next c r h1 h2=>cases h;exact vY (GW h1 φ) (CJ h2 φ)
  ·cases h
def E5 {p:PV}(h:aea v=ä p)(φ:Gx):denP φ p=ä v:=by
 unfold aea at h;split at h
 next cs=>
  split at h
  next l hl=>cases h;simp[denP,CJ hl φ]
  ·cases h
 ·split at h
  next c hc=>cases h;exact GW hc φ
  ·cases h
section
variable {P:å}{B:Nat}{J:W0}{φ:Gx}{h:Pos→EO}{w:æ}{o:ë}{a:Act}
variable{t e:é}{cs:List CV}{f:Pos}{C:List TV}{out:TV}{x y:è}{n:Nat}{T:Array Field}{fd:Field}{vs:List ø}{b:Bool}
def gq {z:PV}(f:dZ P t=ä z):∃i v,P.info? t=ä i∧i.zero=ä v∧∀φ,denP φ z=ä v:=by
 unfold dZ at f;split at f
 next i j=>
  split at f
  next v g=>exact⟨i,v,j,g,λφ=>E5 f φ⟩
  ·cases f
 ·cases f
def Inv.box (C:Inv B J φ h w){k:Pos}(P:h k = .none){f:Array ø}(T:dens φ cs=ä f.toList)(U:0<cs.length) :
  ∃ψ,φ.le ψ∧Inv B J ψ (upd h k (.row e cs.length (.node .leaf ⟨cs,0⟩ .leaf) 1 0 .no)) (w.alloc (.cells f e))∧RT ψ (.pv (.one (.ptr k 0 0))) (.pointer (ä ⟨w.heap.size,0,ö⟩)):=by
 have p:=C.qa P ⟨w.heap.size,1,cs.length⟩;have r:f.size=cs.length:=by rw[←Array.length_toList,ba T]
 refine⟨_,p,C.new P (l:=⟨w.heap.size,1,cs.length⟩) rfl ⟨U,by decide,λi R=>?_,λg hg=>?_,λg hg=>⟨⟨w.heap.size,1,cs.length⟩, ?_,⟨C.size,rfl,f,(0,0),w? w _,by simp[r],rfl,λi R _=>⟨R, ?_⟩⟩,λ_=>ε _⟩⟩, ?_⟩
 ·obtain rfl:i=0:=Ω
  exact ε _
 ·simp only[Gx.add,i?];rw[ω Ω]
 ·obtain rfl:g=0:=Ω
  exact Gx.gh _ _ _
 ·obtain rfl:i=0:=Ω
  refine⟨rfl,λj c hj=>?_⟩;obtain⟨v,h1,h2⟩:=mE T hj;exact⟨v,by simpa using h1,dT p h2⟩
 ·show den _ (.ptr k 0 0)=_;simp[den,Gx.gh]
def EJ {v:ø}(w:æ):(newVar t v).run P w = .ok ⟨w.heap.size,0,ö⟩ (w.alloc (.cells v.cells t)):=by rfl
def Fu (R:Inv B J φ h w){z:PV}(p:o.op = .alloc e)(l:dZ P e=ä z)(hs:z.cells.length≠0)(r:h f = .none){wr:Option (Pos×EO)}(g:(L3 e z.cells C f).run h=ä (out,wr)):OkX P B J φ h w o a out wr:=by
 unfold L3 at g;split at g
 ·cases g;obtain⟨i,v,h1,U,T⟩:=gq l;obtain⟨ψ,q1,q2,j⟩:=R.box r (e:=e) (da (T φ)) Ω;refine ju ?_ q1 q2 j;unfold ê;simp[p,Instr.alloc,zeroValue,typeInfo,h1,U,EJ]
 ·cases g
def Sl (hI:Inv B J φ h w)(T:o.op = .box e x)(hs:ap P e≠0)(U:h f = .none)(r:RTs φ C [a.eval x]){wr:Option (Pos×EO)}(g:(ab7 e (ap P e) C f).run h=ä (out,wr)):OkX P B J φ h w o a out wr:=by
 unfold ab7 at g;split at g
 ·obtain⟨v,e1,R⟩:=r.one;cases e1;split at g
  next p=>
   cases j:Nat.beq p.cells.length (ap P e)with
   |false=>rw[j]at g;cases g
   |true =>rw[j,U']at g;have j:=qj.1 j;cases g;obtain⟨ψ,q1,q2,l⟩:=hI.box U (e:=e) (da R) Ω;rw[j]at q2;refine ju ?_ q1 q2 l;unfold ê;simp[T,Instr.box,EJ]
  ·cases g
 ·cases g
def Xd (R:Inv B J φ h w)(p:o.op = .nilCheck x)(r:RTs φ C [a.eval x]){wr:Option (Pos×EO)}(j:(Aa C f).run h=ä (out,wr)):OkX P B J φ h w o a out wr:=by
 unfold Aa at j;split at j
 ·obtain⟨v,e,g⟩:=r.one;cases e;split at j;all_goals first|(cases j;done)|skip
  all_goals (cases j;refine au R (v:=a.eval x) ?_ g;unfold ê)
  ·obtain⟨l,_,e⟩:=gV g;simp[p,e]
  ·have e:ä (Value.pointer (ä ⟨_,0,ö⟩))=ä (a.eval x):=g;simp at e;simp[p,←e]
  ·have e:ä (Value.func (.func _) #[] #[])=ä (a.eval x):=g;simp at e;simp[p,←e]
  next k=>
   have g:den φ (.ifc k)=ä (a.eval x):=g;simp[den]at g;split at g
   ·simp at g;simp[p,←g]
   ·cases g
 ·cases j
def aez (hI:Inv B J φ h w){s:é}(ho:o.op = .fieldAddr s x n)(U:P.underlying s=ä (.struct T))(hn:T[n]? = ä fd)(r:ap P fd.type≠0)(R:RTs φ C [a.eval x]){wr:Option (Pos×EO)}(j:(P8 fd.offset C f).run h=ä (out,wr)):OkX P B J φ h w o a out wr:=by
 unfold P8 at j;split at j
 ·obtain⟨v,e,hr⟩:=R.one;cases e;split at j
  next k g p=>cases j;obtain⟨l,hl,e⟩:=gV hr;refine au hI (v :=.pointer (ä ⟨l.b,p+fd.offset,ö⟩)) ?_ (by show den φ (.ptr k g (p+fd.offset))=_;simp[den,hl]);unfold ê;simp[ho,e,Instr.fieldAt,η U,hn,Instr.sureAddr,fieldPlace,aH r,r,oQ]
  ·cases j
 ·cases j
def ad3 {f s:Nat}{p:PV}(r:dens φ cs=ä vs)(j:Kr b ((cs.drop f).take s)=ä p)(T:f+s≤cs.length)(R:ap P t≠0)(J:ap P t=s)(C:mc (P.underlying t)=ä b)(w:æ):∃v,(part t vs.toArray f).run P w = .ok v w∧denP φ p=ä v:=by
 have g:=la s (iP f r);have l:=ba r;subst J;cases b with
 |true =>cases j;refine⟨.agg ((vs.drop f).take (ap P t)).toArray, ?_,by simp[denP,g]⟩;simp only[part,π,cF C,χ,i?,aH R,n_];congr 2;apply D_;simp
 |false=>
  simp[Kr]at j;split at j
  next c hc=>
   cases j;rw[hc]at g;obtain⟨v,ws,e1,h1,h2⟩:=bS g;have U:vs[f]? = ä v:=by
    have:((vs.drop f).take (ap P t))[0]? = ä v:=by rw[e1];rfl
    rw[b_]at this;split at this
    ·simpa[o_]using this
    ·cases this
   refine⟨v, ?_,h1⟩;simp[part,π,cF C,U]
  ·cases j
def ahC (hI:Inv B J φ h w)(ho:o.op = .field t x n)(R:P.underlying t=ä (.struct T))(hn:T[n]? = ä fd)(l:ap P fd.type≠0)(hb:mc (P.underlying fd.type)=ä b)(r:RTs φ C [a.eval x]){wr:Option (Pos×EO)}(g:(ab5 fd.offset (ap P fd.type) b C f).run h=ä (out,wr)):OkX P B J φ h w o a out wr:=by
 unfold ab5 at g;split at g
 ·obtain⟨v,e,U⟩:=r.one;cases e;split at g
  next cs=>
   cases j:Nat.ble (fd.offset+ap P fd.type) cs.length with
   |false=>rw[j]at g;cases g
   |true=>
    rw[j,U']at g;have j:=br.1 j;unfold WR at g;split at g
    next p hp=>cases g;obtain⟨vs,e,hd⟩:=xz U;obtain⟨v,h1,h2⟩:=ad3 (P:=P) hd hp j l rfl hb w;refine au hI (v:=v) ?_ h2;unfold ê;simp[ho,e,Instr.field,η R,hn,asAgg,h1]
    ·cases g
  ·cases g
 ·cases g
def aex (hI:Inv B J φ h w)(ho:o.op = .indexAddr t x y)(hs:P.underlying t=ä (.slice e))(hz:ap P e≠0)(hv:RTs φ C [a.eval x,a.eval y]){wr:Option (Pos×EO)}(j:(JB (ap P e) C f).run h=ä (out,wr)):OkX P B J φ h w o a out wr:=by
 unfold JB at j;split at j
 ·obtain⟨v1,ws,p,hr1,hr2⟩:=hv.cons;obtain⟨v2,R,U⟩:=hr2.one;subst R;simp at p;obtain⟨p,R⟩:=p;subst p;subst R;split at j
  next k g T n cap ik i=>
   cases r:Nat.blt i n with
   |false=>rw[r]at j;cases j
   |true =>rw[r,U']at j;have r:=cB.1 r;cases j;obtain⟨l,hl,p⟩:=Iu hr1;have R:=dE U;refine au hI (v :=.pointer (ä ⟨l.b,T+i*ap P e,ö⟩)) ?_ (by show den φ (.ptr k g _)=_;simp[den,hl]);unfold ê;simp[ho,p,R,Instr.indexAt,asIntOf,η hs,aH hz,oQ,r]
  ·cases j
 ·cases j
def aey (hI:Inv B J φ h w){m:Nat}(ho:o.op = .indexAddr t x y)(hs:P.underlying t=ä (.array m e))(hz:ap P e≠0)(hv:RTs φ C [a.eval x,a.eval y]){wr:Option (Pos×EO)}(j:(P7 m (ap P e) C f).run h=ä (out,wr)):OkX P B J φ h w o a out wr:=by
 unfold P7 at j;split at j
 ·obtain⟨v1,ws,p,hr1,hr2⟩:=hv.cons;obtain⟨v2,R,U⟩:=hr2.one;subst R;simp at p;obtain⟨p,R⟩:=p;subst p;subst R;split at j
  next k g T ik i=>
   cases r:Nat.blt i m with
   |false=>rw[r]at j;cases j
   |true =>rw[r,U']at j;have r:=cB.1 r;cases j;obtain⟨l,hl,p⟩:=gV hr1;have R:=dE U;refine au hI (v :=.pointer (ä ⟨l.b,T+i*ap P e,ö⟩)) ?_ (by show den φ (.ptr k g _)=_;simp[den,hl]);unfold ê;simp[ho,p,R,Instr.indexAt,asIntOf,Instr.sureAddr,η hs,aH hz,oQ,r]
  ·cases j
 ·cases j
def aew (hI:Inv B J φ h w)(ho:o.op = .index t x y)(hs:P.underlying t=ä .string)(hv:RTs φ C [a.eval x,a.eval y]){wr:Option (Pos×EO)}(g:(JA C f).run h=ä (out,wr)):OkX P B J φ h w o a out wr:=by
 unfold JA at g;split at g
 ·obtain⟨v1,ws,l,hr1,U⟩:=hv.cons;obtain⟨v2,R,T⟩:=U.one;subst R;simp at l;obtain⟨l,R⟩:=l;subst l;subst R;split at g
  next b ik i=>
   split at g
   ·rename_i c r p;rw[cR]at g;cases g;obtain⟨h1,l⟩:=oE hr1;have R:=dE T;have j:i<b.length:=by
     obtain q|q:=i_ i b.length
     ·exact q
     ·rw[akV q]at p;cases p
    have hg:b[i]=c:=by rw[alG j]at p;injection p
    have hc256:c<256:=by have:=Fv i h1;rw[p]at this;exact(gi this).1
    refine au hI (v :=.int .u8 (Int.ofNat c)) ?_ (dl _ _);have hb:(⟨(b.map UInt8.ofNat).toArray⟩:ByteArray)[i]? = ä (UInt8.ofNat c):=by
     rw[getElem?_pos (⟨(b.map UInt8.ofNat).toArray⟩:ByteArray) i (by simpa[ByteArray.size]using j)];have:(⟨(b.map UInt8.ofNat).toArray⟩:ByteArray)[i]'(by simpa[ByteArray.size]using j)=UInt8.ofNat b[i]:=by show(b.map UInt8.ofNat).toArray[i]'(by simpa using j)=_;simp
     rw[this,hg]
    unfold ê;simp[ho,l,R,strV,Instr.index,asIntOf,η hs,hb];omega
   ·cases g
  ·cases g
 ·cases g
def ahD (hI:Inv B J φ h w)(U:o.op = .extract x n)(j:RTs φ C [a.eval x]){wr:Option (Pos×EO)}(g:(Yg n C f).run h=ä (out,wr)):OkX P B J φ h w o a out wr:=by
 unfold Yg at g;split at g
 ·obtain⟨v,e,R⟩:=j.one;cases e;split at g
  next l=>
   split at g
   ·rename_i p r hd;cases g;obtain⟨vs,h1,e⟩:=R;have T:l[n]? = ä p:=by
     have:(l.drop n)[0]? = ä p:=by rw[hd];rfl
     simpa[o_]using this
    obtain⟨v,h2,h3⟩:=JG h1 T;refine au hI (v:=v) ?_ h3;unfold ê;simp[U,e,Instr.extract,h2]
   ·cases g
  ·cases g
 ·cases g
def Qi {l:List PV}(n:Nat)(h:cA φ l=ä vs):cA φ (l.take n)=ä (vs.take n)∧cA φ (l.drop n)=ä (vs.drop n):=by
 induction l generalizing n vs with
 |nil=>cases h;simp[cA]
 |cons p l f=>
  obtain⟨v,J,rfl,C,r⟩:=gk h;cases n with
  |zero=>exact⟨by simp[cA],h⟩
  |succ n =>obtain⟨j,g⟩:=f n r;exact⟨bJ C j,g⟩
def ahy (R:Inv B J φ h w){fn:Fn}{first g:Array è}(ho:o.op = .makeFunc fn first g)(r:h f = .none)(hv:RTs φ C ((first.toList++g.toList).map a.eval)){wr:Option (Pos×EO)}(p:(afw fn first.size C f).run h=ä (out,wr)):OkX P B J φ h w o a out wr:=by
 unfold afw at p;split at p
 next l hl=>
  cases p;have hd:=IC hl hv;obtain⟨U,T⟩:=Qi first.size hd
  have t1:((first.toList++g.toList).map a.eval).take first.size=first.toList.map a.eval:=by rw[T_,alz Ψ]
  have t2:((first.toList++g.toList).map a.eval).drop first.size=g.toList.map a.eval:=by rw[T_,List.drop_left' Ψ]
  rw[t1]at U;rw[t2]at T;have j:=R.le_addV r (.func fn (first.toList.map a.eval).toArray (g.toList.map a.eval).toArray);refine ju (v :=.func fn (first.toList.map a.eval).toArray (g.toList.map a.eval).toArray) ?_ j (R.newV r ⟨(R.free r).1,_,_,cZ j U,cZ j T,Gx.py _ _ _⟩) (by show den _ (.clo f)=_;simp[den,Gx.py]);unfold ê;have e1:first.map a.eval=(first.toList.map a.eval).toArray:=D_ Ψ
  have e2:g.map a.eval=(g.toList.map a.eval).toArray:=D_ Ψ;simp[ho,Instr.makeFunc,e1,e2]
 ·cases p
def agA (hI:Inv B J φ h w){cl:Call}{big:Bool}(ho:o.op = .call cl)(U:cl.callee = .builtin (match big with|true=>.max|false=>.min))(j:cl.args = #[x,y])(hv:RTs φ C [a.eval x,a.eval y]){wr:Option (Pos×EO)}(g:(eMx big C f).run h=ä (out,wr)):OkX P B J φ h w o a out wr:=by
 unfold eMx at g;split at g
 ·obtain⟨v1,ws,l,T,R⟩:=hv.cons;obtain⟨v2,p,r⟩:=R.one;subst p;simp at l;obtain⟨l,p⟩:=l;subst l;subst p;split at g
  next k m k' n=>
   cases hc:kq k k' with
   |false=>rw[hc]at g;cases g
   |true =>rw[hc,U',cR]at g;have:=IZ hc;subst this;cases g;have l:=dE T;have p:=dE r;refine au hI ?_ (dl _ _);unfold ê;cases big <;> simp[ho,resolve,U,j,invoke,builtin,Builtin.max_,Builtin.min_,Builtin.max2,Builtin.min2,l,p]
  ·cases g
 ·cases g
end
variable [SymVal]
def xU:∀{a b:List CK} {l m:List CV} {r:Bool},eqL (a++b) l m=ä r→∃r1 f,eqL a (l.take a.length) (m.take a.length)=ä r1∧eqL b (l.drop a.length) (m.drop a.length)=ä f∧r=(bif r1 then f else ß)
 |[],b,l,m,r,h=>⟨ü,r,by simp[eqL],by simpa using h,rfl⟩
 |k::a,b,x::l,y::m,r,h=>by
  simp[eqL]at h;split at h
  next g y1 h1 h2=>
   simp at h;obtain⟨r1,f,q1,q2,j⟩:=xU h2;refine⟨(bif g then r1 else ß),f, ?_,by simpa using q2, ?_⟩
   ·simp[eqL,h1,q1]
   ·rw[←h,j];cases g <;> rfl
  ·cases h
 |k::a,b,[],_,r,h=>by simp[eqL]at h
 |k::a,b,_::_,[],r,h=>by simp[eqL]at h
def LZ:∀{a:List CK} {l m:List CV} {r:Bool},eqL a l m=ä r→l.length=a.length∧m.length=a.length
 |[],[],[],_,_=>⟨rfl,rfl⟩
 |k::a,x::l,y::m,r,h=>by
  simp[eqL]at h;split at h
  next h1 h2=>obtain⟨q1,q2⟩:=LZ h2;exact⟨by simp[q1],by simp[q2]⟩
  ·cases h
 |[],_::_,_,_,h=>by simp[eqL]at h
 |[],[],_::_,_,h=>by simp[eqL]at h
 |_::_,[],_,_,h=>by simp[eqL]at h
 |_::_,_::_,[],_,h=>by simp[eqL]at h
section
variable {P:å}{B:Nat}{J:W0}{φ:Gx}{h:Pos→EO}{w:æ}{o:ë}{a:Act}
def PV.isAgg:PV→Bool
 |.agg _=>ü
 |.one _=>ß
def oF:Option TypeDesc→Bool
 |some (.struct _)=>ü
 |_=>ß
def Jt {d:Nat}{f:é→Option (List CK)}(ih:∀t J,f t=ä J→∀(p q:PV) vx vy r,denP φ p=ä vx→denP φ q=ä vy→p.isAgg=oF (P.underlying t)→q.isAgg=oF (P.underlying t)→eqL J p.cells q.cells=ä r→(Op.equalIn d t vx vy).run P w = .ok r w)
  (hk:∀t J,f t=ä J→mc (P.underlying t)=ä (oF (P.underlying t))∧(oF (P.underlying t)=ß→J.length=1)) (xs ys:Array ø):∀(T:List Field) (g:Nat) (J:List CK) (l m:List CV) (r:Bool),Yx (ap P) f T g=ä J→dens φ l=ä (xs.toList.drop g)→dens φ m=ä (ys.toList.drop g)→eqL J l m=ä r→(Op.eqFields d xs ys T).run P w = .ok r w
 |[],g,J,l,m,r,hc,hx,hy,he=>by
  cases hc;cases l with
  |nil=>cases m with
   |nil=>cases he;rfl
   |cons _ _=>simp[eqL]at he
  |cons _ _=>simp[eqL]at he
 |fd::T,g,J,l,m,r,hc,hx,hy,he=>by
  simp only[Yx]at hc;split at hc
  next hn=>
   split at hc
   ·rename_i C hka;split at hc
    ·rename_i hz;split at hc
     ·rename_i kb hkb;cases hc;obtain⟨r1,r2,e1,e2,rfl⟩:=xU he;obtain⟨hl1,hm1⟩:=LZ e1;have hsz:ap P fd.type≠0:=Ω
      obtain⟨hb,hk1⟩:=hk _ _ hka;have j:∀(l:List CV) (zs:Array ø),dens φ l=ä (zs.toList.drop g)→(l.take C.length).length=C.length→∃p v,p.cells=l.take C.length∧p.isAgg=oF (P.underlying fd.type)∧denP φ p=ä v∧(part fd.type zs fd.offset).run P w = .ok v w:=by
       intro l zs hd hlen;have R:=la C.length hd;cases hs:oF (P.underlying fd.type)with
       |true =>rw[hs]at hb;refine⟨.agg (l.take C.length),.agg ((zs.toList.drop g).take C.length).toArray,rfl,rfl,by simp[denP,R], ?_⟩;simp[part,π,cF hb,aH hsz,n_,hn.2,hz.1];congr 2;apply D_;simp
       |false=>
        rw[hs]at hb;have U:C.length=1:=hk1 hs;rw[U]at R hlen;match hlt:l.take 1,hlen with
        |[c],_=>
         rw[hlt]at R;obtain⟨v,ws,e3,h1,h2⟩:=bS R;have hg:zs[g]? = ä v:=by
          have:((zs.toList.drop g).take 1)[0]? = ä v:=by rw[e3];rfl
          rw[b_]at this;split at this
          ·simpa[o_]using this
          ·cases this
         refine⟨.one c,v,by rw[U,hlt];rfl,rfl,h1, ?_⟩;simp[part,π,cF hb,hn.2,hg]
      obtain⟨p,vx,p1,p2,p3,p4⟩:=j l xs hx hl1;obtain⟨q,vy,q1,q2,q3,q4⟩:=j m ys hy hm1;have hA:=ih fd.type C hka p q vx vy r1 p3 q3 p2 q2 (by rw[p1,q1];exact e1);have hR:=Jt ih hk xs ys T (g+C.length) kb (l.drop C.length) (m.drop C.length) r2 hkb (by rw[←List.drop_drop];exact iP _ hx) (by rw[←List.drop_drop];exact iP _ hy) e2;simp[Op.eqFields,hn.1,π,p4,q4,hA];cases r1 with
      |false=>simp
      |true=>simp[hR]
     ·cases hc
    ·cases hc
   ·cases hc
  ·cases hc
def Qt:∀(d:Nat) (t:é) (f:List CK),iD P d t=ä f→mc (P.underlying t)=ä (oF (P.underlying t))∧(oF (P.underlying t)=ß→f.length=1)
 |0,t,f,h=>by cases h
 |d+1,t,f,h=>by
  simp[iD]at h;split at h
  next hu=>cases h;rw[hu];exact⟨rfl,λ_=>rfl⟩
  next hu=>cases h;rw[hu];exact⟨rfl,λ_=>rfl⟩
  next hu=>cases h;rw[hu];exact⟨rfl,λ_=>rfl⟩
  next hu=>rw[hu];exact⟨rfl,λx=>by cases x⟩
  ·cases h
def Dx:∀(d:Nat) (D:Nat) (t:é) (U:List CK),iD P d t=ä U→∀(p q:PV) R J r,denP φ p=ä R→denP φ q=ä J→p.isAgg=oF (P.underlying t)→q.isAgg=oF (P.underlying t)→eqL U p.cells q.cells=ä r→(Op.equalIn (D+d) t R J).run P w = .ok r w
 |0,D,t,U,h,p,q,R,J,r,_,_,_,_,_=>by cases h
 |d+1,D,t,U,h,p,q,R,J,r,j,g,hp,hq,he=>by
  have one:∀{ck:CK},oF (P.underlying t)=ß→U=[ck]→∃c c',p = .one c∧q = .one c'∧eqC ck c c'=ä r:=by
   intro ck hs hk;rw[hs]at hp hq;cases p with
   |agg l=>cases hp
   |one c=>
    cases q with
    |agg l=>cases hq
    |one c'=>
     refine⟨c,c',rfl,rfl, ?_⟩;rw[hk]at he;simp[PV.cells,eqL]at he;split at he
     next x y h1 h2=>simp at h2 he;subst h2;rw[h1];cases x <;> simp_all
     ·cases he
  simp[iD]at h;rw[←Nat.add_assoc];split at h
  next hu=>
   simp at h;obtain⟨c,c',rfl,rfl,f⟩:=one (by rw[hu];rfl) h.symm;cases c <;> cases c' <;> simp only[eqC]at f <;> first|(cases f;done)|skip
   rename_i a b;simp at f;have j:ä (Value.bool a)=ä R:=j;have g:ä (Value.bool b)=ä J:=g;injection j with j;injection g with g;subst j;subst g;subst f;rw[aln w (D+d) t a b hu];cases a <;> cases b <;> rfl
  next k hu=>
   simp at h;obtain⟨c,c',rfl,rfl,f⟩:=one (by rw[hu];rfl) h.symm;cases c <;> cases c' <;> simp[eqC]at f <;> first|(cases f;done)|skip
   rename_i k1 a k2 b;cases C:(kq k k1&&kq k k2)with
   |false=>rw[C]at f;cases f
   |true =>rw[C]at f;simp at C;have e1:=IZ C.1;have e2:=IZ C.2;subst e1;subst e2;simp at f;have j:ä (Value.int k a)=ä R:=j;have g:ä (Value.int k b)=ä J:=g;injection j with j;injection g with g;subst j;subst g;subst f;rw[alw w (D+d) t k k a b hu,rY]
  next hu=>
   simp only[ι]at h;obtain⟨c,c',rfl,rfl,f⟩:=one (by rw[hu];rfl) h.symm;cases c <;> cases c' <;> simp only[eqC]at f <;> first|(cases f;done)|skip
   rename_i a b;simp only[ι]at f;obtain⟨h1,e1⟩:=oE (φ:=φ) (v:=R) j;obtain⟨h2,e2⟩:=oE (φ:=φ) (v:=J) g;subst e1;subst e2;subst f;rw[AZ h1 h2];unfold strV;rw[ak8 w (D+d) t _ _ hu,bytes_toList,bytes_toList]
  next T hu=>
   split at h
   ·cases h
   ·rename_i hst;have hst:P.stoodInHeld t=false:=by simpa using hst
    rw[hu]at hp hq;cases p with
    |one c=>cases hp
    |agg l=>
     cases q with
     |one c=>cases hq
     |agg m=>
      obtain⟨xs,e1,hd1⟩:=xz (φ:=φ) (v:=R) j;obtain⟨ys,e2,hd2⟩:=xz (φ:=φ) (v:=J) g;subst e1;subst e2;have hfo:P.fieldsOf t=T:=by simp[Program.fieldsOf,hu]
      rw[run_equalIn_struct w (D+d) t _ _ (by rw[hfo];exact hu) hst,hfo];exact Jt (λt U hk p q R J r=>Dx d D t U hk p q R J r) (λt U hk=>Qt d t U hk) _ _ T.toList 0 U l m r h (by simpa using hd1) (by simpa using hd2) he
  ·cases h
end
