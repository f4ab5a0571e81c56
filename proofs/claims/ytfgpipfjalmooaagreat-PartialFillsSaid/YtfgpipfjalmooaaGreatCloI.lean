/- Closed runs. -/
import Derived.Below
import Derived.Test.YtfgpipfjalmooaaGreatAbsJ
import Derived.Calls
import Derived.KernelRfl
import Derived.Laws.StructEq
import Derived.Maps.AppendAt
import Derived.Orders
set_option linter.all false
namespace Go.Proofs.YtfgpipfjalmooaaGreat
namespace Clo
open Go Go.RowKit
variable{a b:Nat}
def cx:Nat.blt a b=true↔a<b:=by rw[Nat.blt_eq]
def agK (h:¬a<b):Nat.blt a b=false:=by cases f:Nat.blt a b with|false=>rfl|true=>exact absurd (cx.1 f) h
def bp:Nat.ble a b=true↔a≤b:=by rw[Nat.ble_eq]
def ry:Nat.beq a b=true↔a=b:=by rw[Nat.beq_eq]
inductive Pos where
 |e
 |o (p:Pos)
 |i (p:Pos)
def Pos.num:Pos→Nat
 |.e=>0
 |.o p=>2*p.num+1
 |.i p=>2*p.num+2
def Pos.inj:∀{p q:Pos},p.num=q.num→p=q
 |.e,.e,_=>rfl
 |.e,.o q,h=>by simp only[Pos.num]at h;omega
 |.e,.i q,h=>by simp only[Pos.num]at h;omega
 |.o p,.e,h=>by simp only[Pos.num]at h;omega
 |.i p,.e,h=>by simp only[Pos.num]at h;omega
 |.o p,.o q,h=>by simp[Pos.num]at h;rw[Pos.inj (p:=p) (q:=q) Ω]
 |.i p,.i q,h=>by simp[Pos.num]at h;rw[Pos.inj (p:=p) (q:=q) Ω]
 |.o p,.i q,h=>by simp[Pos.num]at h;omega
 |.i p,.o q,h=>by simp[Pos.num]at h;omega
instance:DecidableEq Pos:=λp q=>if h:p.num=q.num then .isTrue (Pos.inj h)else .isFalse (λe=>h (by rw[e]))
def Pos.beq:Pos→Pos→Bool
 |.e,.e=>true
 |.o p,.o q=>p.beq q
 |.i p,.i q=>p.beq q
 |_,_=>false
def Pos.beq_iff:∀{p q:Pos},p.beq q=true↔p=q
 |.e,.e=>by simp[Pos.beq]
 |.e,.o q=>by simp[Pos.beq]
 |.e,.i q=>by simp[Pos.beq]
 |.o p,.e=>by simp[Pos.beq]
 |.i p,.e=>by simp[Pos.beq]
 |.o p,.o q=>by simp[Pos.beq,Pos.beq_iff (p:=p) (q:=q)]
 |.i p,.i q=>by simp[Pos.beq,Pos.beq_iff (p:=p) (q:=q)]
 |.o p,.i q=>by simp[Pos.beq]
 |.i p,.o q=>by simp[Pos.beq]
def Pos.succ:Pos→Pos
 |.e=>.o .e
 |.o p=>.i p
 |.i p=>.o p.succ
def Pos.num_succ:∀p:Pos,p.succ.num=p.num+1
 |.e=>rfl
 |.o p=>rfl
 |.i p=>by simp[Pos.succ,Pos.num,Pos.num_succ p];omega
def aa0:Nat→Nat→Pos
 |0,_=>.e
 |_+1,0=>.e
 |f+1,n+1=>match Nat.beq (n%2) 0 with
  |true=>.o (aa0 f (n/2))
  |false=>.i (aa0 f (n/2))
def pos (n:Nat):Pos:=aa0 64 n
def uF:∀(f n:Nat),n+2≤2^f→(aa0 f n).num=n
 |0,n,h=>by simp at h
 |f+1,0,_=>rfl
 |f+1,n+1,h=>by
  have j:2^(f+1)=2*2^f:=by rw[Nat.pow_succ];omega
  simp[aa0];cases g:Nat.beq (n%2) 0 with
  |true =>have:=κ g;simp[Pos.num];rw[uF f (n/2) Ω];omega
  |false =>have:=E_ g;simp[Pos.num];rw[uF f (n/2) Ω];omega
inductive PM (R:Type) where
 |leaf
 |node (l:PM R) (a:R) (r:PM R)
section
variable {R:Type}
def PM.get (d:R):PM R→Pos→R
 |.leaf,_=>d
 |.node l a r,p=>match p with
  |.e=>a
  |.o p=>l.get d p
  |.i p=>r.get d p
def PM.set (d:R):Pos→PM R→R→PM R
 |.e,.leaf,x=>.node .leaf x .leaf
 |.e,.node l _ r,x=>.node l x r
 |.o p,.leaf,x=>.node (PM.set d p .leaf x) d .leaf
 |.o p,.node l a r,x=>.node (PM.set d p l x) a r
 |.i p,.leaf,x=>.node .leaf d (PM.set d p .leaf x)
 |.i p,.node l a r,x=>.node l a (PM.set d p r x)
def upd (f:Pos→R)(k:Pos)(x:R):Pos→R:=λq=>if k=q then x else f q
def aU (f:Pos→R)(k:Pos)(x:R):upd f k x k=x:=q' rfl
def bA (f:Pos→R){k q:Pos}(x:R)(h:k≠q):upd f k x q=f q:=B' h
def PM.get_set (d x:R):∀(p:Pos) (t:PM R),(PM.set d p t x).get d=upd (t.get d) p x
 |.e,.leaf=>by funext q;cases q <;> simp[PM.set,PM.get,upd]
 |.e,.node l a r=>by funext q;cases q <;> simp[PM.set,PM.get,upd]
 |.o p,.leaf=>by funext q;cases q <;> simp[PM.set,PM.get,upd];rw[PM.get_set d x p .leaf];simp[upd,PM.get]
 |.o p,.node l a r=>by funext q;cases q <;> simp[PM.set,PM.get,upd];rw[PM.get_set d x p l];simp[upd]
 |.i p,.leaf=>by funext q;cases q <;> simp[PM.set,PM.get,upd];rw[PM.get_set d x p .leaf];simp[upd,PM.get]
 |.i p,.node l a r=>by funext q;cases q <;> simp[PM.set,PM.get,upd];rw[PM.get_set d x p r];simp[upd]
end
inductive PT (R:Type) where
 |leaf
 |node (l:PT R) (a:R) (r:PT R)
section
variable {R:Type}
def PT.get (d:R):PT R→Nat→R
 |.leaf,_=>d
 |.node l a r,i=>match i with
  |0=>a
  |i+1=>match Nat.beq (i%2) 0 with
   |true=>l.get d (i/2)
   |false=>r.get d (i/2)
def PT.set (d:R):Nat→PT R→Nat→R→PT R
 |0,t,_,_=>t
 |f+1,t,i,x=>match t,i with
  |.leaf,0=>.node .leaf x .leaf
  |.node l _ r,0=>.node l x r
  |.leaf,i+1=>match Nat.beq (i%2) 0 with
   |true=>.node (PT.set d f .leaf (i/2) x) d .leaf
   |false=>.node .leaf d (PT.set d f .leaf (i/2) x)
  |.node l a r,i+1=>match Nat.beq (i%2) 0 with
   |true=>.node (PT.set d f l (i/2) x) a r
   |false=>.node l a (PT.set d f r (i/2) x)
def WN (i:Nat):Nat.beq (i%2) 0=decide (i%2=0):=by
 cases h:Nat.beq (i%2) 0 with
 |true=>exact(L_ (κ h)).symm
 |false=>exact(h? (E_ h)).symm
def PT.get_set (d x:R):∀(f:Nat) (t:PT R) (i j:Nat),i+2≤2^f→(t.set d f i x).get d j=if i=j then x else t.get d j
 |0,t,i,j,h=>by simp at h
 |f+1,t,i,j,h=>by
  have J:2^(f+1)=2*2^f:=by rw[Nat.pow_succ];omega
  cases i with
  |zero=>
   cases t with
   |leaf=>cases j with
    |zero=>rfl
    |succ j=>simp[PT.set,PT.get];cases Nat.beq (j%2) 0 <;> simp
   |node l a r=>cases j with
    |zero=>rfl
    |succ j=>simp only[PT.set,PT.get];cases Nat.beq (j%2) 0 <;> simp
  |succ i=>
   have C:∀(t:PT R) (j:Nat),(t.set d f (i/2) x).get d j=if i/2=j then x else t.get d j:=λt j=>PT.get_set d x f t (i/2) j Ω
   cases t with
   |leaf=>
    cases j with
    |zero=>simp[PT.set];cases Nat.beq (i%2) 0 <;> simp[PT.get]
    |succ j=>
     simp[PT.set];by_cases p:i%2=0 <;> by_cases g:j%2=0 <;> simp only[p,g,s?,q?,PT.get,WN,C]
     ·by_cases e:i=j
      ·simp[e]
      ·rw[B' Ω,B' Ω]
     ·rw[B' Ω]
     ·rw[B' Ω]
     ·by_cases e:i=j
      ·simp[e]
      ·rw[B' Ω,B' Ω]
   |node l a r=>
    cases j with
    |zero=>simp[PT.set];cases Nat.beq (i%2) 0 <;> simp[PT.get]
    |succ j=>
     simp[PT.set];by_cases p:i%2=0 <;> by_cases g:j%2=0 <;> simp only[p,g,s?,q?,PT.get,WN,C]
     ·by_cases e:i=j
      ·simp[e]
      ·rw[B' Ω,B' Ω]
     ·rw[B' Ω]
     ·rw[B' Ω]
     ·by_cases e:i=j
      ·simp[e]
      ·rw[B' Ω,B' Ω]
end
inductive CV where
 |bl (b:Bool)
 |int (k:IntKind) (n:Int)
 |str (s:List Nat)
 |nilp
 |ptr (k:Pos) (g off:Nat)
 |glob (b:Nat)
 |nils
 |sl (k:Pos) (g off len:Nat) (cap:Option Nat)
 |emp (k:Pos)
 |nilm
 |mp (k:Pos)
 |nilf
 |fnc (f:FuncId)
 |clo (k:Pos)
 |nili
 |ifc (k:Pos)
 |sym (n:Nat)
inductive PV where
 |one (c:CV)
 |agg (l:List CV)
inductive TV where
 |unk
 |pv (v:PV)
 |tup (l:List PV)
structure Ch where
 cs:List CV
 m:Nat
inductive Fz where
 |no|out|yes
structure ME where
 key:PV
 val:PV
 born:Nat
inductive EO where
 |none
 |row (e:TypeId) (s:Nat) (el:PT Ch) (len gen:Nat) (fz:Fz)
 |map (es:List ME) (clock:Nat)
 |mit (m:Option Pos) (since:Nat) (seen:List Nat) (stepped:Nat)
 |mitU (m:Pos) (since:Nat) (bs:List Nat) (at_:Option (Nat×Nat))
 |sit (s:List Nat) (p:Nat)
 |clo (fn:Fn) (first caps:List PV)
 |ifc (t:TypeId) (v:PV)
 |emp
 |yld
 |dead
 |res
structure Loc where
 b:Nat
 n:Nat
 s:Nat
structure Gx where
 loc:Pos→Nat→Option Loc
 val:Pos→Option Value
 mu:Pos→Option Nat
def iY (cap:Option Nat)(n d:Nat):Nat:=match cap with|some c=>c|none=>n-d
def BR (cap:Option Nat)(len n d:Nat):Bool:=match cap with|some _=>true|none=>Nat.ble (d+len) n
def strV (s:List Nat):Value :=.string ⟨(s.map UInt8.ofNat).toArray⟩
def okStr (s:List Nat):Bool:=s.all λb=>Nat.blt b 256
class SymVal where
 v:Nat→Value
 one:∀n,(v n).oneCell'=true
 fact:World→Prop
variable [SymVal]
def den (p:Gx):CV→Option Value
 |.bl b=>some (.bool b)
 |.int k n=>some (.int k n)
 |.str s=>if okStr s=true then some (strV s)else none
 |.nilp=>some (.pointer none)
 |.ptr k g j=>match p.loc k g with
  |some l=>some (.pointer (some ⟨l.b,j,none⟩))
  |none=>none
 |.glob b=>some (.pointer (some ⟨b,0,none⟩))
 |.nils=>some (.slice none 0 0)
 |.sl k g j len cap=>match p.loc k g with
  |some l=>if BR cap len l.n (j/l.s)=true then some (.slice (some ⟨l.b,j,none⟩) len (iY cap l.n (j/l.s)))else none
  |none=>none
 |.emp k=>match p.val k with
  |some (.slice (some a) 0 c)=>some (.slice (some a) 0 c)
  |_=>none
 |.nilm=>some (.map none)
 |.mp k=>match p.loc k 0 with
  |some l=>some (.map (some l.b))
  |none=>none
 |.nilf=>some .nilFunc
 |.fnc f=>some (.func (.func f) #[] #[])
 |.clo k=>match p.val k with
  |some (.func fn a b)=>some (.func fn a b)
  |_=>none
 |.nili=>some .nilIface
 |.sym n=>some (SymVal.v n)
 |.ifc k=>match p.val k with
  |some (.iface t v)=>some (.iface t v)
  |_=>none
structure Gx.le (φ ψ:Gx):Prop where
 loc:∀k g l,φ.loc k g=some l→ψ.loc k g=some l
 val:∀k v,φ.val k=some v→ψ.val k=some v
 mu:∀k v,φ.mu k=some v→ψ.mu k=some v
def Gx.le.refl (f:Gx):f.le f:=⟨λ_ _ _ h=>h,λ_ _ h=>h,λ_ _ h=>h⟩
def Gx.le.trans {a b c:Gx}(h:a.le b)(k:b.le c):a.le c:=⟨λp g l x=>k.loc p g l (h.loc p g l x),λp v x=>k.val p v (h.val p v x),λp v x=>k.mu p v (h.mu p v x)⟩
variable{φ ψ:Gx}{l:List CV}{vs:List Value}{v:Value}{o:EO}
def dY (h:φ.le ψ):∀{c:CV} {v:Value},den φ c=some v→den ψ c=some v
 |.bl _,_,r=>r
 |.int _ _,_,r=>r
 |.str _,_,r=>r
 |.nilp,_,r=>r
 |.glob _,_,r=>r
 |.nils,_,r=>r
 |.nilm,_,r=>r
 |.nilf,_,r=>r
 |.fnc _,_,r=>r
 |.nili,_,r=>r
 |.sym _,_,r=>r
 |.ptr k g j,v,r=>by
  simp[den]at r⊢;cases f:φ.loc k g with
  |none=>simp[f]at r
  |some l=>rw[f]at r;rw[h.loc k g l f];exact r
 |.sl k g j len cap,v,r=>by
  simp[den]at r⊢;cases f:φ.loc k g with
  |none=>simp[f]at r
  |some l=>rw[f]at r;rw[h.loc k g l f];exact r
 |.mp k,v,r=>by
  simp[den]at r⊢;cases f:φ.loc k 0 with
  |none=>simp[f]at r
  |some l=>rw[f]at r;rw[h.loc k 0 l f];exact r
 |.clo k,v,r=>by
  simp[den]at r⊢;cases f:φ.val k with
  |none=>simp[f]at r
  |some l=>rw[f]at r;rw[h.val k l f];exact r
 |.emp k,v,r=>by
  simp[den]at r⊢;cases f:φ.val k with
  |none=>simp[f]at r
  |some l=>rw[f]at r;rw[h.val k l f];exact r
 |.ifc k,v,r=>by
  simp[den]at r⊢;cases f:φ.val k with
  |none=>simp[f]at r
  |some l=>rw[f]at r;rw[h.val k l f];exact r
def Wy:∀{c:CV} {v:Value},den φ c=some v→v.oneCell'=true
 |.bl _,_,r=>by cases r;rfl
 |.int _ _,_,r=>by cases r;rfl
 |.str _,_,r=>by
  simp only[den]at r;split at r
  ·cases r;rfl
  ·cases r
 |.nilp,_,r=>by cases r;rfl
 |.glob _,_,r=>by cases r;rfl
 |.nils,_,r=>by cases r;rfl
 |.nilm,_,r=>by cases r;rfl
 |.nilf,_,r=>by cases r;rfl
 |.fnc _,_,r=>by cases r;rfl
 |.nili,_,r=>by cases r;rfl
 |.sym n,_,r=>by cases r;exact SymVal.one n
 |.ptr k g f,v,r=>by
  simp[den]at r;split at r
  ·cases r;rfl
  ·cases r
 |.sl k g f len cap,v,r=>by
  simp[den]at r;split at r
  ·split at r
   ·cases r;rfl
   ·cases r
  ·cases r
 |.mp k,v,r=>by
  simp[den]at r;split at r
  ·cases r;rfl
  ·cases r
 |.clo k,v,r=>by
  simp[den]at r;split at r
  ·cases r;rfl
  ·cases r
 |.emp k,v,r=>by
  simp[den]at r;split at r
  ·cases r;rfl
  ·cases r
 |.ifc k,v,r=>by
  simp[den]at r;split at r
  ·cases r;rfl
  ·cases r
def dens (φ:Gx):List CV→Option (List Value)
 |[]=>some []
 |c::r=>match den φ c,dens φ r with
  |some v,some vs=>some (v::vs)
  |_,_=>none
def KR {φ ψ:Gx}(h:φ.le ψ):∀{l:List CV} {vs:List Value},dens φ l=some vs→dens ψ l=some vs
 |[],_,r=>r
 |c::l,vs,r=>by
  simp[dens]at r⊢;cases f:den φ c with
  |none=>simp[f]at r
  |some v=>
   cases g:dens φ l with
   |none=>simp[f,g]at r
   |some ws=>rw[f,g]at r;rw[dY h f,KR h g];exact r
def bc {φ:Gx}:∀{l:List CV} {vs:List Value},dens φ l=some vs→vs.length=l.length
 |[],_,r=>by cases r;rfl
 |c::l,vs,r=>by
  simp[dens]at r;split at r
  next v ws h1 h2=>cases r;simp[bc h2]
  ·cases r
def bQ {c:CV}(r:dens φ (c::l)=some vs):∃v ws,vs=v::ws∧den φ c=some v∧dens φ l=some ws:=by
 simp[dens]at r;split at r
 next v ws g f=>simp at r;exact⟨v,ws,r.symm,g,f⟩
 ·cases r
def xb {c:CV}(h:den φ c=some v)(r:dens φ l=some vs):dens φ (c::l)=some (v::vs):=by simp[dens,h,r]
def nO {φ:Gx}:∀{l:List CV} {vs:List Value},dens φ l=some vs→∀{i:Nat} {c:CV},l[i]? = some c→∃v,vs[i]? = some v∧den φ c=some v
 |[],_,_,i,c,h=>by simp at h
 |x::l,vs,r,i,c,h=>by
  obtain⟨v,ws,rfl,g,f⟩:=bQ r;cases i with
  |zero=>simp at h;subst h;exact⟨v,rfl,g⟩
  |succ i=>simp at h;obtain⟨u,q1,q2⟩:=nO f h;exact⟨u,by simpa using q1,q2⟩
def ct {φ:Gx}:∀{l m:List CV} {vs ws:List Value},dens φ l=some vs→dens φ m=some ws→dens φ (l++m)=some (vs++ws)
 |[],m,vs,ws,r,q=>by cases r;exact q
 |c::l,m,vs,ws,r,q=>by obtain⟨v,j,rfl,g,f⟩:=bQ r;exact xb g (ct f q)
def lX {φ:Gx}:∀{l:List CV} {vs:List Value} (n:Nat),dens φ l=some vs→dens φ (l.take n)=some (vs.take n)
 |[],vs,n,r=>by cases r;simp[dens]
 |c::l,vs,0,r=>by simp[dens]
 |c::l,vs,n+1,r=>by obtain⟨v,j,rfl,g,f⟩:=bQ r;exact xb g (lX n f)
def jx {φ:Gx}:∀{l:List CV} {vs:List Value} (n:Nat),dens φ l=some vs→dens φ (l.drop n)=some (vs.drop n)
 |[],vs,n,r=>by cases r;simp[dens]
 |c::l,vs,0,r=>r
 |c::l,vs,n+1,r=>by obtain⟨v,g,rfl,j,f⟩:=bQ r;exact jx n f
def HS {φ:Gx}:∀{l:List CV} {vs:List Value},dens φ l=some vs→∀u∈vs,u.oneCell'=true
 |[],vs,r,u,hu=>by cases r;cases hu
 |c::l,vs,r,u,hu=>by
  obtain⟨v,j,rfl,g,f⟩:=bQ r;obtain rfl|hu:=P'.1 hu
  ·exact Wy g
  ·exact HS f u hu
def PV.cells:PV→List CV
 |.one c=>[c]
 |.agg l=>l
def denP (φ:Gx):PV→Option Value
 |.one c=>den φ c
 |.agg l=>match dens φ l with
  |some vs=>some (.agg vs.toArray)
  |none=>none
def cP (h:φ.le ψ):∀{p:PV} {v:Value},denP φ p=some v→denP ψ p=some v
 |.one c,v,r=>dY h r
 |.agg l,v,r=>by
  simp[denP]at r⊢;cases f:dens φ l with
  |none=>simp[f]at r
  |some vs=>rw[f]at r;rw[KR h f];exact r
def CX (h:v.oneCell'=true):v.cells = #[v]:=by
 cases v <;> first|rfl|cases h
def db {p:PV}(h:denP φ p=some v):dens φ p.cells=some v.cells.toList:=by
 cases p with
 |one c =>have h:den φ c=some v:=h;simp[PV.cells];rw[xb h rfl,CX (Wy h)]
 |agg l=>
  simp[denP]at h;split at h
  next vs hv=>cases h;exact hv
  ·cases h
def cv (φ:Gx):List PV→Option (List Value)
 |[]=>some []
 |c::r=>match denP φ c,cv φ r with
  |some v,some vs=>some (v::vs)
  |_,_=>none
def gL {c:PV}{l:List PV}(r:cv φ (c::l)=some vs):∃v ws,vs=v::ws∧denP φ c=some v∧cv φ l=some ws:=by
 simp[cv]at r;split at r
 next v ws g f=>simp at r;exact⟨v,ws,r.symm,g,f⟩
 ·cases r
def bI {c:PV}{l:List PV}(h:denP φ c=some v)(r:cv φ l=some vs):cv φ (c::l)=some (v::vs):=by simp[cv,h,r]
def da {φ ψ:Gx}(h:φ.le ψ):∀{l:List PV} {vs:List Value},cv φ l=some vs→cv ψ l=some vs
 |[],_,r=>r
 |c::l,vs,r=>by obtain⟨v,j,rfl,g,f⟩:=gL r;exact bI (cP h g) (da h f)
def KU {φ:Gx}:∀{l:List PV} {vs:List Value},cv φ l=some vs→∀{i:Nat} {c:PV},l[i]? = some c→∃v,vs[i]? = some v∧denP φ c=some v
 |[],_,_,i,c,h=>by simp at h
 |x::l,vs,r,i,c,h=>by
  obtain⟨v,ws,rfl,g,f⟩:=gL r;cases i with
  |zero=>simp at h;subst h;exact⟨v,rfl,g⟩
  |succ i=>simp at h;obtain⟨u,q1,q2⟩:=KU f h;exact⟨u,by simpa using q1,q2⟩
def RT (φ:Gx):TV→Value→Prop
 |.unk,_=>True
 |.pv p,v=>denP φ p=some v
 |.tup l,v=>∃vs,cv φ l=some vs∧v = .tuple vs.toArray
def RT.mono (h:φ.le ψ):∀{t:TV} {v:Value},RT φ t v→RT ψ t v
 |.unk,_,_=>trivial
 |.pv _,_,r=>cP h r
 |.tup _,_,⟨vs,r,e⟩=>⟨vs,da h r,e⟩
variable [SymVal]
def stays:Obj→Bool
 |.loop _=>true
 |.deferred _=>true
 |_=>false
structure Kp (w w':World):Prop where
 dr:dz w≤dz w'
 keep:∀(k:Nat) (o:Obj),w.heap[k]? = some o→stays o=true→w'.heap[k]? = some o
def Kp.refl (w:World):Kp w w:=⟨ζ _,λ_ _ h _=>h⟩
def Kp.trans {a b c:World}(h:Kp a b)(k:Kp b c):Kp a c:=⟨Δ h.dr k.dr,λi o x y=>k.keep i o (h.keep i o x y) y⟩
def ai8 (f:Nat×Nat)(size:Nat)(fz:Fz):Prop:=match fz with
 |.no=>f=(0,0)
 |.out=>∀o,o<size→¬(f.1≤o∧o<f.2)
 |.yes=>True
def agl (φ:Gx)(f:Array Value)(s i:Nat)(ch:Ch):Prop :=
 ch.cs.length=s∧∀(j:Nat) (c:CV),ch.cs[j]? = some c→∃v,f[i*s+j]? = some v∧den φ c=some v
def dch:Ch:=⟨[],0⟩
structure RowAt (φ:Gx)(w:World)(B:Nat)(e:TypeId)(s:Nat)(el:PT Ch)(len:Nat)(fz:Fz)(g:Nat)(l:Loc):Prop where
 lo:B≤l.b
 sz:l.s=s
 arr:∃arr fr,w.heap[l.b]? = some (.cells arr e fr)∧arr.size=l.n*s∧ai8 fr arr.size fz ∧
  ∀i,i<len→(el.get dch i).m≤g→i<l.n∧agl φ arr s i (el.get dch i)
def denEs (φ:Gx)(f:List ME)(vs:List MapEntry):Prop :=
 vs.length=f.length∧∀(i:Nat) (e:ME),f[i]? = some e→∃v,vs[i]? = some v∧denP φ e.key=some v.key∧denP φ e.val=some v.val∧v.born=e.born
def iZ (φ:Gx)(w:World)(B:Nat)(k:Pos):EO→Prop
 |.none=>(∀g,φ.loc k g=none)∧φ.val k=none∧φ.mu k=none
 |.row e s T len C fz=>0<s∧len+2≤2^32∧(∀i,i<len→(T.get dch i).m≤C)∧(∀g,C<g→φ.loc k g=none)∧(∀g,g≤C→∃l,φ.loc k g=some l∧RowAt φ w B e s T len fz g l∧(g=C→len≤l.n))
 |.map U clock=>(∀g,0<g→φ.loc k g=none)∧∃l vs,φ.loc k 0=some l∧B≤l.b∧w.heap[l.b]? = some (.map vs clock)∧denEs φ U vs.toList
 |.mit m j seen f=>(∀g,0<g→φ.loc k g=none)∧∃l,φ.loc k 0=some l∧B≤l.b ∧
   match m with
   |none=>w.heap[l.b]? = some (.mapIter none j seen.toArray f)
   |some m=>∃J,φ.loc m 0=some J∧w.heap[l.b]? = some (.mapIter (some J.b) j seen.toArray f)
 |.mitU m j bs R=>(∀g,0<g→φ.loc k g=none)∧∃l J seen f n,φ.loc k 0=some l∧B≤l.b∧φ.loc m 0=some J∧w.heap[l.b]? = some (.mapIter (some J.b) j seen f)∧j≤f∧φ.mu k=some n∧(bs.filter λb=>!seen.contains b).length+(match R with|some _=>1|none=>0)≤n∧(∀p,R=some p→seen.back? = some p.1∧f=p.2)
 |.sit s p=>(∀g,0<g→φ.loc k g=none)∧okStr s=true∧∃l,φ.loc k 0=some l∧B≤l.b∧w.heap[l.b]? = some (.stringIter ⟨(s.map UInt8.ofNat).toArray⟩ p)
 |.clo fn first P=>(∀g,φ.loc k g=none)∧∃a b,cv φ first=some a∧cv φ P=some b∧φ.val k=some (.func fn a.toArray b.toArray)
 |.ifc t v=>(∀g,φ.loc k g=none)∧∃u,denP φ v=some u∧φ.val k=some (.iface t u)
 |.emp=>(∀g,φ.loc k g=none)∧∃a c,φ.val k=some (.slice (some a) 0 c)
 |.dead=>∀g l,φ.loc k g=some l→B≤l.b∧∃o,w.heap[l.b]? = some o
 |.res=>∀g l,φ.loc k g=some l→B≤l.b∧∃o,w.heap[l.b]? = some o
 |.yld=>(∀g,0<g→φ.loc k g=none)∧∃l,φ.loc k 0=some l∧B≤l.b∧φ.val k=some (.func (.yield l.b) #[] #[])∧∃r,w.heap[l.b]? = some (.loop r)
structure W0 where
 w:World
 φ:Gx
def DL:EO→Bool
 |.res=>true
 |_=>false
def i5:EO→Bool
 |.none=>true
 |.res=>true
 |_=>false
def Zw (h:i5 o=false):DL o=false:=by cases o <;> first|rfl|cases h
def XW (h:DL o=true):i5 o=true:=by cases o <;> first|rfl|cases h
structure Inv (B:Nat)(J:W0)(φ:Gx)(h:Pos→EO)(w:World):Prop where
 below:Below B J.w w
 kp:Kp J.w w
 le:J.φ.le φ
 res:∀k,DL (h k)=true→(∀g,φ.loc k g=J.φ.loc k g)∧φ.val k=J.φ.val k∧φ.mu k=J.φ.mu k∧∀g l,φ.loc k g=some l→w.heap[l.b]? = J.w.heap[l.b]?
 size:B≤w.heap.size
 obj:∀k,iZ φ w B k (h k)
 sep:∀k g l k' g' l',φ.loc k g=some l→φ.loc k' g'=some l'→l.b=l'.b→k=k'
def UF (h:φ.le ψ){f:List ME}{vs:List MapEntry}(r:denEs φ f vs):denEs ψ f vs :=
 ⟨r.1,λi e l=>let ⟨v,q1,q2,j,g⟩:=r.2 i e l;⟨v,q1,cP h q2,cP h j,g⟩⟩
def agl.mono (h:φ.le ψ){f:Array Value}{s i:Nat}{ch:Ch}(r:agl φ f s i ch):agl ψ f s i ch :=
 ⟨r.1,λj c g=>let ⟨v,q1,q2⟩:=r.2 j c g;⟨v,q1,dY h q2⟩⟩
def RowAt.mono {φ ψ:Gx}{w w':World}{B:Nat}{e:TypeId}{s:Nat}{J:PT Ch}{len:Nat}{fz:Fz}{g:Nat}{l:Loc}(h:φ.le ψ)(hw:w'.heap[l.b]? = w.heap[l.b]?)(r:RowAt φ w B e s J len fz g l):RowAt ψ w' B e s J len fz g l:=by obtain⟨r1,U,f,fr,T,R,P,j⟩:=r;exact⟨r1,U,f,fr,hw.trans T,R,P,λi C p=>⟨(j i C p).1,(j i C p).2.mono h⟩⟩
def iZ.keep {w w':World}{B:Nat}{k:Pos}(J:φ.le ψ)(f:∀g,ψ.loc k g=φ.loc k g)(hv:ψ.val k=φ.val k)(hm:ψ.mu k=φ.mu k)(T:∀g l,φ.loc k g=some l→w'.heap[l.b]? = w.heap[l.b]?)(h:iZ φ w B k o):iZ ψ w' B k o:=by
 cases o with
 |none=>exact⟨λg=>(f g).trans (h.1 g),hv.trans h.2.1,hm.trans h.2.2⟩
 |mitU m U bs st =>obtain⟨C,l,l',seen,j,n,q1,q2,P,q4,q5,q6,q7⟩:=h;exact⟨λg R=>(f g).trans (C g R),l,l',seen,j,n,(f 0).trans q1,q2,J.loc _ _ _ P,(T 0 l q1).trans q4,q5,hm.trans q6,q7⟩
 |row e s el len gen fz =>obtain⟨h0,C,hmm,h2,h3⟩:=h;refine⟨h0,C,hmm,λg R=>(f g).trans (h2 g R),λg R=>?_⟩;obtain⟨l,q1,q2,P⟩:=h3 g R;exact⟨l,(f g).trans q1,q2.mono J (T g l q1),P⟩
 |map es clock =>obtain⟨C,l,vs,q1,q2,P,q4⟩:=h;exact⟨λg R=>(f g).trans (C g R),l,vs,(f 0).trans q1,q2,(T 0 l q1).trans P,UF J q4⟩
 |mit m U seen j=>
  obtain⟨C,l,q1,q2,P⟩:=h;refine⟨λg R=>(f g).trans (C g R),l,(f 0).trans q1,q2, ?_⟩;cases m with
  |none=>exact(T 0 l q1).trans P
  |some m=>obtain⟨l',q4,q5⟩:=P;exact⟨l',J.loc _ _ _ q4,(T 0 l q1).trans q5⟩
 |sit s p =>obtain⟨C,h2,l,q1,q2,P⟩:=h;exact⟨λg R=>(f g).trans (C g R),h2,l,(f 0).trans q1,q2,(T 0 l q1).trans P⟩
 |clo fn first caps =>obtain⟨C,a,b,q1,q2,P⟩:=h;exact⟨λg=>(f g).trans (C g),a,b,da J q1,da J q2,hv.trans P⟩
 |ifc t v =>obtain⟨C,u,q1,q2⟩:=h;exact⟨λg=>(f g).trans (C g),u,cP J q1,hv.trans q2⟩
 |emp =>obtain⟨C,a,c,q1⟩:=h;exact⟨λg=>(f g).trans (C g),a,c,hv.trans q1⟩
 |res=>exact λg l q=>⟨(h g l ((f g).symm.trans q)).1,by rw[T g l ((f g).symm.trans q)];exact(h g l ((f g).symm.trans q)).2⟩
 |dead=>exact λg l q=>⟨(h g l ((f g).symm.trans q)).1,by rw[T g l ((f g).symm.trans q)];exact(h g l ((f g).symm.trans q)).2⟩
 |yld =>obtain⟨C,l,q1,q2,P,r,q4⟩:=h;exact⟨λg R=>(f g).trans (C g R),l,(f 0).trans q1,q2,hv.trans P,r,(T 0 l q1).trans q4⟩
section
variable {B:Nat}{J:W0}{φ:Gx}{h:Pos→EO}{w:World}
variable{k:Pos}{g:Nat}{l:Loc}{o' :EO}
def Inv.blk (hI:Inv B J φ h w)(f:φ.loc k g=some l):B≤l.b∧∃o,w.heap[l.b]? = some o:=by
 have j:=hI.obj k;cases C:h k with
 |none=>rw[C]at j;rw[j.1 g]at f;cases f
 |row e s el len gen fz=>
  rw[C]at j;obtain⟨h0,R,hm,h2,h3⟩:=j;obtain x|x:=Z' gen g
  ·rw[h2 g x]at f;cases f
  ·obtain⟨l',q1,⟨q2,T,arr,fr,q4,_⟩,_⟩:=h3 g x;rw[q1]at f;cases f;exact⟨q2,_,q4⟩
 |map es clock=>
  rw[C]at j;obtain⟨R,l',vs,q1,q2,T,_⟩:=j;cases g with
  |zero=>rw[q1]at f;cases f;exact⟨q2,_,T⟩
  |succ g=>rw[R _ Ω]at f;cases f
 |mit m U seen P=>
  rw[C]at j;obtain⟨R,l',q1,q2,T⟩:=j;cases g with
  |zero=>
   rw[q1]at f;cases f;cases m with
   |none=>exact⟨q2,_,T⟩
   |some m=>obtain⟨l',_,q5⟩:=T;exact⟨q2,_,q5⟩
  |succ g=>rw[R _ Ω]at f;cases f
 |mitU m U bs st=>
  rw[C]at j;obtain⟨R,l1,l2,seen,P,n,q1,q2,T,q4,_⟩:=j;cases g with
  |zero=>rw[q1]at f;cases f;exact⟨q2,_,q4⟩
  |succ g=>rw[R _ Ω]at f;cases f
 |sit s p=>
  rw[C]at j;obtain⟨R,_,l',q1,q2,T⟩:=j;cases g with
  |zero=>rw[q1]at f;cases f;exact⟨q2,_,T⟩
  |succ g=>rw[R _ Ω]at f;cases f
 |clo fn first caps=>rw[C]at j;rw[j.1 g]at f;cases f
 |ifc t v=>rw[C]at j;rw[j.1 g]at f;cases f
 |emp=>rw[C]at j;rw[j.1 g]at f;cases f
 |dead=>rw[C]at j;exact j g l f
 |res=>rw[C]at j;exact j g l f
 |yld=>
  rw[C]at j;obtain⟨R,l',q1,q2,T,r,q4⟩:=j;cases g with
  |zero=>rw[q1]at f;cases f;exact⟨q2,_,q4⟩
  |succ g=>rw[R _ Ω]at f;cases f
def Inv.lt (p:Inv B J φ h w)(j:φ.loc k g=some l):l.b<w.heap.size:=by obtain⟨_,o,f⟩:=p.blk j;exact(δ.1 f).1
def Inv.turn (p:Inv B J φ h w){ψ:Gx}{P:World}{r:Pos}(hle:φ.le ψ)
  (j:∀k,k≠r→(∀g,ψ.loc k g=φ.loc k g)∧ψ.val k=φ.val k∧ψ.mu k=φ.mu k)
  (U:∀g l,ψ.loc r g=some l→(∃g1 l1,φ.loc r g1=some l1∧l1.b=l.b)∨w.heap.size≤l.b)
  (hw:∀b,b<w.heap.size→(∀g l,φ.loc r g=some l→l.b≠b)→P.heap[b]? = w.heap[b]?)
  (hs:∀g l,φ.loc r g=some l→∀o,w.heap[l.b]? = some o→stays o=true→P.heap[l.b]? = some o)
  (hos:P.os=w.os) (htp:P.tape=w.tape) (hou:P.output=w.output) (hsz:w.heap.size≤P.heap.size) (hdr:dz w≤dz P)
  (hob:iZ ψ P B r o') (hno:i5 o'=false:=by rfl):Inv B J ψ (upd h r o') P:=by
 have hblk:∀b,b<B→P.heap[b]? = w.heap[b]?:=λb hb=>hw b (f_ hb p.size) λg l R e=>by have:=(p.blk R).1;omega
 refine⟨p.below.trans ⟨hos,htp,hou,hsz,hblk⟩,p.kp.trans ⟨hdr,λk o f ho=>?_⟩,p.le.trans hle,λk f=>?_,Δ p.size hsz,λk=>?_,λk g l k' g' l' h1 h2 e=>?_⟩
 ·by_cases hx:∃g l,φ.loc r g=some l∧l.b=k
  ·obtain⟨g,l,q1,rfl⟩:=hx;exact hs g l q1 o f ho
  ·rw[hw k (δ.1 f).1 λg l q e=>hx ⟨g,l,q,e⟩];exact f
 ·by_cases T:r=k
  ·subst T;rw[aU,Zw hno]at f;cases f
  ·rw[bA h o' T]at f;obtain⟨q1,q2,q3⟩:=j k (λe=>T e.symm);obtain⟨r1,r2,r3,r4⟩:=p.res k f;refine⟨λg=>(q1 g).trans (r1 g),q2.trans r2,q3.trans r3,λg l R=>?_⟩;rw[q1 g]at R;rw[hw _ (p.lt R) λg' l' hl' e=>T (p.sep _ _ _ _ _ _ hl' R e)];exact r4 g l R
 ·by_cases f:r=k
  ·subst f;rw[aU];exact hob
  ·rw[bA h o' f];obtain⟨q1,q2,q3⟩:=j k (λe=>f e.symm);refine(p.obj k).keep hle q1 q2 q3 λg l R=>hw _ (p.lt R) λg' l' hl' e=>f (p.sep _ _ _ _ _ _ hl' R e)
 ·by_cases f:k=r
  ·by_cases C:k'=r
   ·rw[f,C]
   ·rw[(j k' C).1]at h2;rw[f]at h1;rcases U g l h1 with⟨g1,l1,q1,q2⟩|q
    ·have:=p.sep _ _ _ _ _ _ q1 h2 (q2.trans e);exact absurd this.symm C
    ·have:=p.lt h2;omega
  ·rw[(j k f).1]at h1;by_cases C:k'=r
   ·rw[C]at h2;rcases U g' l' h2 with⟨g1,l1,q1,q2⟩|q
    ·have:=p.sep _ _ _ _ _ _ h1 q1 (e.trans q2.symm);exact absurd this f
    ·have:=p.lt h1;omega
   ·rw[(j k' C).1]at h2;exact p.sep _ _ _ _ _ _ h1 h2 e
def Gx.add (φ:Gx)(k:Pos)(l:Loc):Gx:=⟨λq g=>if q=k then(if g=0 then some l else none)else φ.loc q g,φ.val,φ.mu⟩
def Gx.addV (φ:Gx)(k:Pos)(v:Value):Gx:=⟨φ.loc,λq=>if q=k then some v else φ.val q,φ.mu⟩
def Inv.free (j:Inv B J φ h w)(f:h k = .none):(∀g,φ.loc k g=none)∧φ.val k=none∧φ.mu k=none:=by have:=j.obj k;rw[f]at this;exact this
def Inv.le_add (r:Inv B J φ h w)(p:h k = .none)(l:Loc):φ.le (φ.add k l) :=
 ⟨λq g m j=>by
  by_cases e:q=k
  ·subst e;rw[(r.free p).1 g]at j;cases j
  ·simp[Gx.add,B' e];exact j,λ_ _ f=>f,λ_ _ f=>f⟩
def Inv.le_addV (p:Inv B J φ h w)(l:h k = .none)(v:Value):φ.le (φ.addV k v) :=
 ⟨λ_ _ _ j=>j,λq u f=>by
  by_cases e:q=k
  ·subst e;rw[(p.free l).2.1]at f;cases f
  ·simp[Gx.addV,B' e];exact f,λ_ _ g=>g⟩
def Gx.add_self (φ:Gx)(k:Pos)(l:Loc):(φ.add k l).loc k 0=some l:=by simp[Gx.add]
def Gx.addV_self (φ:Gx)(k:Pos)(v:Value):(φ.addV k v).val k=some v:=by simp[Gx.addV]
def Inv.new (r:Inv B J φ h w)(C:h k = .none){o:Obj}(R:l.b=w.heap.size)(j:iZ (φ.add k l) (w.alloc o) B k o')(p:i5 o'=false:=by rfl):Inv B J (φ.add k l) (upd h k o') (w.alloc o):=by
 refine r.turn (r.le_add C l) (λq P=>⟨λg=>by simp[Gx.add,B' P],rfl,rfl⟩) (λg m f=>?_) (λb T _=>@heap_alloc_old w o b T) (λg m f=>by rw[(r.free C).1 g]at f;cases f) rfl rfl rfl Ψ (ζ _) j p;refine .inr ?_;simp only[Gx.add,i?]at f;split at f
 ·injection f with f;rw[←f,R];exact ζ _
 ·cases f
def Inv.newV (j:Inv B J φ h w)(r:h k = .none){v:Value}(l:iZ (φ.addV k v) w B k o')(p:i5 o'=false:=by rfl):Inv B J (φ.addV k v) (upd h k o') w :=
 j.turn (j.le_addV r v) (λq C=>⟨λ_=>rfl,by simp[Gx.addV,B' C],rfl⟩) (λg m f=>by rw[show(φ.addV k v).loc k g=φ.loc k g from rfl,(j.free r).1 g]at f;cases f) (λ_ _ _=>rfl) (λg m f=>by rw[(j.free r).1 g]at f;cases f) rfl rfl rfl (ζ _) (ζ _) l p
def Inv.drew (f:Inv B J φ h w):Inv B J φ h w.drew:=⟨f.below.drew,⟨Δ f.kp.dr ((by first|exact akG _|exact i_ _)),f.kp.keep⟩,f.le,f.res,f.size,λk=>iZ.keep (w:=w) (w':=w.drew) (Gx.le.refl φ) (λ_=>rfl) rfl rfl (λ_ _ _=>rfl) (f.obj k),f.sep⟩
def Inv.drewW (f:Inv B J φ h w):Inv B J φ h { w with drawn:=w.drawn+1 }:=f.drew
end
inductive CK where
 |b
 |i (k:IntKind)
 |s
inductive EqK where
 |flat (ks:List CK) (agg:Bool)
 |ptr
 |slc
inductive K where
 |mov|pick
 |alloc (e:TypeId) (zs:List CV)
 |box (e:TypeId) (s:Nat)
 |build (zs:List CV) (ps:List (Nat×Nat))
 |lit (e:TypeId) (s len:Nat) (zs:List CV) (idx:List Nat)
 |load (s:Nat) (agg:Bool)
 |store (s:Nat)
 |nilchk
 |bin (op:BinOp)
 |eql (neg:Bool) (q:EqK)
 |un (op:UnOp)
 |cint (k:IntKind)|b2s
 |mkf (fn:Fn) (nf:Nat)|mkm
 |mks (e:TypeId) (s bytes:Nat) (zs:List CV)
 |subs (lo hi:Bool)|subl (s:Nat) (lo hi mx:Bool)
 |fadr (d:Nat)|fld (off s:Nat) (agg:Bool)
 |idxl (s:Nat)|idxa (n s:Nat)|idxs
 |look (q:EqK) (z:PV) (ok:Bool)|put (q:EqK)|ment (q:EqK) (z:PV)|mest
 |rngm|ext (i:Nat)
 |lens|lenl|lenm
 |app (e:TypeId) (s bytes:Nat) (str:Bool)|del (q:EqK)
 |mx (big:Bool)
 |ent|p2u|u2p (ok:TypeId→Nat→Nat→Bool)|usd|ust (e:TypeId) (ok:TypeId→Nat→Nat→Nat→Bool)
 |ibs
 |bad
inductive Src where
 |t (p:Pos)
 |c (v:TV)
structure FO where
 k:K
 args:List Src
 dst:Option Pos
 guard:Option (Pos×Bool)
inductive Q where
 |fail
 |ret (out:TV) (wr:Option (Pos×EO))
 |rd (k:Pos) (f:EO→Q)
def Q.run (h:Pos→EO):Q→Option (TV×Option (Pos×EO))
 |.fail=>none
 |.ret out wr=>some (out,wr)
 |.rd k f=>(f (h k)).run h
def Q.tr (h:Pos→EO):Q→List Pos
 |.fail=>[]
 |.ret _ _=>[]
 |.rd k f=>k::(f (h k)).tr h
def Q.run_congr {h h':Pos→EO}:∀{q:Q},(∀k∈q.tr h,h' k=h k)→q.run h'=q.run h∧q.tr h'=q.tr h
 |.fail,_=>⟨rfl,rfl⟩
 |.ret _ _,_=>⟨rfl,rfl⟩
 |.rd k f,g=>by have e:h' k=h k:=g k (by simp[Q.tr]);have:=Q.run_congr (q:=f (h k)) (h:=h) (h':=h') λi j=>g i (by simp[Q.tr,j]);simp[Q.run,Q.tr,e];exact⟨this.1,by rw[this.2]⟩
def one (c:CV):TV :=.pv (.one c)
def sk (c:CV):Q :=.ret (.pv (.one c)) none
def ux (b:Bool):Q :=.ret (.pv (.one (.bl b))) none
def kq:IntKind→IntKind→Bool
 |.i8,.i8=>true|.i16,.i16=>true|.i32,.i32=>true|.i64,.i64=>true
 |.u8,.u8=>true|.u16,.u16=>true|.u32,.u32=>true|.u64,.u64=>true
 |_,_=>false
def nfI (n:Int)(k:Int→Q):Q:=match n with
 |.ofNat m=>match m with
  |0=>k (.ofNat 0)
  |m+1=>k (.ofNat (m+1))
 |.negSucc m=>match m with
  |0=>k (.negSucc 0)
  |m+1=>k (.negSucc (m+1))
def yH (n:Int)(k:Int→Q):nfI n k=k n:=by unfold nfI;split <;> split <;> rfl
def gG (k:IntKind)(n:Int):Q:=nfI n λn=>.ret (.pv (.one (.int k n))) none
def If (op:BinOp)(k:IntKind)(a b:Int):Q:=match op with
 |.add=>gG k (k.wrap (a+b))
 |.sub=>gG k (k.wrap (a-b))
 |.mul=>gG k (k.wrap (a*b))
 |.quo=>bif b == 0 then .fail else gG k (k.wrap (a.tdiv b))
 |.rem=>bif b == 0 then .fail else gG k (a.tmod b)
 |.eql=>ux (decide (a=b))
 |.neq=>ux (!decide (a=b))
 |.lss=>ux (decide (a<b))
 |.leq=>ux (decide (a≤b))
 |.gtr=>ux (decide (a>b))
 |.geq=>ux (decide (a≥b))
 |.and=>gG k (k.wrap ((BitVec.ofInt k.bits a &&& BitVec.ofInt k.bits b).toNat:Int))
 |.or=>gG k (k.wrap ((BitVec.ofInt k.bits a ||| BitVec.ofInt k.bits b).toNat:Int))
 |.xor=>gG k (k.wrap ((BitVec.ofInt k.bits a ^^^ BitVec.ofInt k.bits b).toNat:Int))
 |_=>.fail
def shI (op:BinOp)(k:IntKind)(a b:Int):Q:=bif decide (b<0)then .fail else match op with
 |.shl=>gG k (k.wrap (a*2^(min b.toNat k.bits)))
 |.shr=>gG k (a.fdiv (2^(min b.toNat k.bits)))
 |_=>.fail
def lsEq:List Nat→List Nat→Bool
 |[],[]=>true
 |a::l,b::m=>bif Nat.beq a b then lsEq l m else false
 |_,_=>false
def TO:List Nat→List Nat→Bool
 |_,[]=>false
 |[],_::_=>true
 |a::l,b::m=>bif Nat.blt a b then true else bif Nat.beq a b then TO l m else false
def adw (op:BinOp)(a b:List Nat):Q:=match op with
 |.add=>bif Nat.blt (a.length+b.length) 4294967296 then sk (.str (a++b))else .fail
 |.eql=>ux (lsEq a b)
 |.neq=>ux (!lsEq a b)
 |.lss=>ux (TO a b)
 |.leq=>ux (TO a b||lsEq a b)
 |.gtr=>ux (!(TO a b||lsEq a b))
 |.geq=>ux (!TO a b)
 |_=>.fail
def eqC:CK→CV→CV→Option Bool
 |.b,.bl a,.bl b=>some (match a with|true=>b|false=>!b)
 |.i k,.int g a,.int f b=>bif kq k g&&kq k f then some (decide (a=b))else none
 |.s,.str a,.str b=>some (lsEq a b)
 |_,_,_=>none
def eqL:List CK→List CV→List CV→Option Bool
 |[],[],[]=>some true
 |k::ks,a::l,b::m=>match eqC k a b,eqL ks l m with
  |some x,some y=>some (bif x then y else false)
  |_,_=>none
 |_,_,_=>none
def eqP (f:List CK)(agg:Bool):PV→PV→Option Bool
 |.one a,.one b=>bif agg then none else eqL f [a] [b]
 |.agg l,.agg m=>bif agg then eqL f l m else none
 |_,_=>none
def eqQ:EqK→TV→TV→Option Bool
 |.flat j agg,.pv x,.pv y=>eqP j agg x y
 |.ptr,.pv (.one x),.pv (.one y)=>match x,y with
  |.nilp,.nilp=>some true
  |.nilp,.ptr _ _ _=>some false
  |.ptr _ _ _,.nilp=>some false
  |.nilp,.glob _=>some false
  |.glob _,.nilp=>some false
  |.ptr k g o,.ptr l p f=>bif k.beq l&&Nat.beq g p then some (Nat.beq o f)else none
  |_,_=>none
 |.slc,.pv (.one x),.pv (.one y)=>match x,y with
  |.nils,.nils=>some true
  |.nils,.sl _ _ _ _ _=>some false
  |.sl _ _ _ _ _,.nils=>some false
  |.nils,.emp _=>some false
  |.emp _,.nils=>some false
  |_,_=>none
 |_,_,_=>none
def F9 (o:EO)(g f m:Nat):Option (List CV):=match o with
 |.row _ s p len j _=>bif Nat.ble g j&&Nat.blt (f/s) len then
   match p.get dch (f/s)with
   |⟨r,l⟩=>bif Nat.ble l g&&Nat.ble (f%s+m) s then some ((r.drop (f%s)).take m)else none
  else none
 |_=>none
def QF:Fz→Bool
 |.no=>true
 |_=>false
def dj (g:List CV)(f:Nat)(new:List CV):List CV:=g.take f++new++g.drop (f+new.length)
def E4 (o:EO)(g f:Nat)(new:List CV):Option EO:=match o with
 |.row e s l len j fz=>bif Nat.beq g j&&Nat.blt (f/s) len&&Nat.ble (f%s+new.length) s&&QF fz then
   match l.get dch (f/s)with
   |⟨p,_⟩=>some (.row e s (l.set dch 32 (f/s) ⟨dj p (f%s) new,j⟩) len j fz)
  else none
 |_=>none
def pI (o:EO)(g s:Nat):Nat→Nat→Option (List (List CV))
 |0,_=>some []
 |n+1,off=>match F9 o g off s,pI o g s n (off+s)with
  |some a,some l=>some (a::l)
  |_,_=>none
def pC (g s:Nat):List (List CV)→EO→Nat→Option EO
 |[],o,_=>some o
 |a::l,o,off=>match E4 o g off a with
  |some f=>pC g s l f (off+s)
  |none=>none
def tE (m:Nat):List (List CV)→PT Ch→Nat→PT Ch
 |[],el,_=>el
 |a::l,el,i=>tE m l (el.set dch 32 i ⟨a,m⟩) (i+1)
def agY (s:Nat)(str:Bool)(x:TV)(k:List (List CV)→Q):Q:=match x with
 |.pv (.one (.sl j g off n _))=>bif str then .fail else .rd j λo=>match pI o g s n off with
  |some l=>k l
  |none=>.fail
 |.pv (.one .nils)=>bif str then .fail else k []
 |.pv (.one (.emp _))=>bif str then .fail else k []
 |.pv (.one (.str b))=>bif str then k (b.map λc=>[.int .u8 (Int.ofNat c)])else .fail
 |_=>.fail
def LA (agg:Bool)(f:List CV):Option PV:=match agg with
 |true=>some (.agg f)
 |false=>match f with
  |[c]=>some (.one c)
  |_=>none
def XV (p:Option PV)(wr:Option (Pos×EO)):Q:=match p with
 |some p=>.ret (.pv p) wr
 |none=>.fail
def newRow (e:TypeId)(s:Nat)(l:List (List CV))(n:Nat):EO :=.row e s (tE 0 l .leaf 0) n 0 .no
def kZ (s:Nat):List (List CV)→Bool
 |[]=>true
 |a::l=>bif Nat.beq a.length s then kZ s l else false
def DW:List (Nat×Nat)→List TV→List CV→Option (List CV)
 |[],[],cs=>some cs
 |(off,s)::ps,.pv p::vs,cs=>bif Nat.beq p.cells.length s&&Nat.ble (off+s) cs.length then DW ps vs (dj cs off p.cells)else none
 |_,_,_=>none
def P9 (s:Nat):Nat→List Nat→List TV→Option (List (List CV))
 |_,[],[]=>some []
 |i,j::js,.pv p::vs=>bif Nat.beq i j&&Nat.beq p.cells.length s then match P9 s (i+1) js vs with
   |some l=>some (p.cells::l)
   |none=>none
  else none
 |_,_,_=>none
def findE (f:List CK)(agg:Bool)(k:PV):List ME→Nat→Option (Option (Nat×ME))
 |[],_=>some none
 |e::es,i=>match eqP f agg k e.key with
  |some true=>some (some (i,e))
  |some false=>findE f agg k es (i+1)
  |none=>none
def Wm (b:Nat):List ME→Nat→Option Nat
 |[],_=>none
 |e::es,i=>bif Nat.beq e.born b then some i else Wm b es (i+1)
def keyOk (f:List CK)(agg:Bool)(k:PV):Bool:=match eqP f agg k k with|some _=>true|none=>false
def Cm (g:List ME)(i:Nat)(f:ME→ME):List ME:=match g,i with
 |[],_=>[]
 |e::g,0=>f e::g
 |e::g,i+1=>e::Cm g i f
def UG (f:List ME)(i:Nat):List ME:=match f,i with
 |[],_=>[]
 |_::f,0=>f
 |e::f,i+1=>e::UG f i
def Cd (seen:List Nat):List ME→List ME
 |[]=>[]
 |e::es=>bif seen.any (Nat.beq e.born)then Cd seen es else e::Cd seen es
def ai3 (e:TypeId)(s bytes:Nat)(fresh:Pos)(b:TV)(l:List (List CV)):Q :=
 match b with
 |.pv (.one .nils)=>match l with
  |[]=>sk .nils
  |_=>bif Nat.ble (l.length*bytes) 140737488355328&&kZ s l&&Nat.ble (l.length) 4294967290 then .ret (.pv (.one (.sl fresh 0 0 l.length none))) (some (fresh,newRow e s l l.length))else .fail
 |.pv (.one (.sl k g off n cap))=>match l with
  |[]=>bif (match cap with|some c=>Nat.ble n c|none=>true)then .ret b none else .fail
  |_=>.rd k λo=>match cap with
   |some c=>bif Nat.ble (n+l.length) c then match pC g s l o (off+n*s)with
     |some p=>.ret (.pv (.one (.sl k g off (n+l.length) cap))) (some (k,p))
     |none=>.fail
    else match pI o g s n off with
     |some j=>bif Nat.ble ((n+l.length)*bytes) 140737488355328&&kZ s j&&kZ s l&&Nat.ble (n+l.length) 4294967290 then .ret (.pv (.one (.sl fresh 0 0 (n+l.length) none))) (some (fresh,newRow e s (j++l) (n+l.length)))else .fail
     |none=>.fail
   |none=>match o with
    |.row J r C len f fz=>bif Nat.beq e J&&Nat.beq s r&&Nat.beq g f&&Nat.beq (off%s) 0&&kZ s l&&Nat.ble ((n+l.length)*bytes) 140737488355328&&Nat.ble (n+l.length) 4294967290&&QF fz then
      bif Nat.ble (off/s+n+l.length) len then match pC g s l o (off+n*s)with
       |some p=>.ret (.pv (.one (.sl k g off (n+l.length) cap))) (some (k,p))
       |none=>.fail
      else bif Nat.beq off 0&&Nat.ble n len then .ret (.pv (.one (.sl k (f+1) 0 (n+l.length) none))) (some (k,.row e s (tE (f+1) l C n) (n+l.length) (f+1) fz))else .fail
     else .fail
    |_=>.fail
 |_=>.fail
def wL (ok:Bool)(z:PV)(r:Option PV):Q:=match ok with
 |true=>match r with
  |some v=>.ret (.tup [v,.one (.bl true)]) none
  |none=>.ret (.tup [z,.one (.bl false)]) none
 |false=>match r with
  |some v=>.ret (.pv v) none
  |none=>.ret (.pv z) none
def BU:List (List CV)→Option (List Nat)
 |[]=>some []
 |[.int .u8 (.ofNat n)]::l=>bif Nat.blt n 256 then match BU l with
   |some b=>some (n::b)
   |none=>none
  else none
 |_=>none
def pvs:List TV→Option (List PV)
 |[]=>some []
 |.pv p::l=>match pvs l with
  |some r=>some (p::r)
  |none=>none
 |_=>none
def UB  (vs:List TV)(_:Pos):Q:=match vs with
 |[x]=>.ret x none
 |_=>.fail
def Wt  (vs:List TV)(_:Pos):Q:=match vs with
 |[c,a,b]=>match c with
  |.pv (.one (.bl c))=>.ret (match c with|true=>a|false=>b) none
  |_=>.fail
 |_=>.fail
def M6 (e:TypeId)(g:List CV)(vs:List TV)(f:Pos):Q:=match vs with
 |[]=>.ret (.pv (.one (.ptr f 0 0))) (some (f,.row e g.length (.node .leaf ⟨g,0⟩ .leaf) 1 0 .no))
 |_=>.fail
def acz (e:TypeId)(s:Nat)(vs:List TV)(f:Pos):Q:=match vs with
 |[x]=>match x with
  |.pv p=>bif Nat.beq p.cells.length s then .ret (.pv (.one (.ptr f 0 0))) (some (f,.row e s (.node .leaf ⟨p.cells,0⟩ .leaf) 1 0 .no))else .fail
  |_=>.fail
 |_=>.fail
def HL (f:List CV)(ps:List (Nat×Nat))(vs:List TV)(_:Pos):Q:=match DW ps vs f with
  |some g=>.ret (.pv (.agg g)) none
  |none=>.fail
def afz (e:TypeId)(s len:Nat)(j:List CV)(g:List Nat)(vs:List TV)(f:Pos):Q:=match P9 s 0 g vs with
  |some l=>bif Nat.ble l.length len&&Nat.ble (len*s) 16777216 then .ret (.pv (.one (.sl f 0 0 len (some len)))) (some (f,newRow e s (l++List.replicate (len-l.length) j) len))else .fail
  |none=>.fail
def HK (s:Nat)(agg:Bool)(vs:List TV)(_:Pos):Q:=match vs with
 |[x]=>match x with
  |.pv (.one (.ptr k g off))=>.rd k λo=>match F9 o g off s with
   |some f=>XV (LA agg f) none
   |none=>.fail
  |_=>.fail
 |_=>.fail
def CR (s:Nat)(vs:List TV)(_:Pos):Q:=match vs with
 |[x,y]=>match x,y with
  |.pv (.one (.ptr k g off)),.pv p=>bif Nat.beq p.cells.length s then .rd k λo=>match E4 o g off p.cells with
    |some f=>.ret .unk (some (k,f))
    |none=>.fail
   else .fail
  |_,_=>.fail
 |_=>.fail
def Bz  (vs:List TV)(_:Pos):Q:=match vs with
 |[x]=>match x with
  |.pv (.one (.ptr _ _ _))=>.ret x none
  |.pv (.one (.glob _))=>.ret x none
  |.pv (.one (.fnc _))=>.ret x none
  |.pv (.one (.ifc _))=>.ret x none
  |_=>.fail
 |_=>.fail
def tQ (op:BinOp)(vs:List TV)(_:Pos):Q:=match vs with
 |[x,y]=>match x,y with
  |.pv (.one x),.pv (.one y)=>match x,y with
   |.int k a,.int f b=>match op with
    |.shl=>shI .shl k a b
    |.shr=>shI .shr k a b
    |op=>bif kq k f then If op k a b else .fail
   |.str a,.str b=>adw op a b
   |_,_=>.fail
  |_,_=>.fail
 |_=>.fail
def acy (neg:Bool)(q:EqK)(vs:List TV)(_:Pos):Q:=match vs with
 |[x,y]=>match eqQ q x y with
  |some b=>ux (match neg with|true=>!b|false=>b)
  |none=>.fail
 |_=>.fail
def eUn (op:UnOp)(vs:List TV)(_:Pos):Q:=match vs with
 |[x]=>match op,x with
  |.not,.pv (.one (.bl b))=>ux (!b)
  |.neg,.pv (.one (.int k n))=>gG k (k.wrap (0-n))
  |.xor,.pv (.one (.int k n))=>gG k (k.wrap ((BitVec.ofInt k.bits (if k.signed then -1 else k.max) ^^^ BitVec.ofInt k.bits n).toNat:Int))
  |_,_=>.fail
 |_=>.fail
def Q8 (k:IntKind)(vs:List TV)(_:Pos):Q:=match vs with
 |[x]=>match x with
  |.pv (.one (.int _ n))=>gG k (k.wrap n)
  |_=>.fail
 |_=>.fail
def afC  (vs:List TV)(_:Pos):Q:=match vs with
 |[x]=>match x with
  |.pv (.one .nils)=>sk (.str [])
  |.pv (.one (.sl k g off n _))=>.rd k λo=>match pI o g 1 n off with
   |some l=>match BU l with
    |some b=>sk (.str b)
    |none=>.fail
   |none=>.fail
  |_=>.fail
 |_=>.fail
def afy (fn:Fn)(nf:Nat)(vs:List TV)(f:Pos):Q:=match pvs vs with
  |some l=>.ret (.pv (.one (.clo f))) (some (f,.clo fn (l.take nf) (l.drop nf)))
  |none=>.fail
def afx  (vs:List TV)(f:Pos):Q:=match vs with
  |[]=>.ret (.pv (.one (.mp f))) (some (f,.map [] 0))
  |[.pv (.one (.int _ _))]=>.ret (.pv (.one (.mp f))) (some (f,.map [] 0))
  |_=>.fail
def afw (e:TypeId)(s bytes:Nat)(g:List CV)(vs:List TV)(f:Pos):Q:=match vs with
 |[x,y]=>match x,y with
  |.pv (.one (.int _ (.ofNat n))),.pv (.one (.int _ (.ofNat c)))=>bif Nat.ble n c&&Nat.ble c 16777216&&Nat.ble (c*bytes) 16777216 then .ret (.pv (.one (.sl f 0 0 n (some c)))) (some (f,newRow e s (List.replicate c g) c))else .fail
  |_,_=>.fail
 |_=>.fail
def aa5 (f:Bool)(vs:List TV):Option (Option Nat×List TV):=match f with
 |false=>some (none,vs)
 |true=>match vs with
  |x::r=>match x with
   |.pv (.one (.int _ (.ofNat n)))=>some (some n,r)
   |_=>none
  |[]=>none
def adv (f g mx:Bool)(r:List TV)(k:Option Nat→Option Nat→Option Nat→Q):Q:=match aa5 f r with
 |some (l,r)=>match aa5 g r with
  |some (h,r)=>match aa5 mx r with
   |some (m,[])=>k l h m
   |_=>.fail
  |none=>.fail
 |none=>.fail
def gD (o:Option Nat)(d:Nat):Nat:=match o with|some x=>x|none=>d
def aiB (k:Pos)(g f s l h m:Nat):Q:=sk (.sl k g (cond (Nat.beq l m) f (f+l*s)) (h-l) (some (m-l)))
def GS (h m:Option Nat):Bool:=match m with|none=>true|some _=>match h with|some _=>true|none=>false
def agn (s:Nat)(x:TV)(f:Pos)(l h m:Option Nat):Q:=match x with
 |.pv (.one .nils)=>bif Nat.beq (gD l 0) 0&&Nat.beq (gD h 0) 0&&Nat.beq (gD m 0) 0&&GS h m then sk .nils else .fail
 |.pv (.one (.sl k g off n cap))=>match cap with
  |some c=>bif Nat.ble (gD m c) c&&Nat.ble (gD h n) (gD m c)&&Nat.ble (gD l 0) (gD h n)&&GS h m then aiB k g off s (gD l 0) (gD h n) (gD m c)else .fail
  |none=>match m with
   |some m=>match h with
    |some h=>bif Nat.ble m n&&Nat.ble h m&&Nat.ble (gD l 0) h then aiB k g off s (gD l 0) h m else .fail
    |none=>.fail
   |none=>bif Nat.ble (gD h n) n&&Nat.ble (gD l 0) (gD h n)then
     bif Nat.beq (gD l 0) 0 then sk (.sl k g off (gD h n) none)
     else bif Nat.blt (gD l 0) n then .rd k λo=>match o with
      |.row _ j _ _ _ _=>bif Nat.beq s j then sk (.sl k g (off+gD l 0*s) (gD h n-gD l 0) none)else .fail
      |_=>.fail
     else .ret (.pv (.one (.emp f))) (some (f,.emp))
    else .fail
 |_=>.fail
def Wq (s:Nat)(g j mx:Bool)(vs:List TV)(f:Pos):Q:=match vs with
 |x::r=>adv g j mx r (agn s x f)
 |[]=>.fail
def Q3 (f g:Bool)(vs:List TV)(_:Pos):Q:=match vs with
 |x::r=>adv f g false r λl h _=>match x with
  |.pv (.one (.str b))=>bif Nat.ble (gD h b.length) b.length&&Nat.ble (gD l 0) (gD h b.length)then sk (.str ((b.take (gD h b.length)).drop (gD l 0)))else .fail
  |_=>.fail
 |[]=>.fail
def Q7 (d:Nat)(vs:List TV)(_:Pos):Q:=match vs with
 |[x]=>match x with
  |.pv (.one (.ptr k g off))=>sk (.ptr k g (off+d))
  |_=>.fail
 |_=>.fail
def acx (f s:Nat)(agg:Bool)(vs:List TV)(_:Pos):Q:=match vs with
 |[x]=>match x with
  |.pv (.agg cs)=>bif Nat.ble (f+s) cs.length then XV (LA agg ((cs.drop f).take s)) none else .fail
  |_=>.fail
 |_=>.fail
def KP (s:Nat)(vs:List TV)(_:Pos):Q:=match vs with
 |[x,y]=>match x,y with
  |.pv (.one (.sl k g off n _)),.pv (.one (.int _ (.ofNat i)))=>bif Nat.blt i n then sk (.ptr k g (off+i*s))else .fail
  |_,_=>.fail
 |_=>.fail
def Q6 (n s:Nat)(vs:List TV)(_:Pos):Q:=match vs with
 |[x,y]=>match x,y with
  |.pv (.one (.ptr k g off)),.pv (.one (.int _ (.ofNat i)))=>bif Nat.blt i n then sk (.ptr k g (off+i*s))else .fail
  |_,_=>.fail
 |_=>.fail
def KO  (vs:List TV)(_:Pos):Q:=match vs with
 |[x,y]=>match x,y with
  |.pv (.one (.str b)),.pv (.one (.int _ (.ofNat i)))=>match b.drop i with
   |c::_=>gG .u8 (Int.ofNat c)
   |[]=>.fail
  |_,_=>.fail
 |_=>.fail
def Q4 (q:EqK)(z:PV)(ok:Bool)(vs:List TV)(_:Pos):Q:=match vs with
 |[x,y]=>match q,y with
  |.flat g agg,.pv f=>bif keyOk g agg f then(match x with
   |.pv (.one .nilm)=>wL ok z none
   |.pv (.one (.mp m))=>.rd m λo=>match o with
    |.map j _=>match findE g agg f j 0 with
     |some r=>wL ok z (r.map (·.2.val))
     |none=>.fail
    |_=>.fail
   |_=>.fail)else .fail
  |_,_=>.fail
 |_=>.fail
def afu (q:EqK)(vs:List TV)(_:Pos):Q:=match vs with
 |[x,y,z]=>match q,x,y,z with
  |.flat ks agg,.pv (.one (.mp m)),.pv f,.pv v=>bif keyOk ks agg f then .rd m λo=>match o with
    |.map g clock=>match findE ks agg f g 0 with
     |some (some (i,_))=>.ret .unk (some (m,.map (Cm g i λe=>⟨f,v,e.born⟩) clock))
     |some none=>.ret .unk (some (m,.map (g++[⟨f,v,clock⟩]) (clock+1)))
     |none=>.fail
    |_=>.fail
   else .fail
  |_,_,_,_=>.fail
 |_=>.fail
def Wv (q:EqK)(z:PV)(vs:List TV)(_:Pos):Q:=match vs with
 |[x,y]=>match q,x,y with
  |.flat ks agg,.pv (.one (.mp m)),.pv f=>bif keyOk ks agg f then .rd m λo=>match o with
    |.map g clock=>match findE ks agg f g 0 with
     |some (some (i,e))=>.ret (.tup [e.val,.one (.int .i64 (Int.ofNat e.born))]) (some (m,.map (Cm g i λe=>⟨f,e.val,e.born⟩) clock))
     |some none=>.ret (.tup [z,.one (.int .i64 (Int.ofNat clock))]) (some (m,.map (g++[⟨f,z,clock⟩]) (clock+1)))
     |none=>.fail
    |_=>.fail
   else .fail
  |_,_,_=>.fail
 |_=>.fail
def Wu  (vs:List TV)(_:Pos):Q:=match vs with
 |[x,y,z]=>match x,y,z with
  |.pv (.one (.mp m)),.pv (.one (.int _ (.ofNat b))),.pv v=>.rd m λo=>match o with
   |.map f clock=>match Wm b f 0 with
    |some i=>.ret .unk (some (m,.map (Cm f i λe=>⟨e.key,v,e.born⟩) clock))
    |none=>.fail
   |_=>.fail
  |_,_,_=>.fail
 |_=>.fail
def Ws  (vs:List TV)(f:Pos):Q:=match vs with
 |[x]=>match x with
  |.pv (.one .nilm)=>.ret (.pv (.one (.ptr f 0 0))) (some (f,.mit none 0 [] 0))
  |.pv (.one (.mp m))=>.rd m λo=>match o with
   |.map _ clock=>.ret (.pv (.one (.ptr f 0 0))) (some (f,.mit (some m) clock [] clock))
   |_=>.fail
  |_=>.fail
 |_=>.fail
def Zc (i:Nat)(vs:List TV)(_:Pos):Q:=match vs with
 |[x]=>match x with
  |.tup l=>match l.drop i with
   |p::_=>.ret (.pv p) none
   |[]=>.fail
  |_=>.fail
 |_=>.fail
def KM  (vs:List TV)(_:Pos):Q:=match vs with
 |[x]=>match x with
  |.pv (.one (.str b))=>gG .i64 (Int.ofNat b.length)
  |_=>.fail
 |_=>.fail
def KN  (vs:List TV)(_:Pos):Q:=match vs with
 |[x]=>match x with
  |.pv (.one .nils)=>gG .i64 0
  |.pv (.one (.emp _))=>gG .i64 0
  |.pv (.one (.sl _ _ _ n _))=>gG .i64 (Int.ofNat n)
  |_=>.fail
 |_=>.fail
def Q5  (vs:List TV)(_:Pos):Q:=match vs with
 |[x]=>match x with
  |.pv (.one .nilm)=>gG .i64 0
  |.pv (.one (.mp m))=>.rd m λo=>match o with
   |.map f _=>gG .i64 (Int.ofNat f.length)
   |_=>.fail
  |_=>.fail
 |_=>.fail
def afD (e:TypeId)(s bytes:Nat)(str:Bool)(vs:List TV)(f:Pos):Q:=match vs with
 |[b,x]=>agY s str x λl=>ai3 e s bytes f b l
 |_=>.fail
def afB (q:EqK)(vs:List TV)(_:Pos):Q:=match vs with
 |[x,y]=>match q,x,y with
  |.flat ks agg,.pv (.one .nilm),.pv kv=>bif keyOk ks agg kv then .ret (.tup []) none else .fail
  |.flat ks agg,.pv (.one (.mp m)),.pv kv=>bif keyOk ks agg kv then .rd m λo=>match o with
    |.map f clock=>match findE ks agg kv f 0 with
     |some (some (i,_))=>.ret (.tup []) (some (m,.map (UG f i) clock))
     |some none=>.ret (.tup []) none
     |none=>.fail
    |_=>.fail
   else .fail
  |_,_,_=>.fail
 |_=>.fail
def eMx (f:Bool)(vs:List TV)(_:Pos):Q:=match vs with
 |[x,y]=>match x,y with
  |.pv (.one (.int k a)),.pv (.one (.int k' b))=>bif kq k k' then gG k (match f with|true=>if b>a then b else a|false=>if b<a then b else a)else .fail
  |_,_=>.fail
 |_=>.fail
def M4 (b:Nat):List ME→Option ME
 |[]=>none
 |e::es=>bif Nat.beq e.born b then some e else M4 b es
def abD:List Nat→Option Nat
 |[]=>none
 |[b]=>some b
 |_::l=>abD l
def afp (m:Pos)(g f:Nat):Q :=.rd m λo=>match o with
 |.map j clock=>bif Nat.beq clock f then match M4 g j with
   |some e=>.ret (.tup [e.key,e.val]) none
   |none=>.fail
  else .fail
 |_=>.fail
def afA  (vs:List TV)(_:Pos):Q:=match vs with
 |[x]=>match x with
  |.pv (.one (.ptr k _ 0))=>.rd k λo=>match o with
   |.mit (some m) _ seen stepped=>match abD seen with
    |some b=>afp m b stepped
    |none=>.fail
   |.mitU m _ _ (some (b,c))=>afp m b c
   |_=>.fail
  |_=>.fail
 |_=>.fail
def afv  (vs:List TV)(_:Pos):Q:=match vs with
 |[x]=>match x with
  |.pv (.one (.ptr k g off))=>.rd k λo=>match F9 o g off 1 with
   |some _=>.ret x none
   |none=>.fail
  |.pv (.one .nilp)=>.ret x none
  |_=>.fail
 |_=>.fail
def aft (ok:TypeId→Nat→Nat→Bool)(vs:List TV)(_:Pos):Q:=match vs with
 |[x]=>match x with
  |.pv (.one (.ptr k _ off))=>.rd k λo=>match o with
   |.row e s _ 1 0 .no=>bif ok e s off then .ret x none else .fail
   |_=>.fail
  |.pv (.one .nilp)=>.ret x none
  |_=>.fail
 |_=>.fail
def acv  (vs:List TV)(_:Pos):Q:=match vs with
 |[x]=>match x with
  |.pv (.one .nils)=>sk .nilp
  |.pv (.one (.sl k g off (_+1) cap))=>bif (match cap with|some c=>Nat.blt 0 c|none=>true)then sk (.ptr k g off)else .fail
  |_=>.fail
 |_=>.fail
def afs (e:TypeId)(ok:TypeId→Nat→Nat→Nat→Bool)(vs:List TV)(_:Pos):Q:=match vs with
 |[x,y]=>match x,y with
  |.pv (.one .nilp),.pv (.one (.int .i64 (.ofNat 0)))=>sk (.str [])
  |.pv (.one (.ptr k g off)),.pv (.one (.int .i64 (.ofNat n)))=>match n with
   |0=>sk (.str [])
   |n+1=>.rd k λo=>match pI o g 1 (n+1) off with
    |some l=>match BU l with
     |some b=>match o with
      |.row j 1 p len f _=>bif Nat.beq e j&&Nat.beq off 0&&ok j len off (n+1)then .ret (.pv (.one (.str b))) (some (k,.row j 1 p len f .yes))else .fail
      |_=>.fail
     |none=>.fail
    |none=>.fail
  |_,_=>.fail
 |_=>.fail
def abR (c:Nat):List Nat→Nat→Int
 |[],_=>-1
 |b::l,i=>bif Nat.beq b c then Int.ofNat i else abR c l (i+1)
def acw  (vs:List TV)(_:Pos):Q:=match vs with
 |[x,y]=>match x,y with
  |.pv (.one (.str b)),.pv (.one (.int .u8 (.ofNat c)))=>bif Nat.blt c 256 then gG .i64 (abR c b 0)else .fail
  |_,_=>.fail
 |_=>.fail
def dX:K→List TV→Pos→Q
 |.mov=>UB
 |.pick=>Wt
 |.alloc e f=>M6 e f
 |.box e s=>acz e s
 |.build f ps=>HL f ps
 |.lit e s len f l=>afz e s len f l
 |.load s agg=>HK s agg
 |.store s=>CR s
 |.nilchk=>Bz
 |.bin op=>tQ op
 |.eql neg q=>acy neg q
 |.un op=>eUn op
 |.cint k=>Q8 k
 |.b2s=>afC
 |.mkf fn nf=>afy fn nf
 |.mkm=>afx
 |.mks e s bytes f=>afw e s bytes f
 |.subs j p=>Q3 j p
 |.subl s j p mx=>Wq s j p mx
 |.fadr d=>Q7 d
 |.fld g s agg=>acx g s agg
 |.idxl s=>KP s
 |.idxa n s=>Q6 n s
 |.idxs=>KO
 |.look q z ok=>Q4 q z ok
 |.put q=>afu q
 |.ment q z=>Wv q z
 |.mest=>Wu
 |.rngm=>Ws
 |.ext i=>Zc i
 |.lens=>KM
 |.lenl=>KN
 |.lenm=>Q5
 |.app e s bytes str=>afD e s bytes str
 |.del q=>afB q
 |.mx r=>eMx r
 |.ent=>afA
 |.p2u=>afv
 |.u2p ok=>aft ok
 |.usd=>acv
 |.ust e ok=>afs e ok
 |.ibs=>acw
 |_=>λ_ _=>.fail
abbrev DM:=PM (Option EO)
inductive HP where
 |nil
 |ov (b:HP) (d:DM)
 |cut (b:HP) (n:Pos)
def HP.get:HP→Pos→EO
 |.nil,_=>.none
 |.cut b n,k=>match Nat.blt k.num n.num with
  |true=>b.get k
  |false=>.none
 |.ov b d,k=>match PM.get none d k with
  |some o=>o
  |none=>b.get k
def fP (d:DM)(k:Pos)(o:EO):DM:=PM.set none k d (some o)
def HP.get_set (b:HP)(d:DM)(k:Pos)(o:EO):(HP.ov b (fP d k o)).get=upd (HP.ov b d).get k o:=by
 funext q;simp[HP.get,fP,PM.get_set,upd];by_cases e:k=q
 ·rw[q' e,q' e]
 ·rw[B' e,B' e]
def orO (a b:Option EO):Option EO:=match a with|some o=>some o|none=>b
def mS:DM→DM→DM
 |.leaf,d=>d
 |.node l a r,.leaf=>.node l a r
 |.node l a r,.node g j f=>.node (mS l g) (orO a j) (mS r f)
def yK:∀(x d:DM) (q:Pos),PM.get none (mS x d) q=orO (PM.get none x q) (PM.get none d q)
 |.leaf,d,q=>rfl
 |.node l a r,.leaf,q=>by simp[mS];cases h:PM.get none (.node l a r) q <;> rfl
 |.node l a r,.node g j f,q=>by
  cases q with
  |e=>rfl
  |o q=>exact yK l g q
  |i q=>exact yK r f q
def HP.get_merge (b:HP)(d x:DM):(HP.ov b (mS x d)).get=(HP.ov (.ov b d) x).get:=by funext q;simp[HP.get,yK];cases PM.get none x q <;> rfl
abbrev Env:=PM TV
def bk (e:Env):Src→TV
 |.t p=>e.get .unk p
 |.c v=>v
def aT (e:Env):List Src→List TV
 |[]=>[]
 |s::r=>bk e s::aT e r
def aW (e:Env)(d:Option Pos)(v:TV):Env:=match d with
 |some d=>PM.set .unk d e v
 |none=>e
def ul (d:DM)(w:Option (Pos×EO)):DM:=match w with
 |some (k,o)=>fP d k o
 |none=>d
def gd (e:Env)(g:Option (Pos×Bool)):Option Bool:=match g with
 |none=>some true
 |some (p,w)=>match e.get .unk p with
  |.pv (.one (.bl b))=>some (match w with|true=>b|false=>!b)
  |.tup _=>some false
  |_=>none
inductive OP where
 |op (o:FO) (al:Bool)
 |call (args:List Src) (dst:Option Pos) (g:Option (Pos×Bool))
 |nxt (x:Src) (dst:Option Pos)
 |bad
def qF (e:Env)(f:Pos)(o:FO):Q:=match gd e o.guard with
 |some true=>dX o.k (aT e o.args) f
 |_=>.fail
def stepF (e:Env)(h:Pos→EO)(f:Pos)(o:FO):Option (TV×Option (Pos×EO)):=match gd e o.guard with
 |some b=>match b with
  |true=>(dX o.k (aT e o.args) f).run h
  |false=>some (.tup [],none)
 |none=>none
def trF (e:Env)(h:Pos→EO)(f:Pos)(o:FO):List Pos:=match gd e o.guard with
 |some true=>(dX o.k (aT e o.args) f).tr h
 |_=>[]
inductive Tgt where
 |fn (f:FuncId)
 |yld (k:Pos)
inductive RC where
 |no
 |ok (v:TV) (d:DM) (n:Pos)
inductive RS where
 |no
 |ok (e:Env) (d:DM) (n:Pos)
inductive Ex where
 |normal
 |exit (id:Nat)
 |ret
inductive RX where
 |no
 |ok (x:Ex) (e:Env) (d:DM) (n:Pos)
abbrev Ck:=HP→Tgt→List TV→DM→Pos→RC
abbrev Yk:=HP→Pos→List TV→DM→Pos→RC
structure Callk where
 call:Ck
 iter:Yk→Ck
def pvT:List PV→List TV
 |[]=>[]
 |p::l=>.pv p::pvT l
def cI (h:Pos→EO):List TV→Option (Tgt×List TV)
 |.pv (.one (.fnc f))::r=>some (.fn f,r)
 |.pv (.one (.clo k))::r=>match h k with
  |.clo (.func f) first caps=>some (.fn f,pvT first++r++pvT caps)
  |.yld=>some (.yld k,r)
  |_=>none
 |_=>none
def dy:List ME→List Nat
 |[]=>[]
 |e::es=>e.born::dy es
def Fq:TV :=.tup [.one (.bl false)]
def Ov (f val:PV):TV :=.tup [.one (.bl true),f,val]
def GQ (h:Pos→EO)(x:TV):Option (TV×Option (Pos×EO)):=match x with
 |.pv (.one (.ptr it _ 0))=>match h it with
  |.mit none _ _ _=>some (Fq,none)
  |.mit (some m) since seen sp=>match h m with
   |.map f clock=>match Cd seen f with
    |[]=>bif seen.isEmpty||f.isEmpty||f.any (λe=>Nat.blt e.born sp)then some (Fq,none)else none
    |[x]=>bif Nat.blt x.born since&&Nat.blt x.born sp then some (Ov x.key x.val,some (it,.mit (some m) since (seen++[x.born]) clock))else none
    |_=>none
   |_=>none
  |_=>none
 |_=>none
def bz (f:Bool)(h:Pos→EO)(n:Pos):Bool:=match f with
 |true=>(match h n with|.none=>true|_=>false)
 |false=>true
def cL (f:Bool)(n:Pos):Pos:=match f with|true=>n.succ|false=>n
def aP (ck:Callk)(b:HP):List OP→Env→DM→Pos→RS
 |[],e,d,n=>.ok e d n
 |o::r,e,d,n=>match o with
  |.op o j=>bif bz j (HP.ov b d).get n then match stepF e (HP.ov b d).get n o with
   |some (out,wr)=>aP ck b r (aW e o.dst out) (ul d wr) (cL j n)
   |none=>.no
   else .no
  |.call args f g=>match gd e g with
   |some true=>match cI (HP.ov b d).get (aT e args)with
    |some (t,vs)=>match ck.call b t vs d n with
     |.ok out p l=>aP ck b r (aW e f out) p l
     |.no=>.no
    |none=>.no
   |some false=>aP ck b r (aW e f (.tup [])) d n
   |none=>.no
  |.nxt x f=>match GQ (HP.ov b d).get (bk e x)with
   |some (out,wr)=>aP ck b r (aW e f out) (ul d wr) n
   |none=>.no
  |.bad=>.no
inductive Inf where
 |op (key:Option Pos) (rds:List Pos) (fr:Bool) (q:Q) (out:TV)
 |call (h:HP) (d:DM)
inductive RT' where
 |no
 |ok (l:List Inf) (e:Env) (d:DM) (n:Pos)
def eZ (w:Option (Pos×EO)):Option Pos:=match w with
 |some (k,_)=>some k
 |none=>none
def pP (f:Bool)(n:Pos)(w:Option (Pos×EO)):Bool:=match w with
 |some (k,_)=>f&&k.beq n
 |none=>true
def okW (h:Pos→EO)(w:Option (Pos×EO)):Bool:=match w with
 |some (k,_)=>!DL (h k)
 |none=>true
def BK (i:Inf):RT'→RT'
 |.no=>.no
 |.ok l e d n=>.ok (i::l) e d n
def tJ (b:HP):List OP→DM→Pos→Option (List Pos×DM×Pos)
 |[],d,n=>some ([],d,n)
 |.op _ true::r,d,n=>match (HP.ov b d).get n with
  |.none=>match tJ b r (fP d n .res) n.succ with
   |some (l,d',n')=>some (n::l,d',n')
   |none=>none
  |_=>none
 |_::r,d,n=>tJ b r d n
def tL (d:DM):List Pos→Bool
 |[]=>true
 |p::l=>match PM.get none d p with
  |some _=>false
  |none=>tL d l
def eG (f:Bool)(d:DM)(r:Pos):DM:=match f with
 |true=>fP d r .none
 |false=>d
def od (ck:Callk)(b:HP)(p:List Pos):List OP→Env→DM→Pos→Pos→RT'
 |[],e,d,_,n=>.ok [] e d n
 |o::l,e,d,r,n=>match o with
  |.op o j=>match stepF e (HP.ov b (eG j d r)).get r o with
   |some (out,wr)=>bif okW (HP.ov b (eG j d r)).get wr then BK (.op (eZ wr) (trF e (HP.ov b (eG j d r)).get r o) (pP j r wr) (qF e r o) out) (od ck b p l (aW e o.dst out) (ul d wr) (cL j r) n)else .no
   |none=>.no
  |.call args f g=>match gd e g with
   |some true=>match cI (HP.ov b d).get (aT e args)with
    |some (t,vs)=>match ck.call (.ov b d) t vs .leaf n with
     |.ok out C J=>bif tL C p then BK (.call (.ov b d) C) (od ck b p l (aW e f out) (mS C d) r J)else .no
     |.no=>.no
    |none=>.no
   |some false=>BK (.op none [] true .fail .unk) (od ck b p l (aW e f (.tup [])) d r n)
   |none=>.no
  |_=>.no
def Zi:CV→CV→Bool
 |.bl a,.bl b=>match a with|true=>b|false=>!b
 |.int k a,.int j b=>kq k j&&decide (a=b)
 |.str a,.str b=>lsEq a b
 |.nilp,.nilp=>true
 |.ptr k g o,.ptr j p l=>k.beq j&&Nat.beq g p&&Nat.beq o l
 |.glob a,.glob b=>Nat.beq a b
 |.nils,.nils=>true
 |.sl k g o n c,.sl j p l r C=>k.beq j&&Nat.beq g p&&Nat.beq o l&&Nat.beq n r&&(match c,C with|none,none=>true|some a,some b=>Nat.beq a b|_,_=>false)
 |.emp k,.emp j=>k.beq j
 |.nilm,.nilm=>true
 |.mp k,.mp j=>k.beq j
 |.nilf,.nilf=>true
 |.fnc f,.fnc g=>Nat.beq f g
 |.clo k,.clo j=>k.beq j
 |.nili,.nili=>true
 |.ifc k,.ifc j=>k.beq j
 |.sym m,.sym n=>Nat.beq m n
 |_,_=>false
def KW:List CV→List CV→Bool
 |[],[]=>true
 |a::l,b::m=>bif Zi a b then KW l m else false
 |_,_=>false
def TF (k:Pos):List Pos→Bool
 |[]=>false
 |p::l=>bif k.beq p then true else TF k l
def C5 (k:Option Pos)(l:List Pos):Bool:=match k with
 |some k=>!TF k l
 |none=>true
def Nq (k f:Option Pos):Bool:=match k with
 |some k=>match f with
  |some f=>!k.beq f
  |none=>true
 |none=>true
def nth {R:Type}:List R→Nat→Option R
 |[],_=>none
 |a::_,0=>some a
 |_::l,i+1=>nth l i
def Xk:TV→TV→Bool
 |.pv (.one c),.pv (.one c')=>Zi c c'
 |.pv (.agg cs),.pv (.agg cs')=>KW cs cs'
 |_,_=>false
def Du (f:EO→Q)(o:EO)(out:TV):Bool:=match f o with
 |.ret g none=>Xk g out
 |_=>false
def LD (h:HP)(d:DM)(l:List Pos)(q:Q)(out:TV):Bool:=tL d l||(match q with
 |.rd k f=>match l with
  |[_]=>match PM.get none d k with
   |some o=>Du f o out&&Du f (h.get k) out
   |none=>false
  |_=>false
 |_=>false)
def dS:Inf→Inf→Bool
 |.op k l _ _ _,.op f g _ _ _=>C5 k g&&C5 f l&&Nq k f
 |.op none l _ q out,.call h d=>LD h d l q out
 |.call h d,.op none l _ q out=>LD h d l q out
 |.call _ d,.op _ l true _ _=>tL d l
 |_,_=>false
def fK (l:List Inf)(p:Nat×Nat):Bool:=match nth l p.1 with
 |some a=>match nth l p.2 with
  |some b=>dS a b
  |none=>false
 |none=>false
def dN (l:List Inf):List (Nat×Nat)→Bool
 |[]=>true
 |p::r=>bif fK l p then dN l r else false
inductive FC where
 |skip
 |region (ops:List OP)
 |drawn (ops:List OP) (ps:List (Nat×Nat))
 |seq (a b:FC)
 |cond (c:Src) (a b:FC)
 |block (id:Nat) (c:FC)
 |loop (c:FC)
 |rloop (x:Src) (dst:Option Pos) (ops:List OP) (asg:List Pos) (c:FC)
 |rng (f:Src) (ps:List Pos) (asg body:FC)
 |exit (id:Nat)
 |ret
 |bad
def qW (g:Env→DM→Pos→RX):Nat→Env→DM→Pos→RX
 |0,_,_,_=>.no
 |f+1,e,d,n=>match g e d n with
  |.ok x l p j=>match x with
   |.normal=>qW g f l p j
   |x=>.ok x l p j
  |.no=>.no
def zL:List Pos→List TV→Env→Option Env
 |[],[],e=>some e
 |t::ts,a::as,e=>zL ts as (PM.set .unk t e a)
 |_,_,_=>none
def LT (j:Pos)(call:Ck)(e:Env)(ps:List Pos)(f:HP→Env→DM→Pos→RX):Yk:=λb g args d n=>match g.beq j with
 |true=>match zL ps args e with
  |some p=>match f b p d n with
   |.ok x _ r l=>match x with
    |.normal=>.ok (.pv (.one (.bl true))) r l
    |_=>.no
   |.no=>.no
  |none=>.no
 |false=>call b (.yld g) args d n
def ZH (f:Pos)(h:Pos→EO):DM→(Pos→Pos)→Bool
 |.leaf,_=>true
 |.node l a r,c=>(match a with
   |none=>true
   |some _=>match h (c .e)with
    |.none=>true
    |_=>(c .e).beq f)&&ZH f h l (λp=>c (.o p))&&ZH f h r (λp=>c (.i p))
def ye:List Pos→Env→Env
 |[],e=>e
 |p::l,e=>ye l (PM.set .unk p e .unk)
def Oh (a f:TV):Bool:=match a with
 |.unk=>true
 |.pv (.one c)=>match f with|.pv (.one c')=>Zi c c'|_=>false
 |.pv (.agg cs)=>match f with|.pv (.agg cs')=>KW cs cs'|_=>false
 |.tup _=>false
def Iy:Env→Env→Bool
 |.leaf,_=>true
 |.node l a r,.leaf=>Oh a .unk&&Iy l .leaf&&Iy r .leaf
 |.node l a r,.node g j f=>Oh a j&&Iy l g&&Iy r f
def vt:Env→Env
 |.leaf=>.leaf
 |.node l a r=>.node (vt l) (match a with|.tup _=>.unk|a=>a) (vt r)
def Q2 (f:ME→RX)(ok:Env→DM→Bool):List ME→Bool
 |[]=>true
 |x::es=>match f x with
  |.ok .normal e d _=>bif ok e d then Q2 f ok es else false
  |_=>false
def xE (r:RS)(f:Env→DM→Pos→RX):RX:=match r with
 |.ok e d n=>f e d n
 |.no=>.no
def Vk (m:Pos)(f:Nat)(g:List Nat)(o:EO):Bool:=match o with
 |.mitU m' since' bs' (some _)=>m.beq m'&&Nat.beq f since'&&lsEq g bs'
 |_=>false
def exec (ck:Callk)(j:Nat):FC→HP→Env→DM→Pos→RX
 |.skip,_,e,d,n=>.ok .normal e d n
 |.region p,b,e,d,n=>match aP ck b p e d n with
  |.ok e d n=>.ok .normal e d n
  |.no=>.no
 |.drawn p ps,b,e,d,n=>match tJ b p d n with
  |some (rs,d1,n1)=>match od ck b rs p e d1 n n1 with
   |.ok l e d n=>bif dN l ps then .ok .normal e d n else .no
   |.no=>.no
  |none=>.no
 |.seq x y,b,e,d,n=>match exec ck j x b e d n with
  |.ok U e d n=>match U with
   |.normal=>exec ck j y b e d n
   |U=>.ok U e d n
  |.no=>.no
 |.cond c x y,b,e,d,n=>match bk e c with
  |.pv (.one (.bl t))=>match t with
   |true=>exec ck j x b e d n
   |false=>exec ck j y b e d n
  |_=>.no
 |.block id c,b,e,d,n=>match exec ck j c b e d n with
  |.ok x e d n=>match x with
   |.exit R=>match Nat.beq R id with
    |true=>.ok .normal e d n
    |false=>.ok (.exit R) e d n
   |x=>.ok x e d n
  |.no=>.no
 |.loop c,b,e,d,n=>qW (exec ck j c b) j e d n
 |.rloop x P p C c,b,e,d,n=>match bk (ye C (vt e)) x with
  |.pv (.one (.ptr it _ 0))=>match (HP.ov b d).get it with
   |.mit (some m) since [] sp=>match (HP.ov b d).get m with
    |.map J clock=>match J with
     |_::_::_=>bif Nat.ble since sp&&Nat.ble since clock&&J.all (λx=>Nat.blt x.born since)then
       bif Q2 (λy=>xE (aP ck (.ov b (fP d it (.mitU m since (dy J) none))) p (aW (ye C (vt e)) P (Ov y.key y.val)) (fP .leaf it (.mitU m since (dy J) (some (y.born,clock)))) n) (exec ck j c (.ov b (fP d it (.mitU m since (dy J) none)))))
         (λe' d'=>ZH it (HP.ov b (fP d it (.mitU m since (dy J) none))).get d' id&&Iy (ye C (vt e)) e'&&Vk m since (dy J) ((HP.ov (.ov b (fP d it (.mitU m since (dy J) none))) d').get it)) J
       then match xE (aP ck b p (aW (ye C (vt e)) P Fq) (fP d it .dead) n) (exec ck j c b)with
        |.ok .normal _ _ _=>.no
        |r=>r
       else .no
      else .no
     |_=>qW (λe d n=>xE (aP ck b (.nxt x P::p) e d n) (exec ck j c b)) j e d n
    |_=>.no
   |.mit none _ _ _=>qW (λe d n=>xE (aP ck b (.nxt x P::p) e d n) (exec ck j c b)) j e d n
   |_=>.no
  |_=>.no
 |.rng f ps C T,b,e,d,n=>match bz true (HP.ov b d).get n with
  |true=>match cI (HP.ov b (fP d n .yld)).get (bk e f::[.pv (.one (.clo n))])with
   |some (.fn g,vs)=>match ck.iter (LT n ck.call e ps λb e d n=>match exec ck j C b e d n with
     |.ok .normal e d n=>exec ck j T b e d n
     |_=>.no) b (.fn g) vs (fP d n .yld) n.succ with
    |.ok _ d n=>.ok .normal e d n
    |.no=>.no
   |_=>.no
  |false=>.no
 |.exit id,_,e,d,n=>.ok (.exit id) e d n
 |.ret,_,e,d,n=>.ok .ret e d n
 |.bad,_,_,_,_=>.no
inductive FR where
 |t (p:Pos)
 |cell (p:Pos) (s:Nat) (agg:Bool)
def zW (e:Env)(h:Pos→EO):FR→Option PV
 |.t p=>match e.get .unk p with
  |.pv v=>some v
  |_=>none
 |.cell p s agg=>match e.get .unk p with
  |.pv (.one (.ptr k g off))=>match F9 (h k) g off s with
   |some f=>LA agg f
   |none=>none
  |_=>none
def eD (e:Env)(h:Pos→EO):List FR→Option (List PV)
 |[]=>some []
 |r::l=>match zW e h r with
  |some a=>match eD e h l with
   |some f=>some (a::f)
   |none=>none
  |none=>none
def oY:List PV→TV
 |[a]=>.pv a
 |l=>.tup l
structure Fi where
 code:FC
 res:List FR
 nt:Nat
def pJ:List TV→Pos→Env→Env
 |[],_,e=>e
 |a::l,p,e=>pJ l p.succ (PM.set .unk p e a)
def XU (b:HP)(f:List FR)(r:RX):RC:=match r with
 |.ok x e d n=>match x with
  |.exit _=>.no
  |_=>match eD e (HP.ov b d).get f with
   |some l=>.ok (oY l) d n
   |none=>.no
 |.no=>.no
def I1 (call:Yk→Ck)(f:Yk):Callk:=⟨call f,call⟩
def uO (p:FuncId→Option Fi)(g:Nat):Nat→Yk→Ck
 |0,l,b,t,args,d,n=>match t with
  |.yld j=>l b j args d n
  |.fn _=>.no
 |dp+1,l,b,t,args,d,n=>match t with
  |.yld j=>l b j args d n
  |.fn f=>match p f with
   |some x=>match Nat.ble args.length x.nt with
    |true=>XU b x.res (exec (I1 (uO p g dp) l) g x.code b (pJ args .e .leaf) d n)
    |false=>.no
   |none=>.no
def noY:Yk:=λ_ _ _ _ _=>.no
abbrev bn (g:FuncId→Option Fi)(f j:Nat):Callk:=I1 (uO g f j) noY
def uv (j:FuncId→Option Fi)(g l:Nat)(f:FuncId)(args:List TV)(ok:TV→Bool):Bool :=
 match uO j g l noY .nil (.fn f) args .leaf .e with
 |.ok v _ _=>ok v
 |.no=>false
def afJ:Value→Option CV
 |.bool b=>some (.bl b)
 |.int k n=>some (.int k n)
 |.string s=>some (.str (s.data.toList.map UInt8.toNat))
 |.pointer none=>some .nilp
 |.slice none 0 0=>some .nils
 |.map none=>some .nilm
 |.nilFunc=>some .nilf
 |.func (.func f) a b=>if a.size=0∧b.size=0 then some (.fnc f)else none
 |.nilIface=>some .nili
 |_=>none
def WB:List Value→Option (List CV)
 |[]=>some []
 |v::l=>match afJ v,WB l with
  |some c,some r=>some (c::r)
  |_,_=>none
def aeo:Value→Option PV
 |.agg f=>match WB f.toList with
  |some l=>some (.agg l)
  |none=>none
 |v=>match afJ v with
  |some c=>some (.one c)
  |none=>none
def aiz (v:Value):TV:=match aeo v with
 |some p=>.pv p
 |none=>.unk
def oN:Operand→Src
 |.tmp t=>if t+2≤2^64 then .t (pos t)else .c .unk
 |.const v=>.c (aiz v)
 |.global g=>.c (.pv (.one (.glob g)))
 |.func f=>.c (.pv (.one (.fnc f)))
def av (P:Program)(t:TypeId):Nat:=match P.info? t with
 |some i=>i.size
 |none=>0
def xy (P:Program)(t:TypeId):Nat:=match P.info? t with
 |some i=>i.bytes
 |none=>0
def nk:Option TypeDesc→Option Bool
 |some (.struct _)=>some true
 |some (.array _ _)=>some true
 |some _=>some false
 |none=>none
def eC (P:Program)(t:TypeId):Option PV:=match P.info? t with
 |some i=>match i.zero with
  |some v=>aeo v
  |none=>none
 |none=>none
def Zs (sz:TypeId→Nat)(f:TypeId→Option (List CK)):List Field→Nat→Option (List CK)
 |[],_=>some []
 |x::r,off=>if x.name ≠ "_" ∧ x.offset=off then match f x.type with
   |some a=>if sz x.type=a.length∧a.length≠0 then match Zs sz f r (off+a.length)with
     |some b=>some (a++b)
     |none=>none
    else none
   |none=>none
  else none
def i4 (P:Program):Nat→TypeId→Option (List CK)
 |0,_=>none
 |d+1,t=>match P.underlying t with
  |some .bool=>some [.b]
  |some (.int k)=>some [.i k]
  |some .string=>some [.s]
  |some (.struct T)=>if P.stoodInHeld t then none else Zs (av P) (i4 P d) T.toList 0
  |_=>none
def HI (P:Program)(t:TypeId)(g:Bool):Option EqK:=match P.underlying t with
 |some (.pointer e)=>if av P e=0 then none else some .ptr
 |some (.slice _)=>some .slc
 |some (.struct _)=>if P.eqGuardType P.depth t then none else match i4 P 20 t with
  |some f=>some (.flat f true)
  |none=>none
 |some (.array _ _)=>none
 |some _=>match i4 P 20 t with
  |some f=>some (.flat f false)
  |none=>none
 |none=>none
def x9 (P:Program)(t:TypeId):Option EqK:=match P.underlying t with
 |some (.struct _)=>match i4 P 20 t with
  |some f=>some (.flat f true)
  |none=>none
 |some _=>match i4 P 20 t with
  |some f=>some (.flat f false)
  |none=>none
 |none=>none
def isC:Operand→Bool
 |.const _=>true
 |_=>false
def Aj (P:Program)(T:Array Field):List (Nat×Operand)→Option (List (Nat×Nat))
 |[]=>some []
 |(i,_)::r=>match T[i]? with
  |some f=>match Aj P T r with
   |some l=>some ((f.offset,av P f.type)::l)
   |none=>none
  |none=>none
def aaa (P:Program)(u:TypeId)(e:TypeId)(s f:Nat):Bool:=liesAt P P.depth e (s/P.cellsOf e) f u 1
def U6 (P:Program)(e:TypeId)(len f n:Nat):Bool:=P.cellsOf e=1&&Nat.ble (f+n) len
def aik (fn:Func)(P:Program):Option K :=
 if (Extern.findNext fn).isSome then none
 else if fn.name = "internal/abi.NoEscape" then some .mov
 else if fn.name = "internal/bytealg.IndexByteString" then some .ibs
 else none
def Id (P:Program)(c:Call)(b:Builtin):Option (K×List Operand):=match b,c.args.toList,c.argTypes.toList with
 |.len,[x],[t]=>match P.underlying t with
  |some .string=>some (.lens,[x])
  |some (.slice _)=>some (.lenl,[x])
  |some (.map _ _)=>some (.lenm,[x])
  |_=>none
 |.append,[s,x],[t,u]=>match P.underlying t with
  |some (.slice e)=>match eC P e with
   |some z=>if av P e=0∨z.cells.length≠av P e then none else match P.underlying u with
    |some (.slice _)=>some (.app e (av P e) (xy P e) false,[s,x])
    |some .string=>if av P e=1 then some (.app e (av P e) (xy P e) true,[s,x])else none
    |_=>none
   |none=>none
  |_=>none
 |.unsafeSliceData,[x],_=>some (.usd,[x])
 |.unsafeString,[x,y],[t,_]=>match P.underlying t with
  |some (.pointer e)=>match P.underlying e with
   |some (.int .u8)=>some (.ust e (U6 P),[x,y])
   |_=>none
  |_=>none
 |.delete,[x,y],[t,_]=>match P.underlying t with
  |some (.map kt _)=>match x9 P kt with
   |some q=>some (.del q,[x,y])
   |none=>none
  |_=>none
 |.max,[x,y],_=>some (.mx true,[x,y])
 |.min,[x,y],_=>some (.mx false,[x,y])
 |_,_,_=>none
abbrev Glt:=Nat→TypeId→Option (Value ⊕ Nat)
def cK (P:Program)(U:Glt):Op→Option (K×List Operand)
 |.move x=>some (.mov,[x])
 |.assign x=>some (.mov,[x])
 |.pick c a b=>some (.pick,[c,a,b])
 |.alloc e=>match eC P e with
  |some z=>if z.cells.length=0 then none else some (.alloc e z.cells,[])
  |none=>none
 |.box e x=>if av P e=0 then none else some (.box e (av P e),[x])
 |.build t parts=>match eC P t,P.underlying t with
  |some z,some (.struct T)=>if T.toList.all (λf=>(P.info? f.type).isSome)then match Aj P T parts.toList with
    |some ps=>some (.build z.cells ps,parts.toList.map (·.2))
    |none=>none
   else none
  |some z,some (.array _ e)=>if av P e=0 then none else some (.build z.cells (parts.toList.map λp=>(p.1*av P e,av P e)),parts.toList.map (·.2))
  |_,_=>none
 |.buildSlice t len parts=>match P.underlying t with
  |some (.slice e)=>match eC P e with
   |some z=>if av P e=0∨z.cells.length≠av P e then none else some (.lit e (av P e) len z.cells (parts.toList.map (·.1)),parts.toList.map (·.2))
   |none=>none
  |_=>none
 |.load t a=>match a with
  |.global g=>match U g t with
   |some (.inl v)=>some (.mov,[.const v])
   |_=>none
  |a=>if av P t=0 then none else match nk (P.underlying t)with
   |some b=>some (.load (av P t) b,[a])
   |none=>none
 |.store t a x=>if av P t=0 then none else some (.store (av P t),[a,x])
 |.nilCheck x=>some (.nilchk,[x])
 |.binOp op t x y _=>match op with
  |.eql=>match P.underlying t with
   |some (.int _)=>some (.bin .eql,[x,y])
   |some .string=>some (.bin .eql,[x,y])
   |_=>match HI P t (isC x||isC y)with
    |some q=>some (.eql false q,[x,y])
    |none=>none
  |.neq=>match P.underlying t with
   |some (.int _)=>some (.bin .neq,[x,y])
   |some .string=>some (.bin .neq,[x,y])
   |_=>match HI P t (isC x||isC y)with
    |some q=>some (.eql true q,[x,y])
    |none=>none
  |op=>some (.bin op,[x,y])
 |.unOp op _ x=>some (.un op,[x])
 |.convert s t x=>match P.underlying s,P.underlying t with
  |some (.int _),some (.int k)=>some (.cint k,[x])
  |some (.pointer e),some .unsafePointer=>if av P e=0 then none else some (.p2u,[x])
  |some .unsafePointer,some (.pointer u)=>if av P u=0 then none else some (.u2p (aaa P u),[x])
  |some (.slice e),some .string=>if P.underlying e matches some (.int .u8)then some (.b2s,[x])else none
  |_,_=>none
 |.makeFunc fn first j=>some (.mkf fn first.size,first.toList++j.toList)
 |.makeMap t r=>match P.underlying t with
  |some (.map _ _)=>some (.mkm,r.toList)
  |_=>none
 |.makeSlice t l c=>match P.underlying t with
  |some (.slice e)=>match eC P e with
   |some z=>if av P e=0∨z.cells.length≠av P e then none else some (.mks e (av P e) (xy P e) z.cells,[l,c])
   |none=>none
  |_=>none
 |.slice t x C J mx=>match P.underlying t with
  |some .string=>if mx.isSome then none else some (.subs C.isSome J.isSome,x::(C.toList++J.toList))
  |some (.slice e)=>if av P e=0 then none else some (.subl (av P e) C.isSome J.isSome mx.isSome,x::(C.toList++J.toList++mx.toList))
  |_=>none
 |.fieldAddr s x f=>match P.underlying s with
  |some (.struct T)=>match T[f]? with
   |some f=>if av P f.type=0 then none else some (.fadr f.offset,[x])
   |none=>none
  |_=>none
 |.field s x f=>match P.underlying s with
  |some (.struct T)=>match T[f]? with
   |some f=>if av P f.type=0 then none else match nk (P.underlying f.type)with
    |some b=>some (.fld f.offset (av P f.type) b,[x])
    |none=>none
   |none=>none
  |_=>none
 |.indexAddr t x i=>match P.underlying t with
  |some (.slice e)=>if av P e=0 then none else some (.idxl (av P e),[x,i])
  |some (.array n e)=>if av P e=0 then none else some (.idxa n (av P e),[x,i])
  |_=>none
 |.index t x i=>match P.underlying t with
  |some .string=>some (.idxs,[x,i])
  |_=>none
 |.lookup t x i ok=>match P.underlying t with
  |some (.map k e)=>match x9 P k,eC P e with
   |some q,some z=>some (.look q z ok,[x,i])
   |_,_=>none
  |_=>none
 |.mapUpdate t m k x=>match P.underlying t with
  |some (.map kt _)=>match x9 P kt with
   |some q=>some (.put q,[m,k,x])
   |none=>none
  |_=>none
 |.mapEntry t m k=>match P.underlying t with
  |some (.map kt e)=>match x9 P kt,eC P e with
   |some q,some z=>some (.ment q z,[m,k])
   |_,_=>none
  |_=>none
 |.entryStore _ m s x=>some (.mest,[m,s,x])
 |.range t x=>match P.underlying t with
  |some (.map _ _)=>some (.rngm,[x])
  |_=>none
 |.entry R=>some (.ent,[R])
 |.extract x i=>some (.ext i,[x])
 |.call c=>match c.callee with
  |.builtin b=>Id P c b
  |.value (.func f)=>match P.funcs[f]? with
   |some fn=>match fn.body with
    |some _=>none
    |none=>match aik fn P with
     |some k=>some (k,c.args.toList)
     |none=>none
   |none=>none
  |_=>none
 |_=>none
def kAl:K→Bool
 |.alloc _ _=>true|.box _ _=>true|.lit _ _ _ _ _=>true|.mkf _ _=>true|.mkm=>true|.mks _ _ _ _=>true|.rngm=>true|.subl _ _ _ _=>true|.app _ _ _ _=>true
 |_=>false
def CY (f:List Oper):Option (Nat×Bool)→Option (Option (Pos×Bool))
 |none=>some none
 |some (j,w)=>match (f[j]?).bind (·.dst)with
  |some d=>if d+2≤2^64 then some (some (pos d,w))else none
  |none=>none
def UN (f:Nat):Option Tmp→Option (Option Pos)
 |none=>some none
 |some d=>if d<f∧d+2≤2^64 then some (some (pos d))else none
def cOp (P:Program)(J:Glt)(r:Nat)(l:List Oper)(o:Oper):OP:=match UN r o.dst with
 |none=>.bad
 |some j=>match CY l o.guard with
  |none=>.bad
  |some g=>match cK P J o.op with
   |some (k,p)=>.op ⟨k,p.map oN,j,g⟩ (kAl k)
   |none=>match o.op with
    |.call c=>match c.callee with
     |.value f=>.call (oN f::c.args.toList.map oN) j g
     |_=>.bad
    |.next C false=>match g with
     |none=>.nxt (oN C) j
     |some _=>.bad
    |_=>.bad
def nS (P:Program)(j:Glt)(g:Nat)(f:List Oper):List Oper→List OP
 |[]=>[]
 |o::r=>cOp P j g f o::nS P j g f r
def aN:List Oper→List Nat→List Nat
 |[],acc=>acc
 |o::r,acc=>aN r (acc++[o.after.toList.foldl (λs e=>if Region.binds .any e then s ||| 2^e.on ||| acc.getD e.on 0 else s) 0])
def bU:Nat→List Oper→Bool
 |_,[]=>true
 |i,o::r=>o.after.toList.all (λe=>!Region.binds .any e||decide (e.on<i))&&bU (i+1) r
def Do:List Src→List Pos
 |[]=>[]
 |.t p::l=>p::Do l
 |.c _::l=>Do l
def MX:Option (Pos×Bool)→List Pos
 |some (p,_)=>[p]
 |none=>[]
def eF:OP→List Pos
 |.op o _=>MX o.guard++Do o.args
 |.call args _ g=>MX g++Do args
 |_=>[]
def Rb:OP→Option Pos
 |.op o _=>o.dst
 |.call _ d _=>d
 |.nxt _ d=>d
 |.bad=>none
def Cj (a b:OP):Bool :=
 (match Rb a with|some d=>!TF d (eF b) && !(match Rb b with|some f=>d.beq f|none=>false)|none=>true)&&(match Rb b with|some d=>!TF d (eF a)|none=>true)
def abM:OP→Bool
 |.call _ _ _=>true
 |_=>false
def ajC:OP→Nat
 |.op _ true=>2
 |.call _ _ _=>1
 |_=>0
def ag7 (f:List Nat)(n:Nat)(done:List Nat)(i:Nat):Bool :=
 !done.contains i&&(List.range n).all λj=>!(f.getD i 0).testBit j||done.contains j
def OO (g:List Nat)(cl:List Nat):Nat→List Nat→List Nat
 |0,done=>done.reverse
 |f+1,done=>
  let l:=(List.range cl.length).filter (ag7 g cl.length done);match l.find? (λi=>cl.getD i 0 == 0)with
  |some i=>OO g cl f (i::done)
  |none=>match l.find? (λi=>cl.getD i 0 == 1)with
   |some i=>OO g cl f (i::done)
   |none=>match l.find? (λi=>(List.range cl.length).any λj=>cl.getD j 0 == 1&&(g.getD j 0).testBit i)with
    |some i=>OO g cl f (i::done)
    |none=>match l with
     |i::_=>OO g cl f (i::done)
     |[]=>done.reverse
def aa6 (g:List Nat)(f:List Nat)(p q:Nat):Bool :=!(g.getD (f.getD q 0) 0).testBit (f.getD p 0)
def adB (g:List OP)(f:List Nat)(p q:Nat):Bool:=match g[f.getD p 0]?,g[f.getD q 0]? with
 |some x,some y=>Cj x y && !(abM x&&abM y)
 |_,_=>false
def My:List Nat→Bool
 |[]=>true
 |a::l=>!l.contains a&&My l
def Mi (g:List Oper)(j:List OP)(l:List Nat)(f:List Nat):Option (List (Nat×Nat)) :=
 let all:=(List.range f.length).flatMap λq=>((List.range q).filter λp=>aa6 l f p q).map λp=>(p,q)
 if bU 0 g&&Nat.beq f.length g.length&&My f&&(List.range g.length).all (λi=>f.contains i)&&f.all (λi=>decide (i<g.length))&&all.all (λp=>adB j f p.1 p.2)then some all else none
def adr (g:List Oper)(j:List OP)(l:List Nat)(f:List Nat):FC:=match Mi g j l f with
 |some ps=>.drawn (f.map λi=>j.getD i .bad) ps
 |none=>.bad
def HM:List OP→List Pos
 |[]=>[]
 |o::r=>(match o with|.op o _=>o.dst.toList|.call _ d _=>d.toList|.nxt _ d=>d.toList|.bad=>[])++HM r
def tN:FC→List Pos
 |.region f=>HM f
 |.drawn f _=>HM f
 |.seq a b=>tN a++tN b
 |.cond _ a b=>tN a++tN b
 |.block _ c=>tN c
 |.loop c=>tN c
 |.rloop _ d f _ c=>d.toList++HM f++tN c
 |.rng _ ps a b=>ps++tN a++tN b
 |_=>[]
def ca:Code→Bool
 |.region _ f _=>f.toList.all λo=>match o.op with|.defer _=>false|_=>true
 |.seq a b=>ca a&&ca b
 |.cond _ a b=>ca a&&ca b
 |.block _ a=>ca a
 |.loop a=>ca a
 |.scope a=>ca a
 |.rangeFunc _ _ a b=>ca a&&ca b
 |_=>true
def cC (P:Program)(p:Glt)(j:Nat):Code→FC
 |.skip=>.skip
 |.label _=>.skip
 |.region _ g r=>match r with
  |false=>.region (nS P p j g.toList g.toList)
  |true=>adr g.toList (nS P p j g.toList g.toList) (aN g.toList []) (OO (aN g.toList []) ((nS P p j g.toList g.toList).map ajC) g.size [])
 |.seq a b=>.seq (cC P p j a) (cC P p j b)
 |.cond c a b=>.cond (oN c) (cC P p j a) (cC P p j b)
 |.block id c=>.block id (cC P p j c)
 |.loop (.seq (.region id g false) y)=>match nS P p j g.toList g.toList with
  |.nxt x dst::l=>.rloop x dst l (dst.toList++HM l++tN (cC P p j y)) (cC P p j y)
  |_=>.loop (cC P p j (.seq (.region id g false) y))
 |.loop c=>.loop (cC P p j c)
 |.rangeFunc f ps a b=>if ca a&&ca b&&ps.toList.all (λt=>decide (t<j∧t+2≤2^64))then .rng (oN f) (ps.toList.map pos) (cC P p j a) (cC P p j b)else .bad
 |.scope c=>cC P p j c
 |.exit id=>.exit id
 |.ret=>.ret
 |_=>.bad
def afW (P:Program):ResultVar→Option FR
 |.tmp t=>if t+2≤2^64 then some (.t (pos t))else none
 |.cell t f=>match nk (P.underlying f)with
  |some b=>if t+2≤2^64∧av P f≠0 then some (.cell (pos t) (av P f) b)else none
  |none=>none
def K3 (P:Program):List ResultVar→Option (List FR)
 |[]=>some []
 |r::l=>match afW P r,K3 P l with
  |some a,some b=>some (a::b)
  |_,_=>none
def ju (P:Program)(Gl:Glt)(f:FuncId):Option Fi:=match P.funcs[f]? with
 |some fn=>match fn.body with
  |some b=>if fn.name == "runtime.NumGoroutine" then none else match K3 P fn.results.toList with
   |some rs=>some ⟨cC P Gl fn.ntmps b,rs,fn.ntmps⟩
   |none=>none
  |none=>none
 |none=>none
variable [SymVal]
def RTs (φ:Gx):List TV→List Value→Prop
 |[],[]=>True
 |t::l,v::vs=>RT φ t v∧RTs φ l vs
 |_,_=>False
def RTs.mono {φ ψ:Gx}(h:φ.le ψ):∀{l:List TV} {vs:List Value},RTs φ l vs→RTs ψ l vs
 |[],[],_=>trivial
 |_::_,_::_,⟨a,b⟩=>⟨a.mono h,b.mono h⟩
def RTs.len {φ:Gx}:∀{l:List TV} {vs:List Value},RTs φ l vs→vs.length=l.length
 |[],[],_=>rfl
 |_::_,_::_,⟨_,b⟩=>by simp[b.len]
def RTs.append {φ:Gx}:∀{l m:List TV} {vs ws:List Value},RTs φ l vs→RTs φ m ws→RTs φ (l++m) (vs++ws)
 |[],_,[],_,_,h=>h
 |_::_,_,_::_,_,⟨a,b⟩,h=>⟨a,b.append h⟩
variable{φ:Gx}{vs:List Value}
def RTs.one {t:TV}(h:RTs φ [t] vs):∃v,vs=[v]∧RT φ t v:=by
 match vs,h with
 |[v],⟨a,_⟩=>exact⟨v,rfl,a⟩
def RTs.cons {t:TV}{l:List TV}(h:RTs φ (t::l) vs):∃v ws,vs=v::ws∧RT φ t v∧RTs φ l ws:=by
 match vs,h with
 |v::ws,⟨a,b⟩=>exact⟨v,ws,rfl,a,b⟩
def RTs.nil (h:RTs φ [] vs):vs=[]:=by
 match vs,h with
 |[],_=>rfl
def ND {φ:Gx}:∀{l:List PV} {vs:List Value},cv φ l=some vs→RTs φ (pvT l) vs
 |[],vs,r=>by cases r;trivial
 |p::l,vs,r=>by obtain⟨v,j,rfl,g,f⟩:=gL r;exact⟨g,ND f⟩
def JS {φ:Gx}:∀{l:List TV} {r:List PV} {vs:List Value},pvs l=some r→RTs φ l vs→cv φ r=some vs
 |[],r,vs,h,hr=>by cases h;rw[hr.nil];rfl
 |.pv p::l,r,vs,h,hr=>by
  simp[pvs]at h;split at h
  next q hq=>cases h;obtain⟨v,ws,rfl,g,f⟩:=hr.cons;exact bI g (JS hq f)
  ·cases h
 |.unk::_,_,_,h,_=>by cases h
 |.tup _::_,_,_,h,_=>by cases h
def tX (h:Pos→EO)(w:Option (Pos×EO)):Pos→EO:=match w with
 |some (k,o)=>upd h k o
 |none=>h
def OkX (P:Program)(B:Nat)(J:W0)(φ:Gx)(h:Pos→EO)(w:World)(o:Oper)(a:Act)(out:TV)(wr:Option (Pos×EO)):Prop :=
 (∀(K:Act→World→Prop) (Q:Exit→Act→World→Prop),(∀v ψ f,φ.le ψ→Inv B J ψ (tX h wr) f→RT ψ out v→K (a.put o.dst v) f)→o.wp P a w K Q)∧∀k g,wr=some (k,g)→i5 g=false
def gv:Value ⊕ Nat→Value
 |.inl v=>v
 |.inr n=>SymVal.v n
def tG (f:Glt)(P:Program)(B:Nat)(J:W0):Prop:=(∀g t v,f g t=some v→∀w,Below B J.w w→(Instr.loadAt t (.pointer (some ⟨g,0,none⟩))).run P w = .ok (gv v) w)∧∀w,Below B J.w w→SymVal.fact w
def Dc {o j:EO}{g f:Nat}{new:List CV}(h:E4 o g f new=some j):i5 j=false:=by
 unfold E4 at h;split at h
 next e s el len gen fz=>
  cases l:(Nat.beq g gen&&Nat.blt (f/s) len&&Nat.ble (f%s+new.length) s&&QF fz)with
  |false=>rw[l]at h;cases h
  |true =>rw[l,I']at h;split at h;cases h;rfl
 ·cases h
def zi {g s:Nat}:∀{l:List (List CV)} {x:List CV} {o j:EO} {f:Nat},pC g s (x::l) o f=some j→i5 j=false
 |[],x,o,j,f,h=>by
  rw[pC]at h;split at h
  next o1 h1=>cases h;exact Dc h1
  ·cases h
 |y::l,x,o,j,f,h=>by
  rw[pC]at h;split at h
  ·exact zi h
  ·cases h
section
variable {P:Program}{B:Nat}{J:W0}{φ:Gx}{h:Pos→EO}{w:World}{o:Oper}{a:Act}
variable{v:Value}{out:TV}{ψ:Gx}{w' :World}{o' :EO}{k:IntKind}{n:Int}{b:Bool}{s:List Nat}{off:Nat}{cap:Option Nat}{x y:Operand}{op:BinOp}{tx ty:TypeId}{C:List TV}{f:Pos}
def ay (l:Inv B J φ h w)(f:(execOp a.eval o).run P w = .ok (.value v) w)(g:RT φ out v):OkX P B J φ h w o a out none:=⟨λK Q j=>by
 unfold Oper.wp;rw[f];exact j v φ w (Gx.le.refl φ) l g,λ_ _ e=>by cases e⟩
def i3 {k:Pos}(j:(execOp a.eval o).run P w = .ok (.value v) w')(g:φ.le ψ)(r:Inv B J ψ (upd h k o') w')(l:RT ψ out v)(f:i5 o'=false:=by rfl):OkX P B J φ h w o a out (some (k,o')):=⟨λK Q p=>by
 unfold Oper.wp;rw[j];exact p v ψ w' g r l,λ_ _ e=>by cases e;exact f⟩
def Ey {k:Pos}(j:(execOp a.eval o).run P w = .ok .skip w')(g:φ.le ψ)(p:Inv B J ψ (upd h k o') w')(f:i5 o'=false:=by rfl):OkX P B J φ h w o a .unk (some (k,o')):=⟨λK Q l=>by
 unfold Oper.wp;rw[j];exact l undef ψ w' g p trivial,λ_ _ e=>by cases e;exact f⟩
def dL (h:RT φ (.pv (.one (.int k n))) v):v = .int k n:=(υ h).symm
def JL (h:RT φ (.pv (.one (.bl b))) v):v = .bool b:=(υ h).symm
def pH (h:RT φ (.pv (.one (.str s))) v):okStr s=true∧v=strV s:=by
 have h:den φ (.str s)=some v:=h;simp only[den]at h;split at h
 next q=>exact⟨q,(υ h).symm⟩
 ·cases h
def iB {k:Pos}{g:Nat}(h:RT φ (.pv (.one (.ptr k g off))) v):∃l,φ.loc k g=some l∧v = .pointer (some ⟨l.b,off,none⟩):=by
 have h:den φ (.ptr k g off)=some v:=h;simp[den]at h;split at h
 next l q=>exact⟨l,q,(υ h).symm⟩
 ·cases h
def LQ {k:Pos}{g len:Nat}(h:RT φ (.pv (.one (.sl k g off len cap))) v):∃l,φ.loc k g=some l∧v = .slice (some ⟨l.b,off,none⟩) len (iY cap l.n (off/l.s))∧BR cap len l.n (off/l.s)=true:=by
 have h:den φ (.sl k g off len cap)=some v:=h;simp[den]at h;split at h
 next l q=>
  split at h
  next f=>exact⟨l,q,(υ h).symm,f⟩
  ·cases h
 ·cases h
def JK {k:Pos}{g len:Nat}(h:RT φ (.pv (.one (.sl k g off len cap))) v):∃l,φ.loc k g=some l∧v = .slice (some ⟨l.b,off,none⟩) len (iY cap l.n (off/l.s)):=by obtain⟨l,j,f,_⟩:=LQ h;exact⟨l,j,f⟩
def agq {k:Pos}(h:RT φ (.pv (.one (.mp k))) v):∃l,φ.loc k 0=some l∧v = .map (some l.b):=by
 have h:den φ (.mp k)=some v:=h;simp[den]at h;split at h
 next l q=>exact⟨l,q,(υ h).symm⟩
 ·cases h
def LR {k:Pos}(h:RT φ (.pv (.one (.emp k))) v):∃a c,v = .slice (some a) 0 c:=by
 have h:den φ (.emp k)=some v:=h;simp[den]at h;split at h
 next a c q=>exact⟨a,c,(υ h).symm⟩
 ·cases h
def yw {f:List CV}(h:RT φ (.pv (.agg f)) v):∃vs,v = .agg vs.toArray∧dens φ f=some vs:=by
 have h:denP φ (.agg f)=some v:=h;simp[denP]at h;split at h
 next vs q=>exact⟨vs,(υ h).symm,q⟩
 ·cases h
def dv (k:IntKind)(n:Int):RT φ (.pv (.one (.int k n))) (.int k n):=rfl
def AD (b:Bool):RT φ (.pv (.one (.bl b))) (.bool b):=rfl
def yJ (f:okStr s=true):RT φ (.pv (.one (.str s))) (strV s):=by show den φ (.str s)=_;simp[den,f]
def cR {h:Pos→EO}:(gG k n).run h=some (.pv (.one (.int k n)),none):=by simp[gG,yH,Q.run]
def zV {h:Pos→EO}:(ux b).run h=some (.pv (.one (.bl b)),none):=rfl
def Mo {z:Operand}(C:Inv B J φ h w)(l:o.op = .pick x y z){p q:TV}(j:RT φ (.pv (.one (.bl b))) (a.eval x))(g:RT φ p (a.eval y))(f:RT φ q (a.eval z)):OkX P B J φ h w o a (match b with|true=>p|false=>q) none:=by
 have r:=JL j;refine ay C (v:=if b then a.eval y else a.eval z) ?_ ?_
 ·unfold execOp;simp[l,r,asBool]
 ·cases b
  ·exact f
  ·exact g
def tA (m n:Int):(m == n)=decide (m=n):=by by_cases h:m=n <;> simp[h]
def Kg {f :IntKind}(h:kq k f=true):k=f:=by cases k <;> cases f <;> first|rfl|cases h
def aeQ (l:Inv B J φ h w)(j:o.op = .binOp op tx x y ty){m:Int}(g:a.eval x = .int k m)(f:a.eval y = .int k n){wr:Option (Pos×EO)}(p:(If op k m n).run h=some (out,wr)):OkX P B J φ h w o a out wr:=by
 cases op <;> simp[If]at p <;> first|(cases p;done)|skip
 case quo=>
  by_cases r:n=0
  ·simp[r,Q.run]at p
  ·have C:(n == 0)=false:=by simpa using r
   rw[C,H_,cR]at p;cases p;refine ay l ?_ (dv _ _);unfold execOp;simp[j,g,f,eqGuard,binOp,Op.intDiv,r]
 case rem=>
  by_cases r:n=0
  ·simp[r,Q.run]at p
  ·have C:(n == 0)=false:=by simpa using r
   rw[C,H_,cR]at p;cases p;refine ay l ?_ (dv _ _);unfold execOp;simp[j,g,f,eqGuard,binOp,Op.intDiv,r]
 all_goals first|rw[cR]at p|rw[zV]at p
 all_goals (simp at p;obtain⟨rfl,rfl⟩:=p)
 case add=>refine ay l ?_ (dv _ _);unfold execOp;simp[j,g,f,eqGuard,binOp,Op.intArith]
 case sub=>refine ay l ?_ (dv _ _);unfold execOp;simp[j,g,f,eqGuard,binOp,Op.intArith]
 case mul=>refine ay l ?_ (dv _ _);unfold execOp;simp[j,g,f,eqGuard,binOp,Op.intArith]
 case and=>refine ay l ?_ (dv _ _);unfold execOp;simp[j,g,f,eqGuard,binOp,Op.intBits]
 case or=>refine ay l ?_ (dv _ _);unfold execOp;simp[j,g,f,eqGuard,binOp,Op.intBits]
 case xor=>refine ay l ?_ (dv _ _);unfold execOp;simp[j,g,f,eqGuard,binOp,Op.intBits]
 case eql=>refine ay l ?_ (AD _);unfold execOp;simp[j,g,f,eqGuard,binOp,Op.intCmp,tA]
 case neq=>refine ay l ?_ (AD _);unfold execOp;simp[j,g,f,eqGuard,binOp,Op.intCmp,bne,tA]
 case lss=>refine ay l ?_ (AD _);unfold execOp;simp[j,g,f,eqGuard,binOp,Op.intCmp]
 case leq=>refine ay l ?_ (AD _);unfold execOp;simp[j,g,f,eqGuard,binOp,Op.intCmp]
 case gtr=>refine ay l ?_ (AD _);unfold execOp;simp[j,g,f,eqGuard,binOp,Op.intCmp]
 case geq=>refine ay l ?_ (AD _);unfold execOp;simp[j,g,f,eqGuard,binOp,Op.intCmp]
def aa8 (C:Inv B J φ h w)(r:o.op = .binOp op tx x y ty){j :IntKind}{m:Int}(p:a.eval x = .int k m)(l:a.eval y = .int j n){wr:Option (Pos×EO)}(f:(shI op k m n).run h=some (out,wr)):OkX P B J φ h w o a out wr:=by
 unfold shI at f;by_cases g:n<0
 ·simp[g,Q.run]at f
 ·simp[g]at f;cases op <;> first|(cases f;done)|skip
  all_goals (rw[cR]at f;cases f;refine ay C ?_ (dv _ _);unfold execOp;simp[r,p,l,eqGuard,binOp,Op.shift,g])
def bytes_toList (l:List UInt8):(⟨l.toArray⟩:ByteArray).toList=l:=by rw[ByteArray.toList_eq]
def gI {b:Nat}(h:okStr (b::s)=true):b<256∧okStr s=true:=by simp only[okStr,t?,ι]at h;exact⟨cx.1 h.1,h.2⟩
def PE {b:Nat}(h:b<256)(f:okStr s=true):okStr (b::s)=true:=by simp only[okStr,t?,ι];exact⟨cx.2 h,f⟩
def Cx {a b:Nat}(g:a<256)(f:b<256)(h:UInt8.ofNat a=UInt8.ofNat b):a=b:=by have:=d_ UInt8.toNat h;simpa[akt g,akt f]using this
def CB:∀{a b:List Nat},okStr a=true→okStr b=true→lsEq a b=(a.map UInt8.ofNat == b.map UInt8.ofNat)
 |[],[],_,_=>rfl
 |[],_::_,_,_=>rfl
 |_::_,[],_,_=>rfl
 |x::a,y::b,ha,f=>by
  obtain⟨r,p⟩:=gI ha;obtain⟨l,j⟩:=gI f;have g:=CB p j;simp only[lsEq,a?];by_cases e:x=y
  ·subst e;have:Nat.beq x x=true:=akz x;rw[this,I',g];simp
  ·have:Nat.beq x y=false:=by cases f:Nat.beq x y with|false=>rfl|true=>exact absurd (κ f) e
   rw[this,H_];symm;simp;exact λq=>absurd (Cx r l q) e
def Kc:∀{a b:List Nat},okStr a=true→okStr b=true→TO a b=Op.bytesLess (a.map UInt8.ofNat) (b.map UInt8.ofNat)
 |[],[],_,_=>rfl
 |[],_::_,_,_=>rfl
 |_::_,[],_,_=>rfl
 |x::a,y::b,ha,g=>by
  obtain⟨p,J⟩:=gI ha;obtain⟨l,C⟩:=gI g;have r:=Kc J C;simp[TO,Op.bytesLess];have f:(UInt8.ofNat x<UInt8.ofNat y)↔x<y:=by rw[UInt8.lt_iff_toNat_lt];simp[akt p,akt l]
  by_cases e:x<y
  ·rw[show Nat.blt x y=true from cx.2 e];simp[f.2 e]
  ·rw[show Nat.blt x y=false from agK e];have:¬UInt8.ofNat x<UInt8.ofNat y:=λq=>e (f.1 q);simp[this];by_cases j:x=y
   ·subst j;rw[show Nat.beq x x=true from akz x];simp[r]
   ·rw[show Nat.beq x y=false by cases g:Nat.beq x y with|false=>rfl|true=>exact absurd (κ g) j];have:¬UInt8.ofNat x=UInt8.ofNat y:=λq=>j (Cx p l q);simp[this]
def Mw {a b:List Nat}(g:okStr a=true)(f:okStr b=true):okStr (a++b)=true:=by simp only[okStr,List.all_append,ι];exact⟨g,f⟩
def Tu {a:List Nat}(n:Nat)(g:okStr a=true):okStr (a.take n)=true:=by simp[okStr]at *;exact λb f=>g b (W? f)
def GF {a:List Nat}(n:Nat)(g:okStr a=true):okStr (a.drop n)=true:=by simp[okStr]at *;exact λb f=>g b (aj2 f)
def Oy (a b:List Nat):strV (a++b) = .string ((⟨(a.map UInt8.ofNat).toArray⟩:ByteArray)++⟨(b.map UInt8.ofNat).toArray⟩):=by unfold strV;congr 1;apply ali;simp
def v6 (a:List Nat):(⟨(a.map UInt8.ofNat).toArray⟩:ByteArray).size=a.length:=by simp[ByteArray.size]
def aeP (U:Inv B J φ h w)(R:o.op = .binOp op tx x y ty){m n:List Nat}(j:okStr m=true)(g:okStr n=true)(C:a.eval x=strV m)(r:a.eval y=strV n){wr:Option (Pos×EO)}(f:(adw op m n).run h=some (out,wr)):OkX P B J φ h w o a out wr:=by
 have p:=CB j g;have l:=Kc j g;cases op <;> simp[adw]at f <;> first|(cases f;done)|skip
 case add=>
  by_cases T:m.length+n.length<4294967296
  ·rw[show Nat.blt (m.length+n.length) 4294967296=true from cx.2 T,I']at f;cases f;refine ay U ?_ (yJ (Mw j g));rw[Oy];unfold execOp;simp only[R,C,r,strV,eqGuard,binOp,Op.stringOp,v6];simp;omega
  ·rw[show Nat.blt (m.length+n.length) 4294967296=false from agK T]at f;cases f
 all_goals (rw[zV]at f;cases f;refine ay U ?_ (AD _);unfold execOp;simp[R,C,r,strV,eqGuard,binOp,Op.stringOp,p,l])
def aiJ (p:Inv B J φ h w){op:UnOp}{t:TypeId}(l:o.op = .unOp op t x)(r:RTs φ C [a.eval x]){wr:Option (Pos×EO)}(g:(eUn op C f).run h=some (out,wr)):OkX P B J φ h w o a out wr:=by
 unfold eUn at g;split at g
 ·obtain⟨v,e,j⟩:=r.one;cases e;split at g
  ·rw[zV]at g;cases g;refine ay p ?_ (AD _);unfold execOp;simp[l,JL j,Op.unary]
  ·rw[cR]at g;cases g;refine ay p ?_ (dv _ _);unfold execOp;simp[l,dL j,Op.unary,Op.intArith]
  ·rw[cR]at g;cases g;refine ay p ?_ (dv _ _);unfold execOp;simp[l,dL j,Op.unary,Op.intBits]
  ·cases g
 ·cases g
def aeN (U:Inv B J φ h w){s t:TypeId}(T:o.op = .convert s t x){j:IntKind}(r:P.underlying s=some (.int j))(p:P.underlying t=some (.int k))(l:RTs φ C [a.eval x]){wr:Option (Pos×EO)}(g:(Q8 k C f).run h=some (out,wr)):OkX P B J φ h w o a out wr:=by
 unfold Q8 at g;split at g
 ·obtain⟨v,e,R⟩:=l.one;cases e;split at g
  ·rw[cR]at g;cases g;refine ay U ?_ (dv _ _);unfold execOp;simp[T,dL R,convert,η r,η p,Conv.intToInt]
  ·cases g
 ·cases g
end
variable [SymVal]
def Wx {φ:Gx}:∀{l:List CV},(∀c∈l,∃v,den φ c=some v)→∃vs,dens φ l=some vs
 |[],_=>⟨[],rfl⟩
 |c::l,h=>by obtain⟨v,g⟩:=h c Ψ;obtain⟨vs,j⟩:=Wx (l:=l) λx f=>h x (by simp[f]);exact⟨v::vs,xb g j⟩
def pX (b f j:Nat):(⟨b,f,none⟩:Addr).add j=⟨b,f+j,none⟩:=by unfold Addr.add;split <;> simp_all
section
variable {P:Program}{B:Nat}{J:W0}{φ:Gx}{h:Pos→EO}{w:World}{o:Oper}{a:Act}
variable{k f:Pos}{off:Nat}{cs:List CV}{l:Loc}{t:TypeId}{b:Bool}{C:List TV}{out:TV}{news:List Value}
def Inv.rd (hI:Inv B J φ h w){g m:Nat}(f:F9 (h k) g off m=some cs)(hl:φ.loc k g=some l) :
  ∃vs,dens φ cs=some vs∧cs.length=m∧(∀j u,vs[j]? = some u→w.cell? ((⟨l.b,off,none⟩:Addr).add j)=some u)∧∃e len C fz s el,h k = .row e s el len C fz∧l.s=s∧0<s:=by
 have ho:=hI.obj k;unfold F9 at f;split at f
 next e s el len C fz hk=>
  rw[hk]at ho;obtain⟨h0,_,_,h2,h3⟩:=ho;cases R:(Nat.ble g C&&Nat.blt (off/s) len)with
  |false=>rw[R]at f;cases f
  |true=>
   rw[R,I']at f;simp[bp,cx]at R;obtain⟨c1,c2⟩:=R;split at f;rename_i p mm U;cases hd:(Nat.ble mm g&&Nat.ble (off%s+m) s)with
   |false=>rw[hd]at f;cases f
   |true=>
    rw[hd,I']at f;simp[bp]at hd;obtain⟨d1,d2⟩:=hd;cases f;obtain⟨l',q1,⟨q2,q3,arr,fr,q4,q5,q6,q7⟩,q8⟩:=h3 g c1;rw[q1]at hl;injection hl with hl;subst hl;obtain⟨r1,r2,r3⟩:=q7 (off/s) c2 (by rw[U];exact d1);rw[U]at r2 r3;have hdm:off/s*s+off%s=off:=by rw[Y?];exact ak9 off s
    have pt:∀(j:Nat) (c:CV),((p.drop (off%s)).take m)[j]? = some c→∃v,arr[off+j]? = some v∧den φ c=some v:=λj c r=>by
     rw[O']at r;split at r
     ·rw[h_]at r;obtain⟨v,z1,z2⟩:=r3 _ _ r;rw[←Nat.add_assoc,hdm]at z1;exact⟨v,z1,z2⟩
     ·cases r
    obtain⟨vs,P⟩:=Wx (φ:=φ) (l:=(p.drop (off%s)).take m) λc R=>by obtain⟨j,r⟩:=Y_ R;obtain⟨v,_,z⟩:=pt j c r;exact⟨v,z⟩
    have T:((p.drop (off%s)).take m).length=m:=by rw[g_,ak4];have r2:p.length=s:=r2;omega
    refine⟨vs,P,T,λj u hu=>?_,e,len,C,fz,s,el,hk,q3,h0⟩;have r:j<((p.drop (off%s)).take m).length:=by rw[←bc P];exact(S'.1 hu).1
    obtain⟨v,z1,z2⟩:=pt j _ (ε r);obtain⟨v',z3,z4⟩:=nO P (ε r);rw[hu]at z3;cases z3;rw[z2]at z4;cases z4;rw[pX,akF w l'.b _ arr e fr q4];exact z1
 ·cases f
def ad4 (f:av P t≠0):∃i,P.info? t=some i∧i.size=av P t:=by
 unfold av at f⊢;split at f
 next i g=>exact⟨i,g,rfl⟩
 ·exact absurd rfl f
def aK (f:av P t≠0)(w:World):(sizeOf t).run P w = .ok (av P t) w:=by obtain⟨i,g,e⟩:=ad4 f;simp[sizeOf,typeInfo,g,e]
def cB (f:nk (P.underlying t)=some b)(w:World):(isAgg t).run P w = .ok b w:=by
 cases g:P.underlying t with
 |none=>rw[g]at f;cases f
 |some d =>rw[g]at f;simp[isAgg,ν,η g];cases d <;> simp[nk]at f <;> subst f <;> rfl
def aeF (U:Inv B J φ h w){x:Operand}(ho:o.op = .load t x)(hs:av P t≠0)(hb:nk (P.underlying t)=some b)(hv:RTs φ C [a.eval x]){wr:Option (Pos×EO)}(j:(HK (av P t) b C f).run h=some (out,wr)):OkX P B J φ h w o a out wr:=by
 unfold HK at j;split at j
 ·obtain⟨v,e,hr⟩:=hv.one;cases e;split at j
  next k g off=>
   simp[Q.run]at j;split at j
   ·rename_i cs T;obtain⟨l,hl,e⟩:=iB hr;obtain⟨vs,q1,q2,q3,_⟩:=U.rd T hl;have R:vs.length=av P t:=by rw[bc q1,q2]
    unfold XV at j;split at j
    ·rename_i p r;cases j;unfold LA at r;cases b with
     |true =>cases r;refine ay U (v :=.agg vs.toArray) ?_ (by show denP φ (.agg cs)=_;simp[denP,q1]);unfold execOp;have:=ajJ (P:=P) w ⟨l.b,off,none⟩ vs q3;rw[R]at this;simp[ho,e,Instr.loadAt,Instr.sureAddr,loadVar,cB hb,aK hs,this]
     |false=>
      simp only at r;split at r
      next c=>cases r;obtain⟨v,ws,rfl,z1,z2⟩:=bQ q1;refine ay U (v:=v) ?_ z1;unfold execOp;have hc:=q3 0 v rfl;rw[show((⟨l.b,off,none⟩:Addr).add 0)=⟨l.b,off,none⟩by simp[Addr.add]]at hc;simp[ho,e,Instr.loadAt,Instr.sureAddr,loadVar,cB hb,run_load,hc]
      ·cases r
    ·cases j
   ·cases j
  ·cases j
 ·cases j
def Sl {new:List CV}{j:Nat}(f:off+new.length≤cs.length):(dj cs off new)[j]? = if off≤j∧j<off+new.length then new[j-off]? else cs[j]?:=by
 unfold dj;by_cases g:j<off
 ·rw[B' Ω,D_,Θ (by rw[g_];omega),O',q' g]
 ·by_cases l:j<off+new.length
  ·rw[q' Ω,D_,T' (by rw[g_];omega),g_,ajG Ω,Θ Ω]
  ·rw[B' Ω,T' (by rw[Y',g_];omega),Y',g_,ajG Ω,h_];congr 1;omega
def Sk {new:List CV}(f:off+new.length≤cs.length):(dj cs off new).length=cs.length:=by unfold dj;simp;omega
def zp {f:Array Value}{j:Nat}(g:off+news.length≤f.size):(f.toList.take off++news++f.toList.drop (off+news.length)).toArray[j]? = if off≤j∧j<off+news.length then news[j-off]? else f[j]?:=by
 rw[z?];have l:f.toList.length=f.size:=ω;by_cases p:j<off
 ·rw[B' Ω,D_,Θ (by rw[g_];omega),O',q' p,k_]
 ·by_cases r:j<off+news.length
  ·rw[q' Ω,D_,T' (by rw[g_];omega),g_,ajG Ω,Θ Ω]
  ·rw[B' Ω,T' (by rw[Y',g_];omega),Y',g_,ajG Ω,h_,k_];congr 1;omega
def Inv.wr (hI:Inv B J φ h w){g:Nat}{new:List CV}{o':EO}(hr:E4 (h k) g off new=some o')(hl:φ.loc k g=some l)(hn:dens φ new=some news) :
  ∃p e,w.heap[l.b]? = some (.cells p e (0,0))∧off+news.length≤p.size∧Inv B J φ (upd h k o') (w.setRow l.b (p.toList.take off++news++p.toList.drop (off+news.length)).toArray):=by
 have ho:=hI.obj k;have hnl:=bc hn;unfold E4 at hr;split at hr
 next e s el len gen fz hk=>
  rw[hk]at ho;obtain⟨h0,h1,hm,h2,h3⟩:=ho;cases hc:(Nat.beq g gen&&Nat.blt (off/s) len&&Nat.ble (off%s+new.length) s&&QF fz)with
  |false=>rw[hc]at hr;cases hr
  |true=>
   rw[hc,I']at hr;simp[bp,cx]at hc;obtain⟨⟨⟨rfl,c2⟩,c3⟩,c4⟩:=hc;have c4:fz = .no:=by cases fz <;> first|rfl|cases c4
   subst c4;split at hr;rename_i R mm hch;cases hr;obtain⟨l',q1,⟨q2,q3,p,fr,q4,q5,q6,q7⟩,q8⟩:=h3 g (ζ _);rw[q1]at hl;injection hl with hl;subst hl;have q6:fr=(0,0):=q6;subst q6;have hmc:=hm _ c2;rw[hch]at hmc;obtain⟨r1,r2,r3⟩:=q7 (off/s) c2 (by rw[hch];exact hmc);rw[hch]at r2 r3;have r2:R.length=s:=r2;have hdm:off/s*s+off%s=off:=by rw[Y?];exact ak9 off s
   have P:off+news.length≤p.size:=by have h5:(off/s+1)*s≤l'.n*s:=l_ s r1;have h6:(off/s+1)*s=off/s*s+s:=d? _ _;rw[q5,hnl];omega
   refine⟨p,e,q4,P, ?_⟩;refine hI.turn (ψ:=φ) (Gx.le.refl φ) (λ_ _=>⟨λ_=>rfl,rfl,rfl⟩) (λg1 l1 x=>.inl ⟨g1,l1,x,rfl⟩) (λb hb hne=>akc w l'.b b _ (λe=>hne g l' q1 e.symm)) ?_ rfl rfl rfl (by simp[World.setRow]) (ζ _) ?_
   ·intro g1 l1 z1 ob z2 z3;obtain hgt|hle:=Z' g g1
    ·rw[h2 g1 hgt]at z1;cases z1
    ·obtain⟨l2,y1,⟨y2,y3,arr2,fr2,U,_⟩,_⟩:=h3 g1 hle;rw[y1]at z1;cases z1;rw[U]at z2;cases z2;cases z3
   ·have C:∀i,(el.set dch 32 (off/s) ⟨dj R (off%s) new,g⟩).get dch i=if off/s=i then⟨dj R (off%s) new,g⟩else el.get dch i:=λi=>PT.get_set dch _ 32 el (off/s) i Ω
    refine⟨h0,h1,λi hi=>?_,h2,λg1 hg1=>?_⟩
    ·rw[C];split
     ·exact ζ _
     ·exact hm i hi
    ·obtain⟨l2,y1,⟨y2,y3,arr2,fr2,U,y5,y6,y7⟩,y8⟩:=h3 g1 hg1;refine⟨l2,y1, ?_,y8⟩;by_cases hb:l2.b=l'.b
     ·rw[hb,q4]at U;injection U with U;injection U with U _ y6';subst U;subst y6';have hsz:(p.toList.take off++news++p.toList.drop (off+news.length)).toArray.size=p.size:=by
       simp;omega
      refine⟨by rw[hb];exact q2,y3,_,(0,0),by rw[hb];exact akD w l'.b p _ e _ q4,by rw[hsz];exact y5,rfl,λi hi f=>?_⟩;rw[C]at f⊢;by_cases r:off/s=i
      ·rw[q' r]at f⊢;have:g1=g:=ak8 hg1 f;subst this;rw[q1]at y1;cases y1;subst r;refine⟨r1,by show(dj R (off%s) new).length=s;rw[Sk Ω];exact r2,λj c T=>?_⟩;have T:(dj R (off%s) new)[j]? = some c:=T;rw[Sl Ω]at T;rw[zp P];by_cases hin:off%s≤j∧j<off%s+new.length
       ·rw[q' hin]at T;obtain⟨v,z1,z2⟩:=nO hn T;refine⟨v, ?_,z2⟩;rw[q' (by rw[hnl];omega),show off/s*s+j-off=j-off%s by omega];exact z1
       ·rw[B' hin]at T;rw[B' (by rw[hnl];omega)];exact r3 j c T
      ·rw[B' r]at f⊢;obtain⟨x1,x2,x3⟩:=y7 i hi f;refine⟨x1,x2,λj c T=>?_⟩;have hjs:j<s:=by
        have:=(S'.1 T).1;omega
       have hne:¬(off≤i*s+j∧i*s+j<off+news.length):=by
        rw[hnl];intro hx;rcases Z' i (off/s)with hlt|hge
        ·have h5:(i+1)*s≤off/s*s:=l_ s hlt;have h6:(i+1)*s=i*s+s:=d? _ _;omega
        ·have h5:(off/s+1)*s≤i*s:=l_ s Ω;have h6:(off/s+1)*s=off/s*s+s:=d? _ _;omega
       rw[zp P,B' hne];exact x3 j c T
     ·refine⟨y2,y3,arr2,fr2,by rw[akc w l'.b l2.b _ hb];exact U,y5,y6,λi hi f=>?_⟩;rw[C]at f⊢;by_cases r:off/s=i
      ·rw[q' r]at f;have:g1=g:=ak8 hg1 f;subst this;rw[q1]at y1;cases y1;exact absurd rfl hb
      ·rw[B' r]at f⊢;exact y7 i hi f
 ·cases hr
def GA (hI:Inv B J φ h w){x y:Operand}(ho:o.op = .store t x y)(hs:av P t≠0)(hv:RTs φ C [a.eval x,a.eval y]){wr:Option (Pos×EO)}(j:(CR (av P t) C f).run h=some (out,wr)):OkX P B J φ h w o a out wr:=by
 unfold CR at j;split at j
 ·obtain⟨v1,ws,e,hr1,hr2⟩:=hv.cons;obtain⟨v2,e2,U⟩:=hr2.one;subst e2;simp at e;obtain⟨e1,e2⟩:=e;subst e1;subst e2;split at j
  next k g off p=>
   cases R:Nat.beq p.cells.length (av P t)with
   |false=>rw[R]at j;cases j
   |true=>
    rw[R,I']at j;have R:=ry.1 R;simp[Q.run]at j;split at j
    ·rename_i o' hw;cases j;obtain⟨l,hl,e⟩:=iB hr1;have hd:=db U;obtain⟨arr,e',z1,z2,z3⟩:=hI.wr hw hl hd;refine Ey ?_ (Gx.le.refl φ) z3 (Dc hw);have T:(a.eval y).cells.size=av P t:=by
      have:=bc hd;rw[←R,←this,ω]
     have r:=ako P l.b off e' (a.eval y).cells.toList 0 arr w z1 (by simpa using z2) (HS hd);simp at r;unfold execOp;simp[ho,e,Instr.storeAt,Instr.sureAddr,storeVar,aK hs,T,r]
    ·cases j
  ·cases j
 ·cases j
end
variable [SymVal]
def U7:∀l:List UInt8,(l.map UInt8.toNat).map UInt8.ofNat=l
 |[]=>rfl
 |b::l=>by simp[U7 l,UInt8.ofNat_toNat]
def PD:∀l:List UInt8,okStr (l.map UInt8.toNat)=true
 |[]=>rfl
 |b::l=>PE (UInt8.toNat_lt b) (PD l)
variable{v:Value}
def HY {c:CV}(h:afJ v=some c)(φ:Gx):den φ c=some v:=by
 unfold afJ at h;split at h;all_goals first|(simp at h;subst h)|skip
 all_goals first|rfl|skip
 next s=>simp only[den,PD,i?,strV,U7]
 next f a b=>
  split at h
  next hab=>cases h;simp only[den];have j:a = #[]:=l? hab.1;have g:b = #[]:=l? hab.2;rw[j,g]
  ·cases h
 ·cases h
def D6:∀{l:List Value} {f:List CV},WB l=some f→∀φ,dens φ f=some l
 |[],f,h,φ=>by cases h;rfl
 |v::l,f,h,φ=>by
  simp[WB]at h;split at h
  next c r h1 h2=>cases h;exact xb (HY h1 φ) (D6 h2 φ)
  ·cases h
def Gc {p:PV}(h:aeo v=some p)(φ:Gx):denP φ p=some v:=by
 unfold aeo at h;split at h
 next cs=>
  split at h
  next l hl=>cases h;simp[denP,D6 hl φ]
  ·cases h
 ·split at h
  next c hc=>cases h;exact HY hc φ
  ·cases h
section
variable {P:Program}{B:Nat}{J:W0}{φ:Gx}{h:Pos→EO}{w:World}{o:Oper}{a:Act}
variable{t e:TypeId}{cs:List CV}{f:Pos}{C:List TV}{out:TV}{x y:Operand}{n:Nat}{T:Array Field}{fd:Field}{vs:List Value}{b:Bool}
def gM {z:PV}(f:eC P t=some z):∃i v,P.info? t=some i∧i.zero=some v∧∀φ,denP φ z=some v:=by
 unfold eC at f;split at f
 next i j=>
  split at f
  next v g=>exact⟨i,v,j,g,λφ=>Gc f φ⟩
  ·cases f
 ·cases f
def Inv.box (C:Inv B J φ h w){k:Pos}(P:h k = .none){f:Array Value}(T:dens φ cs=some f.toList)(U:0<cs.length) :
  ∃ψ,φ.le ψ∧Inv B J ψ (upd h k (.row e cs.length (.node .leaf ⟨cs,0⟩ .leaf) 1 0 .no)) (w.alloc (.cells f e))∧RT ψ (.pv (.one (.ptr k 0 0))) (.pointer (some ⟨w.heap.size,0,none⟩)):=by
 have p:=C.le_add P ⟨w.heap.size,1,cs.length⟩;have r:f.size=cs.length:=by rw[←Array.length_toList,bc T]
 refine⟨_,p,C.new P (l:=⟨w.heap.size,1,cs.length⟩) rfl ⟨U,by decide,λi R=>?_,λg hg=>?_,λg hg=>⟨⟨w.heap.size,1,cs.length⟩, ?_,⟨C.size,rfl,f,(0,0),n? w _,by simp[r],rfl,λi R _=>⟨R, ?_⟩⟩,λ_=>ζ _⟩⟩, ?_⟩
 ·obtain rfl:i=0:=Ω
  exact ζ _
 ·simp only[Gx.add,i?];rw[B' Ω]
 ·obtain rfl:g=0:=Ω
  exact Gx.add_self _ _ _
 ·obtain rfl:i=0:=Ω
  refine⟨rfl,λj c hj=>?_⟩;obtain⟨v,h1,h2⟩:=nO T hj;exact⟨v,by simpa using h1,dY p h2⟩
 ·show den _ (.ptr k 0 0)=_;simp[den,Gx.add_self]
def FP {v:Value}(w:World):(newVar t v).run P w = .ok ⟨w.heap.size,0,none⟩ (w.alloc (.cells v.cells t)):=by rfl
def GE (R:Inv B J φ h w){z:PV}(p:o.op = .alloc e)(l:eC P e=some z)(hs:z.cells.length≠0)(r:h f = .none){wr:Option (Pos×EO)}(g:(M6 e z.cells C f).run h=some (out,wr)):OkX P B J φ h w o a out wr:=by
 unfold M6 at g;split at g
 ·cases g;obtain⟨i,v,h1,U,T⟩:=gM l;obtain⟨ψ,q1,q2,j⟩:=R.box r (e:=e) (db (T φ)) Ω;refine i3 ?_ q1 q2 j;unfold execOp;simp[p,Instr.alloc,zeroValue,typeInfo,h1,U,FP]
 ·cases g
def Tr (hI:Inv B J φ h w)(T:o.op = .box e x)(hs:av P e≠0)(U:h f = .none)(r:RTs φ C [a.eval x]){wr:Option (Pos×EO)}(g:(acz e (av P e) C f).run h=some (out,wr)):OkX P B J φ h w o a out wr:=by
 unfold acz at g;split at g
 ·obtain⟨v,e1,R⟩:=r.one;cases e1;split at g
  next p=>
   cases j:Nat.beq p.cells.length (av P e)with
   |false=>rw[j]at g;cases g
   |true =>rw[j,I']at g;have j:=ry.1 j;cases g;obtain⟨ψ,q1,q2,l⟩:=hI.box U (e:=e) (db R) Ω;rw[j]at q2;refine i3 ?_ q1 q2 l;unfold execOp;simp[T,Instr.box,FP]
  ·cases g
 ·cases g
def X9 (R:Inv B J φ h w)(p:o.op = .nilCheck x)(r:RTs φ C [a.eval x]){wr:Option (Pos×EO)}(j:(Bz C f).run h=some (out,wr)):OkX P B J φ h w o a out wr:=by
 unfold Bz at j;split at j
 ·obtain⟨v,e,g⟩:=r.one;cases e;split at j;all_goals first|(cases j;done)|skip
  all_goals (cases j;refine ay R (v:=a.eval x) ?_ g;unfold execOp)
  ·obtain⟨l,_,e⟩:=iB g;simp[p,e]
  ·have e:some (Value.pointer (some ⟨_,0,none⟩))=some (a.eval x):=g;simp at e;simp[p,←e]
  ·have e:some (Value.func (.func _) #[] #[])=some (a.eval x):=g;simp at e;simp[p,←e]
  next k=>
   have g:den φ (.ifc k)=some (a.eval x):=g;simp[den]at g;split at g
   ·simp at g;simp[p,←g]
   ·cases g
 ·cases j
def aeM (hI:Inv B J φ h w){s:TypeId}(ho:o.op = .fieldAddr s x n)(U:P.underlying s=some (.struct T))(hn:T[n]? = some fd)(r:av P fd.type≠0)(R:RTs φ C [a.eval x]){wr:Option (Pos×EO)}(j:(Q7 fd.offset C f).run h=some (out,wr)):OkX P B J φ h w o a out wr:=by
 unfold Q7 at j;split at j
 ·obtain⟨v,e,hr⟩:=R.one;cases e;split at j
  next k g p=>cases j;obtain⟨l,hl,e⟩:=iB hr;refine ay hI (v :=.pointer (some ⟨l.b,p+fd.offset,none⟩)) ?_ (by show den φ (.ptr k g (p+fd.offset))=_;simp[den,hl]);unfold execOp;simp[ho,e,Instr.fieldAt,η U,hn,Instr.sureAddr,fieldPlace,aK r,r,pX]
  ·cases j
 ·cases j
def ael {f s:Nat}{p:PV}(r:dens φ cs=some vs)(j:LA b ((cs.drop f).take s)=some p)(T:f+s≤cs.length)(R:av P t≠0)(J:av P t=s)(C:nk (P.underlying t)=some b)(w:World):∃v,(part t vs.toArray f).run P w = .ok v w∧denP φ p=some v:=by
 have g:=lX s (jx f r);have l:=bc r;subst J;cases b with
 |true =>cases j;refine⟨.agg ((vs.drop f).take (av P t)).toArray, ?_,by simp[denP,g]⟩;simp only[part,ν,cB C,χ,i?,aK R,j_];congr 2;apply B_;simp
 |false=>
  simp[LA]at j;split at j
  next c hc=>
   cases j;rw[hc]at g;obtain⟨v,ws,e1,h1,h2⟩:=bQ g;have U:vs[f]? = some v:=by
    have:((vs.drop f).take (av P t))[0]? = some v:=by rw[e1];rfl
    rw[O']at this;split at this
    ·simpa[h_]using this
    ·cases this
   refine⟨v, ?_,h1⟩;simp[part,ν,cB C,U]
  ·cases j
def aho (hI:Inv B J φ h w)(ho:o.op = .field t x n)(R:P.underlying t=some (.struct T))(hn:T[n]? = some fd)(l:av P fd.type≠0)(hb:nk (P.underlying fd.type)=some b)(r:RTs φ C [a.eval x]){wr:Option (Pos×EO)}(g:(acx fd.offset (av P fd.type) b C f).run h=some (out,wr)):OkX P B J φ h w o a out wr:=by
 unfold acx at g;split at g
 ·obtain⟨v,e,U⟩:=r.one;cases e;split at g
  next cs=>
   cases j:Nat.ble (fd.offset+av P fd.type) cs.length with
   |false=>rw[j]at g;cases g
   |true=>
    rw[j,I']at g;have j:=bp.1 j;unfold XV at g;split at g
    next p hp=>cases g;obtain⟨vs,e,hd⟩:=yw U;obtain⟨v,h1,h2⟩:=ael (P:=P) hd hp j l rfl hb w;refine ay hI (v:=v) ?_ h2;unfold execOp;simp[ho,e,Instr.field,η R,hn,asAgg,h1]
    ·cases g
  ·cases g
 ·cases g
def aeK (hI:Inv B J φ h w)(ho:o.op = .indexAddr t x y)(hs:P.underlying t=some (.slice e))(hz:av P e≠0)(hv:RTs φ C [a.eval x,a.eval y]){wr:Option (Pos×EO)}(j:(KP (av P e) C f).run h=some (out,wr)):OkX P B J φ h w o a out wr:=by
 unfold KP at j;split at j
 ·obtain⟨v1,ws,p,hr1,hr2⟩:=hv.cons;obtain⟨v2,R,U⟩:=hr2.one;subst R;simp at p;obtain⟨p,R⟩:=p;subst p;subst R;split at j
  next k g T n cap ik i=>
   cases r:Nat.blt i n with
   |false=>rw[r]at j;cases j
   |true =>rw[r,I']at j;have r:=cx.1 r;cases j;obtain⟨l,hl,p⟩:=JK hr1;have R:=dL U;refine ay hI (v :=.pointer (some ⟨l.b,T+i*av P e,none⟩)) ?_ (by show den φ (.ptr k g _)=_;simp[den,hl]);unfold execOp;simp[ho,p,R,Instr.indexAt,asIntOf,η hs,aK hz,pX,r]
  ·cases j
 ·cases j
def aeL (hI:Inv B J φ h w){m:Nat}(ho:o.op = .indexAddr t x y)(hs:P.underlying t=some (.array m e))(hz:av P e≠0)(hv:RTs φ C [a.eval x,a.eval y]){wr:Option (Pos×EO)}(j:(Q6 m (av P e) C f).run h=some (out,wr)):OkX P B J φ h w o a out wr:=by
 unfold Q6 at j;split at j
 ·obtain⟨v1,ws,p,hr1,hr2⟩:=hv.cons;obtain⟨v2,R,U⟩:=hr2.one;subst R;simp at p;obtain⟨p,R⟩:=p;subst p;subst R;split at j
  next k g T ik i=>
   cases r:Nat.blt i m with
   |false=>rw[r]at j;cases j
   |true =>rw[r,I']at j;have r:=cx.1 r;cases j;obtain⟨l,hl,p⟩:=iB hr1;have R:=dL U;refine ay hI (v :=.pointer (some ⟨l.b,T+i*av P e,none⟩)) ?_ (by show den φ (.ptr k g _)=_;simp[den,hl]);unfold execOp;simp[ho,p,R,Instr.indexAt,asIntOf,Instr.sureAddr,η hs,aK hz,pX,r]
  ·cases j
 ·cases j
def aeJ (hI:Inv B J φ h w)(ho:o.op = .index t x y)(hs:P.underlying t=some .string)(hv:RTs φ C [a.eval x,a.eval y]){wr:Option (Pos×EO)}(g:(KO C f).run h=some (out,wr)):OkX P B J φ h w o a out wr:=by
 unfold KO at g;split at g
 ·obtain⟨v1,ws,l,hr1,U⟩:=hv.cons;obtain⟨v2,R,T⟩:=U.one;subst R;simp at l;obtain⟨l,R⟩:=l;subst l;subst R;split at g
  next b ik i=>
   split at g
   ·rename_i c r p;rw[cR]at g;cases g;obtain⟨h1,l⟩:=pH hr1;have R:=dL T;have j:i<b.length:=by
     obtain q|q:=Z' i b.length
     ·exact q
     ·rw[akA q]at p;cases p
    have hg:b[i]=c:=by rw[akm j]at p;injection p
    have hc256:c<256:=by have:=GF i h1;rw[p]at this;exact(gI this).1
    refine ay hI (v :=.int .u8 (Int.ofNat c)) ?_ (dv _ _);have hb:(⟨(b.map UInt8.ofNat).toArray⟩:ByteArray)[i]? = some (UInt8.ofNat c):=by
     rw[getElem?_pos (⟨(b.map UInt8.ofNat).toArray⟩:ByteArray) i (by simpa[ByteArray.size]using j)];have:(⟨(b.map UInt8.ofNat).toArray⟩:ByteArray)[i]'(by simpa[ByteArray.size]using j)=UInt8.ofNat b[i]:=by show(b.map UInt8.ofNat).toArray[i]'(by simpa using j)=_;simp
     rw[this,hg]
    unfold execOp;simp[ho,l,R,strV,Instr.index,asIntOf,η hs,hb];omega
   ·cases g
  ·cases g
 ·cases g
def ahp (hI:Inv B J φ h w)(U:o.op = .extract x n)(j:RTs φ C [a.eval x]){wr:Option (Pos×EO)}(g:(Zc n C f).run h=some (out,wr)):OkX P B J φ h w o a out wr:=by
 unfold Zc at g;split at g
 ·obtain⟨v,e,R⟩:=j.one;cases e;split at g
  next l=>
   split at g
   ·rename_i p r hd;cases g;obtain⟨vs,h1,e⟩:=R;have T:l[n]? = some p:=by
     have:(l.drop n)[0]? = some p:=by rw[hd];rfl
     simpa[h_]using this
    obtain⟨v,h2,h3⟩:=KU h1 T;refine ay hI (v:=v) ?_ h3;unfold execOp;simp[U,e,Instr.extract,h2]
   ·cases g
  ·cases g
 ·cases g
def Rh {l:List PV}(n:Nat)(h:cv φ l=some vs):cv φ (l.take n)=some (vs.take n)∧cv φ (l.drop n)=some (vs.drop n):=by
 induction l generalizing n vs with
 |nil=>cases h;simp[cv]
 |cons p l f=>
  obtain⟨v,J,rfl,C,r⟩:=gL h;cases n with
  |zero=>exact⟨by simp[cv],h⟩
  |succ n =>obtain⟨j,g⟩:=f n r;exact⟨bI C j,g⟩
def ahk (R:Inv B J φ h w){fn:Fn}{first g:Array Operand}(ho:o.op = .makeFunc fn first g)(r:h f = .none)(hv:RTs φ C ((first.toList++g.toList).map a.eval)){wr:Option (Pos×EO)}(p:(afy fn first.size C f).run h=some (out,wr)):OkX P B J φ h w o a out wr:=by
 unfold afy at p;split at p
 next l hl=>
  cases p;have hd:=JS hl hv;obtain⟨U,T⟩:=Rh first.size hd
  have t1:((first.toList++g.toList).map a.eval).take first.size=first.toList.map a.eval:=by rw[M_,List.take_left' Ψ]
  have t2:((first.toList++g.toList).map a.eval).drop first.size=g.toList.map a.eval:=by rw[M_,List.drop_left' Ψ]
  rw[t1]at U;rw[t2]at T;have j:=R.le_addV r (.func fn (first.toList.map a.eval).toArray (g.toList.map a.eval).toArray);refine i3 (v :=.func fn (first.toList.map a.eval).toArray (g.toList.map a.eval).toArray) ?_ j (R.newV r ⟨(R.free r).1,_,_,da j U,da j T,Gx.addV_self _ _ _⟩) (by show den _ (.clo f)=_;simp[den,Gx.addV_self]);unfold execOp;have e1:first.map a.eval=(first.toList.map a.eval).toArray:=B_ Ψ
  have e2:g.map a.eval=(g.toList.map a.eval).toArray:=B_ Ψ;simp[ho,Instr.makeFunc,e1,e2]
 ·cases p
def agt (hI:Inv B J φ h w){cl:Call}{big:Bool}(ho:o.op = .call cl)(U:cl.callee = .builtin (match big with|true=>.max|false=>.min))(j:cl.args = #[x,y])(hv:RTs φ C [a.eval x,a.eval y]){wr:Option (Pos×EO)}(g:(eMx big C f).run h=some (out,wr)):OkX P B J φ h w o a out wr:=by
 unfold eMx at g;split at g
 ·obtain⟨v1,ws,l,T,R⟩:=hv.cons;obtain⟨v2,p,r⟩:=R.one;subst p;simp at l;obtain⟨l,p⟩:=l;subst l;subst p;split at g
  next k m k' n=>
   cases hc:kq k k' with
   |false=>rw[hc]at g;cases g
   |true =>rw[hc,I',cR]at g;have:=Kg hc;subst this;cases g;have l:=dL T;have p:=dL r;refine ay hI ?_ (dv _ _);unfold execOp;cases big <;> simp[ho,resolve,U,j,invoke,builtin,Builtin.max_,Builtin.min_,Builtin.max2,Builtin.min2,l,p]
  ·cases g
 ·cases g
end
variable [SymVal]
def yR:∀{a b:List CK} {l m:List CV} {r:Bool},eqL (a++b) l m=some r→∃r1 f,eqL a (l.take a.length) (m.take a.length)=some r1∧eqL b (l.drop a.length) (m.drop a.length)=some f∧r=(bif r1 then f else false)
 |[],b,l,m,r,h=>⟨true,r,by simp[eqL],by simpa using h,rfl⟩
 |k::a,b,x::l,y::m,r,h=>by
  simp[eqL]at h;split at h
  next g y1 h1 h2=>
   simp at h;obtain⟨r1,f,q1,q2,j⟩:=yR h2;refine⟨(bif g then r1 else false),f, ?_,by simpa using q2, ?_⟩
   ·simp[eqL,h1,q1]
   ·rw[←h,j];cases g <;> rfl
  ·cases h
 |k::a,b,[],_,r,h=>by simp[eqL]at h
 |k::a,b,_::_,[],r,h=>by simp[eqL]at h
def M5:∀{a:List CK} {l m:List CV} {r:Bool},eqL a l m=some r→l.length=a.length∧m.length=a.length
 |[],[],[],_,_=>⟨rfl,rfl⟩
 |k::a,x::l,y::m,r,h=>by
  simp[eqL]at h;split at h
  next h1 h2=>obtain⟨q1,q2⟩:=M5 h2;exact⟨by simp[q1],by simp[q2]⟩
  ·cases h
 |[],_::_,_,_,h=>by simp[eqL]at h
 |[],[],_::_,_,h=>by simp[eqL]at h
 |_::_,[],_,_,h=>by simp[eqL]at h
 |_::_,_::_,[],_,h=>by simp[eqL]at h
section
variable {P:Program}{B:Nat}{J:W0}{φ:Gx}{h:Pos→EO}{w:World}{o:Oper}{a:Act}
def PV.isAgg:PV→Bool
 |.agg _=>true
 |.one _=>false
def pK:Option TypeDesc→Bool
 |some (.struct _)=>true
 |_=>false
def KH {d:Nat}{f:TypeId→Option (List CK)}(ih:∀t J,f t=some J→∀(p q:PV) vx vy r,denP φ p=some vx→denP φ q=some vy→p.isAgg=pK (P.underlying t)→q.isAgg=pK (P.underlying t)→eqL J p.cells q.cells=some r→(Op.equalIn d t vx vy).run P w = .ok r w)
  (hk:∀t J,f t=some J→nk (P.underlying t)=some (pK (P.underlying t))∧(pK (P.underlying t)=false→J.length=1)) (xs ys:Array Value):∀(T:List Field) (g:Nat) (J:List CK) (l m:List CV) (r:Bool),Zs (av P) f T g=some J→dens φ l=some (xs.toList.drop g)→dens φ m=some (ys.toList.drop g)→eqL J l m=some r→(Op.eqFields d xs ys T).run P w = .ok r w
 |[],g,J,l,m,r,hc,hx,hy,he=>by
  cases hc;cases l with
  |nil=>cases m with
   |nil=>cases he;rfl
   |cons _ _=>simp[eqL]at he
  |cons _ _=>simp[eqL]at he
 |fd::T,g,J,l,m,r,hc,hx,hy,he=>by
  simp only[Zs]at hc;split at hc
  next hn=>
   split at hc
   ·rename_i C hka;split at hc
    ·rename_i hz;split at hc
     ·rename_i kb hkb;cases hc;obtain⟨r1,r2,e1,e2,rfl⟩:=yR he;obtain⟨hl1,hm1⟩:=M5 e1;have hsz:av P fd.type≠0:=Ω
      obtain⟨hb,hk1⟩:=hk _ _ hka;have j:∀(l:List CV) (zs:Array Value),dens φ l=some (zs.toList.drop g)→(l.take C.length).length=C.length→∃p v,p.cells=l.take C.length∧p.isAgg=pK (P.underlying fd.type)∧denP φ p=some v∧(part fd.type zs fd.offset).run P w = .ok v w:=by
       intro l zs hd hlen;have R:=lX C.length hd;cases hs:pK (P.underlying fd.type)with
       |true =>rw[hs]at hb;refine⟨.agg (l.take C.length),.agg ((zs.toList.drop g).take C.length).toArray,rfl,rfl,by simp[denP,R], ?_⟩;simp[part,ν,cB hb,aK hsz,j_,hn.2,hz.1];congr 2;apply B_;simp
       |false=>
        rw[hs]at hb;have U:C.length=1:=hk1 hs;rw[U]at R hlen;match hlt:l.take 1,hlen with
        |[c],_=>
         rw[hlt]at R;obtain⟨v,ws,e3,h1,h2⟩:=bQ R;have hg:zs[g]? = some v:=by
          have:((zs.toList.drop g).take 1)[0]? = some v:=by rw[e3];rfl
          rw[O']at this;split at this
          ·simpa[h_]using this
          ·cases this
         refine⟨.one c,v,by rw[U,hlt];rfl,rfl,h1, ?_⟩;simp[part,ν,cB hb,hn.2,hg]
      obtain⟨p,vx,p1,p2,p3,p4⟩:=j l xs hx hl1;obtain⟨q,vy,q1,q2,q3,q4⟩:=j m ys hy hm1;have hA:=ih fd.type C hka p q vx vy r1 p3 q3 p2 q2 (by rw[p1,q1];exact e1);have hR:=KH ih hk xs ys T (g+C.length) kb (l.drop C.length) (m.drop C.length) r2 hkb (by rw[←List.drop_drop];exact jx _ hx) (by rw[←List.drop_drop];exact jx _ hy) e2;simp[Op.eqFields,hn.1,ν,p4,q4,hA];cases r1 with
      |false=>simp
      |true=>simp[hR]
     ·cases hc
    ·cases hc
   ·cases hc
  ·cases hc
def Rx:∀(d:Nat) (t:TypeId) (f:List CK),i4 P d t=some f→nk (P.underlying t)=some (pK (P.underlying t))∧(pK (P.underlying t)=false→f.length=1)
 |0,t,f,h=>by cases h
 |d+1,t,f,h=>by
  simp[i4]at h;split at h
  next hu=>cases h;rw[hu];exact⟨rfl,λ_=>rfl⟩
  next hu=>cases h;rw[hu];exact⟨rfl,λ_=>rfl⟩
  next hu=>cases h;rw[hu];exact⟨rfl,λ_=>rfl⟩
  next hu=>rw[hu];exact⟨rfl,λx=>by cases x⟩
  ·cases h
def EJ:∀(d:Nat) (D:Nat) (t:TypeId) (U:List CK),i4 P d t=some U→∀(p q:PV) R J r,denP φ p=some R→denP φ q=some J→p.isAgg=pK (P.underlying t)→q.isAgg=pK (P.underlying t)→eqL U p.cells q.cells=some r→(Op.equalIn (D+d) t R J).run P w = .ok r w
 |0,D,t,U,h,p,q,R,J,r,_,_,_,_,_=>by cases h
 |d+1,D,t,U,h,p,q,R,J,r,j,g,hp,hq,he=>by
  have one:∀{ck:CK},pK (P.underlying t)=false→U=[ck]→∃c c',p = .one c∧q = .one c'∧eqC ck c c'=some r:=by
   intro ck hs hk;rw[hs]at hp hq;cases p with
   |agg l=>cases hp
   |one c=>
    cases q with
    |agg l=>cases hq
    |one c'=>
     refine⟨c,c',rfl,rfl, ?_⟩;rw[hk]at he;simp[PV.cells,eqL]at he;split at he
     next x y h1 h2=>simp at h2 he;subst h2;rw[h1];cases x <;> simp_all
     ·cases he
  simp[i4]at h;rw[←Nat.add_assoc];split at h
  next hu=>
   simp at h;obtain⟨c,c',rfl,rfl,f⟩:=one (by rw[hu];rfl) h.symm;cases c <;> cases c' <;> simp only[eqC]at f <;> first|(cases f;done)|skip
   rename_i a b;simp at f;have j:some (Value.bool a)=some R:=j;have g:some (Value.bool b)=some J:=g;injection j with j;injection g with g;subst j;subst g;subst f;rw[ak1 w (D+d) t a b hu];cases a <;> cases b <;> rfl
  next k hu=>
   simp at h;obtain⟨c,c',rfl,rfl,f⟩:=one (by rw[hu];rfl) h.symm;cases c <;> cases c' <;> simp[eqC]at f <;> first|(cases f;done)|skip
   rename_i k1 a k2 b;cases C:(kq k k1&&kq k k2)with
   |false=>rw[C]at f;cases f
   |true =>rw[C]at f;simp at C;have e1:=Kg C.1;have e2:=Kg C.2;subst e1;subst e2;simp at f;have j:some (Value.int k a)=some R:=j;have g:some (Value.int k b)=some J:=g;injection j with j;injection g with g;subst j;subst g;subst f;rw[ak7 w (D+d) t k k a b hu,tA]
  next hu=>
   simp only[θ]at h;obtain⟨c,c',rfl,rfl,f⟩:=one (by rw[hu];rfl) h.symm;cases c <;> cases c' <;> simp only[eqC]at f <;> first|(cases f;done)|skip
   rename_i a b;simp only[θ]at f;obtain⟨h1,e1⟩:=pH (φ:=φ) (v:=R) j;obtain⟨h2,e2⟩:=pH (φ:=φ) (v:=J) g;subst e1;subst e2;subst f;rw[CB h1 h2];unfold strV;rw[akP w (D+d) t _ _ hu,bytes_toList,bytes_toList]
  next T hu=>
   split at h
   ·cases h
   ·rename_i hst;have hst:P.stoodInHeld t=false:=by simpa using hst
    rw[hu]at hp hq;cases p with
    |one c=>cases hp
    |agg l=>
     cases q with
     |one c=>cases hq
     |agg m=>
      obtain⟨xs,e1,hd1⟩:=yw (φ:=φ) (v:=R) j;obtain⟨ys,e2,hd2⟩:=yw (φ:=φ) (v:=J) g;subst e1;subst e2;have hfo:P.fieldsOf t=T:=by simp[Program.fieldsOf,hu]
      rw[run_equalIn_struct w (D+d) t _ _ (by rw[hfo];exact hu) hst,hfo];exact KH (λt U hk p q R J r=>EJ d D t U hk p q R J r) (λt U hk=>Rx d t U hk) _ _ T.toList 0 U l m r h (by simpa using hd1) (by simpa using hd2) he
  ·cases h
end
