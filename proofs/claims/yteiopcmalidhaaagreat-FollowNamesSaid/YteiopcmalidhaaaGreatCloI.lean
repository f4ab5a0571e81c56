/- Closed runs. -/
import Derived.Below
import Derived.Test.YteiopcmalidhaaaGreatAbsJ
import Derived.Calls
import Derived.KernelRfl
import Derived.Laws.StructEq
import Derived.Maps.AppendAt
import Derived.Orders
set_option linter.all false
namespace Go.Proofs.YteiopcmalidhaaaGreat
namespace Clo
open Go Go.RowKit
variable{a b:Nat}
def bM:Nat.blt a b=true↔a<b:=by rw[Nat.blt_eq]
def aaL (h:¬a<b):Nat.blt a b=false:=by cases f:Nat.blt a b with|false=>rfl|true=>exact absurd (bM.1 f) h
def bf:Nat.ble a b=true↔a≤b:=by rw[Nat.ble_eq]
def pX:Nat.beq a b=true↔a=b:=by rw[ajC]
inductive Pos where
 |e
 |o (p:Pos)
 |i (p:Pos)
def Pos.num:Pos→Nat
 |.e=>0
 |.o p=>2*p.num+1
 |.i p=>2*p.num+2
def Pos.inj:∀{p q:Pos},p.num=q.num→p=q
 |.e,.e,_=>rfl
 |.e,.o q,h=>by simp only[Pos.num]at h;omega
 |.e,.i q,h=>by simp only[Pos.num]at h;omega
 |.o p,.e,h=>by simp only[Pos.num]at h;omega
 |.i p,.e,h=>by simp only[Pos.num]at h;omega
 |.o p,.o q,h=>by simp[Pos.num]at h;rw[Pos.inj (p:=p) (q:=q) Ω]
 |.i p,.i q,h=>by simp[Pos.num]at h;rw[Pos.inj (p:=p) (q:=q) Ω]
 |.o p,.i q,h=>by simp[Pos.num]at h;omega
 |.i p,.o q,h=>by simp[Pos.num]at h;omega
instance:DecidableEq Pos:=λp q=>if h:p.num=q.num then .isTrue (Pos.inj h)else .isFalse (λe=>h (by rw[e]))
def Pos.beq:Pos→Pos→Bool
 |.e,.e=>true
 |.o p,.o q=>p.beq q
 |.i p,.i q=>p.beq q
 |_,_=>false
def Pos.beq_iff:∀{p q:Pos},p.beq q=true↔p=q
 |.e,.e=>by simp[Pos.beq]
 |.e,.o q=>by simp[Pos.beq]
 |.e,.i q=>by simp[Pos.beq]
 |.o p,.e=>by simp[Pos.beq]
 |.i p,.e=>by simp[Pos.beq]
 |.o p,.o q=>by simp[Pos.beq,Pos.beq_iff (p:=p) (q:=q)]
 |.i p,.i q=>by simp[Pos.beq,Pos.beq_iff (p:=p) (q:=q)]
 |.o p,.i q=>by simp[Pos.beq]
 |.i p,.o q=>by simp[Pos.beq]
def Pos.succ:Pos→Pos
 |.e=>.o .e
 |.o p=>.i p
 |.i p=>.o p.succ
def Pos.num_succ:∀p:Pos,p.succ.num=p.num+1
 |.e=>rfl
 |.o p=>rfl
 |.i p=>by simp[Pos.succ,Pos.num,Pos.num_succ p];omega
def X5:Nat→Nat→Pos
 |0,_=>.e
 |_+1,0=>.e
 |f+1,n+1=>match Nat.beq (n%2) 0 with
  |true=>.o (X5 f (n/2))
  |false=>.i (X5 f (n/2))
def pos (n:Nat):Pos:=X5 64 n
def sA:∀(f n:Nat),n+2≤2^f→(X5 f n).num=n
 |0,n,h=>by simp at h
 |f+1,0,_=>rfl
 |f+1,n+1,h=>by
  have j:2^(f+1)=2*2^f:=by rw[Nat.pow_succ];omega
  simp[X5];cases g:Nat.beq (n%2) 0 with
  |true =>have:=ν g;simp[Pos.num];rw[sA f (n/2) Ω];omega
  |false =>have:=B_ g;simp[Pos.num];rw[sA f (n/2) Ω];omega
inductive PM (R:Type) where
 |leaf
 |node (l:PM R) (a:R) (r:PM R)
section
variable {R:Type}
def PM.get (d:R):PM R→Pos→R
 |.leaf,_=>d
 |.node l a r,p=>match p with
  |.e=>a
  |.o p=>l.get d p
  |.i p=>r.get d p
def PM.set (d:R):Pos→PM R→R→PM R
 |.e,.leaf,x=>.node .leaf x .leaf
 |.e,.node l _ r,x=>.node l x r
 |.o p,.leaf,x=>.node (PM.set d p .leaf x) d .leaf
 |.o p,.node l a r,x=>.node (PM.set d p l x) a r
 |.i p,.leaf,x=>.node .leaf d (PM.set d p .leaf x)
 |.i p,.node l a r,x=>.node l a (PM.set d p r x)
def upd (f:Pos→R)(k:Pos)(x:R):Pos→R:=λq=>if k=q then x else f q
def ay (f:Pos→R)(k:Pos)(x:R):upd f k x k=x:=β rfl
def aU (f:Pos→R){k q:Pos}(x:R)(h:k≠q):upd f k x q=f q:=B' h
def PM.get_set (d x:R):∀(p:Pos) (t:PM R),(PM.set d p t x).get d=upd (t.get d) p x
 |.e,.leaf=>by funext q;cases q <;> simp[PM.set,PM.get,upd]
 |.e,.node l a r=>by funext q;cases q <;> simp[PM.set,PM.get,upd]
 |.o p,.leaf=>by funext q;cases q <;> simp[PM.set,PM.get,upd];rw[PM.get_set d x p .leaf];simp[upd,PM.get]
 |.o p,.node l a r=>by funext q;cases q <;> simp[PM.set,PM.get,upd];rw[PM.get_set d x p l];simp[upd]
 |.i p,.leaf=>by funext q;cases q <;> simp[PM.set,PM.get,upd];rw[PM.get_set d x p .leaf];simp[upd,PM.get]
 |.i p,.node l a r=>by funext q;cases q <;> simp[PM.set,PM.get,upd];rw[PM.get_set d x p r];simp[upd]
end
inductive PT (R:Type) where
 |leaf
 |node (l:PT R) (a:R) (r:PT R)
section
variable {R:Type}
def PT.get (d:R):PT R→Nat→R
 |.leaf,_=>d
 |.node l a r,i=>match i with
  |0=>a
  |i+1=>match Nat.beq (i%2) 0 with
   |true=>l.get d (i/2)
   |false=>r.get d (i/2)
def PT.set (d:R):Nat→PT R→Nat→R→PT R
 |0,t,_,_=>t
 |f+1,t,i,x=>match t,i with
  |.leaf,0=>.node .leaf x .leaf
  |.node l _ r,0=>.node l x r
  |.leaf,i+1=>match Nat.beq (i%2) 0 with
   |true=>.node (PT.set d f .leaf (i/2) x) d .leaf
   |false=>.node .leaf d (PT.set d f .leaf (i/2) x)
  |.node l a r,i+1=>match Nat.beq (i%2) 0 with
   |true=>.node (PT.set d f l (i/2) x) a r
   |false=>.node l a (PT.set d f r (i/2) x)
def TP (i:Nat):Nat.beq (i%2) 0=decide (i%2=0):=by
 cases h:Nat.beq (i%2) 0 with
 |true=>exact(H_ (ν h)).symm
 |false=>exact(aji (B_ h)).symm
def PT.get_set (d x:R):∀(f:Nat) (t:PT R) (i j:Nat),i+2≤2^f→(t.set d f i x).get d j=if i=j then x else t.get d j
 |0,t,i,j,h=>by simp at h
 |f+1,t,i,j,h=>by
  have J:2^(f+1)=2*2^f:=by rw[Nat.pow_succ];omega
  cases i with
  |zero=>
   cases t with
   |leaf=>cases j with
    |zero=>rfl
    |succ j=>simp[PT.set,PT.get];cases Nat.beq (j%2) 0 <;> simp
   |node l a r=>cases j with
    |zero=>rfl
    |succ j=>simp only[PT.set,PT.get];cases Nat.beq (j%2) 0 <;> simp
  |succ i=>
   have C:∀(t:PT R) (j:Nat),(t.set d f (i/2) x).get d j=if i/2=j then x else t.get d j:=λt j=>PT.get_set d x f t (i/2) j Ω
   cases t with
   |leaf=>
    cases j with
    |zero=>simp[PT.set];cases Nat.beq (i%2) 0 <;> simp[PT.get]
    |succ j=>
     simp[PT.set];by_cases p:i%2=0 <;> by_cases g:j%2=0 <;> simp only[p,g,p?,c?,PT.get,TP,C]
     ·by_cases e:i=j
      ·simp[e]
      ·rw[B' Ω,B' Ω]
     ·rw[B' Ω]
     ·rw[B' Ω]
     ·by_cases e:i=j
      ·simp[e]
      ·rw[B' Ω,B' Ω]
   |node l a r=>
    cases j with
    |zero=>simp[PT.set];cases Nat.beq (i%2) 0 <;> simp[PT.get]
    |succ j=>
     simp[PT.set];by_cases p:i%2=0 <;> by_cases g:j%2=0 <;> simp only[p,g,p?,c?,PT.get,TP,C]
     ·by_cases e:i=j
      ·simp[e]
      ·rw[B' Ω,B' Ω]
     ·rw[B' Ω]
     ·rw[B' Ω]
     ·by_cases e:i=j
      ·simp[e]
      ·rw[B' Ω,B' Ω]
end
inductive CV where
 |bl (b:Bool)
 |int (k:IntKind) (n:Int)
 |str (s:List Nat)
 |nilp
 |ptr (k:Pos) (g off:Nat)
 |glob (b:Nat)
 |nils
 |sl (k:Pos) (g off len:Nat) (cap:Option Nat)
 |emp (k:Pos)
 |nilm
 |mp (k:Pos)
 |nilf
 |fnc (f:FuncId)
 |clo (k:Pos)
 |nili
 |ifc (k:Pos)
 |sym (n:Nat)
inductive PV where
 |one (c:CV)
 |agg (l:List CV)
inductive TV where
 |unk
 |pv (v:PV)
 |tup (l:List PV)
structure Ch where
 cs:List CV
 m:Nat
inductive Fz where
 |no|out|yes
structure ME where
 key:PV
 val:PV
 born:Nat
inductive EO where
 |none
 |row (e:TypeId) (s:Nat) (el:PT Ch) (len gen:Nat) (fz:Fz)
 |map (es:List ME) (clock:Nat)
 |mit (m:Option Pos) (since:Nat) (seen:List Nat) (stepped:Nat)
 |mitU (m:Pos) (since:Nat) (bs:List Nat) (at_:Option (Nat×Nat))
 |sit (s:List Nat) (p:Nat)
 |clo (fn:Fn) (first caps:List PV)
 |ifc (t:TypeId) (v:PV)
 |emp
 |yld
 |dead
 |res
 |resI (m:Pos) (b c:Nat)
structure Loc where
 b:Nat
 n:Nat
 s:Nat
structure Gx where
 loc:Pos→Nat→Option Loc
 val:Pos→Option Value
 mu:Pos→Option Nat
def gk (cap:Option Nat)(n d:Nat):Nat:=match cap with|some c=>c|none=>n-d
def xb (cap:Option Nat)(len n d:Nat):Bool:=match cap with|some _=>true|none=>Nat.ble (d+len) n
def og (s:List Nat):Value :=.string ⟨(s.map UInt8.ofNat).toArray⟩
def cI (s:List Nat):Bool:=s.all λb=>Nat.blt b 256
class SymVal where
 v:Nat→Value
 one:∀n,(v n).oneCell'=true
 fact:World→Prop
variable [SymVal]
def den (p:Gx):CV→Option Value
 |.bl b=>some (.bool b)
 |.int k n=>some (.int k n)
 |.str s=>if cI s=true then some (og s)else none
 |.nilp=>some (.pointer none)
 |.ptr k g j=>match p.loc k g with
  |some l=>some (.pointer (some ⟨l.b,j,none⟩))
  |none=>none
 |.glob b=>some (.pointer (some ⟨b,0,none⟩))
 |.nils=>some (.slice none 0 0)
 |.sl k g j len cap=>match p.loc k g with
  |some l=>if xb cap len l.n (j/l.s)=true then some (.slice (some ⟨l.b,j,none⟩) len (gk cap l.n (j/l.s)))else none
  |none=>none
 |.emp k=>match p.val k with
  |some (.slice (some a) 0 c)=>some (.slice (some a) 0 c)
  |_=>none
 |.nilm=>some (.map none)
 |.mp k=>match p.loc k 0 with
  |some l=>some (.map (some l.b))
  |none=>none
 |.nilf=>some .nilFunc
 |.fnc f=>some (.func (.func f) #[] #[])
 |.clo k=>match p.val k with
  |some (.func fn a b)=>some (.func fn a b)
  |_=>none
 |.nili=>some .nilIface
 |.sym n=>some (SymVal.v n)
 |.ifc k=>match p.val k with
  |some (.iface t v)=>some (.iface t v)
  |_=>none
structure Gx.le (φ ψ:Gx):Prop where
 loc:∀k g l,φ.loc k g=some l→ψ.loc k g=some l
 val:∀k v,φ.val k=some v→ψ.val k=some v
 mu:∀k v,φ.mu k=some v→ψ.mu k=some v
def Gx.le.refl (f:Gx):f.le f:=⟨λ_ _ _ h=>h,λ_ _ h=>h,λ_ _ h=>h⟩
def Gx.le.trans {a b c:Gx}(h:a.le b)(k:b.le c):a.le c:=⟨λp g l x=>k.loc p g l (h.loc p g l x),λp v x=>k.val p v (h.val p v x),λp v x=>k.mu p v (h.mu p v x)⟩
variable{φ ψ:Gx}{l:List CV}{vs:List Value}{v:Value}{o:EO}
def dZ (h:φ.le ψ):∀{c:CV} {v:Value},den φ c=some v→den ψ c=some v
 |.bl _,_,r=>r
 |.int _ _,_,r=>r
 |.str _,_,r=>r
 |.nilp,_,r=>r
 |.glob _,_,r=>r
 |.nils,_,r=>r
 |.nilm,_,r=>r
 |.nilf,_,r=>r
 |.fnc _,_,r=>r
 |.nili,_,r=>r
 |.sym _,_,r=>r
 |.ptr k g j,v,r=>by
  simp[den]at r⊢;cases f:φ.loc k g with
  |none=>simp[f]at r
  |some l=>rw[f]at r;rw[h.loc k g l f];exact r
 |.sl k g j len cap,v,r=>by
  simp[den]at r⊢;cases f:φ.loc k g with
  |none=>simp[f]at r
  |some l=>rw[f]at r;rw[h.loc k g l f];exact r
 |.mp k,v,r=>by
  simp[den]at r⊢;cases f:φ.loc k 0 with
  |none=>simp[f]at r
  |some l=>rw[f]at r;rw[h.loc k 0 l f];exact r
 |.clo k,v,r=>by
  simp[den]at r⊢;cases f:φ.val k with
  |none=>simp[f]at r
  |some l=>rw[f]at r;rw[h.val k l f];exact r
 |.emp k,v,r=>by
  simp[den]at r⊢;cases f:φ.val k with
  |none=>simp[f]at r
  |some l=>rw[f]at r;rw[h.val k l f];exact r
 |.ifc k,v,r=>by
  simp[den]at r⊢;cases f:φ.val k with
  |none=>simp[f]at r
  |some l=>rw[f]at r;rw[h.val k l f];exact r
def TB:∀{c:CV} {v:Value},den φ c=some v→v.oneCell'=true
 |.bl _,_,r=>by cases r;rfl
 |.int _ _,_,r=>by cases r;rfl
 |.str _,_,r=>by
  simp only[den]at r;split at r
  ·cases r;rfl
  ·cases r
 |.nilp,_,r=>by cases r;rfl
 |.glob _,_,r=>by cases r;rfl
 |.nils,_,r=>by cases r;rfl
 |.nilm,_,r=>by cases r;rfl
 |.nilf,_,r=>by cases r;rfl
 |.fnc _,_,r=>by cases r;rfl
 |.nili,_,r=>by cases r;rfl
 |.sym n,_,r=>by cases r;exact SymVal.one n
 |.ptr k g f,v,r=>by
  simp[den]at r;split at r
  ·cases r;rfl
  ·cases r
 |.sl k g f len cap,v,r=>by
  simp[den]at r;split at r
  ·split at r
   ·cases r;rfl
   ·cases r
  ·cases r
 |.mp k,v,r=>by
  simp[den]at r;split at r
  ·cases r;rfl
  ·cases r
 |.clo k,v,r=>by
  simp[den]at r;split at r
  ·cases r;rfl
  ·cases r
 |.emp k,v,r=>by
  simp[den]at r;split at r
  ·cases r;rfl
  ·cases r
 |.ifc k,v,r=>by
  simp[den]at r;split at r
  ·cases r;rfl
  ·cases r
def aV (φ:Gx):List CV→Option (List Value)
 |[]=>some []
 |c::r=>match den φ c,aV φ r with
  |some v,some vs=>some (v::vs)
  |_,_=>none
def Is {φ ψ:Gx}(h:φ.le ψ):∀{l:List CV} {vs:List Value},aV φ l=some vs→aV ψ l=some vs
 |[],_,r=>r
 |c::l,vs,r=>by
  simp[aV]at r⊢;cases f:den φ c with
  |none=>simp[f]at r
  |some v=>
   cases g:aV φ l with
   |none=>simp[f,g]at r
   |some ws=>rw[f,g]at r;rw[dZ h f,Is h g];exact r
def aY {φ:Gx}:∀{l:List CV} {vs:List Value},aV φ l=some vs→vs.length=l.length
 |[],_,r=>by cases r;rfl
 |c::l,vs,r=>by
  simp[aV]at r;split at r
  next v ws h1 h2=>cases r;simp[aY h2]
  ·cases r
def bW {c:CV}(r:aV φ (c::l)=some vs):∃v ws,vs=v::ws∧den φ c=some v∧aV φ l=some ws:=by
 simp[aV]at r;split at r
 next v ws g f=>simp at r;exact⟨v,ws,r.symm,g,f⟩
 ·cases r
def u7 {c:CV}(h:den φ c=some v)(r:aV φ l=some vs):aV φ (c::l)=some (v::vs):=by simp[aV,h,r]
def mw {φ:Gx}:∀{l:List CV} {vs:List Value},aV φ l=some vs→∀{i:Nat} {c:CV},l[i]? = some c→∃v,vs[i]? = some v∧den φ c=some v
 |[],_,_,i,c,h=>by simp at h
 |x::l,vs,r,i,c,h=>by
  obtain⟨v,ws,rfl,g,f⟩:=bW r;cases i with
  |zero=>simp at h;subst h;exact⟨v,rfl,g⟩
  |succ i=>simp at h;obtain⟨u,q1,q2⟩:=mw f h;exact⟨u,by simpa using q1,q2⟩
def ct {φ:Gx}:∀{l m:List CV} {vs ws:List Value},aV φ l=some vs→aV φ m=some ws→aV φ (l++m)=some (vs++ws)
 |[],m,vs,ws,r,q=>by cases r;exact q
 |c::l,m,vs,ws,r,q=>by obtain⟨v,j,rfl,g,f⟩:=bW r;exact u7 g (ct f q)
def kY {φ:Gx}:∀{l:List CV} {vs:List Value} (n:Nat),aV φ l=some vs→aV φ (l.take n)=some (vs.take n)
 |[],vs,n,r=>by cases r;simp[aV]
 |c::l,vs,0,r=>by simp[aV]
 |c::l,vs,n+1,r=>by obtain⟨v,j,rfl,g,f⟩:=bW r;exact u7 g (kY n f)
def iV {φ:Gx}:∀{l:List CV} {vs:List Value} (n:Nat),aV φ l=some vs→aV φ (l.drop n)=some (vs.drop n)
 |[],vs,n,r=>by cases r;simp[aV]
 |c::l,vs,0,r=>r
 |c::l,vs,n+1,r=>by obtain⟨v,g,rfl,j,f⟩:=bW r;exact iV n f
def tF {φ:Gx}:∀{l:List CV} {vs:List Value},aV φ l=some vs→∀u∈vs,u.oneCell'=true
 |[],vs,r,u,hu=>by cases r;cases hu
 |c::l,vs,r,u,hu=>by
  obtain⟨v,j,rfl,g,f⟩:=bW r;obtain rfl|hu:=C'.1 hu
  ·exact TB g
  ·exact tF f u hu
def PV.cells:PV→List CV
 |.one c=>[c]
 |.agg l=>l
def aP (φ:Gx):PV→Option Value
 |.one c=>den φ c
 |.agg l=>match aV φ l with
  |some vs=>some (.agg vs.toArray)
  |none=>none
def cF (h:φ.le ψ):∀{p:PV} {v:Value},aP φ p=some v→aP ψ p=some v
 |.one c,v,r=>dZ h r
 |.agg l,v,r=>by
  simp[aP]at r⊢;cases f:aV φ l with
  |none=>simp[f]at r
  |some vs=>rw[f]at r;rw[Is h f];exact r
def Av (h:v.oneCell'=true):v.cells = #[v]:=by
 cases v <;> first|rfl|cases h
def cM {p:PV}(h:aP φ p=some v):aV φ p.cells=some v.cells.toList:=by
 cases p with
 |one c =>have h:den φ c=some v:=h;simp[PV.cells];rw[u7 h rfl,Av (TB h)]
 |agg l=>
  simp[aP]at h;split at h
  next vs hv=>cases h;exact hv
  ·cases h
def cw (φ:Gx):List PV→Option (List Value)
 |[]=>some []
 |c::r=>match aP φ c,cw φ r with
  |some v,some vs=>some (v::vs)
  |_,_=>none
def gj {c:PV}{l:List PV}(r:cw φ (c::l)=some vs):∃v ws,vs=v::ws∧aP φ c=some v∧cw φ l=some ws:=by
 simp[cw]at r;split at r
 next v ws g f=>simp at r;exact⟨v,ws,r.symm,g,f⟩
 ·cases r
def bt {c:PV}{l:List PV}(h:aP φ c=some v)(r:cw φ l=some vs):cw φ (c::l)=some (v::vs):=by simp[cw,h,r]
def dj {φ ψ:Gx}(h:φ.le ψ):∀{l:List PV} {vs:List Value},cw φ l=some vs→cw ψ l=some vs
 |[],_,r=>r
 |c::l,vs,r=>by obtain⟨v,j,rfl,g,f⟩:=gj r;exact bt (cF h g) (dj h f)
def Iu {φ:Gx}:∀{l:List PV} {vs:List Value},cw φ l=some vs→∀{i:Nat} {c:PV},l[i]? = some c→∃v,vs[i]? = some v∧aP φ c=some v
 |[],_,_,i,c,h=>by simp at h
 |x::l,vs,r,i,c,h=>by
  obtain⟨v,ws,rfl,g,f⟩:=gj r;cases i with
  |zero=>simp at h;subst h;exact⟨v,rfl,g⟩
  |succ i=>simp at h;obtain⟨u,q1,q2⟩:=Iu f h;exact⟨u,by simpa using q1,q2⟩
def RT (φ:Gx):TV→Value→Prop
 |.unk,_=>True
 |.pv p,v=>aP φ p=some v
 |.tup l,v=>∃vs,cw φ l=some vs∧v = .tuple vs.toArray
def RT.mono (h:φ.le ψ):∀{t:TV} {v:Value},RT φ t v→RT ψ t v
 |.unk,_,_=>trivial
 |.pv _,_,r=>cF h r
 |.tup _,_,⟨vs,r,e⟩=>⟨vs,dj h r,e⟩
variable [SymVal]
def Xk:Obj→Bool
 |.loop _=>true
 |.deferred _=>true
 |_=>false
structure Kp (w w':World):Prop where
 dr:dz w≤dz w'
 keep:∀(k:Nat) (o:Obj),w.heap[k]? = some o→Xk o=true→w'.heap[k]? = some o
def Kp.refl (w:World):Kp w w:=⟨ζ _,λ_ _ h _=>h⟩
def Kp.trans {a b c:World}(h:Kp a b)(k:Kp b c):Kp a c:=⟨Θ h.dr k.dr,λi o x y=>k.keep i o (h.keep i o x y) y⟩
def ahp (f:Nat×Nat)(size:Nat)(fz:Fz):Prop:=match fz with
 |.no=>f=(0,0)
 |.out=>∀o,o<size→¬(f.1≤o∧o<f.2)
 |.yes=>True
def adV (φ:Gx)(f:Array Value)(s i:Nat)(ch:Ch):Prop :=
 ch.cs.length=s∧∀(j:Nat) (c:CV),ch.cs[j]? = some c→∃v,f[i*s+j]? = some v∧den φ c=some v
def dch:Ch:=⟨[],0⟩
structure RowAt (φ:Gx)(w:World)(B:Nat)(e:TypeId)(s:Nat)(el:PT Ch)(len:Nat)(fz:Fz)(g:Nat)(l:Loc):Prop where
 lo:B≤l.b
 sz:l.s=s
 arr:∃arr fr,w.heap[l.b]? = some (.cells arr e fr)∧arr.size=l.n*s∧ahp fr arr.size fz ∧
  ∀i,i<len→(el.get dch i).m≤g→i<l.n∧adV φ arr s i (el.get dch i)
def fV (φ:Gx)(f:List ME)(vs:List MapEntry):Prop :=
 vs.length=f.length∧∀(i:Nat) (e:ME),f[i]? = some e→∃v,vs[i]? = some v∧aP φ e.key=some v.key∧aP φ e.val=some v.val∧v.born=e.born
def gp (φ:Gx)(w:World)(B:Nat)(k:Pos):EO→Prop
 |.none=>(∀g,φ.loc k g=none)∧φ.val k=none∧φ.mu k=none
 |.row e s T len C fz=>0<s∧len+2≤2^32∧(∀i,i<len→(T.get dch i).m≤C)∧(∀g,C<g→φ.loc k g=none)∧(∀g,g≤C→∃l,φ.loc k g=some l∧RowAt φ w B e s T len fz g l∧(g=C→len≤l.n))
 |.map U clock=>(∀g,0<g→φ.loc k g=none)∧∃l vs,φ.loc k 0=some l∧B≤l.b∧w.heap[l.b]? = some (.map vs clock)∧fV φ U vs.toList
 |.mit m j seen f=>(∀g,0<g→φ.loc k g=none)∧∃l,φ.loc k 0=some l∧B≤l.b ∧
   match m with
   |none=>w.heap[l.b]? = some (.mapIter none j seen.toArray f)
   |some m=>∃J,φ.loc m 0=some J∧w.heap[l.b]? = some (.mapIter (some J.b) j seen.toArray f)
 |.mitU m j bs R=>(∀g,0<g→φ.loc k g=none)∧∃l J seen f n,φ.loc k 0=some l∧B≤l.b∧φ.loc m 0=some J∧w.heap[l.b]? = some (.mapIter (some J.b) j seen f)∧j≤f∧φ.mu k=some n∧(bs.filter λb=>!seen.contains b).length+(match R with|some _=>1|none=>0)≤n∧(∀p,R=some p→seen.back? = some p.1∧f=p.2)
 |.sit s p=>(∀g,0<g→φ.loc k g=none)∧cI s=true∧∃l,φ.loc k 0=some l∧B≤l.b∧w.heap[l.b]? = some (.stringIter ⟨(s.map UInt8.ofNat).toArray⟩ p)
 |.clo fn first P=>(∀g,φ.loc k g=none)∧∃a b,cw φ first=some a∧cw φ P=some b∧φ.val k=some (.func fn a.toArray b.toArray)
 |.ifc t v=>(∀g,φ.loc k g=none)∧∃u,aP φ v=some u∧φ.val k=some (.iface t u)
 |.emp=>(∀g,φ.loc k g=none)∧∃a c,φ.val k=some (.slice (some a) 0 c)
 |.dead=>∀g l,φ.loc k g=some l→B≤l.b∧∃o,w.heap[l.b]? = some o
 |.res=>∀g l,φ.loc k g=some l→B≤l.b∧∃o,w.heap[l.b]? = some o
 |.resI m b c=>(∀g,0<g→φ.loc k g=none)∧∃l J j seen,φ.loc k 0=some l∧B≤l.b∧φ.loc m 0=some J∧w.heap[l.b]? = some (.mapIter (some J.b) j seen c)∧seen.back? = some b
 |.yld=>(∀g,0<g→φ.loc k g=none)∧∃l,φ.loc k 0=some l∧B≤l.b∧φ.val k=some (.func (.yield l.b) #[] #[])∧∃r,w.heap[l.b]? = some (.loop r)
structure W0 where
 w:World
 φ:Gx
def rE:EO→Bool
 |.res=>true
 |.resI _ _ _=>true
 |_=>false
def blank:EO→Bool
 |.none=>true
 |.res=>true
 |.resI _ _ _=>true
 |_=>false
def Wq (h:blank o=false):rE o=false:=by cases o <;> first|rfl|cases h
def UQ (h:rE o=true):blank o=true:=by cases o <;> first|rfl|cases h
structure Inv (B:Nat)(J:W0)(φ:Gx)(h:Pos→EO)(w:World):Prop where
 below:Below B J.w w
 kp:Kp J.w w
 le:J.φ.le φ
 res:∀k,rE (h k)=true→(∀g,φ.loc k g=J.φ.loc k g)∧φ.val k=J.φ.val k∧φ.mu k=J.φ.mu k∧∀g l,φ.loc k g=some l→w.heap[l.b]? = J.w.heap[l.b]?
 size:B≤w.heap.size
 obj:∀k,gp φ w B k (h k)
 sep:∀k g l k' g' l',φ.loc k g=some l→φ.loc k' g'=some l'→l.b=l'.b→k=k'
def RD (h:φ.le ψ){f:List ME}{vs:List MapEntry}(r:fV φ f vs):fV ψ f vs :=
 ⟨r.1,λi e l=>let ⟨v,q1,q2,j,g⟩:=r.2 i e l;⟨v,q1,cF h q2,cF h j,g⟩⟩
def adV.mono (h:φ.le ψ){f:Array Value}{s i:Nat}{ch:Ch}(r:adV φ f s i ch):adV ψ f s i ch :=
 ⟨r.1,λj c g=>let ⟨v,q1,q2⟩:=r.2 j c g;⟨v,q1,dZ h q2⟩⟩
def RowAt.mono {φ ψ:Gx}{w w':World}{B:Nat}{e:TypeId}{s:Nat}{C:PT Ch}{len:Nat}{fz:Fz}{g:Nat}{l:Loc}(h:φ.le ψ)(J:w'.heap[l.b]? = w.heap[l.b]?)(r:RowAt φ w B e s C len fz g l):RowAt ψ w' B e s C len fz g l:=by obtain⟨r1,r2,f,P,r3,r4,r5,r6⟩:=r;exact⟨r1,r2,f,P,J.trans r3,r4,r5,λi p j=>⟨(r6 i p j).1,(r6 i p j).2.mono h⟩⟩
def gp.keep {w w':World}{B:Nat}{k:Pos}(J:φ.le ψ)(f:∀g,ψ.loc k g=φ.loc k g)(hv:ψ.val k=φ.val k)(hm:ψ.mu k=φ.mu k)(U:∀g l,φ.loc k g=some l→w'.heap[l.b]? = w.heap[l.b]?)(h:gp φ w B k o):gp ψ w' B k o:=by
 cases o with
 |none=>exact⟨λg=>(f g).trans (h.1 g),hv.trans h.2.1,hm.trans h.2.2⟩
 |mitU m R bs st =>obtain⟨j,l,l',seen,C,n,q1,q2,P,q4,q5,q6,q7⟩:=h;exact⟨λg T=>(f g).trans (j g T),l,l',seen,C,n,(f 0).trans q1,q2,J.loc _ _ _ P,(U 0 l q1).trans q4,q5,hm.trans q6,q7⟩
 |resI m b c =>obtain⟨j,l,l',R,seen,q1,q2,P,q4,q5⟩:=h;exact⟨λg T=>(f g).trans (j g T),l,l',R,seen,(f 0).trans q1,q2,J.loc _ _ _ P,(U 0 l q1).trans q4,q5⟩
 |row e s el len gen fz =>obtain⟨h0,j,hmm,h2,h3⟩:=h;refine⟨h0,j,hmm,λg T=>(f g).trans (h2 g T),λg T=>?_⟩;obtain⟨l,q1,q2,P⟩:=h3 g T;exact⟨l,(f g).trans q1,q2.mono J (U g l q1),P⟩
 |map es clock =>obtain⟨j,l,vs,q1,q2,P,q4⟩:=h;exact⟨λg T=>(f g).trans (j g T),l,vs,(f 0).trans q1,q2,(U 0 l q1).trans P,RD J q4⟩
 |mit m R seen C=>
  obtain⟨j,l,q1,q2,P⟩:=h;refine⟨λg T=>(f g).trans (j g T),l,(f 0).trans q1,q2, ?_⟩;cases m with
  |none=>exact(U 0 l q1).trans P
  |some m=>obtain⟨l',q4,q5⟩:=P;exact⟨l',J.loc _ _ _ q4,(U 0 l q1).trans q5⟩
 |sit s p =>obtain⟨j,h2,l,q1,q2,P⟩:=h;exact⟨λg T=>(f g).trans (j g T),h2,l,(f 0).trans q1,q2,(U 0 l q1).trans P⟩
 |clo fn first caps =>obtain⟨j,a,b,q1,q2,P⟩:=h;exact⟨λg=>(f g).trans (j g),a,b,dj J q1,dj J q2,hv.trans P⟩
 |ifc t v =>obtain⟨j,u,q1,q2⟩:=h;exact⟨λg=>(f g).trans (j g),u,cF J q1,hv.trans q2⟩
 |emp =>obtain⟨j,a,c,q1⟩:=h;exact⟨λg=>(f g).trans (j g),a,c,hv.trans q1⟩
 |res=>exact λg l q=>⟨(h g l ((f g).symm.trans q)).1,by rw[U g l ((f g).symm.trans q)];exact(h g l ((f g).symm.trans q)).2⟩
 |dead=>exact λg l q=>⟨(h g l ((f g).symm.trans q)).1,by rw[U g l ((f g).symm.trans q)];exact(h g l ((f g).symm.trans q)).2⟩
 |yld =>obtain⟨j,l,q1,q2,P,r,q4⟩:=h;exact⟨λg T=>(f g).trans (j g T),l,(f 0).trans q1,q2,hv.trans P,r,(U 0 l q1).trans q4⟩
section
variable {B:Nat}{J:W0}{φ:Gx}{h:Pos→EO}{w:World}
variable{k:Pos}{g:Nat}{l:Loc}{o' :EO}
def Inv.blk (hI:Inv B J φ h w)(f:φ.loc k g=some l):B≤l.b∧∃o,w.heap[l.b]? = some o:=by
 have j:=hI.obj k;cases C:h k with
 |none=>rw[C]at j;rw[j.1 g]at f;cases f
 |row e s el len gen fz=>
  rw[C]at j;obtain⟨h0,P,hm,h2,h3⟩:=j;obtain x|x:=d_ gen g
  ·rw[h2 g x]at f;cases f
  ·obtain⟨l',q1,⟨q2,U,arr,fr,q4,_⟩,_⟩:=h3 g x;rw[q1]at f;cases f;exact⟨q2,_,q4⟩
 |map es clock=>
  rw[C]at j;obtain⟨P,l',vs,q1,q2,U,_⟩:=j;cases g with
  |zero=>rw[q1]at f;cases f;exact⟨q2,_,U⟩
  |succ g=>rw[P _ Ω]at f;cases f
 |mit m T seen R=>
  rw[C]at j;obtain⟨P,l',q1,q2,U⟩:=j;cases g with
  |zero=>
   rw[q1]at f;cases f;cases m with
   |none=>exact⟨q2,_,U⟩
   |some m=>obtain⟨l',_,q5⟩:=U;exact⟨q2,_,q5⟩
  |succ g=>rw[P _ Ω]at f;cases f
 |mitU m T bs st=>
  rw[C]at j;obtain⟨P,l1,l2,seen,R,n,q1,q2,U,q4,_⟩:=j;cases g with
  |zero=>rw[q1]at f;cases f;exact⟨q2,_,q4⟩
  |succ g=>rw[P _ Ω]at f;cases f
 |resI m b c=>
  rw[C]at j;obtain⟨P,l1,l2,T,seen,q1,q2,U,q4,_⟩:=j;cases g with
  |zero=>rw[q1]at f;cases f;exact⟨q2,_,q4⟩
  |succ g=>rw[P _ Ω]at f;cases f
 |sit s p=>
  rw[C]at j;obtain⟨P,_,l',q1,q2,U⟩:=j;cases g with
  |zero=>rw[q1]at f;cases f;exact⟨q2,_,U⟩
  |succ g=>rw[P _ Ω]at f;cases f
 |clo fn first caps=>rw[C]at j;rw[j.1 g]at f;cases f
 |ifc t v=>rw[C]at j;rw[j.1 g]at f;cases f
 |emp=>rw[C]at j;rw[j.1 g]at f;cases f
 |dead=>rw[C]at j;exact j g l f
 |res=>rw[C]at j;exact j g l f
 |yld=>
  rw[C]at j;obtain⟨P,l',q1,q2,U,r,q4⟩:=j;cases g with
  |zero=>rw[q1]at f;cases f;exact⟨q2,_,q4⟩
  |succ g=>rw[P _ Ω]at f;cases f
def Inv.lt (p:Inv B J φ h w)(j:φ.loc k g=some l):l.b<w.heap.size:=by obtain⟨_,o,f⟩:=p.blk j;exact(η.1 f).1
def Inv.turn (p:Inv B J φ h w){ψ:Gx}{P:World}{r:Pos}(hle:φ.le ψ)
  (j:∀k,k≠r→(∀g,ψ.loc k g=φ.loc k g)∧ψ.val k=φ.val k∧ψ.mu k=φ.mu k)
  (U:∀g l,ψ.loc r g=some l→(∃g1 l1,φ.loc r g1=some l1∧l1.b=l.b)∨w.heap.size≤l.b)
  (hw:∀b,b<w.heap.size→(∀g l,φ.loc r g=some l→l.b≠b)→P.heap[b]? = w.heap[b]?)
  (hs:∀g l,φ.loc r g=some l→∀o,w.heap[l.b]? = some o→Xk o=true→P.heap[l.b]? = some o)
  (hos:P.os=w.os) (htp:P.tape=w.tape) (hou:P.output=w.output) (hsz:w.heap.size≤P.heap.size) (hdr:dz w≤dz P)
  (hob:gp ψ P B r o') (hno:blank o'=false:=by rfl):Inv B J ψ (upd h r o') P:=by
 have hblk:∀b,b<B→P.heap[b]? = w.heap[b]?:=λb hb=>hw b (k_ hb p.size) λg l R e=>by have:=(p.blk R).1;omega
 refine⟨p.below.trans ⟨hos,htp,hou,hsz,hblk⟩,p.kp.trans ⟨hdr,λk o f ho=>?_⟩,p.le.trans hle,λk f=>?_,Θ p.size hsz,λk=>?_,λk g l k' g' l' h1 h2 e=>?_⟩
 ·by_cases hx:∃g l,φ.loc r g=some l∧l.b=k
  ·obtain⟨g,l,q1,rfl⟩:=hx;exact hs g l q1 o f ho
  ·rw[hw k (η.1 f).1 λg l q e=>hx ⟨g,l,q,e⟩];exact f
 ·by_cases T:r=k
  ·subst T;rw[ay,Wq hno]at f;cases f
  ·rw[aU h o' T]at f;obtain⟨q1,q2,q3⟩:=j k (λe=>T e.symm);obtain⟨r1,r2,r3,r4⟩:=p.res k f;refine⟨λg=>(q1 g).trans (r1 g),q2.trans r2,q3.trans r3,λg l R=>?_⟩;rw[q1 g]at R;rw[hw _ (p.lt R) λg' l' hl' e=>T (p.sep _ _ _ _ _ _ hl' R e)];exact r4 g l R
 ·by_cases f:r=k
  ·subst f;rw[ay];exact hob
  ·rw[aU h o' f];obtain⟨q1,q2,q3⟩:=j k (λe=>f e.symm);refine(p.obj k).keep hle q1 q2 q3 λg l R=>hw _ (p.lt R) λg' l' hl' e=>f (p.sep _ _ _ _ _ _ hl' R e)
 ·by_cases f:k=r
  ·by_cases C:k'=r
   ·rw[f,C]
   ·rw[(j k' C).1]at h2;rw[f]at h1;rcases U g l h1 with⟨g1,l1,q1,q2⟩|q
    ·have:=p.sep _ _ _ _ _ _ q1 h2 (q2.trans e);exact absurd this.symm C
    ·have:=p.lt h2;omega
  ·rw[(j k f).1]at h1;by_cases C:k'=r
   ·rw[C]at h2;rcases U g' l' h2 with⟨g1,l1,q1,q2⟩|q
    ·have:=p.sep _ _ _ _ _ _ h1 q1 (e.trans q2.symm);exact absurd this f
    ·have:=p.lt h1;omega
   ·rw[(j k' C).1]at h2;exact p.sep _ _ _ _ _ _ h1 h2 e
def Gx.add (φ:Gx)(k:Pos)(l:Loc):Gx:=⟨λq g=>if q=k then(if g=0 then some l else none)else φ.loc q g,φ.val,φ.mu⟩
def Gx.addV (φ:Gx)(k:Pos)(v:Value):Gx:=⟨φ.loc,λq=>if q=k then some v else φ.val q,φ.mu⟩
def Inv.free (j:Inv B J φ h w)(f:h k = .none):(∀g,φ.loc k g=none)∧φ.val k=none∧φ.mu k=none:=by have:=j.obj k;rw[f]at this;exact this
def Inv.le_add (r:Inv B J φ h w)(p:h k = .none)(l:Loc):φ.le (φ.add k l) :=
 ⟨λq g m j=>by
  by_cases e:q=k
  ·subst e;rw[(r.free p).1 g]at j;cases j
  ·simp[Gx.add,B' e];exact j,λ_ _ f=>f,λ_ _ f=>f⟩
def Inv.le_addV (p:Inv B J φ h w)(l:h k = .none)(v:Value):φ.le (φ.addV k v) :=
 ⟨λ_ _ _ j=>j,λq u f=>by
  by_cases e:q=k
  ·subst e;rw[(p.free l).2.1]at f;cases f
  ·simp[Gx.addV,B' e];exact f,λ_ _ g=>g⟩
def Gx.add_self (φ:Gx)(k:Pos)(l:Loc):(φ.add k l).loc k 0=some l:=by simp[Gx.add]
def Gx.addV_self (φ:Gx)(k:Pos)(v:Value):(φ.addV k v).val k=some v:=by simp[Gx.addV]
def Inv.new (r:Inv B J φ h w)(C:h k = .none){o:Obj}(R:l.b=w.heap.size)(j:gp (φ.add k l) (w.alloc o) B k o')(p:blank o'=false:=by rfl):Inv B J (φ.add k l) (upd h k o') (w.alloc o):=by
 refine r.turn (r.le_add C l) (λq P=>⟨λg=>by simp[Gx.add,B' P],rfl,rfl⟩) (λg m f=>?_) (λb T _=>@heap_alloc_old w o b T) (λg m f=>by rw[(r.free C).1 g]at f;cases f) rfl rfl rfl Ψ (ζ _) j p;refine .inr ?_;simp only[Gx.add,h?]at f;split at f
 ·injection f with f;rw[←f,R];exact ζ _
 ·cases f
def Inv.newV (j:Inv B J φ h w)(r:h k = .none){v:Value}(l:gp (φ.addV k v) w B k o')(p:blank o'=false:=by rfl):Inv B J (φ.addV k v) (upd h k o') w :=
 j.turn (j.le_addV r v) (λq C=>⟨λ_=>rfl,by simp[Gx.addV,B' C],rfl⟩) (λg m f=>by rw[show(φ.addV k v).loc k g=φ.loc k g from rfl,(j.free r).1 g]at f;cases f) (λ_ _ _=>rfl) (λg m f=>by rw[(j.free r).1 g]at f;cases f) rfl rfl rfl (ζ _) (ζ _) l p
def Inv.drew (f:Inv B J φ h w):Inv B J φ h w.drew:=⟨f.below.drew,⟨Θ f.kp.dr ((by first|exact ai9 _|exact c_ _)),f.kp.keep⟩,f.le,f.res,f.size,λk=>gp.keep (w:=w) (w':=w.drew) (Gx.le.refl φ) (λ_=>rfl) rfl rfl (λ_ _ _=>rfl) (f.obj k),f.sep⟩
def Inv.drewW (f:Inv B J φ h w):Inv B J φ h { w with drawn:=w.drawn+1 }:=f.drew
end
inductive CK where
 |b
 |i (k:IntKind)
 |s
inductive EqK where
 |flat (ks:List CK) (agg:Bool)
 |ptr
 |slc
 |mp
 |fnc
 |ifc (cn:Bool)
inductive K where
 |mov|pick|sy (n:Nat)
 |alloc (e:TypeId) (zs:List CV)
 |box (e:TypeId) (s:Nat)
 |build (zs:List CV) (ps:List (Nat×Nat))
 |lit (e:TypeId) (s len:Nat) (zs:List CV) (idx:List Nat)
 |load (s:Nat) (agg:Bool)
 |store (s:Nat)
 |nilchk
 |bin (op:BinOp)
 |eql (neg:Bool) (q:EqK)
 |un (op:UnOp)
 |cint (k:IntKind)|same|b2s|s2b (e:TypeId)|i2s
 |mki (t:TypeId)|mkf (fn:Fn) (nf:Nat)|mkm
 |mks (e:TypeId) (s bytes:Nat) (zs:List CV)
 |subs (lo hi:Bool)|subl (s:Nat) (lo hi mx:Bool)|suba (n s:Nat) (lo hi mx:Bool)
 |fadr (d:Nat)|fld (off s:Nat) (agg:Bool)
 |idxl (s:Nat)|idxa (n s:Nat)|idxs|idxg (n s:Nat) (agg:Bool)
 |look (q:EqK) (z:PV) (ok:Bool)|put (q:EqK)|ment (q:EqK) (z:PV)|mest
 |rngs|rngm|nexts|nextm|ext (i:Nat)
 |lens|lenl|lenm|lena (n:Nat)|capl
 |app (e:TypeId) (s bytes:Nat) (str:Bool)|cpy (s:Nat) (str:Bool)|del (q:EqK)|clr (zs:List CV)
 |mx (big:Bool)
 |ent|p2u|u2p (ok:TypeId→Nat→Nat→Bool)|usd|ust (e:TypeId) (ok:TypeId→Nat→Nat→Nat→Bool)
 |mknz (e:TypeId)|ibs
 |bad
inductive Src where
 |t (p:Pos)
 |c (v:TV)
structure FO where
 k:K
 args:List Src
 dst:Option Pos
 guard:Option (Pos×Bool)
inductive Q where
 |fail
 |ret (out:TV) (wr:Option (Pos×EO))
 |rd (k:Pos) (f:EO→Q)
def Q.run (h:Pos→EO):Q→Option (TV×Option (Pos×EO))
 |.fail=>none
 |.ret out wr=>some (out,wr)
 |.rd k f=>(f (h k)).run h
def Q.tr (h:Pos→EO):Q→List Pos
 |.fail=>[]
 |.ret _ _=>[]
 |.rd k f=>k::(f (h k)).tr h
def Q.run_congr {h h':Pos→EO}:∀{q:Q},(∀k∈q.tr h,h' k=h k)→q.run h'=q.run h∧q.tr h'=q.tr h
 |.fail,_=>⟨rfl,rfl⟩
 |.ret _ _,_=>⟨rfl,rfl⟩
 |.rd k f,g=>by have e:h' k=h k:=g k (by simp[Q.tr]);have:=Q.run_congr (q:=f (h k)) (h:=h) (h':=h') λi j=>g i (by simp[Q.tr,j]);simp[Q.run,Q.tr,e];exact⟨this.1,by rw[this.2]⟩
def one (c:CV):TV :=.pv (.one c)
def pa (c:CV):Q :=.ret (.pv (.one c)) none
def sk (b:Bool):Q :=.ret (.pv (.one (.bl b))) none
def kq:IntKind→IntKind→Bool
 |.i8,.i8=>true|.i16,.i16=>true|.i32,.i32=>true|.i64,.i64=>true
 |.u8,.u8=>true|.u16,.u16=>true|.u32,.u32=>true|.u64,.u64=>true
 |_,_=>false
def nfI (n:Int)(k:Int→Q):Q:=match n with
 |.ofNat m=>match m with
  |0=>k (.ofNat 0)
  |m+1=>k (.ofNat (m+1))
 |.negSucc m=>match m with
  |0=>k (.negSucc 0)
  |m+1=>k (.negSucc (m+1))
def sF (n:Int)(k:Int→Q):nfI n k=k n:=by unfold nfI;split <;> split <;> rfl
def eE (k:IntKind)(n:Int):Q:=nfI n λn=>.ret (.pv (.one (.int k n))) none
def FB (op:BinOp)(k:IntKind)(a b:Int):Q:=match op with
 |.add=>eE k (k.wrap (a+b))
 |.sub=>eE k (k.wrap (a-b))
 |.mul=>eE k (k.wrap (a*b))
 |.quo=>bif b == 0 then .fail else eE k (k.wrap (a.tdiv b))
 |.rem=>bif b == 0 then .fail else eE k (a.tmod b)
 |.eql=>sk (decide (a=b))
 |.neq=>sk (!decide (a=b))
 |.lss=>sk (decide (a<b))
 |.leq=>sk (decide (a≤b))
 |.gtr=>sk (decide (a>b))
 |.geq=>sk (decide (a≥b))
 |.and=>eE k (k.wrap ((BitVec.ofInt k.bits a &&& BitVec.ofInt k.bits b).toNat:Int))
 |.or=>eE k (k.wrap ((BitVec.ofInt k.bits a ||| BitVec.ofInt k.bits b).toNat:Int))
 |.xor=>eE k (k.wrap ((BitVec.ofInt k.bits a ^^^ BitVec.ofInt k.bits b).toNat:Int))
 |_=>.fail
def shI (op:BinOp)(k:IntKind)(a b:Int):Q:=bif decide (b<0)then .fail else match op with
 |.shl=>eE k (k.wrap (a*2^(min b.toNat k.bits)))
 |.shr=>eE k (a.fdiv (2^(min b.toNat k.bits)))
 |_=>.fail
def vz:List Nat→List Nat→Bool
 |[],[]=>true
 |a::l,b::m=>bif Nat.beq a b then vz l m else false
 |_,_=>false
def QS:List Nat→List Nat→Bool
 |_,[]=>false
 |[],_::_=>true
 |a::l,b::m=>bif Nat.blt a b then true else bif Nat.beq a b then QS l m else false
def aaM (op:BinOp)(a b:List Nat):Q:=match op with
 |.add=>bif Nat.blt (a.length+b.length) 4294967296 then pa (.str (a++b))else .fail
 |.eql=>sk (vz a b)
 |.neq=>sk (!vz a b)
 |.lss=>sk (QS a b)
 |.leq=>sk (QS a b||vz a b)
 |.gtr=>sk (!(QS a b||vz a b))
 |.geq=>sk (!QS a b)
 |_=>.fail
def eqC:CK→CV→CV→Option Bool
 |.b,.bl a,.bl b=>some (match a with|true=>b|false=>!b)
 |.i k,.int U a,.int f b=>bif kq k U&&kq k f then some (decide (a=b))else none
 |.s,.str a,.str b=>some (vz a b)
 |_,_,_=>none
def eqL:List CK→List CV→List CV→Option Bool
 |[],[],[]=>some true
 |k::ks,a::l,b::m=>match eqC k a b,eqL ks l m with
  |some x,some y=>some (bif x then y else false)
  |_,_=>none
 |_,_,_=>none
def eqP (f:List CK)(agg:Bool):PV→PV→Option Bool
 |.one a,.one b=>bif agg then none else eqL f [a] [b]
 |.agg l,.agg m=>bif agg then eqL f l m else none
 |_,_=>none
def eqQ:EqK→TV→TV→Option Bool
 |.flat j agg,.pv x,.pv y=>eqP j agg x y
 |.ptr,.pv (.one x),.pv (.one y)=>match x,y with
  |.nilp,.nilp=>some true
  |.nilp,.ptr _ _ _=>some false
  |.ptr _ _ _,.nilp=>some false
  |.nilp,.glob _=>some false
  |.glob _,.nilp=>some false
  |.ptr k g o,.ptr l p f=>bif k.beq l&&Nat.beq g p then some (Nat.beq o f)else none
  |_,_=>none
 |.slc,.pv (.one x),.pv (.one y)=>match x,y with
  |.nils,.nils=>some true
  |.nils,.sl _ _ _ _ _=>some false
  |.sl _ _ _ _ _,.nils=>some false
  |.nils,.emp _=>some false
  |.emp _,.nils=>some false
  |_,_=>none
 |.mp,.pv (.one x),.pv (.one y)=>match x,y with
  |.nilm,.nilm=>some true
  |.nilm,.mp _=>some false
  |.mp _,.nilm=>some false
  |_,_=>none
 |.fnc,.pv (.one x),.pv (.one y)=>match x,y with
  |.nilf,.nilf=>some true
  |.nilf,.fnc _=>some false
  |.fnc _,.nilf=>some false
  |.nilf,.clo _=>some false
  |.clo _,.nilf=>some false
  |_,_=>none
 |.ifc cn,.pv (.one x),.pv (.one y)=>match x,y with
  |.nili,.nili=>bif cn then some true else none
  |.nili,.ifc _=>some false
  |.ifc _,.nili=>some false
  |_,_=>none
 |_,_,_=>none
def Dv (o:EO)(g f m:Nat):Option (List CV):=match o with
 |.row _ s p len j _=>bif Nat.ble g j&&Nat.blt (f/s) len then
   match p.get dch (f/s)with
   |⟨r,l⟩=>bif Nat.ble l g&&Nat.ble (f%s+m) s then some ((r.drop (f%s)).take m)else none
  else none
 |_=>none
def NY:Fz→Bool
 |.no=>true
 |_=>false
def du (g:List CV)(f:Nat)(new:List CV):List CV:=g.take f++new++g.drop (f+new.length)
def CF (o:EO)(g f:Nat)(new:List CV):Option EO:=match o with
 |.row e s l len j fz=>bif Nat.beq g j&&Nat.blt (f/s) len&&Nat.ble (f%s+new.length) s&&NY fz then
   match l.get dch (f/s)with
   |⟨p,_⟩=>some (.row e s (l.set dch 32 (f/s) ⟨du p (f%s) new,j⟩) len j fz)
  else none
 |_=>none
def oo (o:EO)(g s:Nat):Nat→Nat→Option (List (List CV))
 |0,_=>some []
 |n+1,off=>match Dv o g off s,oo o g s n (off+s)with
  |some a,some l=>some (a::l)
  |_,_=>none
def jR (g s:Nat):List (List CV)→EO→Nat→Option EO
 |[],o,_=>some o
 |a::l,o,off=>match CF o g off a with
  |some f=>jR g s l f (off+s)
  |none=>none
def oa (m:Nat):List (List CV)→PT Ch→Nat→PT Ch
 |[],el,_=>el
 |a::l,el,i=>oa m l (el.set dch 32 i ⟨a,m⟩) (i+1)
def aew (s:Nat)(str:Bool)(x:TV)(k:List (List CV)→Q):Q:=match x with
 |.pv (.one (.sl j g off n _))=>bif str then .fail else .rd j λo=>match oo o g s n off with
  |some l=>k l
  |none=>.fail
 |.pv (.one .nils)=>bif str then .fail else k []
 |.pv (.one (.emp _))=>bif str then .fail else k []
 |.pv (.one (.str b))=>bif str then k (b.map λc=>[.int .u8 (Int.ofNat c)])else .fail
 |_=>.fail
def FT (agg:Bool)(f:List CV):Option PV:=match agg with
 |true=>some (.agg f)
 |false=>match f with
  |[c]=>some (.one c)
  |_=>none
def Mk (p:Option PV)(wr:Option (Pos×EO)):Q:=match p with
 |some p=>.ret (.pv p) wr
 |none=>.fail
def newRow (e:TypeId)(s:Nat)(l:List (List CV))(n:Nat):EO :=.row e s (oa 0 l .leaf 0) n 0 .no
def km (s:Nat):List (List CV)→Bool
 |[]=>true
 |a::l=>bif Nat.beq a.length s then km s l else false
def Bx:List (Nat×Nat)→List TV→List CV→Option (List CV)
 |[],[],cs=>some cs
 |(off,s)::ps,.pv p::vs,cs=>bif Nat.beq p.cells.length s&&Nat.ble (off+s) cs.length then Bx ps vs (du cs off p.cells)else none
 |_,_,_=>none
def NE (s:Nat):Nat→List Nat→List TV→Option (List (List CV))
 |_,[],[]=>some []
 |i,j::js,.pv p::vs=>bif Nat.beq i j&&Nat.beq p.cells.length s then match NE s (i+1) js vs with
   |some l=>some (p.cells::l)
   |none=>none
  else none
 |_,_,_=>none
def tw (f:List CK)(agg:Bool)(k:PV):List ME→Nat→Option (Option (Nat×ME))
 |[],_=>some none
 |e::es,i=>match eqP f agg k e.key with
  |some true=>some (some (i,e))
  |some false=>tw f agg k es (i+1)
  |none=>none
def Tn (b:Nat):List ME→Nat→Option Nat
 |[],_=>none
 |e::es,i=>bif Nat.beq e.born b then some i else Tn b es (i+1)
def rD (f:List CK)(agg:Bool)(k:PV):Bool:=match eqP f agg k k with|some _=>true|none=>false
def zL (g:List ME)(i:Nat)(f:ME→ME):List ME:=match g,i with
 |[],_=>[]
 |e::g,0=>f e::g
 |e::g,i+1=>e::zL g i f
def RG (f:List ME)(i:Nat):List ME:=match f,i with
 |[],_=>[]
 |_::f,0=>f
 |e::f,i+1=>e::RG f i
def wq (seen:List Nat):List ME→List ME
 |[]=>[]
 |e::es=>bif seen.any (Nat.beq e.born)then wq seen es else e::wq seen es
def ahi (e:TypeId)(s bytes:Nat)(fresh:Pos)(b:TV)(l:List (List CV)):Q :=
 match b with
 |.pv (.one .nils)=>match l with
  |[]=>pa .nils
  |_=>bif Nat.ble (l.length*bytes) 140737488355328&&km s l&&Nat.ble (l.length) 4294967290 then .ret (.pv (.one (.sl fresh 0 0 l.length none))) (some (fresh,newRow e s l l.length))else .fail
 |.pv (.one (.sl k g off n cap))=>match l with
  |[]=>bif (match cap with|some c=>Nat.ble n c|none=>true)then .ret b none else .fail
  |_=>.rd k λo=>match cap with
   |some c=>bif Nat.ble (n+l.length) c then match jR g s l o (off+n*s)with
     |some p=>.ret (.pv (.one (.sl k g off (n+l.length) cap))) (some (k,p))
     |none=>.fail
    else match oo o g s n off with
     |some j=>bif Nat.ble ((n+l.length)*bytes) 140737488355328&&km s j&&km s l&&Nat.ble (n+l.length) 4294967290 then .ret (.pv (.one (.sl fresh 0 0 (n+l.length) none))) (some (fresh,newRow e s (j++l) (n+l.length)))else .fail
     |none=>.fail
   |none=>match o with
    |.row J r C len f fz=>bif Nat.beq e J&&Nat.beq s r&&Nat.beq g f&&Nat.beq (off%s) 0&&km s l&&Nat.ble ((n+l.length)*bytes) 140737488355328&&Nat.ble (n+l.length) 4294967290&&NY fz then
      bif Nat.ble (off/s+n+l.length) len then match jR g s l o (off+n*s)with
       |some p=>.ret (.pv (.one (.sl k g off (n+l.length) cap))) (some (k,p))
       |none=>.fail
      else bif Nat.beq off 0&&Nat.ble n len then .ret (.pv (.one (.sl k (f+1) 0 (n+l.length) none))) (some (k,.row e s (oa (f+1) l C n) (n+l.length) (f+1) fz))else .fail
     else .fail
    |_=>.fail
 |_=>.fail
def uH (ok:Bool)(z:PV)(r:Option PV):Q:=match ok with
 |true=>match r with
  |some v=>.ret (.tup [v,.one (.bl true)]) none
  |none=>.ret (.tup [z,.one (.bl false)]) none
 |false=>match r with
  |some v=>.ret (.pv v) none
  |none=>.ret (.pv z) none
def zo:List (List CV)→Option (List Nat)
 |[]=>some []
 |[.int .u8 (.ofNat n)]::l=>bif Nat.blt n 256 then match zo l with
   |some b=>some (n::b)
   |none=>none
  else none
 |_=>none
def pvs:List TV→Option (List PV)
 |[]=>some []
 |.pv p::l=>match pvs l with
  |some r=>some (p::r)
  |none=>none
 |_=>none
def Rx  (vs:List TV)(_:Pos):Q:=match vs with
 |[x]=>.ret x none
 |_=>.fail
def Tu  (vs:List TV)(_:Pos):Q:=match vs with
 |[c,a,b]=>match c with
  |.pv (.one (.bl c))=>.ret (match c with|true=>a|false=>b) none
  |_=>.fail
 |_=>.fail
def KK (e:TypeId)(g:List CV)(vs:List TV)(f:Pos):Q:=match vs with
 |[]=>.ret (.pv (.one (.ptr f 0 0))) (some (f,.row e g.length (.node .leaf ⟨g,0⟩ .leaf) 1 0 .no))
 |_=>.fail
def ZO (e:TypeId)(s:Nat)(vs:List TV)(f:Pos):Q:=match vs with
 |[x]=>match x with
  |.pv p=>bif Nat.beq p.cells.length s then .ret (.pv (.one (.ptr f 0 0))) (some (f,.row e s (.node .leaf ⟨p.cells,0⟩ .leaf) 1 0 .no))else .fail
  |_=>.fail
 |_=>.fail
def E2 (f:List CV)(ps:List (Nat×Nat))(vs:List TV)(_:Pos):Q:=match Bx ps vs f with
  |some g=>.ret (.pv (.agg g)) none
  |none=>.fail
def ac3 (e:TypeId)(s len:Nat)(j:List CV)(g:List Nat)(vs:List TV)(f:Pos):Q:=match NE s 0 g vs with
  |some l=>bif Nat.ble l.length len&&Nat.ble (len*s) 16777216 then .ret (.pv (.one (.sl f 0 0 len (some len)))) (some (f,newRow e s (l++List.replicate (len-l.length) j) len))else .fail
  |none=>.fail
def E1 (s:Nat)(agg:Bool)(vs:List TV)(_:Pos):Q:=match vs with
 |[x]=>match x with
  |.pv (.one (.ptr k g off))=>.rd k λo=>match Dv o g off s with
   |some f=>Mk (FT agg f) none
   |none=>.fail
  |_=>.fail
 |_=>.fail
def Ap (s:Nat)(vs:List TV)(_:Pos):Q:=match vs with
 |[x,y]=>match x,y with
  |.pv (.one (.ptr k g off)),.pv p=>bif Nat.beq p.cells.length s then .rd k λo=>match CF o g off p.cells with
    |some f=>.ret .unk (some (k,f))
    |none=>.fail
   else .fail
  |_,_=>.fail
 |_=>.fail
def za  (vs:List TV)(_:Pos):Q:=match vs with
 |[x]=>match x with
  |.pv (.one (.ptr _ _ _))=>.ret x none
  |.pv (.one (.glob _))=>.ret x none
  |.pv (.one (.fnc _))=>.ret x none
  |.pv (.one (.ifc _))=>.ret x none
  |_=>.fail
 |_=>.fail
def rJ (op:BinOp)(vs:List TV)(_:Pos):Q:=match vs with
 |[x,y]=>match x,y with
  |.pv (.one x),.pv (.one y)=>match x,y with
   |.int k a,.int f b=>match op with
    |.shl=>shI .shl k a b
    |.shr=>shI .shr k a b
    |op=>bif kq k f then FB op k a b else .fail
   |.str a,.str b=>aaM op a b
   |_,_=>.fail
  |_,_=>.fail
 |_=>.fail
def ZN (neg:Bool)(q:EqK)(vs:List TV)(_:Pos):Q:=match vs with
 |[x,y]=>match eqQ q x y with
  |some b=>sk (match neg with|true=>!b|false=>b)
  |none=>.fail
 |_=>.fail
def eUn (op:UnOp)(vs:List TV)(_:Pos):Q:=match vs with
 |[x]=>match op,x with
  |.not,.pv (.one (.bl b))=>sk (!b)
  |.neg,.pv (.one (.int k n))=>eE k (k.wrap (0-n))
  |.xor,.pv (.one (.int k n))=>eE k (k.wrap ((BitVec.ofInt k.bits (if k.signed then -1 else k.max) ^^^ BitVec.ofInt k.bits n).toNat:Int))
  |_,_=>.fail
 |_=>.fail
def Ox (k:IntKind)(vs:List TV)(_:Pos):Q:=match vs with
 |[x]=>match x with
  |.pv (.one (.int _ n))=>eE k (k.wrap n)
  |_=>.fail
 |_=>.fail
def On  (vs:List TV)(_:Pos):Q:=match vs with
 |[x]=>match x with
  |.pv (.one (.str _))=>.ret x none
  |_=>.fail
 |_=>.fail
def ac8  (vs:List TV)(_:Pos):Q:=match vs with
 |[x]=>match x with
  |.pv (.one .nils)=>pa (.str [])
  |.pv (.one (.sl k g off n _))=>.rd k λo=>match oo o g 1 n off with
   |some l=>match zo l with
    |some b=>pa (.str b)
    |none=>.fail
   |none=>.fail
  |_=>.fail
 |_=>.fail
def aha (e:TypeId)(vs:List TV)(f:Pos):Q:=match vs with
 |[x]=>match x with
  |.pv (.one (.str b))=>bif Nat.ble b.length 4294967290 then .ret (.pv (.one (.sl f 0 0 b.length none))) (some (f,.row e 1 (oa 0 (b.map λc=>[.int .u8 (Int.ofNat c)]) .leaf 0) b.length 0 .out))else .fail
  |_=>.fail
 |_=>.fail
def ZL  (vs:List TV)(_:Pos):Q:=match vs with
 |[x]=>match x with
  |.pv (.one (.int _ (.ofNat n)))=>bif Nat.blt n 128 then pa (.str [n])else .fail
  |_=>.fail
 |_=>.fail
def ac1 (t:TypeId)(vs:List TV)(f:Pos):Q:=match vs with
 |[x]=>match x with
  |.pv p=>.ret (.pv (.one (.ifc f))) (some (f,.ifc t p))
  |_=>.fail
 |_=>.fail
def ac2 (fn:Fn)(nf:Nat)(vs:List TV)(f:Pos):Q:=match pvs vs with
  |some l=>.ret (.pv (.one (.clo f))) (some (f,.clo fn (l.take nf) (l.drop nf)))
  |none=>.fail
def ac0  (vs:List TV)(f:Pos):Q:=match vs with
  |[]=>.ret (.pv (.one (.mp f))) (some (f,.map [] 0))
  |[.pv (.one (.int _ _))]=>.ret (.pv (.one (.mp f))) (some (f,.map [] 0))
  |_=>.fail
def acZ (e:TypeId)(s bytes:Nat)(g:List CV)(vs:List TV)(f:Pos):Q:=match vs with
 |[x,y]=>match x,y with
  |.pv (.one (.int _ (.ofNat n))),.pv (.one (.int _ (.ofNat c)))=>bif Nat.ble n c&&Nat.ble c 16777216&&Nat.ble (c*bytes) 16777216 then .ret (.pv (.one (.sl f 0 0 n (some c)))) (some (f,newRow e s (List.replicate c g) c))else .fail
  |_,_=>.fail
 |_=>.fail
def Yj (f:Bool)(vs:List TV):Option (Option Nat×List TV):=match f with
 |false=>some (none,vs)
 |true=>match vs with
  |x::r=>match x with
   |.pv (.one (.int _ (.ofNat n)))=>some (some n,r)
   |_=>none
  |[]=>none
def Wp (f g mx:Bool)(r:List TV)(k:Option Nat→Option Nat→Option Nat→Q):Q:=match Yj f r with
 |some (l,r)=>match Yj g r with
  |some (h,r)=>match Yj mx r with
   |some (m,[])=>k l h m
   |_=>.fail
  |none=>.fail
 |none=>.fail
def gD (o:Option Nat)(d:Nat):Nat:=match o with|some x=>x|none=>d
def aev (k:Pos)(g f s l h m:Nat):Q:=pa (.sl k g (cond (Nat.beq l m) f (f+l*s)) (h-l) (some (m-l)))
def ym (h m:Option Nat):Bool:=match m with|none=>true|some _=>match h with|some _=>true|none=>false
def adZ (s:Nat)(x:TV)(f:Pos)(l h m:Option Nat):Q:=match x with
 |.pv (.one .nils)=>bif Nat.beq (gD l 0) 0&&Nat.beq (gD h 0) 0&&Nat.beq (gD m 0) 0&&ym h m then pa .nils else .fail
 |.pv (.one (.sl k g off n cap))=>match cap with
  |some c=>bif Nat.ble (gD m c) c&&Nat.ble (gD h n) (gD m c)&&Nat.ble (gD l 0) (gD h n)&&ym h m then aev k g off s (gD l 0) (gD h n) (gD m c)else .fail
  |none=>match m with
   |some m=>match h with
    |some h=>bif Nat.ble m n&&Nat.ble h m&&Nat.ble (gD l 0) h then aev k g off s (gD l 0) h m else .fail
    |none=>.fail
   |none=>bif Nat.ble (gD h n) n&&Nat.ble (gD l 0) (gD h n)then
     bif Nat.beq (gD l 0) 0 then pa (.sl k g off (gD h n) none)
     else bif Nat.blt (gD l 0) n then .rd k λo=>match o with
      |.row _ j _ _ _ _=>bif Nat.beq s j then pa (.sl k g (off+gD l 0*s) (gD h n-gD l 0) none)else .fail
      |_=>.fail
     else .ret (.pv (.one (.emp f))) (some (f,.emp))
    else .fail
 |_=>.fail
def Tr (s:Nat)(g j mx:Bool)(vs:List TV)(f:Pos):Q:=match vs with
 |x::r=>Wp g j mx r (adZ s x f)
 |[]=>.fail
def Ts (n s:Nat)(f j mx:Bool)(vs:List TV)(_:Pos):Q:=match vs with
 |x::r=>Wp f j mx r λl h m=>match x with
  |.pv (.one (.ptr k g off))=>bif Nat.ble (gD m n) n&&Nat.ble (gD h n) (gD m n)&&Nat.ble (gD l 0) (gD h n)&&ym h m then aev k g off s (gD l 0) (gD h n) (gD m n)else .fail
  |_=>.fail
 |[]=>.fail
def Om (f g:Bool)(vs:List TV)(_:Pos):Q:=match vs with
 |x::r=>Wp f g false r λl h _=>match x with
  |.pv (.one (.str b))=>bif Nat.ble (gD h b.length) b.length&&Nat.ble (gD l 0) (gD h b.length)then pa (.str ((b.take (gD h b.length)).drop (gD l 0)))else .fail
  |_=>.fail
 |[]=>.fail
def Ow (d:Nat)(vs:List TV)(_:Pos):Q:=match vs with
 |[x]=>match x with
  |.pv (.one (.ptr k g off))=>pa (.ptr k g (off+d))
  |_=>.fail
 |_=>.fail
def ZM (f s:Nat)(agg:Bool)(vs:List TV)(_:Pos):Q:=match vs with
 |[x]=>match x with
  |.pv (.agg cs)=>bif Nat.ble (f+s) cs.length then Mk (FT agg ((cs.drop f).take s)) none else .fail
  |_=>.fail
 |_=>.fail
def Iq (s:Nat)(vs:List TV)(_:Pos):Q:=match vs with
 |[x,y]=>match x,y with
  |.pv (.one (.sl k g off n _)),.pv (.one (.int _ (.ofNat i)))=>bif Nat.blt i n then pa (.ptr k g (off+i*s))else .fail
  |_,_=>.fail
 |_=>.fail
def Ov (n s:Nat)(vs:List TV)(_:Pos):Q:=match vs with
 |[x,y]=>match x,y with
  |.pv (.one (.ptr k g off)),.pv (.one (.int _ (.ofNat i)))=>bif Nat.blt i n then pa (.ptr k g (off+i*s))else .fail
  |_,_=>.fail
 |_=>.fail
def Ip  (vs:List TV)(_:Pos):Q:=match vs with
 |[x,y]=>match x,y with
  |.pv (.one (.str b)),.pv (.one (.int _ (.ofNat i)))=>match b.drop i with
   |c::_=>eE .u8 (Int.ofNat c)
   |[]=>.fail
  |_,_=>.fail
 |_=>.fail
def Ou (n s:Nat)(agg:Bool)(vs:List TV)(_:Pos):Q:=match vs with
 |[x,y]=>match x,y with
  |.pv (.agg cs),.pv (.one (.int _ (.ofNat i)))=>bif Nat.blt i n&&Nat.ble (i*s+s) cs.length then Mk (FT agg ((cs.drop (i*s)).take s)) none else .fail
  |_,_=>.fail
 |_=>.fail
def Oo (q:EqK)(z:PV)(ok:Bool)(vs:List TV)(_:Pos):Q:=match vs with
 |[x,y]=>match q,y with
  |.flat g agg,.pv f=>bif rD g agg f then(match x with
   |.pv (.one .nilm)=>uH ok z none
   |.pv (.one (.mp m))=>.rd m λo=>match o with
    |.map j _=>match tw g agg f j 0 with
     |some r=>uH ok z (r.map (·.2.val))
     |none=>.fail
    |_=>.fail
   |_=>.fail)else .fail
  |_,_=>.fail
 |_=>.fail
def acX (q:EqK)(vs:List TV)(_:Pos):Q:=match vs with
 |[x,y,z]=>match q,x,y,z with
  |.flat ks agg,.pv (.one (.mp m)),.pv f,.pv v=>bif rD ks agg f then .rd m λo=>match o with
    |.map g clock=>match tw ks agg f g 0 with
     |some (some (i,_))=>.ret .unk (some (m,.map (zL g i λe=>⟨f,v,e.born⟩) clock))
     |some none=>.ret .unk (some (m,.map (g++[⟨f,v,clock⟩]) (clock+1)))
     |none=>.fail
    |_=>.fail
   else .fail
  |_,_,_,_=>.fail
 |_=>.fail
def Tx (q:EqK)(z:PV)(vs:List TV)(_:Pos):Q:=match vs with
 |[x,y]=>match q,x,y with
  |.flat ks agg,.pv (.one (.mp m)),.pv f=>bif rD ks agg f then .rd m λo=>match o with
    |.map g clock=>match tw ks agg f g 0 with
     |some (some (i,e))=>.ret (.tup [e.val,.one (.int .i64 (Int.ofNat e.born))]) (some (m,.map (zL g i λe=>⟨f,e.val,e.born⟩) clock))
     |some none=>.ret (.tup [z,.one (.int .i64 (Int.ofNat clock))]) (some (m,.map (g++[⟨f,z,clock⟩]) (clock+1)))
     |none=>.fail
    |_=>.fail
   else .fail
  |_,_,_=>.fail
 |_=>.fail
def Tw  (vs:List TV)(_:Pos):Q:=match vs with
 |[x,y,z]=>match x,y,z with
  |.pv (.one (.mp m)),.pv (.one (.int _ (.ofNat b))),.pv v=>.rd m λo=>match o with
   |.map f clock=>match Tn b f 0 with
    |some i=>.ret .unk (some (m,.map (zL f i λe=>⟨e.key,v,e.born⟩) clock))
    |none=>.fail
   |_=>.fail
  |_,_,_=>.fail
 |_=>.fail
def aed  (vs:List TV)(f:Pos):Q:=match vs with
 |[x]=>match x with
  |.pv (.one (.str b))=>.ret (.pv (.one (.ptr f 0 0))) (some (f,.sit b 0))
  |_=>.fail
 |_=>.fail
def Tt  (vs:List TV)(f:Pos):Q:=match vs with
 |[x]=>match x with
  |.pv (.one .nilm)=>.ret (.pv (.one (.ptr f 0 0))) (some (f,.mit none 0 [] 0))
  |.pv (.one (.mp m))=>.rd m λo=>match o with
   |.map _ clock=>.ret (.pv (.one (.ptr f 0 0))) (some (f,.mit (some m) clock [] clock))
   |_=>.fail
  |_=>.fail
 |_=>.fail
def ZG  (vs:List TV)(_:Pos):Q:=match vs with
 |[x]=>match x with
  |.pv (.one (.ptr k _ 0))=>.rd k λo=>match o with
   |.sit b p=>match b.drop p with
    |[]=>.ret (.tup [.one (.bl false)]) none
    |c::_=>bif Nat.blt c 128 then .ret (.tup [.one (.bl true),.one (.int .i64 (Int.ofNat p)),.one (.int .i32 (Int.ofNat c))]) (some (k,.sit b (p+1)))else .fail
   |_=>.fail
  |_=>.fail
 |_=>.fail
def ZH  (vs:List TV)(_:Pos):Q:=match vs with
 |[x]=>match x with
  |.pv (.one (.ptr k _ 0))=>.rd k λo=>match o with
   |.mit none _ _ _=>.ret (.tup [.one (.bl false)]) none
   |.mit (some m) since seen _=>.rd m λg=>match g with
    |.map f clock=>match wq seen f with
     |[]=>bif seen.isEmpty||f.isEmpty||f.any (λe=>Nat.blt e.born clock)then .ret (.tup [.one (.bl false)]) none else .fail
     |[e]=>bif Nat.blt e.born since then .ret (.tup [.one (.bl true),e.key,e.val]) (some (k,.mit (some m) since (seen++[e.born]) clock))else .fail
     |_=>.fail
    |_=>.fail
   |_=>.fail
  |_=>.fail
 |_=>.fail
def V9 (i:Nat)(vs:List TV)(_:Pos):Q:=match vs with
 |[x]=>match x with
  |.tup l=>match l.drop i with
   |p::_=>.ret (.pv p) none
   |[]=>.fail
  |_=>.fail
 |_=>.fail
def In  (vs:List TV)(_:Pos):Q:=match vs with
 |[x]=>match x with
  |.pv (.one (.str b))=>eE .i64 (Int.ofNat b.length)
  |_=>.fail
 |_=>.fail
def Io  (vs:List TV)(_:Pos):Q:=match vs with
 |[x]=>match x with
  |.pv (.one .nils)=>eE .i64 0
  |.pv (.one (.emp _))=>eE .i64 0
  |.pv (.one (.sl _ _ _ n _))=>eE .i64 (Int.ofNat n)
  |_=>.fail
 |_=>.fail
def Oq  (vs:List TV)(_:Pos):Q:=match vs with
 |[x]=>match x with
  |.pv (.one .nilm)=>eE .i64 0
  |.pv (.one (.mp m))=>.rd m λo=>match o with
   |.map f _=>eE .i64 (Int.ofNat f.length)
   |_=>.fail
  |_=>.fail
 |_=>.fail
def Ot (n:Nat)(vs:List TV)(_:Pos):Q:=match vs with
 |[_]=>eE .i64 (Int.ofNat n)
 |_=>.fail
def Oy  (vs:List TV)(_:Pos):Q:=match vs with
 |[x]=>match x with
  |.pv (.one .nils)=>eE .i64 0
  |.pv (.one (.sl _ _ _ _ (some c)))=>eE .i64 (Int.ofNat c)
  |_=>.fail
 |_=>.fail
def ac9 (e:TypeId)(s bytes:Nat)(str:Bool)(vs:List TV)(f:Pos):Q:=match vs with
 |[b,x]=>aew s str x λl=>ahi e s bytes f b l
 |_=>.fail
def ac6 (s:Nat)(str:Bool)(vs:List TV)(_:Pos):Q:=match vs with
 |[b,x]=>match b with
  |.pv (.one (.sl k g off n _))=>match x with
   |.pv (.one .nils)=>bif str then .fail else eE .i64 0
   |.pv (.one (.sl j g' off' m _))=>bif str then .fail else .rd j λf=>match oo f g' s (Nat.min m n) off' with
    |some l=>match l with
     |[]=>eE .i64 0
     |a::l=>.rd k λo=>match jR g s (a::l) o off with
      |some f=>nfI (Int.ofNat (Nat.min m n)) λm=>.ret (.pv (.one (.int .i64 m))) (some (k,f))
      |none=>.fail
    |none=>.fail
   |_=>.fail
  |_=>.fail
 |_=>.fail
def ac7 (f:List CV)(vs:List TV)(_:Pos):Q:=match vs with
 |[x]=>match x with
  |.pv (.one .nils)=>.ret (.tup []) none
  |.pv (.one (.sl k g off n _))=>match n with
   |0=>.ret (.tup []) none
   |n+1=>.rd k λo=>match jR g f.length (List.replicate (n+1) f) o off with
    |some j=>.ret (.tup []) (some (k,j))
    |none=>.fail
  |_=>.fail
 |_=>.fail
def ac5 (q:EqK)(vs:List TV)(_:Pos):Q:=match vs with
 |[x,y]=>match q,x,y with
  |.flat ks agg,.pv (.one .nilm),.pv kv=>bif rD ks agg kv then .ret (.tup []) none else .fail
  |.flat ks agg,.pv (.one (.mp m)),.pv kv=>bif rD ks agg kv then .rd m λo=>match o with
    |.map f clock=>match tw ks agg kv f 0 with
     |some (some (i,_))=>.ret (.tup []) (some (m,.map (RG f i) clock))
     |some none=>.ret (.tup []) none
     |none=>.fail
    |_=>.fail
   else .fail
  |_,_,_=>.fail
 |_=>.fail
def eMx (f:Bool)(vs:List TV)(_:Pos):Q:=match vs with
 |[x,y]=>match x,y with
  |.pv (.one (.int k a)),.pv (.one (.int k' b))=>bif kq k k' then eE k (match f with|true=>if b>a then b else a|false=>if b<a then b else a)else .fail
  |_,_=>.fail
 |_=>.fail
def KG (b:Nat):List ME→Option ME
 |[]=>none
 |e::es=>bif Nat.beq e.born b then some e else KG b es
def YS:List Nat→Option Nat
 |[]=>none
 |[b]=>some b
 |_::l=>YS l
def ZB (m:Pos)(g f:Nat):Q :=.rd m λo=>match o with
 |.map j clock=>bif Nat.beq clock f then match KG g j with
   |some e=>.ret (.tup [e.key,e.val]) none
   |none=>.fail
  else .fail
 |_=>.fail
def ac4  (vs:List TV)(_:Pos):Q:=match vs with
 |[x]=>match x with
  |.pv (.one (.ptr k _ 0))=>.rd k λo=>match o with
   |.mit (some m) _ seen stepped=>match YS seen with
    |some b=>ZB m b stepped
    |none=>.fail
   |.mitU m _ _ (some (b,c))=>ZB m b c
   |.resI m b c=>ZB m b c
   |_=>.fail
  |_=>.fail
 |_=>.fail
def acY  (vs:List TV)(_:Pos):Q:=match vs with
 |[x]=>match x with
  |.pv (.one (.ptr k g off))=>.rd k λo=>match Dv o g off 1 with
   |some _=>.ret x none
   |none=>.fail
  |.pv (.one .nilp)=>.ret x none
  |_=>.fail
 |_=>.fail
def acW (ok:TypeId→Nat→Nat→Bool)(vs:List TV)(_:Pos):Q:=match vs with
 |[x]=>match x with
  |.pv (.one (.ptr k _ off))=>.rd k λo=>match o with
   |.row e s _ 1 0 .no=>bif ok e s off then .ret x none else .fail
   |_=>.fail
  |.pv (.one .nilp)=>.ret x none
  |_=>.fail
 |_=>.fail
def ZF  (vs:List TV)(_:Pos):Q:=match vs with
 |[x]=>match x with
  |.pv (.one .nils)=>pa .nilp
  |.pv (.one (.sl k g off (_+1) cap))=>bif (match cap with|some c=>Nat.blt 0 c|none=>true)then pa (.ptr k g off)else .fail
  |_=>.fail
 |_=>.fail
def acV (e:TypeId)(ok:TypeId→Nat→Nat→Nat→Bool)(vs:List TV)(_:Pos):Q:=match vs with
 |[x,y]=>match x,y with
  |.pv (.one .nilp),.pv (.one (.int .i64 (.ofNat 0)))=>pa (.str [])
  |.pv (.one (.ptr k g off)),.pv (.one (.int .i64 (.ofNat n)))=>match n with
   |0=>pa (.str [])
   |n+1=>.rd k λo=>match oo o g 1 (n+1) off with
    |some l=>match zo l with
     |some b=>match o with
      |.row j 1 p len f _=>bif Nat.beq e j&&Nat.beq off 0&&ok j len off (n+1)then .ret (.pv (.one (.str b))) (some (k,.row j 1 p len f .yes))else .fail
      |_=>.fail
     |none=>.fail
    |none=>.fail
  |_,_=>.fail
 |_=>.fail
def Tv (e:TypeId)(vs:List TV)(f:Pos):Q:=match vs with
 |[x]=>match x with
  |.pv (.one (.int .i64 (.ofNat n)))=>bif Nat.ble n 16777216 then .ret (.pv (.one (.sl f 0 0 n none))) (some (f,.row e 1 .leaf 0 0 .no))else .fail
  |_=>.fail
 |_=>.fail
def Y1 (c:Nat):List Nat→Nat→Int
 |[],_=>-1
 |b::l,i=>bif Nat.beq b c then Int.ofNat i else Y1 c l (i+1)
def ZK  (vs:List TV)(_:Pos):Q:=match vs with
 |[x,y]=>match x,y with
  |.pv (.one (.str b)),.pv (.one (.int .u8 (.ofNat c)))=>bif Nat.blt c 256 then eE .i64 (Y1 c b 0)else .fail
  |_,_=>.fail
 |_=>.fail
def eSy (n:Nat)(vs:List TV)(_:Pos):Q:=match vs with
 |[]=>.ret (.pv (.one (.sym n))) none
 |_=>.fail
def dY:K→List TV→Pos→Q
 |.mov=>Rx
 |.sy n=>eSy n
 |.pick=>Tu
 |.alloc e f=>KK e f
 |.box e s=>ZO e s
 |.build f ps=>E2 f ps
 |.lit e s len f p=>ac3 e s len f p
 |.load s agg=>E1 s agg
 |.store s=>Ap s
 |.nilchk=>za
 |.bin op=>rJ op
 |.eql neg q=>ZN neg q
 |.un op=>eUn op
 |.cint k=>Ox k
 |.same=>On
 |.b2s=>ac8
 |.s2b e=>aha e
 |.i2s=>ZL
 |.mki t=>ac1 t
 |.mkf fn nf=>ac2 fn nf
 |.mkm=>ac0
 |.mks e s bytes f=>acZ e s bytes f
 |.subs g j=>Om g j
 |.subl s g j mx=>Tr s g j mx
 |.suba n s g j mx=>Ts n s g j mx
 |.fadr d=>Ow d
 |.fld l s agg=>ZM l s agg
 |.idxl s=>Iq s
 |.idxa n s=>Ov n s
 |.idxs=>Ip
 |.idxg n s agg=>Ou n s agg
 |.look q z ok=>Oo q z ok
 |.put q=>acX q
 |.ment q z=>Tx q z
 |.mest=>Tw
 |.rngs=>aed
 |.rngm=>Tt
 |.nexts=>ZG
 |.nextm=>ZH
 |.ext i=>V9 i
 |.lens=>In
 |.lenl=>Io
 |.lenm=>Oq
 |.lena n=>Ot n
 |.capl=>Oy
 |.app e s bytes str=>ac9 e s bytes str
 |.cpy s str=>ac6 s str
 |.del q=>ac5 q
 |.clr f=>ac7 f
 |.mx r=>eMx r
 |.ent=>ac4
 |.p2u=>acY
 |.u2p ok=>acW ok
 |.usd=>ZF
 |.ust e ok=>acV e ok
 |.mknz e=>Tv e
 |.ibs=>ZK
 |_=>λ_ _=>.fail
abbrev DM:=PM (Option EO)
inductive HP where
 |nil
 |ov (b:HP) (d:DM)
 |cut (b:HP) (n:Pos)
def HP.get:HP→Pos→EO
 |.nil,_=>.none
 |.cut b n,k=>match Nat.blt k.num n.num with
  |true=>b.get k
  |false=>.none
 |.ov b d,k=>match PM.get none d k with
  |some o=>o
  |none=>b.get k
def bO (d:DM)(k:Pos)(o:EO):DM:=PM.set none k d (some o)
def HP.get_set (b:HP)(d:DM)(k:Pos)(o:EO):(HP.ov b (bO d k o)).get=upd (HP.ov b d).get k o:=by
 funext q;simp[HP.get,bO,PM.get_set,upd];by_cases e:k=q
 ·rw[β e,β e]
 ·rw[B' e,B' e]
def orO (a b:Option EO):Option EO:=match a with|some o=>some o|none=>b
def eZ:DM→DM→DM
 |.leaf,d=>d
 |.node l a r,.leaf=>.node l a r
 |.node l a r,.node g j f=>.node (eZ l g) (orO a j) (eZ r f)
def wO:∀(x d:DM) (q:Pos),PM.get none (eZ x d) q=orO (PM.get none x q) (PM.get none d q)
 |.leaf,d,q=>rfl
 |.node l a r,.leaf,q=>by simp[eZ];cases h:PM.get none (.node l a r) q <;> rfl
 |.node l a r,.node g j f,q=>by
  cases q with
  |e=>rfl
  |o q=>exact wO l g q
  |i q=>exact wO r f q
def HP.get_merge (b:HP)(d x:DM):(HP.ov b (eZ x d)).get=(HP.ov (.ov b d) x).get:=by funext q;simp[HP.get,wO];cases PM.get none x q <;> rfl
abbrev Env:=PM TV
def bn (e:Env):Src→TV
 |.t p=>e.get .unk p
 |.c v=>v
def aX (e:Env):List Src→List TV
 |[]=>[]
 |s::r=>bn e s::aX e r
def aO (e:Env)(d:Option Pos)(v:TV):Env:=match d with
 |some d=>PM.set .unk d e v
 |none=>e
def setW (d:DM)(w:Option (Pos×EO)):DM:=match w with
 |some (k,o)=>bO d k o
 |none=>d
def gd (e:Env)(g:Option (Pos×Bool)):Option Bool:=match g with
 |none=>some true
 |some (p,w)=>match e.get .unk p with
  |.pv (.one (.bl b))=>some (match w with|true=>b|false=>!b)
  |.tup _=>some false
  |_=>none
inductive OP where
 |op (o:FO) (al:Bool)
 |call (args:List Src) (dst:Option Pos) (g:Option (Pos×Bool))
 |nxt (x:Src) (dst:Option Pos)
 |bad
def qF (e:Env)(f:Pos)(o:FO):Q:=match gd e o.guard with
 |some true=>dY o.k (aX e o.args) f
 |_=>.fail
def stepF (e:Env)(h:Pos→EO)(f:Pos)(o:FO):Option (TV×Option (Pos×EO)):=match gd e o.guard with
 |some b=>match b with
  |true=>(dY o.k (aX e o.args) f).run h
  |false=>some (.tup [],none)
 |none=>none
def trF (e:Env)(h:Pos→EO)(f:Pos)(o:FO):List Pos:=match gd e o.guard with
 |some true=>(dY o.k (aX e o.args) f).tr h
 |_=>[]
inductive Tgt where
 |fn (f:FuncId)
 |yld (k:Pos)
inductive RC where
 |no
 |ok (v:TV) (d:DM) (n:Pos)
inductive RS where
 |no
 |ok (e:Env) (d:DM) (n:Pos)
inductive Ex where
 |normal
 |exit (id:Nat)
 |ret
inductive RX where
 |no
 |ok (x:Ex) (e:Env) (d:DM) (n:Pos)
abbrev Ck:=HP→Tgt→List TV→DM→Pos→RC
abbrev Yk:=HP→Pos→List TV→DM→Pos→RC
structure Callk where
 call:Ck
 iter:Yk→Ck
def pvT:List PV→List TV
 |[]=>[]
 |p::l=>.pv p::pvT l
def cL (h:Pos→EO):List TV→Option (Tgt×List TV)
 |.pv (.one (.fnc f))::r=>some (.fn f,r)
 |.pv (.one (.clo k))::r=>match h k with
  |.clo (.func f) first caps=>some (.fn f,pvT first++r++pvT caps)
  |.yld=>some (.yld k,r)
  |_=>none
 |_=>none
def cx:List ME→List Nat
 |[]=>[]
 |e::es=>e.born::cx es
def vI:TV :=.tup [.one (.bl false)]
def nc (f val:PV):TV :=.tup [.one (.bl true),f,val]
def Ed (h:Pos→EO)(x:TV):Option (TV×Option (Pos×EO)):=match x with
 |.pv (.one (.ptr it _ 0))=>match h it with
  |.mit none _ _ _=>some (vI,none)
  |.mit (some m) since seen sp=>match h m with
   |.map f clock=>match wq seen f with
    |[]=>bif seen.isEmpty||f.isEmpty||f.any (λe=>Nat.blt e.born sp)then some (vI,none)else none
    |[x]=>bif Nat.blt x.born since&&Nat.blt x.born sp then some (nc x.key x.val,some (it,.mit (some m) since (seen++[x.born]) clock))else none
    |_=>none
   |_=>none
  |_=>none
 |_=>none
def bD (f:Bool)(h:Pos→EO)(n:Pos):Bool:=match f with
 |true=>(match h n with|.none=>true|_=>false)
 |false=>true
def cQ (f:Bool)(n:Pos):Pos:=match f with|true=>n.succ|false=>n
def aF (ck:Callk)(b:HP):List OP→Env→DM→Pos→RS
 |[],e,d,n=>.ok e d n
 |o::r,e,d,n=>match o with
  |.op o j=>bif bD j (HP.ov b d).get n then match stepF e (HP.ov b d).get n o with
   |some (out,wr)=>aF ck b r (aO e o.dst out) (setW d wr) (cQ j n)
   |none=>.no
   else .no
  |.call args f g=>match gd e g with
   |some true=>match cL (HP.ov b d).get (aX e args)with
    |some (t,vs)=>match ck.call b t vs d n with
     |.ok out p l=>aF ck b r (aO e f out) p l
     |.no=>.no
    |none=>.no
   |some false=>aF ck b r (aO e f (.tup [])) d n
   |none=>.no
  |.nxt x f=>match Ed (HP.ov b d).get (bn e x)with
   |some (out,wr)=>aF ck b r (aO e f out) (setW d wr) n
   |none=>.no
  |.bad=>.no
inductive Inf where
 |op (key:Option Pos) (rds:List Pos) (fr:Bool) (q:Q) (out:TV)
 |call (h:HP) (d:DM)
inductive RT' where
 |no
 |ok (l:List Inf) (e:Env) (d:DM) (n:Pos)
def e7 (w:Option (Pos×EO)):Option Pos:=match w with
 |some (k,_)=>some k
 |none=>none
def ou (f:Bool)(n:Pos)(w:Option (Pos×EO)):Bool:=match w with
 |some (k,_)=>f&&k.beq n
 |none=>true
def okW (h:Pos→EO)(w:Option (Pos×EO)):Bool:=match w with
 |some (k,_)=>!rE (h k)
 |none=>true
def zi (i:Inf):RT'→RT'
 |.no=>.no
 |.ok l e d n=>.ok (i::l) e d n
def rA (b:HP):List OP→DM→Pos→Option (List Pos×DM×Pos)
 |[],d,n=>some ([],d,n)
 |.op _ true::r,d,n=>match (HP.ov b d).get n with
  |.none=>match rA b r (bO d n .res) n.succ with
   |some (l,d',n')=>some (n::l,d',n')
   |none=>none
  |_=>none
 |_::r,d,n=>rA b r d n
def rC (d:DM):List Pos→Bool
 |[]=>true
 |p::l=>match PM.get none d p with
  |some _=>false
  |none=>rC d l
def eF (f:Bool)(d:DM)(r:Pos):DM:=match f with
 |true=>bO d r .none
 |false=>d
def mK (ck:Callk)(b:HP)(p:List Pos):List OP→Env→DM→Pos→Pos→RT'
 |[],e,d,_,n=>.ok [] e d n
 |o::l,e,d,r,n=>match o with
  |.op o j=>match stepF e (HP.ov b (eF j d r)).get r o with
   |some (out,wr)=>bif okW (HP.ov b (eF j d r)).get wr then zi (.op (e7 wr) (trF e (HP.ov b (eF j d r)).get r o) (ou j r wr) (qF e r o) out) (mK ck b p l (aO e o.dst out) (setW d wr) (cQ j r) n)else .no
   |none=>.no
  |.call args f g=>match gd e g with
   |some true=>match cL (HP.ov b d).get (aX e args)with
    |some (t,vs)=>match ck.call (.ov b d) t vs .leaf n with
     |.ok out C J=>bif rC C p then zi (.call (.ov b d) C) (mK ck b p l (aO e f out) (eZ C d) r J)else .no
     |.no=>.no
    |none=>.no
   |some false=>zi (.op none [] true .fail .unk) (mK ck b p l (aO e f (.tup [])) d r n)
   |none=>.no
  |_=>.no
def We:CV→CV→Bool
 |.bl a,.bl b=>match a with|true=>b|false=>!b
 |.int k a,.int j b=>kq k j&&decide (a=b)
 |.str a,.str b=>vz a b
 |.nilp,.nilp=>true
 |.ptr k g o,.ptr j p l=>k.beq j&&Nat.beq g p&&Nat.beq o l
 |.glob a,.glob b=>Nat.beq a b
 |.nils,.nils=>true
 |.sl k g o n c,.sl j p l r C=>k.beq j&&Nat.beq g p&&Nat.beq o l&&Nat.beq n r&&(match c,C with|none,none=>true|some a,some b=>Nat.beq a b|_,_=>false)
 |.emp k,.emp j=>k.beq j
 |.nilm,.nilm=>true
 |.mp k,.mp j=>k.beq j
 |.nilf,.nilf=>true
 |.fnc f,.fnc g=>Nat.beq f g
 |.clo k,.clo j=>k.beq j
 |.nili,.nili=>true
 |.ifc k,.ifc j=>k.beq j
 |.sym m,.sym n=>Nat.beq m n
 |_,_=>false
def Fj:List CV→List CV→Bool
 |[],[]=>true
 |a::l,b::m=>bif We a b then Fj l m else false
 |_,_=>false
def QO (k:Pos):List Pos→Bool
 |[]=>false
 |p::l=>bif k.beq p then true else QO k l
def AA (k:Option Pos)(l:List Pos):Bool:=match k with
 |some k=>!QO k l
 |none=>true
def K3 (k f:Option Pos):Bool:=match k with
 |some k=>match f with
  |some f=>!k.beq f
  |none=>true
 |none=>true
def nth {R:Type}:List R→Nat→Option R
 |[],_=>none
 |a::_,0=>some a
 |_::l,i+1=>nth l i
def Ui:TV→TV→Bool
 |.pv (.one c),.pv (.one c')=>We c c'
 |.pv (.agg cs),.pv (.agg cs')=>Fj cs cs'
 |_,_=>false
def AW (f:EO→Q)(o:EO)(out:TV):Bool:=match f o with
 |.ret g none=>Ui g out
 |_=>false
def I9 (h:HP)(d:DM)(l:List Pos)(q:Q)(out:TV):Bool:=rC d l||(match q with
 |.rd k f=>match l with
  |[_]=>match PM.get none d k with
   |some o=>AW f o out&&AW f (h.get k) out
   |none=>false
  |_=>false
 |_=>false)
def dV:Inf→Inf→Bool
 |.op k l _ _ _,.op f g _ _ _=>AA k g&&AA f l&&K3 k f
 |.op none l _ q out,.call h d=>I9 h d l q out
 |.call h d,.op none l _ q out=>I9 h d l q out
 |.call _ d,.op _ l true _ _=>rC d l
 |_,_=>false
def fE (l:List Inf)(p:Nat×Nat):Bool:=match nth l p.1 with
 |some a=>match nth l p.2 with
  |some b=>dV a b
  |none=>false
 |none=>false
def dQ (l:List Inf):List (Nat×Nat)→Bool
 |[]=>true
 |p::r=>bif fE l p then dQ l r else false
inductive FC where
 |skip
 |region (ops:List OP)
 |drawn (ops:List OP) (ps:List (Nat×Nat))
 |seq (a b:FC)
 |cond (c:Src) (a b:FC)
 |block (id:Nat) (c:FC)
 |loop (c:FC)
 |rloop (x:Src) (dst:Option Pos) (ops:List OP) (asg:List Pos) (c:FC)
 |rng (f:Src) (ps:List Pos) (asg body:FC)
 |exit (id:Nat)
 |ret
 |bad
def pE (g:Env→DM→Pos→RX):Nat→Env→DM→Pos→RX
 |0,_,_,_=>.no
 |f+1,e,d,n=>match g e d n with
  |.ok x l p j=>match x with
   |.normal=>pE g f l p j
   |x=>.ok x l p j
  |.no=>.no
def xK:List Pos→List TV→Env→Option Env
 |[],[],e=>some e
 |t::ts,a::as,e=>xK ts as (PM.set .unk t e a)
 |_,_,_=>none
def De (j:Pos)(call:Ck)(e:Env)(ps:List Pos)(f:HP→Env→DM→Pos→RX):Yk:=λb g args d n=>match g.beq j with
 |true=>match xK ps args e with
  |some p=>match f b p d n with
   |.ok x _ r l=>match x with
    |.normal=>.ok (.pv (.one (.bl true))) r l
    |_=>.no
   |.no=>.no
  |none=>.no
 |false=>call b (.yld g) args d n
def GR (f:Pos)(h:Pos→EO):DM→(Pos→Pos)→Bool
 |.leaf,_=>true
 |.node l a r,c=>(match a with
   |none=>true
   |some _=>match h (c .e)with
    |.none=>true
    |_=>(c .e).beq f)&&GR f h l (λp=>c (.o p))&&GR f h r (λp=>c (.i p))
def nR:List Pos→Env→Env
 |[],e=>e
 |p::l,e=>nR l (PM.set .unk p e .unk)
def LG (a f:TV):Bool:=match a with
 |.unk=>true
 |.pv (.one c)=>match f with|.pv (.one c')=>We c c'|_=>false
 |.pv (.agg cs)=>match f with|.pv (.agg cs')=>Fj cs cs'|_=>false
 |.tup _=>false
def oX:Env→Env→Bool
 |.leaf,_=>true
 |.node l a r,.leaf=>LG a .unk&&oX l .leaf&&oX r .leaf
 |.node l a r,.node g j f=>LG a j&&oX l g&&oX r f
def iz:Env→Env
 |.leaf=>.leaf
 |.node l a r=>.node (iz l) (match a with|.tup _=>.unk|a=>a) (iz r)
def Ol (f:ME→RX)(ok:Env→DM→Bool):List ME→Bool
 |[]=>true
 |x::es=>match f x with
  |.ok .normal e d _=>bif ok e d then Ol f ok es else false
  |_=>false
def iy (r:RS)(f:Env→DM→Pos→RX):RX:=match r with
 |.ok e d n=>f e d n
 |.no=>.no
def Sm (m:Pos)(f:Nat)(g:List Nat)(o:EO):Bool:=match o with
 |.mitU m' since' bs' (some _)=>m.beq m'&&Nat.beq f since'&&vz g bs'
 |_=>false
def exec (ck:Callk)(j:Nat):FC→HP→Env→DM→Pos→RX
 |.skip,_,e,d,n=>.ok .normal e d n
 |.region p,b,e,d,n=>match aF ck b p e d n with
  |.ok e d n=>.ok .normal e d n
  |.no=>.no
 |.drawn p ps,b,e,d,n=>match rA b p d n with
  |some (rs,d1,n1)=>match mK ck b rs p e d1 n n1 with
   |.ok l e d n=>bif dQ l ps then .ok .normal e d n else .no
   |.no=>.no
  |none=>.no
 |.seq x y,b,e,d,n=>match exec ck j x b e d n with
  |.ok U e d n=>match U with
   |.normal=>exec ck j y b e d n
   |U=>.ok U e d n
  |.no=>.no
 |.cond c x y,b,e,d,n=>match bn e c with
  |.pv (.one (.bl t))=>match t with
   |true=>exec ck j x b e d n
   |false=>exec ck j y b e d n
  |_=>.no
 |.block id c,b,e,d,n=>match exec ck j c b e d n with
  |.ok x e d n=>match x with
   |.exit R=>match Nat.beq R id with
    |true=>.ok .normal e d n
    |false=>.ok (.exit R) e d n
   |x=>.ok x e d n
  |.no=>.no
 |.loop c,b,e,d,n=>pE (exec ck j c b) j e d n
 |.rloop x P p C c,b,e,d,n=>match bn (nR C (iz e)) x with
  |.pv (.one (.ptr it _ 0))=>match (HP.ov b d).get it with
   |.mit (some m) since [] sp=>match (HP.ov b d).get m with
    |.map J clock=>match J with
     |_::_::_=>bif Nat.ble since sp&&Nat.ble since clock&&J.all (λx=>Nat.blt x.born since)then
       bif Ol (λy=>iy (aF ck (.ov b (bO d it (.mitU m since (cx J) none))) p (aO (nR C (iz e)) P (nc y.key y.val)) (bO .leaf it (.mitU m since (cx J) (some (y.born,clock)))) n) (exec ck j c (.ov b (bO d it (.mitU m since (cx J) none)))))
         (λe' d'=>GR it (HP.ov b (bO d it (.mitU m since (cx J) none))).get d' id&&oX (nR C (iz e)) e'&&Sm m since (cx J) ((HP.ov (.ov b (bO d it (.mitU m since (cx J) none))) d').get it)) J
       then match iy (aF ck b p (aO (nR C (iz e)) P vI) (bO d it .dead) n) (exec ck j c b)with
        |.ok .normal _ _ _=>.no
        |r=>r
       else .no
      else .no
     |_=>pE (λe d n=>iy (aF ck b (.nxt x P::p) e d n) (exec ck j c b)) j e d n
    |_=>.no
   |.mit none _ _ _=>pE (λe d n=>iy (aF ck b (.nxt x P::p) e d n) (exec ck j c b)) j e d n
   |_=>.no
  |_=>.no
 |.rng f ps C T,b,e,d,n=>match bD true (HP.ov b d).get n with
  |true=>match cL (HP.ov b (bO d n .yld)).get (bn e f::[.pv (.one (.clo n))])with
   |some (.fn g,vs)=>match ck.iter (De n ck.call e ps λb e d n=>match exec ck j C b e d n with
     |.ok .normal e d n=>exec ck j T b e d n
     |_=>.no) b (.fn g) vs (bO d n .yld) n.succ with
    |.ok _ d n=>.ok .normal e d n
    |.no=>.no
   |_=>.no
  |false=>.no
 |.exit id,_,e,d,n=>.ok (.exit id) e d n
 |.ret,_,e,d,n=>.ok .ret e d n
 |.bad,_,_,_,_=>.no
inductive FR where
 |t (p:Pos)
 |cell (p:Pos) (s:Nat) (agg:Bool)
def xO (e:Env)(h:Pos→EO):FR→Option PV
 |.t p=>match e.get .unk p with
  |.pv v=>some v
  |_=>none
 |.cell p s agg=>match e.get .unk p with
  |.pv (.one (.ptr k g off))=>match Dv (h k) g off s with
   |some f=>FT agg f
   |none=>none
  |_=>none
def dv (e:Env)(h:Pos→EO):List FR→Option (List PV)
 |[]=>some []
 |r::l=>match xO e h r with
  |some a=>match dv e h l with
   |some f=>some (a::f)
   |none=>none
  |none=>none
def jA:List PV→TV
 |[a]=>.pv a
 |l=>.tup l
structure Fi where
 code:FC
 res:List FR
 nt:Nat
def jU:List TV→Pos→Env→Env
 |[],_,e=>e
 |a::l,p,e=>jU l p.succ (PM.set .unk p e a)
def UP (b:HP)(f:List FR)(r:RX):RC:=match r with
 |.ok x e d n=>match x with
  |.exit _=>.no
  |_=>match dv e (HP.ov b d).get f with
   |some l=>.ok (jA l) d n
   |none=>.no
 |.no=>.no
def BU (call:Yk→Ck)(f:Yk):Callk:=⟨call f,call⟩
def sM (p:FuncId→Option Fi)(g:Nat):Nat→Yk→Ck
 |0,l,b,t,args,d,n=>match t with
  |.yld j=>l b j args d n
  |.fn _=>.no
 |dp+1,l,b,t,args,d,n=>match t with
  |.yld j=>l b j args d n
  |.fn f=>match p f with
   |some x=>match Nat.ble args.length x.nt with
    |true=>UP b x.res (exec (BU (sM p g dp) l) g x.code b (jU args .e .leaf) d n)
    |false=>.no
   |none=>.no
def noY:Yk:=λ_ _ _ _ _=>.no
abbrev bN (g:FuncId→Option Fi)(f j:Nat):Callk:=BU (sM g f j) noY
def sf (j:FuncId→Option Fi)(g l:Nat)(f:FuncId)(args:List TV)(ok:TV→Bool):Bool :=
 match sM j g l noY .nil (.fn f) args .leaf .e with
 |.ok v _ _=>ok v
 |.no=>false
def adg:Value→Option CV
 |.bool b=>some (.bl b)
 |.int k n=>some (.int k n)
 |.string s=>some (.str (s.data.toList.map UInt8.toNat))
 |.pointer none=>some .nilp
 |.slice none 0 0=>some .nils
 |.map none=>some .nilm
 |.nilFunc=>some .nilf
 |.func (.func f) a b=>if a.size=0∧b.size=0 then some (.fnc f)else none
 |.nilIface=>some .nili
 |_=>none
def TD:List Value→Option (List CV)
 |[]=>some []
 |v::l=>match adg v,TD l with
  |some c,some r=>some (c::r)
  |_,_=>none
def abH:Value→Option PV
 |.agg f=>match TD f.toList with
  |some l=>some (.agg l)
  |none=>none
 |v=>match adg v with
  |some c=>some (.one c)
  |none=>none
def agx (v:Value):TV:=match abH v with
 |some p=>.pv p
 |none=>.unk
def ng:Operand→Src
 |.tmp t=>if t+2≤2^64 then .t (pos t)else .c .unk
 |.const v=>.c (agx v)
 |.global g=>.c (.pv (.one (.glob g)))
 |.func f=>.c (.pv (.one (.fnc f)))
def ah (P:Program)(t:TypeId):Nat:=match P.info? t with
 |some i=>i.size
 |none=>0
def vC (P:Program)(t:TypeId):Nat:=match P.info? t with
 |some i=>i.bytes
 |none=>0
def iP:Option TypeDesc→Option Bool
 |some (.struct _)=>some true
 |some (.array _ _)=>some true
 |some _=>some false
 |none=>none
def dq (P:Program)(t:TypeId):Option PV:=match P.info? t with
 |some i=>match i.zero with
  |some v=>abH v
  |none=>none
 |none=>none
def Wl (sz:TypeId→Nat)(f:TypeId→Option (List CK)):List Field→Nat→Option (List CK)
 |[],_=>some []
 |x::r,off=>if x.name ≠ "_" ∧ x.offset=off then match f x.type with
   |some a=>if sz x.type=a.length∧a.length≠0 then match Wl sz f r (off+a.length)with
     |some b=>some (a++b)
     |none=>none
    else none
   |none=>none
  else none
def iA (P:Program):Nat→TypeId→Option (List CK)
 |0,_=>none
 |d+1,t=>match P.underlying t with
  |some .bool=>some [.b]
  |some (.int k)=>some [.i k]
  |some .string=>some [.s]
  |some (.struct T)=>if P.stoodInHeld t then none else Wl (ah P) (iA P d) T.toList 0
  |_=>none
def E0 (P:Program)(t:TypeId)(g:Bool):Option EqK:=match P.underlying t with
 |some (.pointer e)=>if ah P e=0 then none else some .ptr
 |some (.slice _)=>some .slc
 |some (.map _ _)=>some .mp
 |some (.func _ _ _)=>some .fnc
 |some (.interface _)=>some (.ifc g)
 |some (.struct _)=>if P.eqGuardType P.depth t then none else match iA P 20 t with
  |some f=>some (.flat f true)
  |none=>none
 |some (.array _ _)=>none
 |some _=>match iA P 20 t with
  |some f=>some (.flat f false)
  |none=>none
 |none=>none
def nE (P:Program)(t:TypeId):Option EqK:=match P.underlying t with
 |some (.struct _)=>match iA P 20 t with
  |some f=>some (.flat f true)
  |none=>none
 |some _=>match iA P 20 t with
  |some f=>some (.flat f false)
  |none=>none
 |none=>none
def isC:Operand→Bool
 |.const _=>true
 |_=>false
def x7 (P:Program)(T:Array Field):List (Nat×Operand)→Option (List (Nat×Nat))
 |[]=>some []
 |(i,_)::r=>match T[i]? with
  |some f=>match x7 P T r with
   |some l=>some ((f.offset,ah P f.type)::l)
   |none=>none
  |none=>none
def W4 (P:Program)(u:TypeId)(e:TypeId)(s f:Nat):Bool:=liesAt P P.depth e (s/P.cellsOf e) f u 1
def R7 (P:Program)(e:TypeId)(len f n:Nat):Bool:=P.cellsOf e=1&&Nat.ble (f+n) len
def agc (fn:Func)(P:Program):Option K :=
 if (Extern.findNext fn).isSome then none
 else if fn.name = "internal/abi.NoEscape" then some .mov
 else if fn.name = "internal/bytealg.IndexByteString" then some .ibs
 else if fn.name = "internal/bytealg.MakeNoZero" then match fn.resultTypes.toList with
  |[t]=>match P.underlying t with
   |some (.slice e)=>if ah P e=1 then some (.mknz e)else none
   |_=>none
  |_=>none
 else none
def Fx (P:Program)(c:Call)(b:Builtin):Option (K×List Operand):=match b,c.args.toList,c.argTypes.toList with
 |.len,[x],[t]=>match P.underlying t with
  |some .string=>some (.lens,[x])
  |some (.slice _)=>some (.lenl,[x])
  |some (.map _ _)=>some (.lenm,[x])
  |some (.array n _)=>some (.lena n,[x])
  |_=>none
 |.cap,[x],[t]=>match P.underlying t with
  |some (.slice _)=>some (.capl,[x])
  |_=>none
 |.append,[s,x],[t,u]=>match P.underlying t with
  |some (.slice e)=>match dq P e with
   |some z=>if ah P e=0∨z.cells.length≠ah P e then none else match P.underlying u with
    |some (.slice _)=>some (.app e (ah P e) (vC P e) false,[s,x])
    |some .string=>if ah P e=1 then some (.app e (ah P e) (vC P e) true,[s,x])else none
    |_=>none
   |none=>none
  |_=>none
 |.copy,[s,x],[t,u]=>match P.underlying t with
  |some (.slice e)=>if ah P e=0 then none else match P.underlying u with
   |some (.slice _)=>some (.cpy (ah P e) false,[s,x])
   |_=>none
  |_=>none
 |.unsafeSliceData,[x],_=>some (.usd,[x])
 |.unsafeString,[x,y],[t,_]=>match P.underlying t with
  |some (.pointer e)=>match P.underlying e with
   |some (.int .u8)=>some (.ust e (R7 P),[x,y])
   |_=>none
  |_=>none
 |.delete,[x,y],[t,_]=>match P.underlying t with
  |some (.map kt _)=>match nE P kt with
   |some q=>some (.del q,[x,y])
   |none=>none
  |_=>none
 |.clear,[x],[t]=>match P.underlying t with
  |some (.slice e)=>match dq P e with
   |some z=>some (.clr z.cells,[x])
   |none=>none
  |_=>none
 |.max,[x,y],_=>some (.mx true,[x,y])
 |.min,[x,y],_=>some (.mx false,[x,y])
 |_,_,_=>none
abbrev Glt:=Nat→TypeId→Option (Value ⊕ Nat)
def cK (P:Program)(U:Glt):Op→Option (K×List Operand)
 |.move x=>some (.mov,[x])
 |.assign x=>some (.mov,[x])
 |.pick c a b=>some (.pick,[c,a,b])
 |.alloc e=>match dq P e with
  |some z=>if z.cells.length=0 then none else some (.alloc e z.cells,[])
  |none=>none
 |.box e x=>if ah P e=0 then none else some (.box e (ah P e),[x])
 |.build t parts=>match dq P t,P.underlying t with
  |some z,some (.struct T)=>if T.toList.all (λf=>(P.info? f.type).isSome)then match x7 P T parts.toList with
    |some ps=>some (.build z.cells ps,parts.toList.map (·.2))
    |none=>none
   else none
  |some z,some (.array _ e)=>if ah P e=0 then none else some (.build z.cells (parts.toList.map λp=>(p.1*ah P e,ah P e)),parts.toList.map (·.2))
  |_,_=>none
 |.buildSlice t len parts=>match P.underlying t with
  |some (.slice e)=>match dq P e with
   |some z=>if ah P e=0∨z.cells.length≠ah P e then none else some (.lit e (ah P e) len z.cells (parts.toList.map (·.1)),parts.toList.map (·.2))
   |none=>none
  |_=>none
 |.load t a=>match a with
  |.global g=>match U g t with
   |some (.inl v)=>some (.mov,[.const v])
   |some (.inr n)=>some (.sy n,[])
   |none=>none
  |a=>if ah P t=0 then none else match iP (P.underlying t)with
   |some b=>some (.load (ah P t) b,[a])
   |none=>none
 |.store t a x=>if ah P t=0 then none else some (.store (ah P t),[a,x])
 |.nilCheck x=>some (.nilchk,[x])
 |.binOp op t x y _=>match op with
  |.eql=>match P.underlying t with
   |some (.int _)=>some (.bin .eql,[x,y])
   |some .string=>some (.bin .eql,[x,y])
   |_=>match E0 P t (isC x||isC y)with
    |some q=>some (.eql false q,[x,y])
    |none=>none
  |.neq=>match P.underlying t with
   |some (.int _)=>some (.bin .neq,[x,y])
   |some .string=>some (.bin .neq,[x,y])
   |_=>match E0 P t (isC x||isC y)with
    |some q=>some (.eql true q,[x,y])
    |none=>none
  |op=>some (.bin op,[x,y])
 |.unOp op _ x=>some (.un op,[x])
 |.convert s t x=>match P.underlying s,P.underlying t with
  |some (.int _),some (.int k)=>some (.cint k,[x])
  |some (.int _),some .string=>some (.i2s,[x])
  |some .string,some .string=>some (.same,[x])
  |some (.pointer e),some .unsafePointer=>if ah P e=0 then none else some (.p2u,[x])
  |some .unsafePointer,some (.pointer u)=>if ah P u=0 then none else some (.u2p (W4 P u),[x])
  |some (.slice e),some .string=>if P.underlying e matches some (.int .u8)then some (.b2s,[x])else none
  |_,_=>none
 |.makeInterface t x=>match P.underlying t with
  |some (.interface _)=>none
  |some _=>some (.mki t,[x])
  |none=>none
 |.makeFunc fn first J=>some (.mkf fn first.size,first.toList++J.toList)
 |.makeMap t r=>match P.underlying t with
  |some (.map _ _)=>some (.mkm,r.toList)
  |_=>none
 |.makeSlice t l c=>match P.underlying t with
  |some (.slice e)=>match dq P e with
   |some z=>if ah P e=0∨z.cells.length≠ah P e then none else some (.mks e (ah P e) (vC P e) z.cells,[l,c])
   |none=>none
  |_=>none
 |.slice t x j C mx=>match P.underlying t with
  |some .string=>if mx.isSome then none else some (.subs j.isSome C.isSome,x::(j.toList++C.toList))
  |some (.slice e)=>if ah P e=0 then none else some (.subl (ah P e) j.isSome C.isSome mx.isSome,x::(j.toList++C.toList++mx.toList))
  |some (.array n e)=>if ah P e=0 then none else some (.suba n (ah P e) j.isSome C.isSome mx.isSome,x::(j.toList++C.toList++mx.toList))
  |_=>none
 |.fieldAddr s x f=>match P.underlying s with
  |some (.struct T)=>match T[f]? with
   |some f=>if ah P f.type=0 then none else some (.fadr f.offset,[x])
   |none=>none
  |_=>none
 |.field s x f=>match P.underlying s with
  |some (.struct T)=>match T[f]? with
   |some f=>if ah P f.type=0 then none else match iP (P.underlying f.type)with
    |some b=>some (.fld f.offset (ah P f.type) b,[x])
    |none=>none
   |none=>none
  |_=>none
 |.indexAddr t x i=>match P.underlying t with
  |some (.slice e)=>if ah P e=0 then none else some (.idxl (ah P e),[x,i])
  |some (.array n e)=>if ah P e=0 then none else some (.idxa n (ah P e),[x,i])
  |_=>none
 |.index t x i=>match P.underlying t with
  |some .string=>some (.idxs,[x,i])
  |some (.array n e)=>if ah P e=0 then none else match iP (P.underlying e)with
   |some b=>some (.idxg n (ah P e) b,[x,i])
   |none=>none
  |_=>none
 |.lookup t x i ok=>match P.underlying t with
  |some (.map k e)=>match nE P k,dq P e with
   |some q,some z=>some (.look q z ok,[x,i])
   |_,_=>none
  |_=>none
 |.mapUpdate t m k x=>match P.underlying t with
  |some (.map kt _)=>match nE P kt with
   |some q=>some (.put q,[m,k,x])
   |none=>none
  |_=>none
 |.insert t m k x=>match P.underlying t with
  |some (.map kt _)=>match nE P kt with
   |some q=>some (.put q,[m,k,x])
   |none=>none
  |_=>none
 |.mapEntry t m k=>match P.underlying t with
  |some (.map kt e)=>match nE P kt,dq P e with
   |some q,some z=>some (.ment q z,[m,k])
   |_,_=>none
  |_=>none
 |.entryStore _ m s x=>some (.mest,[m,s,x])
 |.range t x=>match P.underlying t with
  |some (.map _ _)=>some (.rngm,[x])
  |_=>none
 |.entry R=>some (.ent,[R])
 |.extract x i=>some (.ext i,[x])
 |.call c=>match c.callee with
  |.builtin b=>Fx P c b
  |.value (.func f)=>match P.funcs[f]? with
   |some fn=>match fn.body with
    |some _=>none
    |none=>match agc fn P with
     |some k=>some (k,c.args.toList)
     |none=>none
   |none=>none
  |_=>none
 |_=>none
def kAl:K→Bool
 |.alloc _ _=>true|.box _ _=>true|.lit _ _ _ _ _=>true|.mki _=>true|.mkf _ _=>true|.mkm=>true|.mks _ _ _ _=>true|.s2b _=>true|.rngs=>true|.rngm=>true|.subl _ _ _ _=>true|.app _ _ _ _=>true|.mknz _=>true
 |_=>false
def Ax (f:List Oper):Option (Nat×Bool)→Option (Option (Pos×Bool))
 |none=>some none
 |some (j,w)=>match (f[j]?).bind (·.dst)with
  |some d=>if d+2≤2^64 then some (some (pos d,w))else none
  |none=>none
def RK (f:Nat):Option Tmp→Option (Option Pos)
 |none=>some none
 |some d=>if d<f∧d+2≤2^64 then some (some (pos d))else none
def cOp (P:Program)(J:Glt)(r:Nat)(l:List Oper)(o:Oper):OP:=match RK r o.dst with
 |none=>.bad
 |some j=>match Ax l o.guard with
  |none=>.bad
  |some g=>match cK P J o.op with
   |some (k,p)=>.op ⟨k,p.map ng,j,g⟩ (kAl k)
   |none=>match o.op with
    |.call c=>match c.callee with
     |.value f=>.call (ng f::c.args.toList.map ng) j g
     |_=>.bad
    |.next C false=>match g with
     |none=>.nxt (ng C) j
     |some _=>.bad
    |_=>.bad
def ir (P:Program)(j:Glt)(g:Nat)(f:List Oper):List Oper→List OP
 |[]=>[]
 |o::r=>cOp P j g f o::ir P j g f r
def aJ:List Oper→List Nat→List Nat
 |[],acc=>acc
 |o::r,acc=>aJ r (acc++[o.after.toList.foldl (λs e=>if Region.binds .any e then s ||| 2^e.on ||| acc.getD e.on 0 else s) 0])
def b0:Nat→List Oper→Bool
 |_,[]=>true
 |i,o::r=>o.after.toList.all (λe=>!Region.binds .any e||decide (e.on<i))&&b0 (i+1) r
def AR:List Src→List Pos
 |[]=>[]
 |.t p::l=>p::AR l
 |.c _::l=>AR l
def KA:Option (Pos×Bool)→List Pos
 |some (p,_)=>[p]
 |none=>[]
def eA:OP→List Pos
 |.op o _=>KA o.guard++AR o.args
 |.call args _ g=>KA g++AR args
 |_=>[]
def OJ:OP→Option Pos
 |.op o _=>o.dst
 |.call _ d _=>d
 |.nxt _ d=>d
 |.bad=>none
def zH (a b:OP):Bool :=
 (match OJ a with|some d=>!QO d (eA b) && !(match OJ b with|some f=>d.beq f|none=>false)|none=>true)&&(match OJ b with|some d=>!QO d (eA a)|none=>true)
def YX:OP→Bool
 |.call _ _ _=>true
 |_=>false
def aio:OP→Nat
 |.op _ true=>2
 |.call _ _ _=>1
 |_=>0
def aeC (f:List Nat)(n:Nat)(done:List Nat)(i:Nat):Bool :=
 !done.contains i&&(List.range n).all λj=>!(f.getD i 0).testBit j||done.contains j
def Mf (g:List Nat)(cl:List Nat):Nat→List Nat→List Nat
 |0,done=>done.reverse
 |f+1,done=>
  let l:=(List.range cl.length).filter (aeC g cl.length done);match l.find? (λi=>cl.getD i 0 == 0)with
  |some i=>Mf g cl f (i::done)
  |none=>match l.find? (λi=>cl.getD i 0 == 1)with
   |some i=>Mf g cl f (i::done)
   |none=>match l.find? (λi=>(List.range cl.length).any λj=>cl.getD j 0 == 1&&(g.getD j 0).testBit i)with
    |some i=>Mf g cl f (i::done)
    |none=>match l with
     |i::_=>Mf g cl f (i::done)
     |[]=>done.reverse
def Yl (g:List Nat)(f:List Nat)(p q:Nat):Bool :=!(g.getD (f.getD q 0) 0).testBit (f.getD p 0)
def aaN (g:List OP)(f:List Nat)(p q:Nat):Bool:=match g[f.getD p 0]?,g[f.getD q 0]? with
 |some x,some y=>zH x y && !(YX x&&YX y)
 |_,_=>false
def Ka:List Nat→Bool
 |[]=>true
 |a::l=>!l.contains a&&Ka l
def JP (g:List Oper)(j:List OP)(l:List Nat)(f:List Nat):Option (List (Nat×Nat)) :=
 let all:=(List.range f.length).flatMap λq=>((List.range q).filter λp=>Yl l f p q).map λp=>(p,q)
 if b0 0 g&&Nat.beq f.length g.length&&Ka f&&(List.range g.length).all (λi=>f.contains i)&&f.all (λi=>decide (i<g.length))&&all.all (λp=>aaN j f p.1 p.2)then some all else none
def RL (g:List Oper)(j:List OP)(l:List Nat)(f:List Nat):FC:=match JP g j l f with
 |some ps=>.drawn (f.map λi=>j.getD i .bad) ps
 |none=>.bad
def BH:List OP→List Pos
 |[]=>[]
 |o::r=>(match o with|.op o _=>o.dst.toList|.call _ d _=>d.toList|.nxt _ d=>d.toList|.bad=>[])++BH r
def p0:FC→List Pos
 |.region f=>BH f
 |.drawn f _=>BH f
 |.seq a b=>p0 a++p0 b
 |.cond _ a b=>p0 a++p0 b
 |.block _ c=>p0 c
 |.loop c=>p0 c
 |.rloop _ d f _ c=>d.toList++BH f++p0 c
 |.rng _ ps a b=>ps++p0 a++p0 b
 |_=>[]
def cj:Code→Bool
 |.region _ f _=>f.toList.all λo=>match o.op with|.defer _=>false|_=>true
 |.seq a b=>cj a&&cj b
 |.cond _ a b=>cj a&&cj b
 |.block _ a=>cj a
 |.loop a=>cj a
 |.scope a=>cj a
 |.rangeFunc _ _ a b=>cj a&&cj b
 |_=>true
def cC (P:Program)(j:Glt)(nt:Nat):Code→FC
 |.skip=>.skip
 |.label _=>.skip
 |.region _ g p=>match p with
  |false=>.region (ir P j nt g.toList g.toList)
  |true=>RL g.toList (ir P j nt g.toList g.toList) (aJ g.toList []) (Mf (aJ g.toList []) ((ir P j nt g.toList g.toList).map aio) g.size [])
 |.seq a b=>.seq (cC P j nt a) (cC P j nt b)
 |.cond c a b=>.cond (ng c) (cC P j nt a) (cC P j nt b)
 |.block id c=>.block id (cC P j nt c)
 |.loop (.seq (.region id g false) y)=>match ir P j nt g.toList g.toList with
  |.nxt x dst::l=>.rloop x dst l (dst.toList++BH l++p0 (cC P j nt y)) (cC P j nt y)
  |_=>.loop (cC P j nt (.seq (.region id g false) y))
 |.loop c=>.loop (cC P j nt c)
 |.rangeFunc f ps a b=>if cj a&&cj b&&ps.toList.all (λt=>decide (t<nt∧t+2≤2^64))then .rng (ng f) (ps.toList.map pos) (cC P j nt a) (cC P j nt b)else .bad
 |.scope c=>cC P j nt c
 |.exit id=>.exit id
 |.ret=>.ret
 |_=>.bad
def adt (P:Program):ResultVar→Option FR
 |.tmp t=>if t+2≤2^64 then some (.t (pos t))else none
 |.cell t f=>match iP (P.underlying f)with
  |some b=>if t+2≤2^64∧ah P f≠0 then some (.cell (pos t) (ah P f) b)else none
  |none=>none
def IC (P:Program):List ResultVar→Option (List FR)
 |[]=>some []
 |r::l=>match adt P r,IC P l with
  |some a,some b=>some (a::b)
  |_,_=>none
def gK (P:Program)(Gl:Glt)(f:FuncId):Option Fi:=match P.funcs[f]? with
 |some fn=>match fn.body with
  |some b=>if fn.name == "runtime.NumGoroutine" then none else match IC P fn.results.toList with
   |some rs=>some ⟨cC P Gl fn.ntmps b,rs,fn.ntmps⟩
   |none=>none
  |none=>none
 |none=>none
variable [SymVal]
def RTs (φ:Gx):List TV→List Value→Prop
 |[],[]=>True
 |t::l,v::vs=>RT φ t v∧RTs φ l vs
 |_,_=>False
def RTs.mono {φ ψ:Gx}(h:φ.le ψ):∀{l:List TV} {vs:List Value},RTs φ l vs→RTs ψ l vs
 |[],[],_=>trivial
 |_::_,_::_,⟨a,b⟩=>⟨a.mono h,b.mono h⟩
def RTs.len {φ:Gx}:∀{l:List TV} {vs:List Value},RTs φ l vs→vs.length=l.length
 |[],[],_=>rfl
 |_::_,_::_,⟨_,b⟩=>by simp[b.len]
def RTs.append {φ:Gx}:∀{l m:List TV} {vs ws:List Value},RTs φ l vs→RTs φ m ws→RTs φ (l++m) (vs++ws)
 |[],_,[],_,_,h=>h
 |_::_,_,_::_,_,⟨a,b⟩,h=>⟨a,b.append h⟩
variable{φ:Gx}{vs:List Value}
def RTs.one {t:TV}(h:RTs φ [t] vs):∃v,vs=[v]∧RT φ t v:=by
 match vs,h with
 |[v],⟨a,_⟩=>exact⟨v,rfl,a⟩
def RTs.cons {t:TV}{l:List TV}(h:RTs φ (t::l) vs):∃v ws,vs=v::ws∧RT φ t v∧RTs φ l ws:=by
 match vs,h with
 |v::ws,⟨a,b⟩=>exact⟨v,ws,rfl,a,b⟩
def RTs.nil (h:RTs φ [] vs):vs=[]:=by
 match vs,h with
 |[],_=>rfl
def Lb {φ:Gx}:∀{l:List PV} {vs:List Value},cw φ l=some vs→RTs φ (pvT l) vs
 |[],vs,r=>by cases r;trivial
 |p::l,vs,r=>by obtain⟨v,j,rfl,g,f⟩:=gj r;exact⟨g,Lb f⟩
def Hx {φ:Gx}:∀{l:List TV} {r:List PV} {vs:List Value},pvs l=some r→RTs φ l vs→cw φ r=some vs
 |[],r,vs,h,hr=>by cases h;rw[hr.nil];rfl
 |.pv p::l,r,vs,h,hr=>by
  simp[pvs]at h;split at h
  next q hq=>cases h;obtain⟨v,ws,rfl,g,f⟩:=hr.cons;exact bt g (Hx hq f)
  ·cases h
 |.unk::_,_,_,h,_=>by cases h
 |.tup _::_,_,_,h,_=>by cases h
def rR (h:Pos→EO)(w:Option (Pos×EO)):Pos→EO:=match w with
 |some (k,o)=>upd h k o
 |none=>h
def OkX (P:Program)(B:Nat)(J:W0)(φ:Gx)(h:Pos→EO)(w:World)(o:Oper)(a:Act)(out:TV)(wr:Option (Pos×EO)):Prop :=
 (∀(K:Act→World→Prop) (Q:Exit→Act→World→Prop),(∀v ψ f,φ.le ψ→Inv B J ψ (rR h wr) f→RT ψ out v→K (a.put o.dst v) f)→o.wp P a w K Q)∧∀k g,wr=some (k,g)→blank g=false
def gv:Value ⊕ Nat→Value
 |.inl v=>v
 |.inr n=>SymVal.v n
def mJ (f:Glt)(P:Program)(B:Nat)(J:W0):Prop:=(∀g t v,f g t=some v→∀w,Below B J.w w→(Instr.loadAt t (.pointer (some ⟨g,0,none⟩))).run P w = .ok (gv v) w)∧∀w,Below B J.w w→SymVal.fact w
def AI {o j:EO}{g f:Nat}{new:List CV}(h:CF o g f new=some j):blank j=false:=by
 unfold CF at h;split at h
 next e s el len gen fz=>
  cases l:(Nat.beq g gen&&Nat.blt (f/s) len&&Nat.ble (f%s+new.length) s&&NY fz)with
  |false=>rw[l]at h;cases h
  |true =>rw[l,G']at h;split at h;cases h;rfl
 ·cases h
def j9 {g s:Nat}:∀{l:List (List CV)} {x:List CV} {o j:EO} {f:Nat},jR g s (x::l) o f=some j→blank j=false
 |[],x,o,j,f,h=>by
  rw[jR]at h;split at h
  next o1 h1=>cases h;exact AI h1
  ·cases h
 |y::l,x,o,j,f,h=>by
  rw[jR]at h;split at h
  ·exact j9 h
  ·cases h
section
variable {P:Program}{B:Nat}{J:W0}{φ:Gx}{h:Pos→EO}{w:World}{o:Oper}{a:Act}
variable{v:Value}{out:TV}{ψ:Gx}{w' :World}{o' :EO}{k U:IntKind}{n:Int}{b:Bool}{s:List Nat}{off:Nat}{cap:Option Nat}{x y:Operand}{op:BinOp}{tx ty t:TypeId}{C:List TV}{f:Pos}
def aq (l:Inv B J φ h w)(f:(execOp a.eval o).run P w = .ok (.value v) w)(g:RT φ out v):OkX P B J φ h w o a out none:=⟨λK Q j=>by
 unfold Oper.wp;rw[f];exact j v φ w (Gx.le.refl φ) l g,λ_ _ e=>by cases e⟩
def fD {k:Pos}(j:(execOp a.eval o).run P w = .ok (.value v) w')(g:φ.le ψ)(r:Inv B J ψ (upd h k o') w')(l:RT ψ out v)(f:blank o'=false:=by rfl):OkX P B J φ h w o a out (some (k,o')):=⟨λK Q p=>by
 unfold Oper.wp;rw[j];exact p v ψ w' g r l,λ_ _ e=>by cases e;exact f⟩
def B8 {k:Pos}(j:(execOp a.eval o).run P w = .ok .skip w')(g:φ.le ψ)(p:Inv B J ψ (upd h k o') w')(f:blank o'=false:=by rfl):OkX P B J φ h w o a .unk (some (k,o')):=⟨λK Q l=>by
 unfold Oper.wp;rw[j];exact l undef ψ w' g p trivial,λ_ _ e=>by cases e;exact f⟩
def cR (h:RT φ (.pv (.one (.int k n))) v):v = .int k n:=(π h).symm
def Dc (h:RT φ (.pv (.one (.bl b))) v):v = .bool b:=(π h).symm
def lN (h:RT φ (.pv (.one (.str s))) v):cI s=true∧v=og s:=by
 have h:den φ (.str s)=some v:=h;simp only[den]at h;split at h
 next q=>exact⟨q,(π h).symm⟩
 ·cases h
def ga {k:Pos}{g:Nat}(h:RT φ (.pv (.one (.ptr k g off))) v):∃l,φ.loc k g=some l∧v = .pointer (some ⟨l.b,off,none⟩):=by
 have h:den φ (.ptr k g off)=some v:=h;simp[den]at h;split at h
 next l q=>exact⟨l,q,(π h).symm⟩
 ·cases h
def Ji {k:Pos}{g len:Nat}(h:RT φ (.pv (.one (.sl k g off len cap))) v):∃l,φ.loc k g=some l∧v = .slice (some ⟨l.b,off,none⟩) len (gk cap l.n (off/l.s))∧xb cap len l.n (off/l.s)=true:=by
 have h:den φ (.sl k g off len cap)=some v:=h;simp[den]at h;split at h
 next l q=>
  split at h
  next f=>exact⟨l,q,(π h).symm,f⟩
  ·cases h
 ·cases h
def vO {k:Pos}{g len:Nat}(h:RT φ (.pv (.one (.sl k g off len cap))) v):∃l,φ.loc k g=some l∧v = .slice (some ⟨l.b,off,none⟩) len (gk cap l.n (off/l.s)):=by obtain⟨l,j,f,_⟩:=Ji h;exact⟨l,j,f⟩
def Sq {k:Pos}(h:RT φ (.pv (.one (.mp k))) v):∃l,φ.loc k 0=some l∧v = .map (some l.b):=by
 have h:den φ (.mp k)=some v:=h;simp[den]at h;split at h
 next l q=>exact⟨l,q,(π h).symm⟩
 ·cases h
def Jj {k:Pos}(h:RT φ (.pv (.one (.emp k))) v):∃a c,v = .slice (some a) 0 c:=by
 have h:den φ (.emp k)=some v:=h;simp[den]at h;split at h
 next a c q=>exact⟨a,c,(π h).symm⟩
 ·cases h
def sg {f:List CV}(h:RT φ (.pv (.agg f)) v):∃vs,v = .agg vs.toArray∧aV φ f=some vs:=by
 have h:aP φ (.agg f)=some v:=h;simp[aP]at h;split at h
 next vs q=>exact⟨vs,(π h).symm,q⟩
 ·cases h
def cm (k:IntKind)(n:Int):RT φ (.pv (.one (.int k n))) (.int k n):=rfl
def yu (b:Bool):RT φ (.pv (.one (.bl b))) (.bool b):=rfl
def sL (f:cI s=true):RT φ (.pv (.one (.str s))) (og s):=by show den φ (.str s)=_;simp[den,f]
def bT {h:Pos→EO}:(eE k n).run h=some (.pv (.one (.int k n)),none):=by simp[eE,sF,Q.run]
def xN {h:Pos→EO}:(sk b).run h=some (.pv (.one (.bl b)),none):=rfl
def JV {z:Operand}(C:Inv B J φ h w)(l:o.op = .pick x y z){p q:TV}(j:RT φ (.pv (.one (.bl b))) (a.eval x))(g:RT φ p (a.eval y))(f:RT φ q (a.eval z)):OkX P B J φ h w o a (match b with|true=>p|false=>q) none:=by
 have r:=Dc j;refine aq C (v:=if b then a.eval y else a.eval z) ?_ ?_
 ·unfold execOp;simp[l,r,asBool]
 ·cases b
  ·exact f
  ·exact g
def rq (m n:Int):(m == n)=decide (m=n):=by by_cases h:m=n <;> simp[h]
def HW {f :IntKind}(h:kq k f=true):k=f:=by cases k <;> cases f <;> first|rfl|cases h
def acj (l:Inv B J φ h w)(j:o.op = .binOp op tx x y ty){m:Int}(g:a.eval x = .int k m)(f:a.eval y = .int k n){wr:Option (Pos×EO)}(p:(FB op k m n).run h=some (out,wr)):OkX P B J φ h w o a out wr:=by
 cases op <;> simp[FB]at p <;> first|(cases p;done)|skip
 case quo=>
  by_cases r:n=0
  ·simp[r,Q.run]at p
  ·have C:(n == 0)=false:=by simpa using r
   rw[C,E_,bT]at p;cases p;refine aq l ?_ (cm _ _);unfold execOp;simp[j,g,f,eqGuard,binOp,Op.intDiv,r]
 case rem=>
  by_cases r:n=0
  ·simp[r,Q.run]at p
  ·have C:(n == 0)=false:=by simpa using r
   rw[C,E_,bT]at p;cases p;refine aq l ?_ (cm _ _);unfold execOp;simp[j,g,f,eqGuard,binOp,Op.intDiv,r]
 all_goals first|rw[bT]at p|rw[xN]at p
 all_goals (simp at p;obtain⟨rfl,rfl⟩:=p)
 case add=>refine aq l ?_ (cm _ _);unfold execOp;simp[j,g,f,eqGuard,binOp,Op.intArith]
 case sub=>refine aq l ?_ (cm _ _);unfold execOp;simp[j,g,f,eqGuard,binOp,Op.intArith]
 case mul=>refine aq l ?_ (cm _ _);unfold execOp;simp[j,g,f,eqGuard,binOp,Op.intArith]
 case and=>refine aq l ?_ (cm _ _);unfold execOp;simp[j,g,f,eqGuard,binOp,Op.intBits]
 case or=>refine aq l ?_ (cm _ _);unfold execOp;simp[j,g,f,eqGuard,binOp,Op.intBits]
 case xor=>refine aq l ?_ (cm _ _);unfold execOp;simp[j,g,f,eqGuard,binOp,Op.intBits]
 case eql=>refine aq l ?_ (yu _);unfold execOp;simp[j,g,f,eqGuard,binOp,Op.intCmp,rq]
 case neq=>refine aq l ?_ (yu _);unfold execOp;simp[j,g,f,eqGuard,binOp,Op.intCmp,bne,rq]
 case lss=>refine aq l ?_ (yu _);unfold execOp;simp[j,g,f,eqGuard,binOp,Op.intCmp]
 case leq=>refine aq l ?_ (yu _);unfold execOp;simp[j,g,f,eqGuard,binOp,Op.intCmp]
 case gtr=>refine aq l ?_ (yu _);unfold execOp;simp[j,g,f,eqGuard,binOp,Op.intCmp]
 case geq=>refine aq l ?_ (yu _);unfold execOp;simp[j,g,f,eqGuard,binOp,Op.intCmp]
def Yn (C:Inv B J φ h w)(r:o.op = .binOp op tx x y ty){j :IntKind}{m:Int}(p:a.eval x = .int k m)(l:a.eval y = .int j n){wr:Option (Pos×EO)}(f:(shI op k m n).run h=some (out,wr)):OkX P B J φ h w o a out wr:=by
 unfold shI at f;by_cases g:n<0
 ·simp[g,Q.run]at f
 ·simp[g]at f;cases op <;> first|(cases f;done)|skip
  all_goals (rw[bT]at f;cases f;refine aq C ?_ (cm _ _);unfold execOp;simp[r,p,l,eqGuard,binOp,Op.shift,g])
def iu (l:List UInt8):(⟨l.toArray⟩:ByteArray).toList=l:=by rw[ByteArray.toList_eq]
def ge {b:Nat}(h:cI (b::s)=true):b<256∧cI s=true:=by simp only[cI,q?,κ]at h;exact⟨bM.1 h.1,h.2⟩
def DX {b:Nat}(h:b<256)(f:cI s=true):cI (b::s)=true:=by simp only[cI,q?,κ];exact⟨bM.2 h,f⟩
def zY {a b:Nat}(g:a<256)(f:b<256)(h:UInt8.ofNat a=UInt8.ofNat b):a=b:=by have:=Y' UInt8.toNat h;simpa[aiw g,aiw f]using this
def Ad:∀{a b:List Nat},cI a=true→cI b=true→vz a b=(a.map UInt8.ofNat == b.map UInt8.ofNat)
 |[],[],_,_=>rfl
 |[],_::_,_,_=>rfl
 |_::_,[],_,_=>rfl
 |x::a,y::b,ha,f=>by
  obtain⟨r,p⟩:=ge ha;obtain⟨l,j⟩:=ge f;have g:=Ad p j;simp only[vz,b?];by_cases e:x=y
  ·subst e;have:Nat.beq x x=true:=ajI x;rw[this,G',g];simp
  ·have:Nat.beq x y=false:=by cases f:Nat.beq x y with|false=>rfl|true=>exact absurd (ν f) e
   rw[this,E_];symm;simp;exact λq=>absurd (zY r l q) e
def HU:∀{a b:List Nat},cI a=true→cI b=true→QS a b=Op.bytesLess (a.map UInt8.ofNat) (b.map UInt8.ofNat)
 |[],[],_,_=>rfl
 |[],_::_,_,_=>rfl
 |_::_,[],_,_=>rfl
 |x::a,y::b,ha,g=>by
  obtain⟨p,J⟩:=ge ha;obtain⟨l,C⟩:=ge g;have r:=HU J C;simp[QS,Op.bytesLess];have f:(UInt8.ofNat x<UInt8.ofNat y)↔x<y:=by rw[UInt8.lt_iff_toNat_lt];simp[aiw p,aiw l]
  by_cases e:x<y
  ·rw[show Nat.blt x y=true from bM.2 e];simp[f.2 e]
  ·rw[show Nat.blt x y=false from aaL e];have:¬UInt8.ofNat x<UInt8.ofNat y:=λq=>e (f.1 q);simp[this];by_cases j:x=y
   ·subst j;rw[show Nat.beq x x=true from ajI x];simp[r]
   ·rw[show Nat.beq x y=false by cases g:Nat.beq x y with|false=>rfl|true=>exact absurd (ν g) j];have:¬UInt8.ofNat x=UInt8.ofNat y:=λq=>j (zY p l q);simp[this]
def J8 {a b:List Nat}(g:cI a=true)(f:cI b=true):cI (a++b)=true:=by simp only[cI,List.all_append,κ];exact⟨g,f⟩
def Qz {a:List Nat}(n:Nat)(g:cI a=true):cI (a.take n)=true:=by simp[cI]at *;exact λb f=>g b (J? f)
def DY {a:List Nat}(n:Nat)(g:cI a=true):cI (a.drop n)=true:=by simp[cI]at *;exact λb f=>g b (K? f)
def LT (a b:List Nat):og (a++b) = .string ((⟨(a.map UInt8.ofNat).toArray⟩:ByteArray)++⟨(b.map UInt8.ofNat).toArray⟩):=by unfold og;congr 1;apply ajA;simp
def ug (a:List Nat):(⟨(a.map UInt8.ofNat).toArray⟩:ByteArray).size=a.length:=by simp[ByteArray.size]
def aci (U:Inv B J φ h w)(R:o.op = .binOp op tx x y ty){m n:List Nat}(j:cI m=true)(g:cI n=true)(C:a.eval x=og m)(r:a.eval y=og n){wr:Option (Pos×EO)}(f:(aaM op m n).run h=some (out,wr)):OkX P B J φ h w o a out wr:=by
 have p:=Ad j g;have l:=HU j g;cases op <;> simp[aaM]at f <;> first|(cases f;done)|skip
 case add=>
  by_cases T:m.length+n.length<4294967296
  ·rw[show Nat.blt (m.length+n.length) 4294967296=true from bM.2 T,G']at f;cases f;refine aq U ?_ (sL (J8 j g));rw[LT];unfold execOp;simp only[R,C,r,og,eqGuard,binOp,Op.stringOp,ug];simp;omega
  ·rw[show Nat.blt (m.length+n.length) 4294967296=false from aaL T]at f;cases f
 all_goals (rw[xN]at f;cases f;refine aq U ?_ (yu _);unfold execOp;simp[R,C,r,og,eqGuard,binOp,Op.stringOp,p,l])
def ag0 (p:Inv B J φ h w){op:UnOp}(l:o.op = .unOp op t x)(r:RTs φ C [a.eval x]){wr:Option (Pos×EO)}(g:(eUn op C f).run h=some (out,wr)):OkX P B J φ h w o a out wr:=by
 unfold eUn at g;split at g
 ·obtain⟨v,e,j⟩:=r.one;cases e;split at g
  ·rw[xN]at g;cases g;refine aq p ?_ (yu _);unfold execOp;simp[l,Dc j,Op.unary]
  ·rw[bT]at g;cases g;refine aq p ?_ (cm _ _);unfold execOp;simp[l,cR j,Op.unary,Op.intArith]
  ·rw[bT]at g;cases g;refine aq p ?_ (cm _ _);unfold execOp;simp[l,cR j,Op.unary,Op.intBits]
  ·cases g
 ·cases g
def acg (T:Inv B J φ h w){s:TypeId}(R:o.op = .convert s t x)(p:P.underlying s=some (.int U))(l:P.underlying t=some (.int k))(j:RTs φ C [a.eval x]){wr:Option (Pos×EO)}(g:(Ox k C f).run h=some (out,wr)):OkX P B J φ h w o a out wr:=by
 unfold Ox at g;split at g
 ·obtain⟨v,e,r⟩:=j.one;cases e;split at g
  ·rw[bT]at g;cases g;refine aq T ?_ (cm _ _);unfold execOp;simp[R,cR r,convert,ε p,ε l,Conv.intToInt]
  ·cases g
 ·cases g
def ae6 (hI:Inv B J φ h w){s:TypeId}(ho:o.op = .convert s t x)(hs:P.underlying s=some (.int U))(T:P.underlying t=some .string)(R:RTs φ C [a.eval x]){wr:Option (Pos×EO)}(g:(ZL C f).run h=some (out,wr)):OkX P B J φ h w o a out wr:=by
 unfold ZL at g;split at g
 ·obtain⟨v,e,p⟩:=R.one;cases e;split at g
  next n=>
   by_cases r:n<128
   ·rw[show Nat.blt n 128=true from bM.2 r,G']at g;cases g;refine aq hI ?_ (sL (DX Ω rfl));have l:Utf8.valid (Int.ofNat n)=true:=by
     simp only[Utf8.valid,aiC,κ,ρ];refine .inl ⟨Int.natCast_nonneg n, ?_⟩;show(n:Int)<55296;omega
    have j:Utf8.encode (Int.ofNat n)=⟨#[UInt8.ofNat n]⟩:=by unfold Utf8.encode;rw[l];simp[r]
    unfold execOp;have p:=cR p;simp at j p;simp[ho,p,convert,ε hs,ε T,Conv.intToString,j,og]
   ·rw[show Nat.blt n 128=false from aaL r]at g;cases g
  ·cases g
 ·cases g
def abW (T:Inv B J φ h w){s:TypeId}(R:o.op = .convert s t x)(r:P.underlying s=some .string)(p:P.underlying t=some .string)(l:RTs φ C [a.eval x]){wr:Option (Pos×EO)}(g:(On C f).run h=some (out,wr)):OkX P B J φ h w o a out wr:=by
 unfold On at g;split at g
 ·obtain⟨v,e,j⟩:=l.one;cases e;split at g
  ·cases g;obtain⟨h1,U⟩:=lN j;refine aq T ?_ j;unfold execOp;simp[R,U,og,convert,ε r,ε p]
  ·cases g
 ·cases g
end
variable [SymVal]
def TA {φ:Gx}:∀{l:List CV},(∀c∈l,∃v,den φ c=some v)→∃vs,aV φ l=some vs
 |[],_=>⟨[],rfl⟩
 |c::l,h=>by obtain⟨v,g⟩:=h c Ψ;obtain⟨vs,j⟩:=TA (l:=l) λx f=>h x (by simp[f]);exact⟨v::vs,u7 g j⟩
def oJ (b f j:Nat):(⟨b,f,none⟩:Addr).add j=⟨b,f+j,none⟩:=by unfold Addr.add;split <;> simp_all
section
variable {P:Program}{B:Nat}{J:W0}{φ:Gx}{h:Pos→EO}{w:World}{o:Oper}{a:Act}
variable{k f:Pos}{off:Nat}{cs:List CV}{l:Loc}{t:TypeId}{b:Bool}{C:List TV}{out:TV}{news:List Value}
def Inv.rd (hI:Inv B J φ h w){g m:Nat}(f:Dv (h k) g off m=some cs)(hl:φ.loc k g=some l) :
  ∃vs,aV φ cs=some vs∧cs.length=m∧(∀j u,vs[j]? = some u→w.cell? ((⟨l.b,off,none⟩:Addr).add j)=some u)∧∃e len C fz s el,h k = .row e s el len C fz∧l.s=s∧0<s:=by
 have ho:=hI.obj k;unfold Dv at f;split at f
 next e s el len C fz hk=>
  rw[hk]at ho;obtain⟨h0,_,_,h2,h3⟩:=ho;cases R:(Nat.ble g C&&Nat.blt (off/s) len)with
  |false=>rw[R]at f;cases f
  |true=>
   rw[R,G']at f;simp[bf,bM]at R;obtain⟨c1,c2⟩:=R;split at f;rename_i p mm U;cases hd:(Nat.ble mm g&&Nat.ble (off%s+m) s)with
   |false=>rw[hd]at f;cases f
   |true=>
    rw[hd,G']at f;simp[bf]at hd;obtain⟨d1,d2⟩:=hd;cases f;obtain⟨l',q1,⟨q2,q3,arr,fr,q4,q5,q6,q7⟩,q8⟩:=h3 g c1;rw[q1]at hl;injection hl with hl;subst hl;obtain⟨r1,r2,r3⟩:=q7 (off/s) c2 (by rw[U];exact d1);rw[U]at r2 r3;have hdm:off/s*s+off%s=off:=by rw[E?];exact aj3 off s
    have pt:∀(j:Nat) (c:CV),((p.drop (off%s)).take m)[j]? = some c→∃v,arr[off+j]? = some v∧den φ c=some v:=λj c r=>by
     rw[K']at r;split at r
     ·rw[b_]at r;obtain⟨v,z1,z2⟩:=r3 _ _ r;rw[←Nat.add_assoc,hdm]at z1;exact⟨v,z1,z2⟩
     ·cases r
    obtain⟨vs,P⟩:=TA (φ:=φ) (l:=(p.drop (off%s)).take m) λc R=>by obtain⟨j,r⟩:=N_ R;obtain⟨v,_,z⟩:=pt j c r;exact⟨v,z⟩
    have T:((p.drop (off%s)).take m).length=m:=by rw[l_,ajV];have r2:p.length=s:=r2;omega
    refine⟨vs,P,T,λj u hu=>?_,e,len,C,fz,s,el,hk,q3,h0⟩;have r:j<((p.drop (off%s)).take m).length:=by rw[←aY P];exact(N'.1 hu).1
    obtain⟨v,z1,z2⟩:=pt j _ (δ r);obtain⟨v',z3,z4⟩:=mw P (δ r);rw[hu]at z3;cases z3;rw[z2]at z4;cases z4;rw[oJ,ajq w l'.b _ arr e fr q4];exact z1
 ·cases f
def abk (f:ah P t≠0):∃i,P.info? t=some i∧i.size=ah P t:=by
 unfold ah at f⊢;split at f
 next i g=>exact⟨i,g,rfl⟩
 ·exact absurd rfl f
def az (f:ah P t≠0)(w:World):(sizeOf t).run P w = .ok (ah P t) w:=by obtain⟨i,g,e⟩:=abk f;simp[sizeOf,typeInfo,g,e]
def cD (f:iP (P.underlying t)=some b)(w:World):(isAgg t).run P w = .ok b w:=by
 cases g:P.underlying t with
 |none=>rw[g]at f;cases f
 |some d =>rw[g]at f;simp[isAgg,ξ,ε g];cases d <;> simp[iP]at f <;> subst f <;> rfl
def ab5 (U:Inv B J φ h w){x:Operand}(ho:o.op = .load t x)(hs:ah P t≠0)(hb:iP (P.underlying t)=some b)(hv:RTs φ C [a.eval x]){wr:Option (Pos×EO)}(j:(E1 (ah P t) b C f).run h=some (out,wr)):OkX P B J φ h w o a out wr:=by
 unfold E1 at j;split at j
 ·obtain⟨v,e,hr⟩:=hv.one;cases e;split at j
  next k g off=>
   simp[Q.run]at j;split at j
   ·rename_i cs T;obtain⟨l,hl,e⟩:=ga hr;obtain⟨vs,q1,q2,q3,_⟩:=U.rd T hl;have R:vs.length=ah P t:=by rw[aY q1,q2]
    unfold Mk at j;split at j
    ·rename_i p r;cases j;unfold FT at r;cases b with
     |true =>cases r;refine aq U (v :=.agg vs.toArray) ?_ (by show aP φ (.agg cs)=_;simp[aP,q1]);unfold execOp;have:=T? (P:=P) w ⟨l.b,off,none⟩ vs q3;rw[R]at this;simp[ho,e,Instr.loadAt,Instr.sureAddr,loadVar,cD hb,az hs,this]
     |false=>
      simp only at r;split at r
      next c=>cases r;obtain⟨v,ws,rfl,z1,z2⟩:=bW q1;refine aq U (v:=v) ?_ z1;unfold execOp;have hc:=q3 0 v rfl;rw[show((⟨l.b,off,none⟩:Addr).add 0)=⟨l.b,off,none⟩by simp[Addr.add]]at hc;simp[ho,e,Instr.loadAt,Instr.sureAddr,loadVar,cD hb,run_load,hc]
      ·cases r
    ·cases j
   ·cases j
  ·cases j
 ·cases j
def Pw {new:List CV}{j:Nat}(f:off+new.length≤cs.length):(du cs off new)[j]? = if off≤j∧j<off+new.length then new[j-off]? else cs[j]?:=by
 unfold du;by_cases g:j<off
 ·rw[B' Ω,w_,ο (by rw[l_];omega),K',β g]
 ·by_cases l:j<off+new.length
  ·rw[β Ω,w_,Q' (by rw[l_];omega),l_,aiA Ω,ο Ω]
  ·rw[B' Ω,Q' (by rw[P',l_];omega),P',l_,aiA Ω,b_];congr 1;omega
def Pv {new:List CV}(f:off+new.length≤cs.length):(du cs off new).length=cs.length:=by unfold du;simp;omega
def xq {f:Array Value}{j:Nat}(g:off+news.length≤f.size):(f.toList.take off++news++f.toList.drop (off+news.length)).toArray[j]? = if off≤j∧j<off+news.length then news[j-off]? else f[j]?:=by
 rw[abs];have l:f.toList.length=f.size:=ω;by_cases p:j<off
 ·rw[B' Ω,w_,ο (by rw[l_];omega),K',β p,f_]
 ·by_cases r:j<off+news.length
  ·rw[β Ω,w_,Q' (by rw[l_];omega),l_,aiA Ω,ο Ω]
  ·rw[B' Ω,Q' (by rw[P',l_];omega),P',l_,aiA Ω,b_,f_];congr 1;omega
def Inv.wr (hI:Inv B J φ h w){g:Nat}{new:List CV}{o':EO}(hr:CF (h k) g off new=some o')(hl:φ.loc k g=some l)(hn:aV φ new=some news) :
  ∃p e,w.heap[l.b]? = some (.cells p e (0,0))∧off+news.length≤p.size∧Inv B J φ (upd h k o') (w.setRow l.b (p.toList.take off++news++p.toList.drop (off+news.length)).toArray):=by
 have ho:=hI.obj k;have hnl:=aY hn;unfold CF at hr;split at hr
 next e s el len gen fz hk=>
  rw[hk]at ho;obtain⟨h0,h1,hm,h2,h3⟩:=ho;cases hc:(Nat.beq g gen&&Nat.blt (off/s) len&&Nat.ble (off%s+new.length) s&&NY fz)with
  |false=>rw[hc]at hr;cases hr
  |true=>
   rw[hc,G']at hr;simp[bf,bM]at hc;obtain⟨⟨⟨rfl,c2⟩,c3⟩,c4⟩:=hc;have c4:fz = .no:=by cases fz <;> first|rfl|cases c4
   subst c4;split at hr;rename_i R mm hch;cases hr;obtain⟨l',q1,⟨q2,q3,p,fr,q4,q5,q6,q7⟩,q8⟩:=h3 g (ζ _);rw[q1]at hl;injection hl with hl;subst hl;have q6:fr=(0,0):=q6;subst q6;have hmc:=hm _ c2;rw[hch]at hmc;obtain⟨r1,r2,r3⟩:=q7 (off/s) c2 (by rw[hch];exact hmc);rw[hch]at r2 r3;have r2:R.length=s:=r2;have hdm:off/s*s+off%s=off:=by rw[E?];exact aj3 off s
   have P:off+news.length≤p.size:=by have h5:(off/s+1)*s≤l'.n*s:=g_ s r1;have h6:(off/s+1)*s=off/s*s+s:=T_ _ _;rw[q5,hnl];omega
   refine⟨p,e,q4,P, ?_⟩;refine hI.turn (ψ:=φ) (Gx.le.refl φ) (λ_ _=>⟨λ_=>rfl,rfl,rfl⟩) (λg1 l1 x=>.inl ⟨g1,l1,x,rfl⟩) (λb hb hne=>aiY w l'.b b _ (λe=>hne g l' q1 e.symm)) ?_ rfl rfl rfl (by simp[World.setRow]) (ζ _) ?_
   ·intro g1 l1 z1 ob z2 z3;obtain hgt|hle:=d_ g g1
    ·rw[h2 g1 hgt]at z1;cases z1
    ·obtain⟨l2,y1,⟨y2,y3,arr2,fr2,U,_⟩,_⟩:=h3 g1 hle;rw[y1]at z1;cases z1;rw[U]at z2;cases z2;cases z3
   ·have C:∀i,(el.set dch 32 (off/s) ⟨du R (off%s) new,g⟩).get dch i=if off/s=i then⟨du R (off%s) new,g⟩else el.get dch i:=λi=>PT.get_set dch _ 32 el (off/s) i Ω
    refine⟨h0,h1,λi hi=>?_,h2,λg1 hg1=>?_⟩
    ·rw[C];split
     ·exact ζ _
     ·exact hm i hi
    ·obtain⟨l2,y1,⟨y2,y3,arr2,fr2,U,y5,y6,y7⟩,y8⟩:=h3 g1 hg1;refine⟨l2,y1, ?_,y8⟩;by_cases hb:l2.b=l'.b
     ·rw[hb,q4]at U;injection U with U;injection U with U _ y6';subst U;subst y6';have hsz:(p.toList.take off++news++p.toList.drop (off+news.length)).toArray.size=p.size:=by
       simp;omega
      refine⟨by rw[hb];exact q2,y3,_,(0,0),by rw[hb];exact ajo w l'.b p _ e _ q4,by rw[hsz];exact y5,rfl,λi hi f=>?_⟩;rw[C]at f⊢;by_cases r:off/s=i
      ·rw[β r]at f⊢;have:g1=g:=Nat.le_antisymm hg1 f;subst this;rw[q1]at y1;cases y1;subst r;refine⟨r1,by show(du R (off%s) new).length=s;rw[Pv Ω];exact r2,λj c T=>?_⟩;have T:(du R (off%s) new)[j]? = some c:=T;rw[Pw Ω]at T;rw[xq P];by_cases hin:off%s≤j∧j<off%s+new.length
       ·rw[β hin]at T;obtain⟨v,z1,z2⟩:=mw hn T;refine⟨v, ?_,z2⟩;rw[β (by rw[hnl];omega),show off/s*s+j-off=j-off%s by omega];exact z1
       ·rw[B' hin]at T;rw[B' (by rw[hnl];omega)];exact r3 j c T
      ·rw[B' r]at f⊢;obtain⟨x1,x2,x3⟩:=y7 i hi f;refine⟨x1,x2,λj c T=>?_⟩;have hjs:j<s:=by
        have:=(N'.1 T).1;omega
       have hne:¬(off≤i*s+j∧i*s+j<off+news.length):=by
        rw[hnl];intro hx;rcases d_ i (off/s)with hlt|hge
        ·have h5:(i+1)*s≤off/s*s:=g_ s hlt;have h6:(i+1)*s=i*s+s:=T_ _ _;omega
        ·have h5:(off/s+1)*s≤i*s:=g_ s Ω;have h6:(off/s+1)*s=off/s*s+s:=T_ _ _;omega
       rw[xq P,B' hne];exact x3 j c T
     ·refine⟨y2,y3,arr2,fr2,by rw[aiY w l'.b l2.b _ hb];exact U,y5,y6,λi hi f=>?_⟩;rw[C]at f⊢;by_cases r:off/s=i
      ·rw[β r]at f;have:g1=g:=Nat.le_antisymm hg1 f;subst this;rw[q1]at y1;cases y1;exact absurd rfl hb
      ·rw[B' r]at f⊢;exact y7 i hi f
 ·cases hr
def DS (hI:Inv B J φ h w){x y:Operand}(ho:o.op = .store t x y)(hs:ah P t≠0)(hv:RTs φ C [a.eval x,a.eval y]){wr:Option (Pos×EO)}(j:(Ap (ah P t) C f).run h=some (out,wr)):OkX P B J φ h w o a out wr:=by
 unfold Ap at j;split at j
 ·obtain⟨v1,ws,e,hr1,hr2⟩:=hv.cons;obtain⟨v2,e2,U⟩:=hr2.one;subst e2;simp at e;obtain⟨e1,e2⟩:=e;subst e1;subst e2;split at j
  next k g off p=>
   cases R:Nat.beq p.cells.length (ah P t)with
   |false=>rw[R]at j;cases j
   |true=>
    rw[R,G']at j;have R:=pX.1 R;simp[Q.run]at j;split at j
    ·rename_i o' hw;cases j;obtain⟨l,hl,e⟩:=ga hr1;have hd:=cM U;obtain⟨arr,e',z1,z2,z3⟩:=hI.wr hw hl hd;refine B8 ?_ (Gx.le.refl φ) z3 (AI hw);have T:(a.eval y).cells.size=ah P t:=by
      have:=aY hd;rw[←R,←this,ω]
     have r:=j? P l.b off e' (a.eval y).cells.toList 0 arr w z1 (by simpa using z2) (tF hd);simp at r;unfold execOp;simp[ho,e,Instr.storeAt,Instr.sureAddr,storeVar,az hs,T,r]
    ·cases j
  ·cases j
 ·cases j
end
variable [SymVal]
def R8:∀l:List UInt8,(l.map UInt8.toNat).map UInt8.ofNat=l
 |[]=>rfl
 |b::l=>by simp[R8 l,UInt8.ofNat_toNat]
def Nb:∀l:List UInt8,cI (l.map UInt8.toNat)=true
 |[]=>rfl
 |b::l=>DX (UInt8.toNat_lt b) (Nb l)
variable{v:Value}
def Fk {c:CV}(h:adg v=some c)(φ:Gx):den φ c=some v:=by
 unfold adg at h;split at h;all_goals first|(simp at h;subst h)|skip
 all_goals first|rfl|skip
 next s=>simp only[den,Nb,h?,og,R8]
 next f a b=>
  split at h
  next hab=>cases h;simp only[den];have j:a = #[]:=V_ hab.1;have g:b = #[]:=V_ hab.2;rw[j,g]
  ·cases h
 ·cases h
def BI:∀{l:List Value} {f:List CV},TD l=some f→∀φ,aV φ f=some l
 |[],f,h,φ=>by cases h;rfl
 |v::l,f,h,φ=>by
  simp[TD]at h;split at h
  next c r h1 h2=>cases h;exact u7 (Fk h1 φ) (BI h2 φ)
  ·cases h
def Dy {p:PV}(h:abH v=some p)(φ:Gx):aP φ p=some v:=by
 unfold abH at h;split at h
 next cs=>
  split at h
  next l hl=>cases h;simp[aP,BI hl φ]
  ·cases h
 ·split at h
  next c hc=>cases h;exact Fk hc φ
  ·cases h
section
variable {P:Program}{B:Nat}{J:W0}{φ:Gx}{h:Pos→EO}{w:World}{o:Oper}{a:Act}
variable{t e:TypeId}{cs:List CV}{f:Pos}{C:List TV}{out:TV}{x y:Operand}{n m:Nat}{T:Array Field}{fd:Field}{vs:List Value}{b:Bool}
def fg {z:PV}(f:dq P t=some z):∃i v,P.info? t=some i∧i.zero=some v∧∀φ,aP φ z=some v:=by
 unfold dq at f;split at f
 next i j=>
  split at f
  next v g=>exact⟨i,v,j,g,λφ=>Dy f φ⟩
  ·cases f
 ·cases f
def Inv.box (C:Inv B J φ h w){k:Pos}(P:h k = .none){f:Array Value}(T:aV φ cs=some f.toList)(U:0<cs.length) :
  ∃ψ,φ.le ψ∧Inv B J ψ (upd h k (.row e cs.length (.node .leaf ⟨cs,0⟩ .leaf) 1 0 .no)) (w.alloc (.cells f e))∧RT ψ (.pv (.one (.ptr k 0 0))) (.pointer (some ⟨w.heap.size,0,none⟩)):=by
 have p:=C.le_add P ⟨w.heap.size,1,cs.length⟩;have r:f.size=cs.length:=by rw[←Array.length_toList,aY T]
 refine⟨_,p,C.new P (l:=⟨w.heap.size,1,cs.length⟩) rfl ⟨U,by decide,λi R=>?_,λg hg=>?_,λg hg=>⟨⟨w.heap.size,1,cs.length⟩, ?_,⟨C.size,rfl,f,(0,0),z_ w _,by simp[r],rfl,λi R _=>⟨R, ?_⟩⟩,λ_=>ζ _⟩⟩, ?_⟩
 ·obtain rfl:i=0:=Ω
  exact ζ _
 ·simp only[Gx.add,h?];rw[B' Ω]
 ·obtain rfl:g=0:=Ω
  exact Gx.add_self _ _ _
 ·obtain rfl:i=0:=Ω
  refine⟨rfl,λj c hj=>?_⟩;obtain⟨v,h1,h2⟩:=mw T hj;exact⟨v,by simpa using h1,dZ p h2⟩
 ·show den _ (.ptr k 0 0)=_;simp[den,Gx.add_self]
def Db {v:Value}(w:World):(newVar t v).run P w = .ok ⟨w.heap.size,0,none⟩ (w.alloc (.cells v.cells t)):=by rfl
def DW (R:Inv B J φ h w){z:PV}(p:o.op = .alloc e)(l:dq P e=some z)(hs:z.cells.length≠0)(r:h f = .none){wr:Option (Pos×EO)}(g:(KK e z.cells C f).run h=some (out,wr)):OkX P B J φ h w o a out wr:=by
 unfold KK at g;split at g
 ·cases g;obtain⟨i,v,h1,U,T⟩:=fg l;obtain⟨ψ,q1,q2,j⟩:=R.box r (e:=e) (cM (T φ)) Ω;refine fD ?_ q1 q2 j;unfold execOp;simp[p,Instr.alloc,zeroValue,typeInfo,h1,U,Db]
 ·cases g
def Qv (hI:Inv B J φ h w)(T:o.op = .box e x)(hs:ah P e≠0)(U:h f = .none)(r:RTs φ C [a.eval x]){wr:Option (Pos×EO)}(g:(ZO e (ah P e) C f).run h=some (out,wr)):OkX P B J φ h w o a out wr:=by
 unfold ZO at g;split at g
 ·obtain⟨v,e1,R⟩:=r.one;cases e1;split at g
  next p=>
   cases j:Nat.beq p.cells.length (ah P e)with
   |false=>rw[j]at g;cases g
   |true =>rw[j,G']at g;have j:=pX.1 j;cases g;obtain⟨ψ,q1,q2,l⟩:=hI.box U (e:=e) (cM R) Ω;rw[j]at q2;refine fD ?_ q1 q2 l;unfold execOp;simp[T,Instr.box,Db]
  ·cases g
 ·cases g
def U9 (R:Inv B J φ h w)(p:o.op = .nilCheck x)(r:RTs φ C [a.eval x]){wr:Option (Pos×EO)}(j:(za C f).run h=some (out,wr)):OkX P B J φ h w o a out wr:=by
 unfold za at j;split at j
 ·obtain⟨v,e,g⟩:=r.one;cases e;split at j;all_goals first|(cases j;done)|skip
  all_goals (cases j;refine aq R (v:=a.eval x) ?_ g;unfold execOp)
  ·obtain⟨l,_,e⟩:=ga g;simp[p,e]
  ·have e:some (Value.pointer (some ⟨_,0,none⟩))=some (a.eval x):=g;simp at e;simp[p,←e]
  ·have e:some (Value.func (.func _) #[] #[])=some (a.eval x):=g;simp at e;simp[p,←e]
  next k=>
   have g:den φ (.ifc k)=some (a.eval x):=g;simp[den]at g;split at g
   ·simp at g;simp[p,←g]
   ·cases g
 ·cases j
def acf (hI:Inv B J φ h w){s:TypeId}(ho:o.op = .fieldAddr s x n)(U:P.underlying s=some (.struct T))(hn:T[n]? = some fd)(r:ah P fd.type≠0)(R:RTs φ C [a.eval x]){wr:Option (Pos×EO)}(j:(Ow fd.offset C f).run h=some (out,wr)):OkX P B J φ h w o a out wr:=by
 unfold Ow at j;split at j
 ·obtain⟨v,e,hr⟩:=R.one;cases e;split at j
  next k g p=>cases j;obtain⟨l,hl,e⟩:=ga hr;refine aq hI (v :=.pointer (some ⟨l.b,p+fd.offset,none⟩)) ?_ (by show den φ (.ptr k g (p+fd.offset))=_;simp[den,hl]);unfold execOp;simp[ho,e,Instr.fieldAt,ε U,hn,Instr.sureAddr,fieldPlace,az r,r,oJ]
  ·cases j
 ·cases j
def Sp {f s:Nat}{p:PV}(r:aV φ cs=some vs)(j:FT b ((cs.drop f).take s)=some p)(T:f+s≤cs.length)(R:ah P t≠0)(J:ah P t=s)(C:iP (P.underlying t)=some b)(w:World):∃v,(part t vs.toArray f).run P w = .ok v w∧aP φ p=some v:=by
 have g:=kY s (iV f r);have l:=aY r;subst J;cases b with
 |true =>cases j;refine⟨.agg ((vs.drop f).take (ah P t)).toArray, ?_,by simp[aP,g]⟩;simp only[part,ξ,cD C,Δ,h?,az R,a_];congr 2;apply m_;simp
 |false=>
  simp[FT]at j;split at j
  next c hc=>
   cases j;rw[hc]at g;obtain⟨v,ws,e1,h1,h2⟩:=bW g;have U:vs[f]? = some v:=by
    have:((vs.drop f).take (ah P t))[0]? = some v:=by rw[e1];rfl
    rw[K']at this;split at this
    ·simpa[b_]using this
    ·cases this
   refine⟨v, ?_,h1⟩;simp[part,ξ,cD C,U]
  ·cases j
def ae7 (hI:Inv B J φ h w)(ho:o.op = .field t x n)(R:P.underlying t=some (.struct T))(hn:T[n]? = some fd)(l:ah P fd.type≠0)(hb:iP (P.underlying fd.type)=some b)(r:RTs φ C [a.eval x]){wr:Option (Pos×EO)}(g:(ZM fd.offset (ah P fd.type) b C f).run h=some (out,wr)):OkX P B J φ h w o a out wr:=by
 unfold ZM at g;split at g
 ·obtain⟨v,e,U⟩:=r.one;cases e;split at g
  next cs=>
   cases j:Nat.ble (fd.offset+ah P fd.type) cs.length with
   |false=>rw[j]at g;cases g
   |true=>
    rw[j,G']at g;have j:=bf.1 j;unfold Mk at g;split at g
    next p hp=>cases g;obtain⟨vs,e,hd⟩:=sg U;obtain⟨v,h1,h2⟩:=Sp (P:=P) hd hp j l rfl hb w;refine aq hI (v:=v) ?_ h2;unfold execOp;simp[ho,e,Instr.field,ε R,hn,asAgg,h1]
    ·cases g
  ·cases g
 ·cases g
def acb (hI:Inv B J φ h w)(ho:o.op = .indexAddr t x y)(hs:P.underlying t=some (.slice e))(hz:ah P e≠0)(hv:RTs φ C [a.eval x,a.eval y]){wr:Option (Pos×EO)}(j:(Iq (ah P e) C f).run h=some (out,wr)):OkX P B J φ h w o a out wr:=by
 unfold Iq at j;split at j
 ·obtain⟨v1,ws,p,hr1,hr2⟩:=hv.cons;obtain⟨v2,R,U⟩:=hr2.one;subst R;simp at p;obtain⟨p,R⟩:=p;subst p;subst R;split at j
  next k g T n cap ik i=>
   cases r:Nat.blt i n with
   |false=>rw[r]at j;cases j
   |true =>rw[r,G']at j;have r:=bM.1 r;cases j;obtain⟨l,hl,p⟩:=vO hr1;have R:=cR U;refine aq hI (v :=.pointer (some ⟨l.b,T+i*ah P e,none⟩)) ?_ (by show den φ (.ptr k g _)=_;simp[den,hl]);unfold execOp;simp[ho,p,R,Instr.indexAt,asIntOf,ε hs,az hz,oJ,r]
  ·cases j
 ·cases j
def ace (hI:Inv B J φ h w)(ho:o.op = .indexAddr t x y)(hs:P.underlying t=some (.array m e))(hz:ah P e≠0)(hv:RTs φ C [a.eval x,a.eval y]){wr:Option (Pos×EO)}(j:(Ov m (ah P e) C f).run h=some (out,wr)):OkX P B J φ h w o a out wr:=by
 unfold Ov at j;split at j
 ·obtain⟨v1,ws,p,hr1,hr2⟩:=hv.cons;obtain⟨v2,R,U⟩:=hr2.one;subst R;simp at p;obtain⟨p,R⟩:=p;subst p;subst R;split at j
  next k g T ik i=>
   cases r:Nat.blt i m with
   |false=>rw[r]at j;cases j
   |true =>rw[r,G']at j;have r:=bM.1 r;cases j;obtain⟨l,hl,p⟩:=ga hr1;have R:=cR U;refine aq hI (v :=.pointer (some ⟨l.b,T+i*ah P e,none⟩)) ?_ (by show den φ (.ptr k g _)=_;simp[den,hl]);unfold execOp;simp[ho,p,R,Instr.indexAt,asIntOf,Instr.sureAddr,ε hs,az hz,oJ,r]
  ·cases j
 ·cases j
def aca (hI:Inv B J φ h w)(ho:o.op = .index t x y)(hs:P.underlying t=some .string)(hv:RTs φ C [a.eval x,a.eval y]){wr:Option (Pos×EO)}(g:(Ip C f).run h=some (out,wr)):OkX P B J φ h w o a out wr:=by
 unfold Ip at g;split at g
 ·obtain⟨v1,ws,l,hr1,U⟩:=hv.cons;obtain⟨v2,R,T⟩:=U.one;subst R;simp at l;obtain⟨l,R⟩:=l;subst l;subst R;split at g
  next b ik i=>
   split at g
   ·rename_i c r p;rw[bT]at g;cases g;obtain⟨h1,l⟩:=lN hr1;have R:=cR T;have j:i<b.length:=by
     obtain q|q:=d_ i b.length
     ·exact q
     ·rw[ajh q]at p;cases p
    have hg:b[i]=c:=by rw[aj9 j]at p;injection p
    have hc256:c<256:=by have:=DY i h1;rw[p]at this;exact(ge this).1
    refine aq hI (v :=.int .u8 (Int.ofNat c)) ?_ (cm _ _);have hb:(⟨(b.map UInt8.ofNat).toArray⟩:ByteArray)[i]? = some (UInt8.ofNat c):=by
     rw[getElem?_pos (⟨(b.map UInt8.ofNat).toArray⟩:ByteArray) i (by simpa[ByteArray.size]using j)];have:(⟨(b.map UInt8.ofNat).toArray⟩:ByteArray)[i]'(by simpa[ByteArray.size]using j)=UInt8.ofNat b[i]:=by show(b.map UInt8.ofNat).toArray[i]'(by simpa using j)=_;simp
     rw[this,hg]
    unfold execOp;simp[ho,l,R,og,Instr.index,asIntOf,ε hs,hb];omega
   ·cases g
  ·cases g
 ·cases g
def acd (hI:Inv B J φ h w)(ho:o.op = .index t x y)(hs:P.underlying t=some (.array m e))(hz:ah P e≠0)(hb:iP (P.underlying e)=some b)(hv:RTs φ C [a.eval x,a.eval y]){wr:Option (Pos×EO)}(g:(Ou m (ah P e) b C f).run h=some (out,wr)):OkX P B J φ h w o a out wr:=by
 unfold Ou at g;split at g
 ·obtain⟨v1,ws,j,U,T⟩:=hv.cons;obtain⟨v2,r,R⟩:=T.one;subst r;simp at j;obtain⟨j,r⟩:=j;subst j;subst r;split at g
  next cs ik i=>
   cases l:(Nat.blt i m&&Nat.ble (i*ah P e+ah P e) cs.length)with
   |false=>rw[l]at g;cases g
   |true=>
    rw[l,G']at g;simp[bM,bf]at l;unfold Mk at g;split at g
    next p hp=>cases g;obtain⟨vs,j,hd⟩:=sg U;have r:=cR R;obtain⟨v,h1,h2⟩:=Sp (P:=P) hd hp l.2 hz rfl hb w;refine aq hI (v:=v) ?_ h2;unfold execOp;simp[ho,j,r,Instr.index,asIntOf,ε hs,az hz,l.1,h1]
    ·cases g
  ·cases g
 ·cases g
def ae8 (hI:Inv B J φ h w)(U:o.op = .extract x n)(j:RTs φ C [a.eval x]){wr:Option (Pos×EO)}(g:(V9 n C f).run h=some (out,wr)):OkX P B J φ h w o a out wr:=by
 unfold V9 at g;split at g
 ·obtain⟨v,e,R⟩:=j.one;cases e;split at g
  next l=>
   split at g
   ·rename_i p r hd;cases g;obtain⟨vs,h1,e⟩:=R;have T:l[n]? = some p:=by
     have:(l.drop n)[0]? = some p:=by rw[hd];rfl
     simpa[b_]using this
    obtain⟨v,h2,h3⟩:=Iu h1 T;refine aq hI (v:=v) ?_ h3;unfold execOp;simp[U,e,Instr.extract,h2]
   ·cases g
  ·cases g
 ·cases g
def ae1 (r:Inv B J φ h w)(U:o.op = .makeInterface t x){d:TypeDesc}(hd:P.underlying t=some d)(hn:∀m,d ≠ .interface m)(l:h f = .none)(R:RTs φ C [a.eval x]){wr:Option (Pos×EO)}(g:(ac1 t C f).run h=some (out,wr)):OkX P B J φ h w o a out wr:=by
 unfold ac1 at g;split at g
 ·obtain⟨v,e,T⟩:=R.one;cases e;split at g
  next p=>cases g;have j:=r.le_addV l (.iface t (a.eval x));refine fD (v :=.iface t (a.eval x)) ?_ j (r.newV l ⟨(r.free l).1,a.eval x,cF j T,Gx.addV_self _ _ _⟩) (by show den _ (.ifc f)=_;simp[den,Gx.addV_self]);unfold execOp;cases d <;> first|(exact absurd rfl (hn _))|simp[U,Instr.makeInterface,ε hd]
  ·cases g
 ·cases g
def OQ {l:List PV}(n:Nat)(h:cw φ l=some vs):cw φ (l.take n)=some (vs.take n)∧cw φ (l.drop n)=some (vs.drop n):=by
 induction l generalizing n vs with
 |nil=>cases h;simp[cw]
 |cons p l f=>
  obtain⟨v,J,rfl,C,r⟩:=gj h;cases n with
  |zero=>exact⟨by simp[cw],h⟩
  |succ n =>obtain⟨j,g⟩:=f n r;exact⟨bt C j,g⟩
def ae2 (R:Inv B J φ h w){fn:Fn}{first g:Array Operand}(ho:o.op = .makeFunc fn first g)(r:h f = .none)(hv:RTs φ C ((first.toList++g.toList).map a.eval)){wr:Option (Pos×EO)}(p:(ac2 fn first.size C f).run h=some (out,wr)):OkX P B J φ h w o a out wr:=by
 unfold ac2 at p;split at p
 next l hl=>
  cases p;have hd:=Hx hl hv;obtain⟨U,T⟩:=OQ first.size hd
  have t1:((first.toList++g.toList).map a.eval).take first.size=first.toList.map a.eval:=by rw[D?,List.take_left' Ψ]
  have t2:((first.toList++g.toList).map a.eval).drop first.size=g.toList.map a.eval:=by rw[D?,List.drop_left' Ψ]
  rw[t1]at U;rw[t2]at T;have j:=R.le_addV r (.func fn (first.toList.map a.eval).toArray (g.toList.map a.eval).toArray);refine fD (v :=.func fn (first.toList.map a.eval).toArray (g.toList.map a.eval).toArray) ?_ j (R.newV r ⟨(R.free r).1,_,_,dj j U,dj j T,Gx.addV_self _ _ _⟩) (by show den _ (.clo f)=_;simp[den,Gx.addV_self]);unfold execOp;have e1:first.map a.eval=(first.toList.map a.eval).toArray:=m_ Ψ
  have e2:g.map a.eval=(g.toList.map a.eval).toArray:=m_ Ψ;simp[ho,Instr.makeFunc,e1,e2]
 ·cases p
def ad4 (hI:Inv B J φ h w){cl:Call}{big:Bool}(ho:o.op = .call cl)(U:cl.callee = .builtin (match big with|true=>.max|false=>.min))(j:cl.args = #[x,y])(hv:RTs φ C [a.eval x,a.eval y]){wr:Option (Pos×EO)}(g:(eMx big C f).run h=some (out,wr)):OkX P B J φ h w o a out wr:=by
 unfold eMx at g;split at g
 ·obtain⟨v1,ws,l,T,R⟩:=hv.cons;obtain⟨v2,p,r⟩:=R.one;subst p;simp at l;obtain⟨l,p⟩:=l;subst l;subst p;split at g
  next k m k' n=>
   cases hc:kq k k' with
   |false=>rw[hc]at g;cases g
   |true =>rw[hc,G',bT]at g;have:=HW hc;subst this;cases g;have l:=cR T;have p:=cR r;refine aq hI ?_ (cm _ _);unfold execOp;cases big <;> simp[ho,resolve,U,j,invoke,builtin,Builtin.max_,Builtin.min_,Builtin.max2,Builtin.min2,l,p]
  ·cases g
 ·cases g
end
variable [SymVal]
def wV:∀{a b:List CK} {l m:List CV} {r:Bool},eqL (a++b) l m=some r→∃r1 r2,eqL a (l.take a.length) (m.take a.length)=some r1∧eqL b (l.drop a.length) (m.drop a.length)=some r2∧r=(bif r1 then r2 else false)
 |[],b,l,m,r,h=>⟨true,r,by simp[eqL],by simpa using h,rfl⟩
 |k::a,b,x::l,y::m,r,h=>by
  simp[eqL]at h;split at h
  next f y1 h1 h2=>
   simp at h;obtain⟨r1,r2,q1,q2,g⟩:=wV h2;refine⟨(bif f then r1 else false),r2, ?_,by simpa using q2, ?_⟩
   ·simp[eqL,h1,q1]
   ·rw[←h,g];cases f <;> rfl
  ·cases h
 |k::a,b,[],_,r,h=>by simp[eqL]at h
 |k::a,b,_::_,[],r,h=>by simp[eqL]at h
def KH:∀{a:List CK} {l m:List CV} {r:Bool},eqL a l m=some r→l.length=a.length∧m.length=a.length
 |[],[],[],_,_=>⟨rfl,rfl⟩
 |k::a,x::l,y::m,r,h=>by
  simp[eqL]at h;split at h
  next h1 h2=>obtain⟨q1,q2⟩:=KH h2;exact⟨by simp[q1],by simp[q2]⟩
  ·cases h
 |[],_::_,_,_,h=>by simp[eqL]at h
 |[],[],_::_,_,h=>by simp[eqL]at h
 |_::_,[],_,_,h=>by simp[eqL]at h
 |_::_,_::_,[],_,h=>by simp[eqL]at h
section
variable {P:Program}{B:Nat}{J:W0}{φ:Gx}{h:Pos→EO}{w:World}{o:Oper}{a:Act}
def PV.isAgg:PV→Bool
 |.agg _=>true
 |.one _=>false
def oq:Option TypeDesc→Bool
 |some (.struct _)=>true
 |_=>false
def Ij {d:Nat}{f:TypeId→Option (List CK)}(ih:∀t J,f t=some J→∀(p q:PV) vx vy r,aP φ p=some vx→aP φ q=some vy→p.isAgg=oq (P.underlying t)→q.isAgg=oq (P.underlying t)→eqL J p.cells q.cells=some r→(Op.equalIn d t vx vy).run P w = .ok r w)
  (hk:∀t J,f t=some J→iP (P.underlying t)=some (oq (P.underlying t))∧(oq (P.underlying t)=false→J.length=1)) (xs ys:Array Value):∀(T:List Field) (g:Nat) (J:List CK) (l m:List CV) (r:Bool),Wl (ah P) f T g=some J→aV φ l=some (xs.toList.drop g)→aV φ m=some (ys.toList.drop g)→eqL J l m=some r→(Op.eqFields d xs ys T).run P w = .ok r w
 |[],g,J,l,m,r,hc,hx,hy,he=>by
  cases hc;cases l with
  |nil=>cases m with
   |nil=>cases he;rfl
   |cons _ _=>simp[eqL]at he
  |cons _ _=>simp[eqL]at he
 |fd::T,g,J,l,m,r,hc,hx,hy,he=>by
  simp only[Wl]at hc;split at hc
  next hn=>
   split at hc
   ·rename_i C hka;split at hc
    ·rename_i hz;split at hc
     ·rename_i kb hkb;cases hc;obtain⟨r1,r2,e1,e2,rfl⟩:=wV he;obtain⟨hl1,hm1⟩:=KH e1;have hsz:ah P fd.type≠0:=Ω
      obtain⟨hb,hk1⟩:=hk _ _ hka;have j:∀(l:List CV) (zs:Array Value),aV φ l=some (zs.toList.drop g)→(l.take C.length).length=C.length→∃p v,p.cells=l.take C.length∧p.isAgg=oq (P.underlying fd.type)∧aP φ p=some v∧(part fd.type zs fd.offset).run P w = .ok v w:=by
       intro l zs hd hlen;have R:=kY C.length hd;cases hs:oq (P.underlying fd.type)with
       |true =>rw[hs]at hb;refine⟨.agg (l.take C.length),.agg ((zs.toList.drop g).take C.length).toArray,rfl,rfl,by simp[aP,R], ?_⟩;simp[part,ξ,cD hb,az hsz,a_,hn.2,hz.1];congr 2;apply m_;simp
       |false=>
        rw[hs]at hb;have U:C.length=1:=hk1 hs;rw[U]at R hlen;match hlt:l.take 1,hlen with
        |[c],_=>
         rw[hlt]at R;obtain⟨v,ws,e3,h1,h2⟩:=bW R;have hg:zs[g]? = some v:=by
          have:((zs.toList.drop g).take 1)[0]? = some v:=by rw[e3];rfl
          rw[K']at this;split at this
          ·simpa[b_]using this
          ·cases this
         refine⟨.one c,v,by rw[U,hlt];rfl,rfl,h1, ?_⟩;simp[part,ξ,cD hb,hn.2,hg]
      obtain⟨p,vx,p1,p2,p3,p4⟩:=j l xs hx hl1;obtain⟨q,vy,q1,q2,q3,q4⟩:=j m ys hy hm1;have hA:=ih fd.type C hka p q vx vy r1 p3 q3 p2 q2 (by rw[p1,q1];exact e1);have hR:=Ij ih hk xs ys T (g+C.length) kb (l.drop C.length) (m.drop C.length) r2 hkb (by rw[←List.drop_drop];exact iV _ hx) (by rw[←List.drop_drop];exact iV _ hy) e2;simp[Op.eqFields,hn.1,ξ,p4,q4,hA];cases r1 with
      |false=>simp
      |true=>simp[hR]
     ·cases hc
    ·cases hc
   ·cases hc
  ·cases hc
def OW:∀(d:Nat) (t:TypeId) (f:List CK),iA P d t=some f→iP (P.underlying t)=some (oq (P.underlying t))∧(oq (P.underlying t)=false→f.length=1)
 |0,t,f,h=>by cases h
 |d+1,t,f,h=>by
  simp[iA]at h;split at h
  next hu=>cases h;rw[hu];exact⟨rfl,λ_=>rfl⟩
  next hu=>cases h;rw[hu];exact⟨rfl,λ_=>rfl⟩
  next hu=>cases h;rw[hu];exact⟨rfl,λ_=>rfl⟩
  next hu=>rw[hu];exact⟨rfl,λx=>by cases x⟩
  ·cases h
def Cn:∀(d:Nat) (D:Nat) (t:TypeId) (ks:List CK),iA P d t=some ks→∀(p q:PV) R J r,aP φ p=some R→aP φ q=some J→p.isAgg=oq (P.underlying t)→q.isAgg=oq (P.underlying t)→eqL ks p.cells q.cells=some r→(Op.equalIn (D+d) t R J).run P w = .ok r w
 |0,D,t,ks,h,p,q,R,J,r,_,_,_,_,_=>by cases h
 |d+1,D,t,ks,h,p,q,R,J,r,j,g,hp,hq,he=>by
  have one:∀{ck:CK},oq (P.underlying t)=false→ks=[ck]→∃c c',p = .one c∧q = .one c'∧eqC ck c c'=some r:=by
   intro ck hs hk;rw[hs]at hp hq;cases p with
   |agg l=>cases hp
   |one c=>
    cases q with
    |agg l=>cases hq
    |one c'=>
     refine⟨c,c',rfl,rfl, ?_⟩;rw[hk]at he;simp[PV.cells,eqL]at he;split at he
     next x y h1 h2=>simp at h2 he;subst h2;rw[h1];cases x <;> simp_all
     ·cases he
  simp[iA]at h;rw[←Nat.add_assoc];split at h
  next hu=>
   simp at h;obtain⟨c,c',rfl,rfl,f⟩:=one (by rw[hu];rfl) h.symm;cases c <;> cases c' <;> simp only[eqC]at f <;> first|(cases f;done)|skip
   rename_i a b;simp at f;have j:some (Value.bool a)=some R:=j;have g:some (Value.bool b)=some J:=g;injection j with j;injection g with g;subst j;subst g;subst f;rw[ajT w (D+d) t a b hu];cases a <;> cases b <;> rfl
  next k hu=>
   simp at h;obtain⟨c,c',rfl,rfl,f⟩:=one (by rw[hu];rfl) h.symm;cases c <;> cases c' <;> simp[eqC]at f <;> first|(cases f;done)|skip
   rename_i U a k2 b;cases C:(kq k U&&kq k k2)with
   |false=>rw[C]at f;cases f
   |true =>rw[C]at f;simp at C;have e1:=HW C.1;have e2:=HW C.2;subst e1;subst e2;simp at f;have j:some (Value.int k a)=some R:=j;have g:some (Value.int k b)=some J:=g;injection j with j;injection g with g;subst j;subst g;subst f;rw[aj2 w (D+d) t k k a b hu,rq]
  next hu=>
   simp only[θ]at h;obtain⟨c,c',rfl,rfl,f⟩:=one (by rw[hu];rfl) h.symm;cases c <;> cases c' <;> simp only[eqC]at f <;> first|(cases f;done)|skip
   rename_i a b;simp only[θ]at f;obtain⟨h1,e1⟩:=lN (φ:=φ) (v:=R) j;obtain⟨h2,e2⟩:=lN (φ:=φ) (v:=J) g;subst e1;subst e2;subst f;rw[Ad h1 h2];unfold og;rw[ajB w (D+d) t _ _ hu,iu,iu]
  next T hu=>
   split at h
   ·cases h
   ·rename_i hst;have hst:P.stoodInHeld t=false:=by simpa using hst
    rw[hu]at hp hq;cases p with
    |one c=>cases hp
    |agg l=>
     cases q with
     |one c=>cases hq
     |agg m=>
      obtain⟨xs,e1,hd1⟩:=sg (φ:=φ) (v:=R) j;obtain⟨ys,e2,hd2⟩:=sg (φ:=φ) (v:=J) g;subst e1;subst e2;have hfo:P.fieldsOf t=T:=by simp[Program.fieldsOf,hu]
      rw[run_equalIn_struct w (D+d) t _ _ (by rw[hfo];exact hu) hst,hfo];exact Ij (λt ks hk p q R J r=>Cn d D t ks hk p q R J r) (λt ks hk=>OW d t ks hk) _ _ T.toList 0 ks l m r h (by simpa using hd1) (by simpa using hd2) he
  ·cases h
end
