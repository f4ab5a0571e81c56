/- Closed runs. -/
import Derived.Test.YthfdnklcgfkjoaaGreatDoorAl
import Derived.Below
import Derived.Calls
import Derived.KernelRfl
import Derived.Laws.StructEq
import Derived.Maps.AppendAt
import Derived.Orders
set_option linter.all false
namespace Go.Proofs.YthfdnklcgfkjoaaGreatDoor.Clo
open Go Go.RowKit
variable{a b:Nat}
def cD:Nat.blt a b=true↔a<b:=by rw[Nat.blt_eq]
def af8 (h:¬a<b):Nat.blt a b=false:=by cases f:Nat.blt a b with|false=>rfl|true=>exact absurd (cD.1 f) h
def bD:Nat.ble a b=true↔a≤b:=by rw[Nat.ble_eq]
def q0:Nat.beq a b=true↔a=b:=by rw[Nat.beq_eq]
inductive Pos where
 |e
 |o (p:Pos)
 |i (p:Pos)
def Pos.num:Pos→Nat
 |.e=>0
 |.o p=>2*p.num+1
 |.i p=>2*p.num+2
def Pos.inj:∀{p q:Pos},p.num=q.num→p=q
 |.e,.e,_=>rfl
 |.e,.o q,h=>by simp only[Pos.num]at h;omega
 |.e,.i q,h=>by simp only[Pos.num]at h;omega
 |.o p,.e,h=>by simp only[Pos.num]at h;omega
 |.i p,.e,h=>by simp only[Pos.num]at h;omega
 |.o p,.o q,h=>by simp[Pos.num]at h;rw[Pos.inj (p:=p) (q:=q) Ω]
 |.i p,.i q,h=>by simp[Pos.num]at h;rw[Pos.inj (p:=p) (q:=q) Ω]
 |.o p,.i q,h=>by simp[Pos.num]at h;omega
 |.i p,.o q,h=>by simp[Pos.num]at h;omega
instance:DecidableEq Pos:=λp q=>if h:p.num=q.num then .isTrue (Pos.inj h)else .isFalse (λe=>h (by rw[e]))
def Pos.beq:Pos→Pos→Bool
 |.e,.e=>true
 |.o p,.o q=>p.beq q
 |.i p,.i q=>p.beq q
 |_,_=>false
def Pos.beq_iff:∀{p q:Pos},p.beq q=true↔p=q
 |.e,.e=>by simp[Pos.beq]
 |.e,.o q=>by simp[Pos.beq]
 |.e,.i q=>by simp[Pos.beq]
 |.o p,.e=>by simp[Pos.beq]
 |.i p,.e=>by simp[Pos.beq]
 |.o p,.o q=>by simp[Pos.beq,Pos.beq_iff (p:=p) (q:=q)]
 |.i p,.i q=>by simp[Pos.beq,Pos.beq_iff (p:=p) (q:=q)]
 |.o p,.i q=>by simp[Pos.beq]
 |.i p,.o q=>by simp[Pos.beq]
def Pos.succ:Pos→Pos
 |.e=>.o .e
 |.o p=>.i p
 |.i p=>.o p.succ
def Pos.num_succ:∀p:Pos,p.succ.num=p.num+1
 |.e=>rfl
 |.o p=>rfl
 |.i p=>by simp[Pos.succ,Pos.num,Pos.num_succ p];omega
def adh:Nat→Nat→Pos
 |0,_=>.e
 |_+1,0=>.e
 |f+1,n+1=>match Nat.beq (n%2) 0 with
  |true=>.o (adh f (n/2))
  |false=>.i (adh f (n/2))
def pos (n:Nat):Pos:=adh 64 n
def uf:∀(f n:Nat),n+2≤2^f→(adh f n).num=n
 |0,n,h=>by simp at h
 |f+1,0,_=>rfl
 |f+1,n+1,h=>by
  have j:2^(f+1)=2*2^f:=by rw[Nat.pow_succ];omega
  simp[adh];cases g:Nat.beq (n%2) 0 with
  |true =>have:=κ g;simp[Pos.num];rw[uf f (n/2) Ω];omega
  |false =>have:=E_ g;simp[Pos.num];rw[uf f (n/2) Ω];omega
inductive PM (C:Type) where
 |leaf
 |node (l:PM C) (a:C) (r:PM C)
section
variable {C:Type}
def PM.get (d:C):PM C→Pos→C
 |.leaf,_=>d
 |.node l a r,p=>match p with
  |.e=>a
  |.o p=>l.get d p
  |.i p=>r.get d p
def PM.set (d:C):Pos→PM C→C→PM C
 |.e,.leaf,x=>.node .leaf x .leaf
 |.e,.node l _ r,x=>.node l x r
 |.o p,.leaf,x=>.node (PM.set d p .leaf x) d .leaf
 |.o p,.node l a r,x=>.node (PM.set d p l x) a r
 |.i p,.leaf,x=>.node .leaf d (PM.set d p .leaf x)
 |.i p,.node l a r,x=>.node l a (PM.set d p r x)
def upd (f:Pos→C)(k:Pos)(x:C):Pos→C:=λq=>if k=q then x else f q
def bk (f:Pos→C)(k:Pos)(x:C):upd f k x k=x:=β rfl
def bO (f:Pos→C){k q:Pos}(x:C)(h:k≠q):upd f k x q=f q:=ο h
def PM.get_set (d x:C):∀(p:Pos) (t:PM C),(PM.set d p t x).get d=upd (t.get d) p x
 |.e,.leaf=>by funext q;cases q <;> simp[PM.set,PM.get,upd]
 |.e,.node l a r=>by funext q;cases q <;> simp[PM.set,PM.get,upd]
 |.o p,.leaf=>by funext q;cases q <;> simp[PM.set,PM.get,upd];rw[PM.get_set d x p .leaf];simp[upd,PM.get]
 |.o p,.node l a r=>by funext q;cases q <;> simp[PM.set,PM.get,upd];rw[PM.get_set d x p l];simp[upd]
 |.i p,.leaf=>by funext q;cases q <;> simp[PM.set,PM.get,upd];rw[PM.get_set d x p .leaf];simp[upd,PM.get]
 |.i p,.node l a r=>by funext q;cases q <;> simp[PM.set,PM.get,upd];rw[PM.get_set d x p r];simp[upd]
end
inductive PT (C:Type) where
 |leaf
 |node (l:PT C) (a:C) (r:PT C)
section
variable {C:Type}
def PT.get (d:C):PT C→Nat→C
 |.leaf,_=>d
 |.node l a r,i=>match i with
  |0=>a
  |i+1=>match Nat.beq (i%2) 0 with
   |true=>l.get d (i/2)
   |false=>r.get d (i/2)
def PT.set (d:C):Nat→PT C→Nat→C→PT C
 |0,t,_,_=>t
 |f+1,t,i,x=>match t,i with
  |.leaf,0=>.node .leaf x .leaf
  |.node l _ r,0=>.node l x r
  |.leaf,i+1=>match Nat.beq (i%2) 0 with
   |true=>.node (PT.set d f .leaf (i/2) x) d .leaf
   |false=>.node .leaf d (PT.set d f .leaf (i/2) x)
  |.node l a r,i+1=>match Nat.beq (i%2) 0 with
   |true=>.node (PT.set d f l (i/2) x) a r
   |false=>.node l a (PT.set d f r (i/2) x)
def Yr (i:Nat):Nat.beq (i%2) 0=decide (i%2=0):=by
 cases h:Nat.beq (i%2) 0 with
 |true=>exact(N_ (κ h)).symm
 |false=>exact(ar2 (E_ h)).symm
def PT.get_set (d x:C):∀(f:Nat) (t:PT C) (i j:Nat),i+2≤2^f→(t.set d f i x).get d j=if i=j then x else t.get d j
 |0,t,i,j,h=>by simp at h
 |f+1,t,i,j,h=>by
  have P:2^(f+1)=2*2^f:=by rw[Nat.pow_succ];omega
  cases i with
  |zero=>
   cases t with
   |leaf=>cases j with
    |zero=>rfl
    |succ j=>simp[PT.set,PT.get];cases Nat.beq (j%2) 0 <;> simp
   |node l a r=>cases j with
    |zero=>rfl
    |succ j=>simp only[PT.set,PT.get];cases Nat.beq (j%2) 0 <;> simp
  |succ i=>
   have J:∀(t:PT C) (j:Nat),(t.set d f (i/2) x).get d j=if i/2=j then x else t.get d j:=λt j=>PT.get_set d x f t (i/2) j Ω
   cases t with
   |leaf=>
    cases j with
    |zero=>simp[PT.set];cases Nat.beq (i%2) 0 <;> simp[PT.get]
    |succ j=>
     simp[PT.set];by_cases p:i%2=0 <;> by_cases g:j%2=0 <;> simp only[p,g,w_,x_,PT.get,Yr,J]
     ·by_cases e:i=j
      ·simp[e]
      ·rw[ο Ω,ο Ω]
     ·rw[ο Ω]
     ·rw[ο Ω]
     ·by_cases e:i=j
      ·simp[e]
      ·rw[ο Ω,ο Ω]
   |node l a r=>
    cases j with
    |zero=>simp[PT.set];cases Nat.beq (i%2) 0 <;> simp[PT.get]
    |succ j=>
     simp[PT.set];by_cases p:i%2=0 <;> by_cases g:j%2=0 <;> simp only[p,g,w_,x_,PT.get,Yr,J]
     ·by_cases e:i=j
      ·simp[e]
      ·rw[ο Ω,ο Ω]
     ·rw[ο Ω]
     ·rw[ο Ω]
     ·by_cases e:i=j
      ·simp[e]
      ·rw[ο Ω,ο Ω]
end
inductive CV where
 |bl (b:Bool)
 |int (k:IntKind) (n:Int)
 |str (s:List Nat)
 |nilp
 |ptr (k:Pos) (g off:Nat)
 |glob (b:Nat)
 |nils
 |sl (k:Pos) (g off len:Nat) (cap:Option Nat)
 |emp (k:Pos)
 |nilm
 |mp (k:Pos)
 |nilf
 |fnc (f:FuncId)
 |clo (k:Pos)
 |nili
 |ifc (k:Pos)
 |sym (n:Nat)
inductive PV where
 |one (c:CV)
 |agg (l:List CV)
inductive TV where
 |unk
 |pv (v:PV)
 |tup (l:List PV)
structure Ch where
 cs:List CV
 m:Nat
inductive Fz where
 |no|out|yes
structure ME where
 key:PV
 val:PV
 born:Nat
inductive EO where
 |none
 |row (e:TypeId) (s:Nat) (el:PT Ch) (len gen:Nat) (fz:Fz)
 |map (es:List ME) (clock:Nat)
 |mit (m:Option Pos) (since:Nat) (seen:List Nat) (stepped:Nat)
 |mitU (m:Pos) (since:Nat) (bs:List Nat) (at_:Option (Nat×Nat))
 |sit (s:List Nat) (p:Nat)
 |clo (fn:Fn) (first caps:List PV)
 |ifc (t:TypeId) (v:PV)
 |emp
 |yld
 |dead
 |res
structure Loc where
 b:Nat
 n:Nat
 s:Nat
structure Gx where
 loc:Pos→Nat→Option Loc
 val:Pos→Option Value
 mu:Pos→Option Nat
def iq (cap:Option Nat)(n d:Nat):Nat:=match cap with|some c=>c|none=>n-d
def Bx (cap:Option Nat)(len n d:Nat):Bool:=match cap with|some _=>true|none=>Nat.ble (d+len) n
def pw (s:List Nat):Value :=.string ⟨(s.map UInt8.ofNat).toArray⟩
def cU (s:List Nat):Bool:=s.all λb=>Nat.blt b 256
class SymVal where
 v:Nat→Value
 one:∀n,(v n).oneCell'=true
 fact:World→Prop
variable [SymVal]
def den (p:Gx):CV→Option Value
 |.bl b=>some (.bool b)
 |.int k n=>some (.int k n)
 |.str s=>if cU s=true then some (pw s)else none
 |.nilp=>some (.pointer none)
 |.ptr k g j=>match p.loc k g with
  |some l=>some (.pointer (some ⟨l.b,j,none⟩))
  |none=>none
 |.glob b=>some (.pointer (some ⟨b,0,none⟩))
 |.nils=>some (.slice none 0 0)
 |.sl k g j len cap=>match p.loc k g with
  |some l=>if Bx cap len l.n (j/l.s)=true then some (.slice (some ⟨l.b,j,none⟩) len (iq cap l.n (j/l.s)))else none
  |none=>none
 |.emp k=>match p.val k with
  |some (.slice (some a) 0 c)=>some (.slice (some a) 0 c)
  |_=>none
 |.nilm=>some (.map none)
 |.mp k=>match p.loc k 0 with
  |some l=>some (.map (some l.b))
  |none=>none
 |.nilf=>some .nilFunc
 |.fnc f=>some (.func (.func f) #[] #[])
 |.clo k=>match p.val k with
  |some (.func fn a b)=>some (.func fn a b)
  |_=>none
 |.nili=>some .nilIface
 |.sym n=>some (SymVal.v n)
 |.ifc k=>match p.val k with
  |some (.iface t v)=>some (.iface t v)
  |_=>none
structure Gx.le (φ ψ:Gx):Prop where
 loc:∀k g l,φ.loc k g=some l→ψ.loc k g=some l
 val:∀k v,φ.val k=some v→ψ.val k=some v
 mu:∀k v,φ.mu k=some v→ψ.mu k=some v
def Gx.le.refl (f:Gx):f.le f:=⟨λ_ _ _ h=>h,λ_ _ h=>h,λ_ _ h=>h⟩
def Gx.le.trans {a b c:Gx}(h:a.le b)(k:b.le c):a.le c:=⟨λp g l x=>k.loc p g l (h.loc p g l x),λp v x=>k.val p v (h.val p v x),λp v x=>k.mu p v (h.mu p v x)⟩
variable{φ ψ:Gx}{l:List CV}{vs:List Value}{v:Value}{o:EO}
def fH (h:φ.le ψ):∀{c:CV} {v:Value},den φ c=some v→den ψ c=some v
 |.bl _,_,r=>r
 |.int _ _,_,r=>r
 |.str _,_,r=>r
 |.nilp,_,r=>r
 |.glob _,_,r=>r
 |.nils,_,r=>r
 |.nilm,_,r=>r
 |.nilf,_,r=>r
 |.fnc _,_,r=>r
 |.nili,_,r=>r
 |.sym _,_,r=>r
 |.ptr k g j,v,r=>by
  simp[den]at r⊢;cases f:φ.loc k g with
  |none=>simp[f]at r
  |some l=>rw[f]at r;rw[h.loc k g l f];exact r
 |.sl k g j len cap,v,r=>by
  simp[den]at r⊢;cases f:φ.loc k g with
  |none=>simp[f]at r
  |some l=>rw[f]at r;rw[h.loc k g l f];exact r
 |.mp k,v,r=>by
  simp[den]at r⊢;cases f:φ.loc k 0 with
  |none=>simp[f]at r
  |some l=>rw[f]at r;rw[h.loc k 0 l f];exact r
 |.clo k,v,r=>by
  simp[den]at r⊢;cases f:φ.val k with
  |none=>simp[f]at r
  |some l=>rw[f]at r;rw[h.val k l f];exact r
 |.emp k,v,r=>by
  simp[den]at r⊢;cases f:φ.val k with
  |none=>simp[f]at r
  |some l=>rw[f]at r;rw[h.val k l f];exact r
 |.ifc k,v,r=>by
  simp[den]at r⊢;cases f:φ.val k with
  |none=>simp[f]at r
  |some l=>rw[f]at r;rw[h.val k l f];exact r
def Ye:∀{c:CV} {v:Value},den φ c=some v→v.oneCell'=true
 |.bl _,_,r=>by cases r;rfl
 |.int _ _,_,r=>by cases r;rfl
 |.str _,_,r=>by
  simp only[den]at r;split at r
  ·cases r;rfl
  ·cases r
 |.nilp,_,r=>by cases r;rfl
 |.glob _,_,r=>by cases r;rfl
 |.nils,_,r=>by cases r;rfl
 |.nilm,_,r=>by cases r;rfl
 |.nilf,_,r=>by cases r;rfl
 |.fnc _,_,r=>by cases r;rfl
 |.nili,_,r=>by cases r;rfl
 |.sym n,_,r=>by cases r;exact SymVal.one n
 |.ptr k g f,v,r=>by
  simp[den]at r;split at r
  ·cases r;rfl
  ·cases r
 |.sl k g f len cap,v,r=>by
  simp[den]at r;split at r
  ·split at r
   ·cases r;rfl
   ·cases r
  ·cases r
 |.mp k,v,r=>by
  simp[den]at r;split at r
  ·cases r;rfl
  ·cases r
 |.clo k,v,r=>by
  simp[den]at r;split at r
  ·cases r;rfl
  ·cases r
 |.emp k,v,r=>by
  simp[den]at r;split at r
  ·cases r;rfl
  ·cases r
 |.ifc k,v,r=>by
  simp[den]at r;split at r
  ·cases r;rfl
  ·cases r
def bq (φ:Gx):List CV→Option (List Value)
 |[]=>some []
 |c::r=>match den φ c,bq φ r with
  |some v,some vs=>some (v::vs)
  |_,_=>none
def LC {φ ψ:Gx}(h:φ.le ψ):∀{l:List CV} {vs:List Value},bq φ l=some vs→bq ψ l=some vs
 |[],_,r=>r
 |c::l,vs,r=>by
  simp[bq]at r⊢;cases f:den φ c with
  |none=>simp[f]at r
  |some v=>
   cases g:bq φ l with
   |none=>simp[f,g]at r
   |some ws=>rw[f,g]at r;rw[fH h f,LC h g];exact r
def bo {φ:Gx}:∀{l:List CV} {vs:List Value},bq φ l=some vs→vs.length=l.length
 |[],_,r=>by cases r;rfl
 |c::l,vs,r=>by
  simp[bq]at r;split at r
  next v ws h1 h2=>cases r;simp[bo h2]
  ·cases r
def co {c:CV}(r:bq φ (c::l)=some vs):∃v ws,vs=v::ws∧den φ c=some v∧bq φ l=some ws:=by
 simp[bq]at r;split at r
 next v ws g f=>simp at r;exact⟨v,ws,r.symm,g,f⟩
 ·cases r
def wW {c:CV}(h:den φ c=some v)(r:bq φ l=some vs):bq φ (c::l)=some (v::vs):=by simp[bq,h,r]
def qY {φ:Gx}:∀{l:List CV} {vs:List Value},bq φ l=some vs→∀{i:Nat} {c:CV},l[i]? = some c→∃v,vs[i]? = some v∧den φ c=some v
 |[],_,_,i,c,h=>by simp at h
 |x::l,vs,r,i,c,h=>by
  obtain⟨v,ws,rfl,g,f⟩:=co r;cases i with
  |zero=>simp at h;subst h;exact⟨v,rfl,g⟩
  |succ i=>simp at h;obtain⟨u,q1,q2⟩:=qY f h;exact⟨u,by simpa using q1,q2⟩
def cM {φ:Gx}:∀{l m:List CV} {vs ws:List Value},bq φ l=some vs→bq φ m=some ws→bq φ (l++m)=some (vs++ws)
 |[],m,vs,ws,r,q=>by cases r;exact q
 |c::l,m,vs,ws,r,q=>by obtain⟨v,j,rfl,g,f⟩:=co r;exact wW g (cM f q)
def lS {φ:Gx}:∀{l:List CV} {vs:List Value} (n:Nat),bq φ l=some vs→bq φ (l.take n)=some (vs.take n)
 |[],vs,n,r=>by cases r;simp[bq]
 |c::l,vs,0,r=>by simp[bq]
 |c::l,vs,n+1,r=>by obtain⟨v,j,rfl,g,f⟩:=co r;exact wW g (lS n f)
def jq {φ:Gx}:∀{l:List CV} {vs:List Value} (n:Nat),bq φ l=some vs→bq φ (l.drop n)=some (vs.drop n)
 |[],vs,n,r=>by cases r;simp[bq]
 |c::l,vs,0,r=>r
 |c::l,vs,n+1,r=>by obtain⟨v,g,rfl,j,f⟩:=co r;exact jq n f
def Bo {φ:Gx}:∀{l:List CV} {vs:List Value},bq φ l=some vs→∀u∈vs,u.oneCell'=true
 |[],vs,r,u,hu=>by cases r;cases hu
 |c::l,vs,r,u,hu=>by
  obtain⟨v,j,rfl,g,f⟩:=co r;obtain rfl|hu:=N'.1 hu
  ·exact Ye g
  ·exact Bo f u hu
def PV.cells:PV→List CV
 |.one c=>[c]
 |.agg l=>l
def bg (φ:Gx):PV→Option Value
 |.one c=>den φ c
 |.agg l=>match bq φ l with
  |some vs=>some (.agg vs.toArray)
  |none=>none
def cP (h:φ.le ψ):∀{p:PV} {v:Value},bg φ p=some v→bg ψ p=some v
 |.one c,v,r=>fH h r
 |.agg l,v,r=>by
  simp[bg]at r⊢;cases f:bq φ l with
  |none=>simp[f]at r
  |some vs=>rw[f]at r;rw[LC h f];exact r
def CQ (h:v.oneCell'=true):v.cells = #[v]:=by
 cases v <;> first|rfl|cases h
def dD {p:PV}(h:bg φ p=some v):bq φ p.cells=some v.cells.toList:=by
 cases p with
 |one c =>have h:den φ c=some v:=h;simp[PV.cells];rw[wW h rfl,CQ (Ye h)]
 |agg l=>
  simp[bg]at h;split at h
  next vs hv=>cases h;exact hv
  ·cases h
def cN (φ:Gx):List PV→Option (List Value)
 |[]=>some []
 |c::r=>match bg φ c,cN φ r with
  |some v,some vs=>some (v::vs)
  |_,_=>none
def gR {c:PV}{l:List PV}(r:cN φ (c::l)=some vs):∃v ws,vs=v::ws∧bg φ c=some v∧cN φ l=some ws:=by
 simp[cN]at r;split at r
 next v ws g f=>simp at r;exact⟨v,ws,r.symm,g,f⟩
 ·cases r
def bU {c:PV}{l:List PV}(h:bg φ c=some v)(r:cN φ l=some vs):cN φ (c::l)=some (v::vs):=by simp[cN,h,r]
def dC {φ ψ:Gx}(h:φ.le ψ):∀{l:List PV} {vs:List Value},cN φ l=some vs→cN ψ l=some vs
 |[],_,r=>r
 |c::l,vs,r=>by obtain⟨v,j,rfl,g,f⟩:=gR r;exact bU (cP h g) (dC h f)
def LF {φ:Gx}:∀{l:List PV} {vs:List Value},cN φ l=some vs→∀{i:Nat} {c:PV},l[i]? = some c→∃v,vs[i]? = some v∧bg φ c=some v
 |[],_,_,i,c,h=>by simp at h
 |x::l,vs,r,i,c,h=>by
  obtain⟨v,ws,rfl,g,f⟩:=gR r;cases i with
  |zero=>simp at h;subst h;exact⟨v,rfl,g⟩
  |succ i=>simp at h;obtain⟨u,q1,q2⟩:=LF f h;exact⟨u,by simpa using q1,q2⟩
def RT (φ:Gx):TV→Value→Prop
 |.unk,_=>True
 |.pv p,v=>bg φ p=some v
 |.tup l,v=>∃vs,cN φ l=some vs∧v = .tuple vs.toArray
def RT.mono (h:φ.le ψ):∀{t:TV} {v:Value},RT φ t v→RT ψ t v
 |.unk,_,_=>trivial
 |.pv _,_,r=>cP h r
 |.tup _,_,⟨vs,r,e⟩=>⟨vs,dC h r,e⟩
open Go Go.RowKit
variable [SymVal]
def acl:Obj→Bool
 |.loop _=>true
 |.deferred _=>true
 |_=>false
structure Kp (w w':World):Prop where
 dr:w.drawn≤w'.drawn
 keep:∀(k:Nat) (o:Obj),w.heap[k]? = some o→acl o=true→w'.heap[k]? = some o
def Kp.refl (w:World):Kp w w:=⟨δ _,λ_ _ h _=>h⟩
def Kp.trans {a b c:World}(h:Kp a b)(k:Kp b c):Kp a c:=⟨υ h.dr k.dr,λi o x y=>k.keep i o (h.keep i o x y) y⟩
def aoW (f:Nat×Nat)(size:Nat)(fz:Fz):Prop:=match fz with
 |.no=>f=(0,0)
 |.out=>∀o,o<size→¬(f.1≤o∧o<f.2)
 |.yes=>True
def alc (φ:Gx)(f:Array Value)(s i:Nat)(ch:Ch):Prop :=
 ch.cs.length=s∧∀(j:Nat) (c:CV),ch.cs[j]? = some c→∃v,f[i*s+j]? = some v∧den φ c=some v
def dch:Ch:=⟨[],0⟩
structure RowAt (φ:Gx)(w:World)(B:Nat)(e:TypeId)(s:Nat)(el:PT Ch)(len:Nat)(fz:Fz)(g:Nat)(l:Loc):Prop where
 lo:B≤l.b
 sz:l.s=s
 arr:∃arr fr,w.heap[l.b]? = some (.cells arr e fr)∧arr.size=l.n*s∧aoW fr arr.size fz ∧
  ∀i,i<len→(el.get dch i).m≤g→i<l.n∧alc φ arr s i (el.get dch i)
def iT (φ:Gx)(f:List ME)(vs:List MapEntry):Prop :=
 vs.length=f.length∧∀(i:Nat) (e:ME),f[i]? = some e→∃v,vs[i]? = some v∧bg φ e.key=some v.key∧bg φ e.val=some v.val∧v.born=e.born
def iZ (φ:Gx)(w:World)(B:Nat)(k:Pos):EO→Prop
 |.none=>(∀g,φ.loc k g=none)∧φ.val k=none∧φ.mu k=none
 |.row e s T len C fz=>0<s∧len+2≤2^32∧(∀i,i<len→(T.get dch i).m≤C)∧(∀g,C<g→φ.loc k g=none)∧(∀g,g≤C→∃l,φ.loc k g=some l∧RowAt φ w B e s T len fz g l∧(g=C→len≤l.n))
 |.map U clock=>(∀g,0<g→φ.loc k g=none)∧∃l vs,φ.loc k 0=some l∧B≤l.b∧w.heap[l.b]? = some (.map vs clock)∧iT φ U vs.toList
 |.mit m j seen f=>(∀g,0<g→φ.loc k g=none)∧∃l,φ.loc k 0=some l∧B≤l.b ∧
   match m with
   |none=>w.heap[l.b]? = some (.mapIter none j seen.toArray f)
   |some m=>∃J,φ.loc m 0=some J∧w.heap[l.b]? = some (.mapIter (some J.b) j seen.toArray f)
 |.mitU m j bs R=>(∀g,0<g→φ.loc k g=none)∧∃l J seen f n,φ.loc k 0=some l∧B≤l.b∧φ.loc m 0=some J∧w.heap[l.b]? = some (.mapIter (some J.b) j seen f)∧j≤f∧φ.mu k=some n∧(bs.filter λb=>!seen.contains b).length+(match R with|some _=>1|none=>0)≤n∧(∀p,R=some p→seen.back? = some p.1∧f=p.2)
 |.sit s p=>(∀g,0<g→φ.loc k g=none)∧cU s=true∧∃l,φ.loc k 0=some l∧B≤l.b∧w.heap[l.b]? = some (.stringIter ⟨(s.map UInt8.ofNat).toArray⟩ p)
 |.clo fn first P=>(∀g,φ.loc k g=none)∧∃a b,cN φ first=some a∧cN φ P=some b∧φ.val k=some (.func fn a.toArray b.toArray)
 |.ifc t v=>(∀g,φ.loc k g=none)∧∃u,bg φ v=some u∧φ.val k=some (.iface t u)
 |.emp=>(∀g,φ.loc k g=none)∧∃a c,φ.val k=some (.slice (some a) 0 c)
 |.dead=>∀g l,φ.loc k g=some l→B≤l.b∧∃o,w.heap[l.b]? = some o
 |.res=>∀g l,φ.loc k g=some l→B≤l.b∧∃o,w.heap[l.b]? = some o
 |.yld=>(∀g,0<g→φ.loc k g=none)∧∃l,φ.loc k 0=some l∧B≤l.b∧φ.val k=some (.func (.yield l.b) #[] #[])∧∃r,w.heap[l.b]? = some (.loop r)
structure W0 where
 w:World
 φ:Gx
def DH:EO→Bool
 |.res=>true
 |_=>false
def i5:EO→Bool
 |.none=>true
 |.res=>true
 |_=>false
def abu (h:i5 o=false):DH o=false:=by cases o <;> first|rfl|cases h
def Zu (h:DH o=true):i5 o=true:=by cases o <;> first|rfl|cases h
structure Inv (B:Nat)(J:W0)(φ:Gx)(h:Pos→EO)(w:World):Prop where
 below:Below B J.w w
 kp:Kp J.w w
 le:J.φ.le φ
 res:∀k,DH (h k)=true→(∀g,φ.loc k g=J.φ.loc k g)∧φ.val k=J.φ.val k∧φ.mu k=J.φ.mu k∧∀g l,φ.loc k g=some l→w.heap[l.b]? = J.w.heap[l.b]?
 size:B≤w.heap.size
 obj:∀k,iZ φ w B k (h k)
 sep:∀k g l k' g' l',φ.loc k g=some l→φ.loc k' g'=some l'→l.b=l'.b→k=k'
def VZ (h:φ.le ψ){f:List ME}{vs:List MapEntry}(r:iT φ f vs):iT ψ f vs :=
 ⟨r.1,λi e l=>let ⟨v,q1,q2,j,g⟩:=r.2 i e l;⟨v,q1,cP h q2,cP h j,g⟩⟩
def alc.mono (h:φ.le ψ){f:Array Value}{s i:Nat}{ch:Ch}(r:alc φ f s i ch):alc ψ f s i ch :=
 ⟨r.1,λj c g=>let ⟨v,q1,q2⟩:=r.2 j c g;⟨v,q1,fH h q2⟩⟩
def RowAt.mono {φ ψ:Gx}{w w':World}{B:Nat}{e:TypeId}{s:Nat}{C:PT Ch}{len:Nat}{fz:Fz}{g:Nat}{l:Loc}(h:φ.le ψ)(J:w'.heap[l.b]? = w.heap[l.b]?)(r:RowAt φ w B e s C len fz g l):RowAt ψ w' B e s C len fz g l:=by obtain⟨r1,r2,f,P,r3,r4,r5,r6⟩:=r;exact⟨r1,r2,f,P,J.trans r3,r4,r5,λi p j=>⟨(r6 i p j).1,(r6 i p j).2.mono h⟩⟩
def iZ.keep {w w':World}{B:Nat}{k:Pos}(J:φ.le ψ)(f:∀g,ψ.loc k g=φ.loc k g)(hv:ψ.val k=φ.val k)(hm:ψ.mu k=φ.mu k)(T:∀g l,φ.loc k g=some l→w'.heap[l.b]? = w.heap[l.b]?)(h:iZ φ w B k o):iZ ψ w' B k o:=by
 cases o with
 |none=>exact⟨λg=>(f g).trans (h.1 g),hv.trans h.2.1,hm.trans h.2.2⟩
 |mitU m U bs st =>obtain⟨C,l,l',seen,j,n,q1,q2,P,q4,q5,q6,q7⟩:=h;exact⟨λg R=>(f g).trans (C g R),l,l',seen,j,n,(f 0).trans q1,q2,J.loc _ _ _ P,(T 0 l q1).trans q4,q5,hm.trans q6,q7⟩
 |row e s el len gen fz =>obtain⟨h0,C,hmm,h2,h3⟩:=h;refine⟨h0,C,hmm,λg R=>(f g).trans (h2 g R),λg R=>?_⟩;obtain⟨l,q1,q2,P⟩:=h3 g R;exact⟨l,(f g).trans q1,q2.mono J (T g l q1),P⟩
 |map es clock =>obtain⟨C,l,vs,q1,q2,P,q4⟩:=h;exact⟨λg R=>(f g).trans (C g R),l,vs,(f 0).trans q1,q2,(T 0 l q1).trans P,VZ J q4⟩
 |mit m U seen j=>
  obtain⟨C,l,q1,q2,P⟩:=h;refine⟨λg R=>(f g).trans (C g R),l,(f 0).trans q1,q2, ?_⟩;cases m with
  |none=>exact(T 0 l q1).trans P
  |some m=>obtain⟨l',q4,q5⟩:=P;exact⟨l',J.loc _ _ _ q4,(T 0 l q1).trans q5⟩
 |sit s p =>obtain⟨C,h2,l,q1,q2,P⟩:=h;exact⟨λg R=>(f g).trans (C g R),h2,l,(f 0).trans q1,q2,(T 0 l q1).trans P⟩
 |clo fn first caps =>obtain⟨C,a,b,q1,q2,P⟩:=h;exact⟨λg=>(f g).trans (C g),a,b,dC J q1,dC J q2,hv.trans P⟩
 |ifc t v =>obtain⟨C,u,q1,q2⟩:=h;exact⟨λg=>(f g).trans (C g),u,cP J q1,hv.trans q2⟩
 |emp =>obtain⟨C,a,c,q1⟩:=h;exact⟨λg=>(f g).trans (C g),a,c,hv.trans q1⟩
 |res=>exact λg l q=>⟨(h g l ((f g).symm.trans q)).1,by rw[T g l ((f g).symm.trans q)];exact(h g l ((f g).symm.trans q)).2⟩
 |dead=>exact λg l q=>⟨(h g l ((f g).symm.trans q)).1,by rw[T g l ((f g).symm.trans q)];exact(h g l ((f g).symm.trans q)).2⟩
 |yld =>obtain⟨C,l,q1,q2,P,r,q4⟩:=h;exact⟨λg R=>(f g).trans (C g R),l,(f 0).trans q1,q2,hv.trans P,r,(T 0 l q1).trans q4⟩
section
variable {B:Nat}{J:W0}{φ:Gx}{h:Pos→EO}{w:World}
variable{k:Pos}{g:Nat}{l:Loc}{o' :EO}
def Inv.blk (hI:Inv B J φ h w)(f:φ.loc k g=some l):B≤l.b∧∃o,w.heap[l.b]? = some o:=by
 have j:=hI.obj k;cases C:h k with
 |none=>rw[C]at j;rw[j.1 g]at f;cases f
 |row e s el len gen fz=>
  rw[C]at j;obtain⟨h0,R,hm,h2,h3⟩:=j;obtain x|x:=T' gen g
  ·rw[h2 g x]at f;cases f
  ·obtain⟨l',q1,⟨q2,T,arr,fr,q4,_⟩,_⟩:=h3 g x;rw[q1]at f;cases f;exact⟨q2,_,q4⟩
 |map es clock=>
  rw[C]at j;obtain⟨R,l',vs,q1,q2,T,_⟩:=j;cases g with
  |zero=>rw[q1]at f;cases f;exact⟨q2,_,T⟩
  |succ g=>rw[R _ Ω]at f;cases f
 |mit m U seen P=>
  rw[C]at j;obtain⟨R,l',q1,q2,T⟩:=j;cases g with
  |zero=>
   rw[q1]at f;cases f;cases m with
   |none=>exact⟨q2,_,T⟩
   |some m=>obtain⟨l',_,q5⟩:=T;exact⟨q2,_,q5⟩
  |succ g=>rw[R _ Ω]at f;cases f
 |mitU m U bs st=>
  rw[C]at j;obtain⟨R,l1,l2,seen,P,n,q1,q2,T,q4,_⟩:=j;cases g with
  |zero=>rw[q1]at f;cases f;exact⟨q2,_,q4⟩
  |succ g=>rw[R _ Ω]at f;cases f
 |sit s p=>
  rw[C]at j;obtain⟨R,_,l',q1,q2,T⟩:=j;cases g with
  |zero=>rw[q1]at f;cases f;exact⟨q2,_,T⟩
  |succ g=>rw[R _ Ω]at f;cases f
 |clo fn first caps=>rw[C]at j;rw[j.1 g]at f;cases f
 |ifc t v=>rw[C]at j;rw[j.1 g]at f;cases f
 |emp=>rw[C]at j;rw[j.1 g]at f;cases f
 |dead=>rw[C]at j;exact j g l f
 |res=>rw[C]at j;exact j g l f
 |yld=>
  rw[C]at j;obtain⟨R,l',q1,q2,T,r,q4⟩:=j;cases g with
  |zero=>rw[q1]at f;cases f;exact⟨q2,_,q4⟩
  |succ g=>rw[R _ Ω]at f;cases f
def Inv.lt (p:Inv B J φ h w)(j:φ.loc k g=some l):l.b<w.heap.size:=by obtain⟨_,o,f⟩:=p.blk j;exact(θ.1 f).1
def Inv.turn (p:Inv B J φ h w){ψ:Gx}{P:World}{r:Pos}(hle:φ.le ψ)
  (j:∀k,k≠r→(∀g,ψ.loc k g=φ.loc k g)∧ψ.val k=φ.val k∧ψ.mu k=φ.mu k)
  (U:∀g l,ψ.loc r g=some l→(∃g1 l1,φ.loc r g1=some l1∧l1.b=l.b)∨w.heap.size≤l.b)
  (hw:∀b,b<w.heap.size→(∀g l,φ.loc r g=some l→l.b≠b)→P.heap[b]? = w.heap[b]?)
  (hs:∀g l,φ.loc r g=some l→∀o,w.heap[l.b]? = some o→acl o=true→P.heap[l.b]? = some o)
  (hos:P.os=w.os) (htp:P.tape=w.tape) (hou:P.output=w.output) (hsz:w.heap.size≤P.heap.size) (hdr:w.drawn≤P.drawn)
  (hob:iZ ψ P B r o') (hno:i5 o'=false:=by rfl):Inv B J ψ (upd h r o') P:=by
 have hblk:∀b,b<B→P.heap[b]? = w.heap[b]?:=λb hb=>hw b (J' hb p.size) λg l R e=>by have:=(p.blk R).1;omega
 refine⟨p.below.trans ⟨hos,htp,hou,hsz,hblk⟩,p.kp.trans ⟨hdr,λk o f ho=>?_⟩,p.le.trans hle,λk f=>?_,υ p.size hsz,λk=>?_,λk g l k' g' l' h1 h2 e=>?_⟩
 ·by_cases hx:∃g l,φ.loc r g=some l∧l.b=k
  ·obtain⟨g,l,q1,rfl⟩:=hx;exact hs g l q1 o f ho
  ·rw[hw k (θ.1 f).1 λg l q e=>hx ⟨g,l,q,e⟩];exact f
 ·by_cases T:r=k
  ·subst T;rw[bk,abu hno]at f;cases f
  ·rw[bO h o' T]at f;obtain⟨q1,q2,q3⟩:=j k (λe=>T e.symm);obtain⟨r1,r2,r3,r4⟩:=p.res k f;refine⟨λg=>(q1 g).trans (r1 g),q2.trans r2,q3.trans r3,λg l R=>?_⟩;rw[q1 g]at R;rw[hw _ (p.lt R) λg' l' hl' e=>T (p.sep _ _ _ _ _ _ hl' R e)];exact r4 g l R
 ·by_cases f:r=k
  ·subst f;rw[bk];exact hob
  ·rw[bO h o' f];obtain⟨q1,q2,q3⟩:=j k (λe=>f e.symm);refine(p.obj k).keep hle q1 q2 q3 λg l R=>hw _ (p.lt R) λg' l' hl' e=>f (p.sep _ _ _ _ _ _ hl' R e)
 ·by_cases f:k=r
  ·by_cases C:k'=r
   ·rw[f,C]
   ·rw[(j k' C).1]at h2;rw[f]at h1;rcases U g l h1 with⟨g1,l1,q1,q2⟩|q
    ·have:=p.sep _ _ _ _ _ _ q1 h2 (q2.trans e);exact absurd this.symm C
    ·have:=p.lt h2;omega
  ·rw[(j k f).1]at h1;by_cases C:k'=r
   ·rw[C]at h2;rcases U g' l' h2 with⟨g1,l1,q1,q2⟩|q
    ·have:=p.sep _ _ _ _ _ _ h1 q1 (e.trans q2.symm);exact absurd this f
    ·have:=p.lt h1;omega
   ·rw[(j k' C).1]at h2;exact p.sep _ _ _ _ _ _ h1 h2 e
def Gx.add (φ:Gx)(k:Pos)(l:Loc):Gx:=⟨λq g=>if q=k then(if g=0 then some l else none)else φ.loc q g,φ.val,φ.mu⟩
def Gx.addV (φ:Gx)(k:Pos)(v:Value):Gx:=⟨φ.loc,λq=>if q=k then some v else φ.val q,φ.mu⟩
def Inv.free (j:Inv B J φ h w)(f:h k = .none):(∀g,φ.loc k g=none)∧φ.val k=none∧φ.mu k=none:=by have:=j.obj k;rw[f]at this;exact this
def Inv.le_add (r:Inv B J φ h w)(p:h k = .none)(l:Loc):φ.le (φ.add k l) :=
 ⟨λq g m j=>by
  by_cases e:q=k
  ·subst e;rw[(r.free p).1 g]at j;cases j
  ·simp[Gx.add,ο e];exact j,λ_ _ f=>f,λ_ _ f=>f⟩
def Inv.le_addV (p:Inv B J φ h w)(l:h k = .none)(v:Value):φ.le (φ.addV k v) :=
 ⟨λ_ _ _ j=>j,λq u f=>by
  by_cases e:q=k
  ·subst e;rw[(p.free l).2.1]at f;cases f
  ·simp[Gx.addV,ο e];exact f,λ_ _ g=>g⟩
def Gx.add_self (φ:Gx)(k:Pos)(l:Loc):(φ.add k l).loc k 0=some l:=by simp[Gx.add]
def Gx.addV_self (φ:Gx)(k:Pos)(v:Value):(φ.addV k v).val k=some v:=by simp[Gx.addV]
def Inv.new (r:Inv B J φ h w)(C:h k = .none){o:Obj}(R:l.b=w.heap.size)(j:iZ (φ.add k l) (w.alloc o) B k o')(p:i5 o'=false:=by rfl):Inv B J (φ.add k l) (upd h k o') (w.alloc o):=by
 refine r.turn (r.le_add C l) (λq P=>⟨λg=>by simp[Gx.add,ο P],rfl,rfl⟩) (λg m f=>?_) (λb T _=>heap_alloc_old w o b T) (λg m f=>by rw[(r.free C).1 g]at f;cases f) rfl rfl rfl Ψ (δ _) j p;refine .inr ?_;simp only[Gx.add,h?]at f;split at f
 ·injection f with f;rw[←f,R];exact δ _
 ·cases f
def Inv.newV (j:Inv B J φ h w)(r:h k = .none){v:Value}(l:iZ (φ.addV k v) w B k o')(p:i5 o'=false:=by rfl):Inv B J (φ.addV k v) (upd h k o') w :=
 j.turn (j.le_addV r v) (λq C=>⟨λ_=>rfl,by simp[Gx.addV,ο C],rfl⟩) (λg m f=>by rw[show(φ.addV k v).loc k g=φ.loc k g from rfl,(j.free r).1 g]at f;cases f) (λ_ _ _=>rfl) (λg m f=>by rw[(j.free r).1 g]at f;cases f) rfl rfl rfl (δ _) (δ _) l p
def Inv.drew (f:Inv B J φ h w):Inv B J φ h w.drew:=⟨f.below.drew,⟨υ f.kp.dr (j? _),f.kp.keep⟩,f.le,f.res,f.size,λk=>iZ.keep (w:=w) (w':=w.drew) (Gx.le.refl φ) (λ_=>rfl) rfl rfl (λ_ _ _=>rfl) (f.obj k),f.sep⟩
def Inv.drewW (f:Inv B J φ h w):Inv B J φ h { w with drawn:=w.drawn+1 }:=f.drew
end
open Go Go.RowKit
inductive CK where
 |b
 |i (k:IntKind)
 |s
inductive EqK where
 |flat (ks:List CK) (agg:Bool)
 |ptr
 |slc
 |mp
 |fnc
 |ifc (cn:Bool)
inductive K where
 |mov|pick|sy (n:Nat)
 |alloc (e:TypeId) (zs:List CV)
 |box (e:TypeId) (s:Nat)
 |build (zs:List CV) (ps:List (Nat×Nat))
 |lit (e:TypeId) (s len:Nat) (zs:List CV) (idx:List Nat)
 |load (s:Nat) (agg:Bool)
 |store (s:Nat)
 |nilchk
 |bin (op:BinOp)
 |eql (neg:Bool) (q:EqK)
 |un (op:UnOp)
 |cint (k:IntKind)|same|b2s|s2b (e:TypeId)|i2s
 |mki (t:TypeId)|mkf (fn:Fn) (nf:Nat)|mkm
 |mks (e:TypeId) (s bytes:Nat) (zs:List CV)
 |subs (lo hi:Bool)|subl (s:Nat) (lo hi mx:Bool)|suba (n s:Nat) (lo hi mx:Bool)
 |fadr (d:Nat)|fld (off s:Nat) (agg:Bool)
 |idxl (s:Nat)|idxa (n s:Nat)|idxs|idxg (n s:Nat) (agg:Bool)
 |look (q:EqK) (z:PV) (ok:Bool)|put (q:EqK)|ment (q:EqK) (z:PV)|mest
 |rngs|rngm|nexts|nextm|ext (i:Nat)
 |lens|lenl|lenm|lena (n:Nat)|capl
 |app (e:TypeId) (s bytes:Nat) (str:Bool)|cpy (s:Nat) (str:Bool)|del (q:EqK)
 |mx (big:Bool)
 |ent|p2u|u2p (ok:TypeId→Nat→Nat→Bool)|usd|ust (e:TypeId) (ok:TypeId→Nat→Nat→Nat→Bool)
 |mknz (e:TypeId)|ibs
 |bad
inductive Src where
 |t (p:Pos)
 |c (v:TV)
structure FO where
 k:K
 args:List Src
 dst:Option Pos
 guard:Option (Pos×Bool)
inductive Q where
 |fail
 |ret (out:TV) (wr:Option (Pos×EO))
 |rd (k:Pos) (f:EO→Q)
def Q.run (h:Pos→EO):Q→Option (TV×Option (Pos×EO))
 |.fail=>none
 |.ret out g=>some (out,g)
 |.rd k f=>(f (h k)).run h
def Q.tr (h:Pos→EO):Q→List Pos
 |.fail=>[]
 |.ret _ _=>[]
 |.rd k f=>k::(f (h k)).tr h
def Q.run_congr {h h':Pos→EO}:∀{q:Q},(∀k∈q.tr h,h' k=h k)→q.run h'=q.run h∧q.tr h'=q.tr h
 |.fail,_=>⟨rfl,rfl⟩
 |.ret _ _,_=>⟨rfl,rfl⟩
 |.rd k f,g=>by have e:h' k=h k:=g k (by simp[Q.tr]);have:=Q.run_congr (q:=f (h k)) (h:=h) (h':=h') λi j=>g i (by simp[Q.tr,j]);simp[Q.run,Q.tr,e];exact⟨this.1,by rw[this.2]⟩
def one (c:CV):TV :=.pv (.one c)
def qn (c:CV):Q :=.ret (.pv (.one c)) none
def tS (b:Bool):Q :=.ret (.pv (.one (.bl b))) none
def kq:IntKind→IntKind→Bool
 |.i8,.i8=>true|.i16,.i16=>true|.i32,.i32=>true|.i64,.i64=>true
 |.u8,.u8=>true|.u16,.u16=>true|.u32,.u32=>true|.u64,.u64=>true
 |_,_=>false
def nfI (n:Int)(k:Int→Q):Q:=match n with
 |.ofNat m=>match m with
  |0=>k (.ofNat 0)
  |m+1=>k (.ofNat (m+1))
 |.negSucc m=>match m with
  |0=>k (.negSucc 0)
  |m+1=>k (.negSucc (m+1))
def uj (n:Int)(k:Int→Q):nfI n k=k n:=by unfold nfI;split <;> split <;> rfl
def eY (k:IntKind)(n:Int):Q:=nfI n λn=>.ret (.pv (.one (.int k n))) none
def IK (op:BinOp)(k:IntKind)(a b:Int):Q:=match op with
 |.add=>eY k (k.wrap (a+b))
 |.sub=>eY k (k.wrap (a-b))
 |.mul=>eY k (k.wrap (a*b))
 |.quo=>bif b == 0 then .fail else eY k (k.wrap (a.tdiv b))
 |.rem=>bif b == 0 then .fail else eY k (a.tmod b)
 |.eql=>tS (decide (a=b))
 |.neq=>tS (!decide (a=b))
 |.lss=>tS (decide (a<b))
 |.leq=>tS (decide (a≤b))
 |.gtr=>tS (decide (a>b))
 |.geq=>tS (decide (a≥b))
 |.and=>eY k (k.wrap ((BitVec.ofInt k.bits a &&& BitVec.ofInt k.bits b).toNat:Int))
 |.or=>eY k (k.wrap ((BitVec.ofInt k.bits a ||| BitVec.ofInt k.bits b).toNat:Int))
 |.xor=>eY k (k.wrap ((BitVec.ofInt k.bits a ^^^ BitVec.ofInt k.bits b).toNat:Int))
 |_=>.fail
def shI (op:BinOp)(k:IntKind)(a b:Int):Q:=bif decide (b<0)then .fail else match op with
 |.shl=>eY k (k.wrap (a*2^(min b.toNat k.bits)))
 |.shr=>eY k (a.fdiv (2^(min b.toNat k.bits)))
 |_=>.fail
def xu:List Nat→List Nat→Bool
 |[],[]=>true
 |a::l,b::m=>bif Nat.beq a b then xu l m else false
 |_,_=>false
def Ve:List Nat→List Nat→Bool
 |_,[]=>false
 |[],_::_=>true
 |a::l,b::m=>bif Nat.blt a b then true else bif Nat.beq a b then Ve l m else false
def aga (op:BinOp)(a b:List Nat):Q:=match op with
 |.add=>bif Nat.blt (a.length+b.length) 4294967296 then qn (.str (a++b))else .fail
 |.eql=>tS (xu a b)
 |.neq=>tS (!xu a b)
 |.lss=>tS (Ve a b)
 |.leq=>tS (Ve a b||xu a b)
 |.gtr=>tS (!(Ve a b||xu a b))
 |.geq=>tS (!Ve a b)
 |_=>.fail
def eqC:CK→CV→CV→Option Bool
 |.b,.bl a,.bl b=>some (match a with|true=>b|false=>!b)
 |.i k,.int g a,.int f b=>bif kq k g&&kq k f then some (decide (a=b))else none
 |.s,.str a,.str b=>some (xu a b)
 |_,_,_=>none
def eqL:List CK→List CV→List CV→Option Bool
 |[],[],[]=>some true
 |k::ks,a::l,b::m=>match eqC k a b,eqL ks l m with
  |some x,some y=>some (bif x then y else false)
  |_,_=>none
 |_,_,_=>none
def eqP (f:List CK)(agg:Bool):PV→PV→Option Bool
 |.one a,.one b=>bif agg then none else eqL f [a] [b]
 |.agg l,.agg m=>bif agg then eqL f l m else none
 |_,_=>none
def eqQ:EqK→TV→TV→Option Bool
 |.flat j agg,.pv x,.pv y=>eqP j agg x y
 |.ptr,.pv (.one x),.pv (.one y)=>match x,y with
  |.nilp,.nilp=>some true
  |.nilp,.ptr _ _ _=>some false
  |.ptr _ _ _,.nilp=>some false
  |.nilp,.glob _=>some false
  |.glob _,.nilp=>some false
  |.ptr k g o,.ptr l p f=>bif k.beq l&&Nat.beq g p then some (Nat.beq o f)else none
  |_,_=>none
 |.slc,.pv (.one x),.pv (.one y)=>match x,y with
  |.nils,.nils=>some true
  |.nils,.sl _ _ _ _ _=>some false
  |.sl _ _ _ _ _,.nils=>some false
  |.nils,.emp _=>some false
  |.emp _,.nils=>some false
  |_,_=>none
 |.mp,.pv (.one x),.pv (.one y)=>match x,y with
  |.nilm,.nilm=>some true
  |.nilm,.mp _=>some false
  |.mp _,.nilm=>some false
  |_,_=>none
 |.fnc,.pv (.one x),.pv (.one y)=>match x,y with
  |.nilf,.nilf=>some true
  |.nilf,.fnc _=>some false
  |.fnc _,.nilf=>some false
  |.nilf,.clo _=>some false
  |.clo _,.nilf=>some false
  |_,_=>none
 |.ifc cn,.pv (.one x),.pv (.one y)=>match x,y with
  |.nili,.nili=>bif cn then some true else none
  |.nili,.ifc _=>some false
  |.ifc _,.nili=>some false
  |_,_=>none
 |_,_,_=>none
def Gp (o:EO)(g f m:Nat):Option (List CV):=match o with
 |.row _ s p len j _=>bif Nat.ble g j&&Nat.blt (f/s) len then
   match p.get dch (f/s)with
   |⟨r,l⟩=>bif Nat.ble l g&&Nat.ble (f%s+m) s then some ((r.drop (f%s)).take m)else none
  else none
 |_=>none
def RW:Fz→Bool
 |.no=>true
 |_=>false
def dF (g:List CV)(f:Nat)(new:List CV):List CV:=g.take f++new++g.drop (f+new.length)
def Fd (o:EO)(g f:Nat)(new:List CV):Option EO:=match o with
 |.row e s l len j fz=>bif Nat.beq g j&&Nat.blt (f/s) len&&Nat.ble (f%s+new.length) s&&RW fz then
   match l.get dch (f/s)with
   |⟨p,_⟩=>some (.row e s (l.set dch 32 (f/s) ⟨dF p (f%s) new,j⟩) len j fz)
  else none
 |_=>none
def rX (o:EO)(g s:Nat):Nat→Nat→Option (List (List CV))
 |0,_=>some []
 |n+1,off=>match Gp o g off s,rX o g s n (off+s)with
  |some a,some l=>some (a::l)
  |_,_=>none
def lZ (g s:Nat):List (List CV)→EO→Nat→Option EO
 |[],o,_=>some o
 |a::l,o,off=>match Fd o g off a with
  |some f=>lZ g s l f (off+s)
  |none=>none
def po (m:Nat):List (List CV)→PT Ch→Nat→PT Ch
 |[],el,_=>el
 |a::l,el,i=>po m l (el.set dch 32 i ⟨a,m⟩) (i+1)
def alT (s:Nat)(str:Bool)(x:TV)(k:List (List CV)→Q):Q:=match x with
 |.pv (.one (.sl j g off n _))=>bif str then .fail else .rd j λo=>match rX o g s n off with
  |some l=>k l
  |none=>.fail
 |.pv (.one .nils)=>bif str then .fail else k []
 |.pv (.one (.emp _))=>bif str then .fail else k []
 |.pv (.one (.str b))=>bif str then k (b.map λc=>[.int .u8 (Int.ofNat c)])else .fail
 |_=>.fail
def I4 (agg:Bool)(f:List CV):Option PV:=match agg with
 |true=>some (.agg f)
 |false=>match f with
  |[c]=>some (.one c)
  |_=>none
def Qe (p:Option PV)(f:Option (Pos×EO)):Q:=match p with
 |some p=>.ret (.pv p) f
 |none=>.fail
def newRow (e:TypeId)(s:Nat)(l:List (List CV))(n:Nat):EO :=.row e s (po 0 l .leaf 0) n 0 .no
def kY (s:Nat):List (List CV)→Bool
 |[]=>true
 |a::l=>bif Nat.beq a.length s then kY s l else false
def DU:List (Nat×Nat)→List TV→List CV→Option (List CV)
 |[],[],cs=>some cs
 |(off,s)::ps,.pv p::vs,cs=>bif Nat.beq p.cells.length s&&Nat.ble (off+s) cs.length then DU ps vs (dF cs off p.cells)else none
 |_,_,_=>none
def Rr (s:Nat):Nat→List Nat→List TV→Option (List (List CV))
 |_,[],[]=>some []
 |i,j::js,.pv p::vs=>bif Nat.beq i j&&Nat.beq p.cells.length s then match Rr s (i+1) js vs with
   |some l=>some (p.cells::l)
   |none=>none
  else none
 |_,_,_=>none
def uP (f:List CK)(agg:Bool)(k:PV):List ME→Nat→Option (Option (Nat×ME))
 |[],_=>some none
 |e::es,i=>match eqP f agg k e.key with
  |some true=>some (some (i,e))
  |some false=>uP f agg k es (i+1)
  |none=>none
def X0 (b:Nat):List ME→Nat→Option Nat
 |[],_=>none
 |e::es,i=>bif Nat.beq e.born b then some i else X0 b es (i+1)
def xP (f:List CK)(agg:Bool)(k:PV):Bool:=match eqP f agg k k with|some _=>true|none=>false
def B7 (g:List ME)(i:Nat)(f:ME→ME):List ME:=match g,i with
 |[],_=>[]
 |e::g,0=>f e::g
 |e::g,i+1=>e::B7 g i f
def aoF (f:List ME)(i:Nat):List ME:=match f,i with
 |[],_=>[]
 |_::f,0=>f
 |e::f,i+1=>e::aoF f i
def yb (seen:List Nat):List ME→List ME
 |[]=>[]
 |e::es=>bif seen.any (Nat.beq e.born)then yb seen es else e::yb seen es
def aoQ (e:TypeId)(s bytes:Nat)(fresh:Pos)(b:TV)(l:List (List CV)):Q :=
 match b with
 |.pv (.one .nils)=>match l with
  |[]=>qn .nils
  |_=>bif Nat.ble (l.length*bytes) 140737488355328&&kY s l&&Nat.ble (l.length) 4294967290 then .ret (.pv (.one (.sl fresh 0 0 l.length none))) (some (fresh,newRow e s l l.length))else .fail
 |.pv (.one (.sl k g off n cap))=>match l with
  |[]=>bif (match cap with|some c=>Nat.ble n c|none=>true)then .ret b none else .fail
  |_=>.rd k λo=>match cap with
   |some c=>bif Nat.ble (n+l.length) c then match lZ g s l o (off+n*s)with
     |some p=>.ret (.pv (.one (.sl k g off (n+l.length) cap))) (some (k,p))
     |none=>.fail
    else match rX o g s n off with
     |some j=>bif Nat.ble ((n+l.length)*bytes) 140737488355328&&kY s j&&kY s l&&Nat.ble (n+l.length) 4294967290 then .ret (.pv (.one (.sl fresh 0 0 (n+l.length) none))) (some (fresh,newRow e s (j++l) (n+l.length)))else .fail
     |none=>.fail
   |none=>match o with
    |.row J r C len f fz=>bif Nat.beq e J&&Nat.beq s r&&Nat.beq g f&&Nat.beq (off%s) 0&&kY s l&&Nat.ble ((n+l.length)*bytes) 140737488355328&&Nat.ble (n+l.length) 4294967290&&RW fz then
      bif Nat.ble (off/s+n+l.length) len then match lZ g s l o (off+n*s)with
       |some p=>.ret (.pv (.one (.sl k g off (n+l.length) cap))) (some (k,p))
       |none=>.fail
      else bif Nat.beq off 0&&Nat.ble n len then .ret (.pv (.one (.sl k (f+1) 0 (n+l.length) none))) (some (k,.row e s (po (f+1) l C n) (n+l.length) (f+1) fz))else .fail
     else .fail
    |_=>.fail
 |_=>.fail
def wD (ok:Bool)(z:PV)(r:Option PV):Q:=match ok with
 |true=>match r with
  |some v=>.ret (.tup [v,.one (.bl true)]) none
  |none=>.ret (.tup [z,.one (.bl false)]) none
 |false=>match r with
  |some v=>.ret (.pv v) none
  |none=>.ret (.pv z) none
def BA:List (List CV)→Option (List Nat)
 |[]=>some []
 |[.int .u8 (.ofNat n)]::l=>bif Nat.blt n 256 then match BA l with
   |some b=>some (n::b)
   |none=>none
  else none
 |_=>none
def pvs:List TV→Option (List PV)
 |[]=>some []
 |.pv p::l=>match pvs l with
  |some r=>some (p::r)
  |none=>none
 |_=>none
def VQ  (vs:List TV)(_:Pos):Q:=match vs with
 |[x]=>.ret x none
 |_=>.fail
def X7  (vs:List TV)(_:Pos):Q:=match vs with
 |[c,a,b]=>match c with
  |.pv (.one (.bl c))=>.ret (match c with|true=>a|false=>b) none
  |_=>.fail
 |_=>.fail
def N9 (e:TypeId)(g:List CV)(vs:List TV)(f:Pos):Q:=match vs with
 |[]=>.ret (.pv (.one (.ptr f 0 0))) (some (f,.row e g.length (.node .leaf ⟨g,0⟩ .leaf) 1 0 .no))
 |_=>.fail
def aeW (e:TypeId)(s:Nat)(vs:List TV)(f:Pos):Q:=match vs with
 |[x]=>match x with
  |.pv p=>bif Nat.beq p.cells.length s then .ret (.pv (.one (.ptr f 0 0))) (some (f,.row e s (.node .leaf ⟨p.cells,0⟩ .leaf) 1 0 .no))else .fail
  |_=>.fail
 |_=>.fail
def Id (f:List CV)(ps:List (Nat×Nat))(vs:List TV)(_:Pos):Q:=match DU ps vs f with
  |some g=>.ret (.pv (.agg g)) none
  |none=>.fail
def akd (e:TypeId)(s len:Nat)(j:List CV)(g:List Nat)(vs:List TV)(f:Pos):Q:=match Rr s 0 g vs with
  |some l=>bif Nat.ble l.length len&&Nat.ble (len*s) 16777216 then .ret (.pv (.one (.sl f 0 0 len (some len)))) (some (f,newRow e s (l++List.replicate (len-l.length) j) len))else .fail
  |none=>.fail
def Ic (s:Nat)(agg:Bool)(vs:List TV)(_:Pos):Q:=match vs with
 |[x]=>match x with
  |.pv (.one (.ptr k g off))=>.rd k λo=>match Gp o g off s with
   |some f=>Qe (I4 agg f) none
   |none=>.fail
  |_=>.fail
 |_=>.fail
def CF (s:Nat)(vs:List TV)(_:Pos):Q:=match vs with
 |[x,y]=>match x,y with
  |.pv (.one (.ptr k g off)),.pv p=>bif Nat.beq p.cells.length s then .rd k λo=>match Fd o g off p.cells with
    |some f=>.ret .unk (some (k,f))
    |none=>.fail
   else .fail
  |_,_=>.fail
 |_=>.fail
def Bm  (vs:List TV)(_:Pos):Q:=match vs with
 |[x]=>match x with
  |.pv (.one (.ptr _ _ _))=>.ret x none
  |.pv (.one (.glob _))=>.ret x none
  |.pv (.one (.fnc _))=>.ret x none
  |.pv (.one (.ifc _))=>.ret x none
  |_=>.fail
 |_=>.fail
def tc (op:BinOp)(vs:List TV)(_:Pos):Q:=match vs with
 |[x,y]=>match x,y with
  |.pv (.one x),.pv (.one y)=>match x,y with
   |.int k a,.int f b=>match op with
    |.shl=>shI .shl k a b
    |.shr=>shI .shr k a b
    |op=>bif kq k f then IK op k a b else .fail
   |.str a,.str b=>aga op a b
   |_,_=>.fail
  |_,_=>.fail
 |_=>.fail
def aeV (neg:Bool)(q:EqK)(vs:List TV)(_:Pos):Q:=match vs with
 |[x,y]=>match eqQ q x y with
  |some b=>tS (match neg with|true=>!b|false=>b)
  |none=>.fail
 |_=>.fail
def eUn (op:UnOp)(vs:List TV)(_:Pos):Q:=match vs with
 |[x]=>match op,x with
  |.not,.pv (.one (.bl b))=>tS (!b)
  |.neg,.pv (.one (.int k n))=>eY k (k.wrap (0-n))
  |.xor,.pv (.one (.int k n))=>eY k (k.wrap ((BitVec.ofInt k.bits (if k.signed then -1 else k.max) ^^^ BitVec.ofInt k.bits n).toNat:Int))
  |_,_=>.fail
 |_=>.fail
def Sz (k:IntKind)(vs:List TV)(_:Pos):Q:=match vs with
 |[x]=>match x with
  |.pv (.one (.int _ n))=>eY k (k.wrap n)
  |_=>.fail
 |_=>.fail
def Sp  (vs:List TV)(_:Pos):Q:=match vs with
 |[x]=>match x with
  |.pv (.one (.str _))=>.ret x none
  |_=>.fail
 |_=>.fail
def akg  (vs:List TV)(_:Pos):Q:=match vs with
 |[x]=>match x with
  |.pv (.one .nils)=>qn (.str [])
  |.pv (.one (.sl k g off n _))=>.rd k λo=>match rX o g 1 n off with
   |some l=>match BA l with
    |some b=>qn (.str b)
    |none=>.fail
   |none=>.fail
  |_=>.fail
 |_=>.fail
def aoD (e:TypeId)(vs:List TV)(f:Pos):Q:=match vs with
 |[x]=>match x with
  |.pv (.one (.str b))=>bif Nat.ble b.length 4294967290 then .ret (.pv (.one (.sl f 0 0 b.length none))) (some (f,.row e 1 (po 0 (b.map λc=>[.int .u8 (Int.ofNat c)]) .leaf 0) b.length 0 .out))else .fail
  |_=>.fail
 |_=>.fail
def aeT  (vs:List TV)(_:Pos):Q:=match vs with
 |[x]=>match x with
  |.pv (.one (.int _ (.ofNat n)))=>bif Nat.blt n 128 then qn (.str [n])else .fail
  |_=>.fail
 |_=>.fail
def akb (t:TypeId)(vs:List TV)(f:Pos):Q:=match vs with
 |[x]=>match x with
  |.pv p=>.ret (.pv (.one (.ifc f))) (some (f,.ifc t p))
  |_=>.fail
 |_=>.fail
def akc (fn:Fn)(nf:Nat)(vs:List TV)(f:Pos):Q:=match pvs vs with
  |some l=>.ret (.pv (.one (.clo f))) (some (f,.clo fn (l.take nf) (l.drop nf)))
  |none=>.fail
def aka  (vs:List TV)(f:Pos):Q:=match vs with
  |[]=>.ret (.pv (.one (.mp f))) (some (f,.map [] 0))
  |[.pv (.one (.int _ _))]=>.ret (.pv (.one (.mp f))) (some (f,.map [] 0))
  |_=>.fail
def aj9 (e:TypeId)(s bytes:Nat)(g:List CV)(vs:List TV)(f:Pos):Q:=match vs with
 |[x,y]=>match x,y with
  |.pv (.one (.int _ (.ofNat n))),.pv (.one (.int _ (.ofNat c)))=>bif Nat.ble n c&&Nat.ble c 16777216&&Nat.ble (c*bytes) 16777216 then .ret (.pv (.one (.sl f 0 0 n (some c)))) (some (f,newRow e s (List.replicate c g) c))else .fail
  |_,_=>.fail
 |_=>.fail
def adr (f:Bool)(vs:List TV):Option (Option Nat×List TV):=match f with
 |false=>some (none,vs)
 |true=>match vs with
  |x::r=>match x with
   |.pv (.one (.int _ (.ofNat n)))=>some (some n,r)
   |_=>none
  |[]=>none
def abt (f g mx:Bool)(r:List TV)(k:Option Nat→Option Nat→Option Nat→Q):Q:=match adr f r with
 |some (l,r)=>match adr g r with
  |some (h,r)=>match adr mx r with
   |some (m,[])=>k l h m
   |_=>.fail
  |none=>.fail
 |none=>.fail
def gD (o:Option Nat)(d:Nat):Nat:=match o with|some x=>x|none=>d
def alM (k:Pos)(g f s l h m:Nat):Q:=qn (.sl k g (cond (Nat.beq l m) f (f+l*s)) (h-l) (some (m-l)))
def Ar (h m:Option Nat):Bool:=match m with|none=>true|some _=>match h with|some _=>true|none=>false
def alg (s:Nat)(x:TV)(f:Pos)(l h m:Option Nat):Q:=match x with
 |.pv (.one .nils)=>bif Nat.beq (gD l 0) 0&&Nat.beq (gD h 0) 0&&Nat.beq (gD m 0) 0&&Ar h m then qn .nils else .fail
 |.pv (.one (.sl k g off n cap))=>match cap with
  |some c=>bif Nat.ble (gD m c) c&&Nat.ble (gD h n) (gD m c)&&Nat.ble (gD l 0) (gD h n)&&Ar h m then alM k g off s (gD l 0) (gD h n) (gD m c)else .fail
  |none=>match m with
   |some m=>match h with
    |some h=>bif Nat.ble m n&&Nat.ble h m&&Nat.ble (gD l 0) h then alM k g off s (gD l 0) h m else .fail
    |none=>.fail
   |none=>bif Nat.ble (gD h n) n&&Nat.ble (gD l 0) (gD h n)then
     bif Nat.beq (gD l 0) 0 then qn (.sl k g off (gD h n) none)
     else bif Nat.blt (gD l 0) n then .rd k λo=>match o with
      |.row _ j _ _ _ _=>bif Nat.beq s j then qn (.sl k g (off+gD l 0*s) (gD h n-gD l 0) none)else .fail
      |_=>.fail
     else .ret (.pv (.one (.emp f))) (some (f,.emp))
    else .fail
 |_=>.fail
def X4 (s:Nat)(g j mx:Bool)(vs:List TV)(f:Pos):Q:=match vs with
 |x::r=>abt g j mx r (alg s x f)
 |[]=>.fail
def X5 (n s:Nat)(f j mx:Bool)(vs:List TV)(_:Pos):Q:=match vs with
 |x::r=>abt f j mx r λl h m=>match x with
  |.pv (.one (.ptr k g off))=>bif Nat.ble (gD m n) n&&Nat.ble (gD h n) (gD m n)&&Nat.ble (gD l 0) (gD h n)&&Ar h m then alM k g off s (gD l 0) (gD h n) (gD m n)else .fail
  |_=>.fail
 |[]=>.fail
def So (f g:Bool)(vs:List TV)(_:Pos):Q:=match vs with
 |x::r=>abt f g false r λl h _=>match x with
  |.pv (.one (.str b))=>bif Nat.ble (gD h b.length) b.length&&Nat.ble (gD l 0) (gD h b.length)then qn (.str ((b.take (gD h b.length)).drop (gD l 0)))else .fail
  |_=>.fail
 |[]=>.fail
def Sw (d:Nat)(vs:List TV)(_:Pos):Q:=match vs with
 |[x]=>match x with
  |.pv (.one (.ptr k g off))=>qn (.ptr k g (off+d))
  |_=>.fail
 |_=>.fail
def aeU (f s:Nat)(agg:Bool)(vs:List TV)(_:Pos):Q:=match vs with
 |[x]=>match x with
  |.pv (.agg cs)=>bif Nat.ble (f+s) cs.length then Qe (I4 agg ((cs.drop f).take s)) none else .fail
  |_=>.fail
 |_=>.fail
def Lw (s:Nat)(vs:List TV)(_:Pos):Q:=match vs with
 |[x,y]=>match x,y with
  |.pv (.one (.sl k g off n _)),.pv (.one (.int _ (.ofNat i)))=>bif Nat.blt i n then qn (.ptr k g (off+i*s))else .fail
  |_,_=>.fail
 |_=>.fail
def Sv (n s:Nat)(vs:List TV)(_:Pos):Q:=match vs with
 |[x,y]=>match x,y with
  |.pv (.one (.ptr k g off)),.pv (.one (.int _ (.ofNat i)))=>bif Nat.blt i n then qn (.ptr k g (off+i*s))else .fail
  |_,_=>.fail
 |_=>.fail
def Lv  (vs:List TV)(_:Pos):Q:=match vs with
 |[x,y]=>match x,y with
  |.pv (.one (.str b)),.pv (.one (.int _ (.ofNat i)))=>match b.drop i with
   |c::_=>eY .u8 (Int.ofNat c)
   |[]=>.fail
  |_,_=>.fail
 |_=>.fail
def Su (n s:Nat)(agg:Bool)(vs:List TV)(_:Pos):Q:=match vs with
 |[x,y]=>match x,y with
  |.pv (.agg cs),.pv (.one (.int _ (.ofNat i)))=>bif Nat.blt i n&&Nat.ble (i*s+s) cs.length then Qe (I4 agg ((cs.drop (i*s)).take s)) none else .fail
  |_,_=>.fail
 |_=>.fail
def Sq (q:EqK)(z:PV)(ok:Bool)(vs:List TV)(_:Pos):Q:=match vs with
 |[x,y]=>match q,y with
  |.flat g agg,.pv f=>bif xP g agg f then(match x with
   |.pv (.one .nilm)=>wD ok z none
   |.pv (.one (.mp m))=>.rd m λo=>match o with
    |.map j _=>match uP g agg f j 0 with
     |some r=>wD ok z (r.map (·.2.val))
     |none=>.fail
    |_=>.fail
   |_=>.fail)else .fail
  |_,_=>.fail
 |_=>.fail
def aj7 (q:EqK)(vs:List TV)(_:Pos):Q:=match vs with
 |[x,y,z]=>match q,x,y,z with
  |.flat ks agg,.pv (.one (.mp m)),.pv f,.pv v=>bif xP ks agg f then .rd m λo=>match o with
    |.map g clock=>match uP ks agg f g 0 with
     |some (some (i,_))=>.ret .unk (some (m,.map (B7 g i λe=>⟨f,v,e.born⟩) clock))
     |some none=>.ret .unk (some (m,.map (g++[⟨f,v,clock⟩]) (clock+1)))
     |none=>.fail
    |_=>.fail
   else .fail
  |_,_,_,_=>.fail
 |_=>.fail
def Ya (q:EqK)(z:PV)(vs:List TV)(_:Pos):Q:=match vs with
 |[x,y]=>match q,x,y with
  |.flat ks agg,.pv (.one (.mp m)),.pv f=>bif xP ks agg f then .rd m λo=>match o with
    |.map g clock=>match uP ks agg f g 0 with
     |some (some (i,e))=>.ret (.tup [e.val,.one (.int .i64 (Int.ofNat e.born))]) (some (m,.map (B7 g i λe=>⟨f,e.val,e.born⟩) clock))
     |some none=>.ret (.tup [z,.one (.int .i64 (Int.ofNat clock))]) (some (m,.map (g++[⟨f,z,clock⟩]) (clock+1)))
     |none=>.fail
    |_=>.fail
   else .fail
  |_,_,_=>.fail
 |_=>.fail
def X9  (vs:List TV)(_:Pos):Q:=match vs with
 |[x,y,z]=>match x,y,z with
  |.pv (.one (.mp m)),.pv (.one (.int _ (.ofNat b))),.pv v=>.rd m λo=>match o with
   |.map f clock=>match X0 b f 0 with
    |some i=>.ret .unk (some (m,.map (B7 f i λe=>⟨e.key,v,e.born⟩) clock))
    |none=>.fail
   |_=>.fail
  |_,_,_=>.fail
 |_=>.fail
def alw  (vs:List TV)(f:Pos):Q:=match vs with
 |[x]=>match x with
  |.pv (.one (.str b))=>.ret (.pv (.one (.ptr f 0 0))) (some (f,.sit b 0))
  |_=>.fail
 |_=>.fail
def X6  (vs:List TV)(f:Pos):Q:=match vs with
 |[x]=>match x with
  |.pv (.one .nilm)=>.ret (.pv (.one (.ptr f 0 0))) (some (f,.mit none 0 [] 0))
  |.pv (.one (.mp m))=>.rd m λo=>match o with
   |.map _ clock=>.ret (.pv (.one (.ptr f 0 0))) (some (f,.mit (some m) clock [] clock))
   |_=>.fail
  |_=>.fail
 |_=>.fail
def aeQ  (vs:List TV)(_:Pos):Q:=match vs with
 |[x]=>match x with
  |.pv (.one (.ptr k _ 0))=>.rd k λo=>match o with
   |.sit b p=>match b.drop p with
    |[]=>.ret (.tup [.one (.bl false)]) none
    |c::_=>bif Nat.blt c 128 then .ret (.tup [.one (.bl true),.one (.int .i64 (Int.ofNat p)),.one (.int .i32 (Int.ofNat c))]) (some (k,.sit b (p+1)))else .fail
   |_=>.fail
  |_=>.fail
 |_=>.fail
def aeR  (vs:List TV)(_:Pos):Q:=match vs with
 |[x]=>match x with
  |.pv (.one (.ptr k _ 0))=>.rd k λo=>match o with
   |.mit none _ _ _=>.ret (.tup [.one (.bl false)]) none
   |.mit (some m) since seen _=>.rd m λg=>match g with
    |.map f clock=>match yb seen f with
     |[]=>bif seen.isEmpty||f.isEmpty||f.any (λe=>Nat.blt e.born clock)then .ret (.tup [.one (.bl false)]) none else .fail
     |[e]=>bif Nat.blt e.born since then .ret (.tup [.one (.bl true),e.key,e.val]) (some (k,.mit (some m) since (seen++[e.born]) clock))else .fail
     |_=>.fail
    |_=>.fail
   |_=>.fail
  |_=>.fail
 |_=>.fail
def aaV (i:Nat)(vs:List TV)(_:Pos):Q:=match vs with
 |[x]=>match x with
  |.tup l=>match l.drop i with
   |p::_=>.ret (.pv p) none
   |[]=>.fail
  |_=>.fail
 |_=>.fail
def Lt  (vs:List TV)(_:Pos):Q:=match vs with
 |[x]=>match x with
  |.pv (.one (.str b))=>eY .i64 (Int.ofNat b.length)
  |_=>.fail
 |_=>.fail
def Lu  (vs:List TV)(_:Pos):Q:=match vs with
 |[x]=>match x with
  |.pv (.one .nils)=>eY .i64 0
  |.pv (.one (.emp _))=>eY .i64 0
  |.pv (.one (.sl _ _ _ n _))=>eY .i64 (Int.ofNat n)
  |_=>.fail
 |_=>.fail
def Sr  (vs:List TV)(_:Pos):Q:=match vs with
 |[x]=>match x with
  |.pv (.one .nilm)=>eY .i64 0
  |.pv (.one (.mp m))=>.rd m λo=>match o with
   |.map f _=>eY .i64 (Int.ofNat f.length)
   |_=>.fail
  |_=>.fail
 |_=>.fail
def Ss (n:Nat)(vs:List TV)(_:Pos):Q:=match vs with
 |[_]=>eY .i64 (Int.ofNat n)
 |_=>.fail
def SA  (vs:List TV)(_:Pos):Q:=match vs with
 |[x]=>match x with
  |.pv (.one .nils)=>eY .i64 0
  |.pv (.one (.sl _ _ _ _ (some c)))=>eY .i64 (Int.ofNat c)
  |_=>.fail
 |_=>.fail
def akh (e:TypeId)(s bytes:Nat)(str:Bool)(vs:List TV)(f:Pos):Q:=match vs with
 |[b,x]=>alT s str x λl=>aoQ e s bytes f b l
 |_=>.fail
def akf (s:Nat)(str:Bool)(vs:List TV)(_:Pos):Q:=match vs with
 |[b,x]=>match b with
  |.pv (.one (.sl k g off n _))=>match x with
   |.pv (.one .nils)=>bif str then .fail else eY .i64 0
   |.pv (.one (.sl j g' off' m _))=>bif str then .fail else .rd j λf=>match rX f g' s (Nat.min m n) off' with
    |some l=>match l with
     |[]=>eY .i64 0
     |a::l=>.rd k λo=>match lZ g s (a::l) o off with
      |some f=>nfI (Int.ofNat (Nat.min m n)) λm=>.ret (.pv (.one (.int .i64 m))) (some (k,f))
      |none=>.fail
    |none=>.fail
   |_=>.fail
  |_=>.fail
 |_=>.fail
def aoE (q:EqK)(vs:List TV)(_:Pos):Q:=match vs with
 |[x,y]=>match q,x,y with
  |.flat ks agg,.pv (.one .nilm),.pv kv=>bif xP ks agg kv then .ret (.tup []) none else .fail
  |.flat ks agg,.pv (.one (.mp m)),.pv kv=>bif xP ks agg kv then .rd m λo=>match o with
    |.map f clock=>match uP ks agg kv f 0 with
     |some (some (i,_))=>.ret (.tup []) (some (m,.map (aoF f i) clock))
     |some none=>.ret (.tup []) none
     |none=>.fail
    |_=>.fail
   else .fail
  |_,_,_=>.fail
 |_=>.fail
def eMx (f:Bool)(vs:List TV)(_:Pos):Q:=match vs with
 |[x,y]=>match x,y with
  |.pv (.one (.int k a)),.pv (.one (.int k' b))=>bif kq k k' then eY k (match f with|true=>if b>a then b else a|false=>if b<a then b else a)else .fail
  |_,_=>.fail
 |_=>.fail
def N7 (b:Nat):List ME→Option ME
 |[]=>none
 |e::es=>bif Nat.beq e.born b then some e else N7 b es
def adS:List Nat→Option Nat
 |[]=>none
 |[b]=>some b
 |_::l=>adS l
def aj2 (m:Pos)(g f:Nat):Q :=.rd m λo=>match o with
 |.map j clock=>bif Nat.beq clock f then match N7 g j with
   |some e=>.ret (.tup [e.key,e.val]) none
   |none=>.fail
  else .fail
 |_=>.fail
def ake  (vs:List TV)(_:Pos):Q:=match vs with
 |[x]=>match x with
  |.pv (.one (.ptr k _ 0))=>.rd k λo=>match o with
   |.mit (some m) _ seen stepped=>match adS seen with
    |some b=>aj2 m b stepped
    |none=>.fail
   |.mitU m _ _ (some (b,c))=>aj2 m b c
   |_=>.fail
  |_=>.fail
 |_=>.fail
def aj8  (vs:List TV)(_:Pos):Q:=match vs with
 |[x]=>match x with
  |.pv (.one (.ptr k g off))=>.rd k λo=>match Gp o g off 1 with
   |some _=>.ret x none
   |none=>.fail
  |.pv (.one .nilp)=>.ret x none
  |_=>.fail
 |_=>.fail
def aj6 (ok:TypeId→Nat→Nat→Bool)(vs:List TV)(_:Pos):Q:=match vs with
 |[x]=>match x with
  |.pv (.one (.ptr k _ off))=>.rd k λo=>match o with
   |.row e s _ 1 0 .no=>bif ok e s off then .ret x none else .fail
   |_=>.fail
  |.pv (.one .nilp)=>.ret x none
  |_=>.fail
 |_=>.fail
def aeP  (vs:List TV)(_:Pos):Q:=match vs with
 |[x]=>match x with
  |.pv (.one .nils)=>qn .nilp
  |.pv (.one (.sl k g off (_+1) cap))=>bif (match cap with|some c=>Nat.blt 0 c|none=>true)then qn (.ptr k g off)else .fail
  |_=>.fail
 |_=>.fail
def aj5 (e:TypeId)(ok:TypeId→Nat→Nat→Nat→Bool)(vs:List TV)(_:Pos):Q:=match vs with
 |[x,y]=>match x,y with
  |.pv (.one .nilp),.pv (.one (.int .i64 (.ofNat 0)))=>qn (.str [])
  |.pv (.one (.ptr k g off)),.pv (.one (.int .i64 (.ofNat n)))=>match n with
   |0=>qn (.str [])
   |n+1=>.rd k λo=>match rX o g 1 (n+1) off with
    |some l=>match BA l with
     |some b=>match o with
      |.row j 1 p len f _=>bif Nat.beq e j&&Nat.beq off 0&&ok j len off (n+1)then .ret (.pv (.one (.str b))) (some (k,.row j 1 p len f .yes))else .fail
      |_=>.fail
     |none=>.fail
    |none=>.fail
  |_,_=>.fail
 |_=>.fail
def X8 (e:TypeId)(vs:List TV)(f:Pos):Q:=match vs with
 |[x]=>match x with
  |.pv (.one (.int .i64 (.ofNat n)))=>bif Nat.ble n 16777216 then .ret (.pv (.one (.sl f 0 0 n none))) (some (f,.row e 1 .leaf 0 0 .no))else .fail
  |_=>.fail
 |_=>.fail
def aea (c:Nat):List Nat→Nat→Int
 |[],_=>-1
 |b::l,i=>bif Nat.beq b c then Int.ofNat i else aea c l (i+1)
def aeS  (vs:List TV)(_:Pos):Q:=match vs with
 |[x,y]=>match x,y with
  |.pv (.one (.str b)),.pv (.one (.int .u8 (.ofNat c)))=>bif Nat.blt c 256 then eY .i64 (aea c b 0)else .fail
  |_,_=>.fail
 |_=>.fail
def eSy (n:Nat)(vs:List TV)(_:Pos):Q:=match vs with
 |[]=>.ret (.pv (.one (.sym n))) none
 |_=>.fail
def eI:K→List TV→Pos→Q
 |.mov=>VQ
 |.sy n=>eSy n
 |.pick=>X7
 |.alloc e f=>N9 e f
 |.box e s=>aeW e s
 |.build f ps=>Id f ps
 |.lit e s len f p=>akd e s len f p
 |.load s agg=>Ic s agg
 |.store s=>CF s
 |.nilchk=>Bm
 |.bin op=>tc op
 |.eql neg q=>aeV neg q
 |.un op=>eUn op
 |.cint k=>Sz k
 |.same=>Sp
 |.b2s=>akg
 |.s2b e=>aoD e
 |.i2s=>aeT
 |.mki t=>akb t
 |.mkf fn nf=>akc fn nf
 |.mkm=>aka
 |.mks e s bytes f=>aj9 e s bytes f
 |.subs g j=>So g j
 |.subl s g j mx=>X4 s g j mx
 |.suba n s g j mx=>X5 n s g j mx
 |.fadr d=>Sw d
 |.fld l s agg=>aeU l s agg
 |.idxl s=>Lw s
 |.idxa n s=>Sv n s
 |.idxs=>Lv
 |.idxg n s agg=>Su n s agg
 |.look q z ok=>Sq q z ok
 |.put q=>aj7 q
 |.ment q z=>Ya q z
 |.mest=>X9
 |.rngs=>alw
 |.rngm=>X6
 |.nexts=>aeQ
 |.nextm=>aeR
 |.ext i=>aaV i
 |.lens=>Lt
 |.lenl=>Lu
 |.lenm=>Sr
 |.lena n=>Ss n
 |.capl=>SA
 |.app e s bytes str=>akh e s bytes str
 |.cpy s str=>akf s str
 |.del q=>aoE q
 |.mx r=>eMx r
 |.ent=>ake
 |.p2u=>aj8
 |.u2p ok=>aj6 ok
 |.usd=>aeP
 |.ust e ok=>aj5 e ok
 |.mknz e=>X8 e
 |.ibs=>aeS
 |_=>λ_ _=>.fail
open Go Go.RowKit
abbrev DM:=PM (Option EO)
inductive HP where
 |nil
 |ov (b:HP) (d:DM)
 |cut (b:HP) (n:Pos)
def HP.get:HP→Pos→EO
 |.nil,_=>.none
 |.cut b n,k=>match Nat.blt k.num n.num with
  |true=>b.get k
  |false=>.none
 |.ov b d,k=>match PM.get none d k with
  |some o=>o
  |none=>b.get k
def gz (d:DM)(k:Pos)(o:EO):DM:=PM.set none k d (some o)
def HP.get_set (b:HP)(d:DM)(k:Pos)(o:EO):(HP.ov b (gz d k o)).get=upd (HP.ov b d).get k o:=by
 funext q;simp[HP.get,gz,PM.get_set,upd];by_cases e:k=q
 ·rw[β e,β e]
 ·rw[ο e,ο e]
def orO (a b:Option EO):Option EO:=match a with|some o=>some o|none=>b
def mX:DM→DM→DM
 |.leaf,d=>d
 |.node l a r,.leaf=>.node l a r
 |.node l a r,.node g j f=>.node (mX l g) (orO a j) (mX r f)
def yC:∀(x d:DM) (q:Pos),PM.get none (mX x d) q=orO (PM.get none x q) (PM.get none d q)
 |.leaf,d,q=>rfl
 |.node l a r,.leaf,q=>by simp[mX];cases h:PM.get none (.node l a r) q <;> rfl
 |.node l a r,.node g j f,q=>by
  cases q with
  |e=>rfl
  |o q=>exact yC l g q
  |i q=>exact yC r f q
def HP.get_merge (b:HP)(d x:DM):(HP.ov b (mX x d)).get=(HP.ov (.ov b d) x).get:=by funext q;simp[HP.get,yC];cases PM.get none x q <;> rfl
abbrev Env:=PM TV
def bA (e:Env):Src→TV
 |.t p=>e.get .unk p
 |.c v=>v
def bj (e:Env):List Src→List TV
 |[]=>[]
 |s::r=>bA e s::bj e r
def bn (e:Env)(d:Option Pos)(v:TV):Env:=match d with
 |some d=>PM.set .unk d e v
 |none=>e
def tJ (d:DM)(w:Option (Pos×EO)):DM:=match w with
 |some (k,o)=>gz d k o
 |none=>d
def gd (e:Env)(g:Option (Pos×Bool)):Option Bool:=match g with
 |none=>some true
 |some (p,w)=>match e.get .unk p with
  |.pv (.one (.bl b))=>some (match w with|true=>b|false=>!b)
  |.tup _=>some false
  |_=>none
inductive OP where
 |op (o:FO) (al:Bool)
 |call (args:List Src) (dst:Option Pos) (g:Option (Pos×Bool))
 |nxt (x:Src) (dst:Option Pos)
 |bad
def qF (e:Env)(f:Pos)(o:FO):Q:=match gd e o.guard with
 |some true=>eI o.k (bj e o.args) f
 |_=>.fail
def stepF (e:Env)(h:Pos→EO)(f:Pos)(o:FO):Option (TV×Option (Pos×EO)):=match gd e o.guard with
 |some b=>match b with
  |true=>(eI o.k (bj e o.args) f).run h
  |false=>some (.tup [],none)
 |none=>none
def trF (e:Env)(h:Pos→EO)(f:Pos)(o:FO):List Pos:=match gd e o.guard with
 |some true=>(eI o.k (bj e o.args) f).tr h
 |_=>[]
inductive Tgt where
 |fn (f:FuncId)
 |yld (k:Pos)
inductive RC where
 |no
 |ok (v:TV) (d:DM) (n:Pos)
inductive RS where
 |no
 |ok (e:Env) (d:DM) (n:Pos)
inductive Ex where
 |normal
 |exit (id:Nat)
 |ret
inductive RX where
 |no
 |ok (x:Ex) (e:Env) (d:DM) (n:Pos)
abbrev Ck:=HP→Tgt→List TV→DM→Pos→RC
abbrev Yk:=HP→Pos→List TV→DM→Pos→RC
structure Callk where
 call:Ck
 iter:Yk→Ck
def pvT:List PV→List TV
 |[]=>[]
 |p::l=>.pv p::pvT l
def cX (h:Pos→EO):List TV→Option (Tgt×List TV)
 |.pv (.one (.fnc f))::r=>some (.fn f,r)
 |.pv (.one (.clo k))::r=>match h k with
  |.clo (.func f) first caps=>some (.fn f,pvT first++r++pvT caps)
  |.yld=>some (.yld k,r)
  |_=>none
 |_=>none
def dN:List ME→List Nat
 |[]=>[]
 |e::es=>e.born::dN es
def Fu:TV :=.tup [.one (.bl false)]
def Px (f val:PV):TV :=.tup [.one (.bl true),f,val]
def Hc (h:Pos→EO)(x:TV):Option (TV×Option (Pos×EO)):=match x with
 |.pv (.one (.ptr it _ 0))=>match h it with
  |.mit none _ _ _=>some (Fu,none)
  |.mit (some m) since seen sp=>match h m with
   |.map f clock=>match yb seen f with
    |[]=>bif seen.isEmpty||f.isEmpty||f.any (λe=>Nat.blt e.born sp)then some (Fu,none)else none
    |[x]=>bif Nat.blt x.born since&&Nat.blt x.born sp then some (Px x.key x.val,some (it,.mit (some m) since (seen++[x.born]) clock))else none
    |_=>none
   |_=>none
  |_=>none
 |_=>none
def bT (f:Bool)(h:Pos→EO)(n:Pos):Bool:=match f with
 |true=>(match h n with|.none=>true|_=>false)
 |false=>true
def dc (f:Bool)(n:Pos):Pos:=match f with|true=>n.succ|false=>n
def bc (ck:Callk)(b:HP):List OP→Env→DM→Pos→RS
 |[],e,d,n=>.ok e d n
 |o::r,e,d,n=>match o with
  |.op o j=>bif bT j (HP.ov b d).get n then match stepF e (HP.ov b d).get n o with
   |some (out,wr)=>bc ck b r (bn e o.dst out) (tJ d wr) (dc j n)
   |none=>.no
   else .no
  |.call args f g=>match gd e g with
   |some true=>match cX (HP.ov b d).get (bj e args)with
    |some (t,vs)=>match ck.call b t vs d n with
     |.ok out p l=>bc ck b r (bn e f out) p l
     |.no=>.no
    |none=>.no
   |some false=>bc ck b r (bn e f (.tup [])) d n
   |none=>.no
  |.nxt x f=>match Hc (HP.ov b d).get (bA e x)with
   |some (out,wr)=>bc ck b r (bn e f out) (tJ d wr) n
   |none=>.no
  |.bad=>.no
inductive Inf where
 |op (key:Option Pos) (rds:List Pos) (fr:Bool) (q:Q) (out:TV)
 |call (h:HP) (d:DM)
inductive RT' where
 |no
 |ok (l:List Inf) (e:Env) (d:DM) (n:Pos)
def fC (w:Option (Pos×EO)):Option Pos:=match w with
 |some (k,_)=>some k
 |none=>none
def pE (f:Bool)(n:Pos)(w:Option (Pos×EO)):Bool:=match w with
 |some (k,_)=>f&&k.beq n
 |none=>true
def okW (h:Pos→EO)(w:Option (Pos×EO)):Bool:=match w with
 |some (k,_)=>!DH (h k)
 |none=>true
def Bu (i:Inf):RT'→RT'
 |.no=>.no
 |.ok l e d n=>.ok (i::l) e d n
def sT (b:HP):List OP→DM→Pos→Option (List Pos×DM×Pos)
 |[],d,n=>some ([],d,n)
 |.op _ true::r,d,n=>match (HP.ov b d).get n with
  |.none=>match sT b r (gz d n .res) n.succ with
   |some (l,d',n')=>some (n::l,d',n')
   |none=>none
  |_=>none
 |_::r,d,n=>sT b r d n
def sV (d:DM):List Pos→Bool
 |[]=>true
 |p::l=>match PM.get none d p with
  |some _=>false
  |none=>sV d l
def e9 (f:Bool)(d:DM)(r:Pos):DM:=match f with
 |true=>gz d r .none
 |false=>d
def nU (ck:Callk)(b:HP)(p:List Pos):List OP→Env→DM→Pos→Pos→RT'
 |[],e,d,_,n=>.ok [] e d n
 |o::l,e,d,r,n=>match o with
  |.op o j=>match stepF e (HP.ov b (e9 j d r)).get r o with
   |some (out,wr)=>bif okW (HP.ov b (e9 j d r)).get wr then Bu (.op (fC wr) (trF e (HP.ov b (e9 j d r)).get r o) (pE j r wr) (qF e r o) out) (nU ck b p l (bn e o.dst out) (tJ d wr) (dc j r) n)else .no
   |none=>.no
  |.call args f g=>match gd e g with
   |some true=>match cX (HP.ov b d).get (bj e args)with
    |some (t,vs)=>match ck.call (.ov b d) t vs .leaf n with
     |.ok out C J=>bif sV C p then Bu (.call (.ov b d) C) (nU ck b p l (bn e f out) (mX C d) r J)else .no
     |.no=>.no
    |none=>.no
   |some false=>Bu (.op none [] true .fail .unk) (nU ck b p l (bn e f (.tup [])) d r n)
   |none=>.no
  |_=>.no
def aa2:CV→CV→Bool
 |.bl a,.bl b=>match a with|true=>b|false=>!b
 |.int k a,.int j b=>kq k j&&decide (a=b)
 |.str a,.str b=>xu a b
 |.nilp,.nilp=>true
 |.ptr k g o,.ptr j p l=>k.beq j&&Nat.beq g p&&Nat.beq o l
 |.glob a,.glob b=>Nat.beq a b
 |.nils,.nils=>true
 |.sl k g o n c,.sl j p l r C=>k.beq j&&Nat.beq g p&&Nat.beq o l&&Nat.beq n r&&(match c,C with|none,none=>true|some a,some b=>Nat.beq a b|_,_=>false)
 |.emp k,.emp j=>k.beq j
 |.nilm,.nilm=>true
 |.mp k,.mp j=>k.beq j
 |.nilf,.nilf=>true
 |.fnc f,.fnc g=>Nat.beq f g
 |.clo k,.clo j=>k.beq j
 |.nili,.nili=>true
 |.ifc k,.ifc j=>k.beq j
 |.sym m,.sym n=>Nat.beq m n
 |_,_=>false
def LH:List CV→List CV→Bool
 |[],[]=>true
 |a::l,b::m=>bif aa2 a b then LH l m else false
 |_,_=>false
def Vb (k:Pos):List Pos→Bool
 |[]=>false
 |p::l=>bif k.beq p then true else Vb k l
def CY (k:Option Pos)(l:List Pos):Bool:=match k with
 |some k=>!Vb k l
 |none=>true
def OE (k f:Option Pos):Bool:=match k with
 |some k=>match f with
  |some f=>!k.beq f
  |none=>true
 |none=>true
def nth {C:Type}:List C→Nat→Option C
 |[],_=>none
 |a::_,0=>some a
 |_::l,i+1=>nth l i
def abZ:TV→TV→Bool
 |.pv (.one c),.pv (.one c')=>aa2 c c'
 |.pv (.agg cs),.pv (.agg cs')=>LH cs cs'
 |_,_=>false
def Du (f:EO→Q)(o:EO)(out:TV):Bool:=match f o with
 |.ret g none=>abZ g out
 |_=>false
def Mv (h:HP)(d:DM)(l:List Pos)(q:Q)(out:TV):Bool:=sV d l||(match q with
 |.rd k f=>match l with
  |[_]=>match PM.get none d k with
   |some o=>Du f o out&&Du f (h.get k) out
   |none=>false
  |_=>false
 |_=>false)
def eD:Inf→Inf→Bool
 |.op k l _ _ _,.op f g _ _ _=>CY k g&&CY f l&&OE k f
 |.op none l _ q out,.call h d=>Mv h d l q out
 |.call h d,.op none l _ q out=>Mv h d l q out
 |.call _ d,.op _ l true _ _=>sV d l
 |_,_=>false
def gg (l:List Inf)(p:Nat×Nat):Bool:=match nth l p.1 with
 |some a=>match nth l p.2 with
  |some b=>eD a b
  |none=>false
 |none=>false
def d9 (l:List Inf):List (Nat×Nat)→Bool
 |[]=>true
 |p::r=>bif gg l p then d9 l r else false
inductive FC where
 |skip
 |region (ops:List OP)
 |drawn (ops:List OP) (ps:List (Nat×Nat))
 |seq (a b:FC)
 |cond (c:Src) (a b:FC)
 |block (id:Nat) (c:FC)
 |loop (c:FC)
 |rloop (x:Src) (dst:Option Pos) (ops:List OP) (asg:List Pos) (c:FC)
 |rng (f:Src) (ps:List Pos) (asg body:FC)
 |exit (id:Nat)
 |ret
 |bad
def qH (g:Env→DM→Pos→RX):Nat→Env→DM→Pos→RX
 |0,_,_,_=>.no
 |f+1,e,d,n=>match g e d n with
  |.ok x l p j=>match x with
   |.normal=>qH g f l p j
   |x=>.ok x l p j
  |.no=>.no
def zF:List Pos→List TV→Env→Option Env
 |[],[],e=>some e
 |t::ts,a::as,e=>zF ts as (PM.set .unk t e a)
 |_,_,_=>none
def rP (j:Pos)(call:Ck)(e:Env)(ps:List Pos)(f:HP→Env→DM→Pos→RX):Yk:=λb g args d n=>match g.beq j with
 |true=>match zF ps args e with
  |some p=>match f b p d n with
   |.ok x _ r l=>match x with
    |.normal=>.ok (.pv (.one (.bl true))) r l
    |_=>.no
   |.no=>.no
  |none=>.no
 |false=>call b (.yld g) args d n
def abD (f:Pos)(h:Pos→EO):DM→(Pos→Pos)→Bool
 |.leaf,_=>true
 |.node l a r,c=>(match a with
   |none=>true
   |some _=>match h (c .e)with
    |.none=>true
    |_=>(c .e).beq f)&&abD f h l (λp=>c (.o p))&&abD f h r (λp=>c (.i p))
def xR:List Pos→Env→Env
 |[],e=>e
 |p::l,e=>xR l (PM.set .unk p e .unk)
def Pk (a f:TV):Bool:=match a with
 |.unk=>true
 |.pv (.one c)=>match f with|.pv (.one c')=>aa2 c c'|_=>false
 |.pv (.agg cs)=>match f with|.pv (.agg cs')=>LH cs cs'|_=>false
 |.tup _=>false
def I7:Env→Env→Bool
 |.leaf,_=>true
 |.node l a r,.leaf=>Pk a .unk&&I7 l .leaf&&I7 r .leaf
 |.node l a r,.node g j f=>Pk a j&&I7 l g&&I7 r f
def uW:Env→Env
 |.leaf=>.leaf
 |.node l a r=>.node (uW l) (match a with|.tup _=>.unk|a=>a) (uW r)
def Sn (f:ME→RX)(ok:Env→DM→Bool):List ME→Bool
 |[]=>true
 |x::es=>match f x with
  |.ok .normal e d _=>bif ok e d then Sn f ok es else false
  |_=>false
def xA (r:RS)(f:Env→DM→Pos→RX):RX:=match r with
 |.ok e d n=>f e d n
 |.no=>.no
def WR (m:Pos)(f:Nat)(g:List Nat)(o:EO):Bool:=match o with
 |.mitU m' since' bs' (some _)=>m.beq m'&&Nat.beq f since'&&xu g bs'
 |_=>false
def exec (ck:Callk)(j:Nat):FC→HP→Env→DM→Pos→RX
 |.skip,_,e,d,n=>.ok .normal e d n
 |.region p,b,e,d,n=>match bc ck b p e d n with
  |.ok e d n=>.ok .normal e d n
  |.no=>.no
 |.drawn p ps,b,e,d,n=>match sT b p d n with
  |some (rs,d1,n1)=>match nU ck b rs p e d1 n n1 with
   |.ok l e d n=>bif d9 l ps then .ok .normal e d n else .no
   |.no=>.no
  |none=>.no
 |.seq x y,b,e,d,n=>match exec ck j x b e d n with
  |.ok U e d n=>match U with
   |.normal=>exec ck j y b e d n
   |U=>.ok U e d n
  |.no=>.no
 |.cond c x y,b,e,d,n=>match bA e c with
  |.pv (.one (.bl t))=>match t with
   |true=>exec ck j x b e d n
   |false=>exec ck j y b e d n
  |_=>.no
 |.block id c,b,e,d,n=>match exec ck j c b e d n with
  |.ok x e d n=>match x with
   |.exit R=>match Nat.beq R id with
    |true=>.ok .normal e d n
    |false=>.ok (.exit R) e d n
   |x=>.ok x e d n
  |.no=>.no
 |.loop c,b,e,d,n=>qH (exec ck j c b) j e d n
 |.rloop x P p C c,b,e,d,n=>match bA (xR C (uW e)) x with
  |.pv (.one (.ptr it _ 0))=>match (HP.ov b d).get it with
   |.mit (some m) since [] sp=>match (HP.ov b d).get m with
    |.map J clock=>match J with
     |_::_::_=>bif Nat.ble since sp&&Nat.ble since clock&&J.all (λx=>Nat.blt x.born since)then
       bif Sn (λy=>xA (bc ck (.ov b (gz d it (.mitU m since (dN J) none))) p (bn (xR C (uW e)) P (Px y.key y.val)) (gz .leaf it (.mitU m since (dN J) (some (y.born,clock)))) n) (exec ck j c (.ov b (gz d it (.mitU m since (dN J) none)))))
         (λe' d'=>abD it (HP.ov b (gz d it (.mitU m since (dN J) none))).get d' id&&I7 (xR C (uW e)) e'&&WR m since (dN J) ((HP.ov (.ov b (gz d it (.mitU m since (dN J) none))) d').get it)) J
       then match xA (bc ck b p (bn (xR C (uW e)) P Fu) (gz d it .dead) n) (exec ck j c b)with
        |.ok .normal _ _ _=>.no
        |r=>r
       else .no
      else .no
     |_=>qH (λe d n=>xA (bc ck b (.nxt x P::p) e d n) (exec ck j c b)) j e d n
    |_=>.no
   |.mit none _ _ _=>qH (λe d n=>xA (bc ck b (.nxt x P::p) e d n) (exec ck j c b)) j e d n
   |_=>.no
  |_=>.no
 |.rng f ps C T,b,e,d,n=>match bT true (HP.ov b d).get n with
  |true=>match cX (HP.ov b (gz d n .yld)).get (bA e f::[.pv (.one (.clo n))])with
   |some (.fn g,vs)=>match ck.iter (rP n ck.call e ps λb e d n=>match exec ck j C b e d n with
     |.ok .normal e d n=>exec ck j T b e d n
     |_=>.no) b (.fn g) vs (gz d n .yld) n.succ with
    |.ok _ d n=>.ok .normal e d n
    |.no=>.no
   |_=>.no
  |false=>.no
 |.exit id,_,e,d,n=>.ok (.exit id) e d n
 |.ret,_,e,d,n=>.ok .ret e d n
 |.bad,_,_,_,_=>.no
inductive FR where
 |t (p:Pos)
 |cell (p:Pos) (s:Nat) (agg:Bool)
def zL (e:Env)(h:Pos→EO):FR→Option PV
 |.t p=>match e.get .unk p with
  |.pv v=>some v
  |_=>none
 |.cell p s agg=>match e.get .unk p with
  |.pv (.one (.ptr k g off))=>match Gp (h k) g off s with
   |some f=>I4 agg f
   |none=>none
  |_=>none
def eT (e:Env)(h:Pos→EO):List FR→Option (List PV)
 |[]=>some []
 |r::l=>match zL e h r with
  |some a=>match eT e h l with
   |some f=>some (a::f)
   |none=>none
  |none=>none
def oT:List PV→TV
 |[a]=>.pv a
 |l=>.tup l
structure Fi where
 code:FC
 res:List FR
 nt:Nat
def pz:List TV→Pos→Env→Env
 |[],_,e=>e
 |a::l,p,e=>pz l p.succ (PM.set .unk p e a)
def Zr (b:HP)(f:List FR)(r:RX):RC:=match r with
 |.ok x e d n=>match x with
  |.exit _=>.no
  |_=>match eT e (HP.ov b d).get f with
   |some l=>.ok (oT l) d n
   |none=>.no
 |.no=>.no
def Ec (call:Yk→Ck)(f:Yk):Callk:=⟨call f,call⟩
def qE (p:FuncId→Option Fi)(g:Nat):Nat→Yk→Ck
 |0,l,b,t,args,d,n=>match t with
  |.yld j=>l b j args d n
  |.fn _=>.no
 |dp+1,l,b,t,args,d,n=>match t with
  |.yld j=>l b j args d n
  |.fn f=>match p f with
   |some x=>match Nat.ble args.length x.nt with
    |true=>Zr b x.res (exec (Ec (qE p g dp) l) g x.code b (pz args .e .leaf) d n)
    |false=>.no
   |none=>.no
def noY:Yk:=λ_ _ _ _ _=>.no
abbrev aL (g:FuncId→Option Fi)(f j:Nat):Callk:=Ec (qE g f j) noY
def eF (j:FuncId→Option Fi)(g l:Nat)(f:FuncId)(args:List TV)(ok:TV→Bool):Bool :=
 match qE j g l noY .nil (.fn f) args .leaf .e with
 |.ok v _ _=>ok v
 |.no=>false
open Go Go.RowKit
def akn:Value→Option CV
 |.bool b=>some (.bl b)
 |.int k n=>some (.int k n)
 |.string s=>some (.str (s.data.toList.map UInt8.toNat))
 |.pointer none=>some .nilp
 |.slice none 0 0=>some .nils
 |.map none=>some .nilm
 |.nilFunc=>some .nilf
 |.func (.func f) a b=>if a.size=0∧b.size=0 then some (.fnc f)else none
 |.nilIface=>some .nili
 |_=>none
def Yf:List Value→Option (List CV)
 |[]=>some []
 |v::l=>match akn v,Yf l with
  |some c,some r=>some (c::r)
  |_,_=>none
def aiG:Value→Option PV
 |.agg f=>match Yf f.toList with
  |some l=>some (.agg l)
  |none=>none
 |v=>match akn v with
  |some c=>some (.one c)
  |none=>none
def an9 (v:Value):TV:=match aiG v with
 |some p=>.pv p
 |none=>.unk
def oH:Operand→Src
 |.tmp t=>if t+2≤2^64 then .t (pos t)else .c .unk
 |.const v=>.c (an9 v)
 |.global g=>.c (.pv (.one (.glob g)))
 |.func f=>.c (.pv (.one (.fnc f)))
def ap (P:Program)(t:TypeId):Nat:=match P.info? t with
 |some i=>i.size
 |none=>0
def xv (P:Program)(t:TypeId):Nat:=match P.info? t with
 |some i=>i.bytes
 |none=>0
def jj:Option TypeDesc→Option Bool
 |some (.struct _)=>some true
 |some (.array _ _)=>some true
 |some _=>some false
 |none=>none
def eQ (P:Program)(t:TypeId):Option PV:=match P.info? t with
 |some i=>match i.zero with
  |some v=>aiG v
  |none=>none
 |none=>none
def abl (sz:TypeId→Nat)(f:TypeId→Option (List CK)):List Field→Nat→Option (List CK)
 |[],_=>some []
 |x::r,off=>if x.name ≠ "_" ∧ x.offset=off then match f x.type with
   |some a=>if sz x.type=a.length∧a.length≠0 then match abl sz f r (off+a.length)with
     |some b=>some (a++b)
     |none=>none
    else none
   |none=>none
  else none
def i4 (P:Program):Nat→TypeId→Option (List CK)
 |0,_=>none
 |d+1,t=>match P.underlying t with
  |some .bool=>some [.b]
  |some (.int k)=>some [.i k]
  |some .string=>some [.s]
  |some (.struct fs)=>if P.stoodInHeld t then none else abl (ap P) (i4 P d) fs.toList 0
  |_=>none
def Ib (P:Program)(t:TypeId)(g:Bool):Option EqK:=match P.underlying t with
 |some (.pointer e)=>if ap P e=0 then none else some .ptr
 |some (.slice _)=>some .slc
 |some (.map _ _)=>some .mp
 |some (.func _ _ _)=>some .fnc
 |some (.interface _)=>some (.ifc g)
 |some (.struct _)=>if P.eqGuardType P.depth t then none else match i4 P 20 t with
  |some f=>some (.flat f true)
  |none=>none
 |some (.array _ _)=>none
 |some _=>match i4 P 20 t with
  |some f=>some (.flat f false)
  |none=>none
 |none=>none
def AL (P:Program)(t:TypeId):Option EqK:=match P.underlying t with
 |some (.struct _)=>match i4 P 20 t with
  |some f=>some (.flat f true)
  |none=>none
 |some _=>match i4 P 20 t with
  |some f=>some (.flat f false)
  |none=>none
 |none=>none
def isC:Operand→Bool
 |.const _=>true
 |_=>false
def Ad (P:Program)(g:Array Field):List (Nat×Operand)→Option (List (Nat×Nat))
 |[]=>some []
 |(i,_)::r=>match g[i]? with
  |some f=>match Ad P g r with
   |some l=>some ((f.offset,ap P f.type)::l)
   |none=>none
  |none=>none
def abV (P:Program)(u:TypeId)(e:TypeId)(s f:Nat):Bool:=liesAt P P.depth e (s/P.cellsOf e) f u 1
def Wz (P:Program)(e:TypeId)(len f n:Nat):Bool:=P.cellsOf e=1&&Nat.ble (f+n) len
def anL (fn:Func)(P:Program):Option K :=
 if (Extern.findNext fn).isSome then none
 else if fn.name = "internal/abi.NoEscape" then some .mov
 else if fn.name = "internal/bytealg.IndexByteString" then some .ibs
 else if fn.name = "internal/bytealg.MakeNoZero" then match fn.resultTypes.toList with
  |[t]=>match P.underlying t with
   |some (.slice e)=>if ap P e=1 then some (.mknz e)else none
   |_=>none
  |_=>none
 else none
def IF (P:Program)(c:Call)(b:Builtin):Option (K×List Operand):=match b,c.args.toList,c.argTypes.toList with
 |.len,[x],[t]=>match P.underlying t with
  |some .string=>some (.lens,[x])
  |some (.slice _)=>some (.lenl,[x])
  |some (.map _ _)=>some (.lenm,[x])
  |some (.array n _)=>some (.lena n,[x])
  |_=>none
 |.cap,[x],[t]=>match P.underlying t with
  |some (.slice _)=>some (.capl,[x])
  |_=>none
 |.append,[s,x],[t,u]=>match P.underlying t with
  |some (.slice e)=>match eQ P e with
   |some z=>if ap P e=0∨z.cells.length≠ap P e then none else match P.underlying u with
    |some (.slice _)=>some (.app e (ap P e) (xv P e) false,[s,x])
    |some .string=>if ap P e=1 then some (.app e (ap P e) (xv P e) true,[s,x])else none
    |_=>none
   |none=>none
  |_=>none
 |.copy,[s,x],[t,u]=>match P.underlying t with
  |some (.slice e)=>if ap P e=0 then none else match P.underlying u with
   |some (.slice _)=>some (.cpy (ap P e) false,[s,x])
   |_=>none
  |_=>none
 |.unsafeSliceData,[x],_=>some (.usd,[x])
 |.unsafeString,[x,y],[t,_]=>match P.underlying t with
  |some (.pointer e)=>match P.underlying e with
   |some (.int .u8)=>some (.ust e (Wz P),[x,y])
   |_=>none
  |_=>none
 |.max,[x,y],_=>some (.mx true,[x,y])
 |.min,[x,y],_=>some (.mx false,[x,y])
 |_,_,_=>none
abbrev Glt:=Nat→TypeId→Option (Value ⊕ Nat)
def cK (P:Program)(T:Glt):Op→Option (K×List Operand)
 |.move x=>some (.mov,[x])
 |.assign x=>some (.mov,[x])
 |.pick c a b=>some (.pick,[c,a,b])
 |.alloc e=>match eQ P e with
  |some z=>if z.cells.length=0 then none else some (.alloc e z.cells,[])
  |none=>none
 |.box e x=>if ap P e=0 then none else some (.box e (ap P e),[x])
 |.build t parts=>match eQ P t,P.underlying t with
  |some z,some (.struct fs)=>if fs.toList.all (λf=>(P.info? f.type).isSome)then match Ad P fs parts.toList with
    |some ps=>some (.build z.cells ps,parts.toList.map (·.2))
    |none=>none
   else none
  |some z,some (.array _ e)=>if ap P e=0 then none else some (.build z.cells (parts.toList.map λp=>(p.1*ap P e,ap P e)),parts.toList.map (·.2))
  |_,_=>none
 |.buildSlice t len parts=>match P.underlying t with
  |some (.slice e)=>match eQ P e with
   |some z=>if ap P e=0∨z.cells.length≠ap P e then none else some (.lit e (ap P e) len z.cells (parts.toList.map (·.1)),parts.toList.map (·.2))
   |none=>none
  |_=>none
 |.load t a=>match a with
  |.global g=>match T g t with
   |some (.inl v)=>some (.mov,[.const v])
   |some (.inr n)=>some (.sy n,[])
   |none=>none
  |a=>if ap P t=0 then none else match jj (P.underlying t)with
   |some b=>some (.load (ap P t) b,[a])
   |none=>none
 |.store t a x=>if ap P t=0 then none else some (.store (ap P t),[a,x])
 |.nilCheck x=>some (.nilchk,[x])
 |.binOp op t x y _=>match op with
  |.eql=>match P.underlying t with
   |some (.int _)=>some (.bin .eql,[x,y])
   |some .string=>some (.bin .eql,[x,y])
   |_=>match Ib P t (isC x||isC y)with
    |some q=>some (.eql false q,[x,y])
    |none=>none
  |.neq=>match P.underlying t with
   |some (.int _)=>some (.bin .neq,[x,y])
   |some .string=>some (.bin .neq,[x,y])
   |_=>match Ib P t (isC x||isC y)with
    |some q=>some (.eql true q,[x,y])
    |none=>none
  |op=>some (.bin op,[x,y])
 |.unOp op _ x=>some (.un op,[x])
 |.convert s t x=>match P.underlying s,P.underlying t with
  |some (.int _),some (.int k)=>some (.cint k,[x])
  |some (.int _),some .string=>some (.i2s,[x])
  |some .string,some .string=>some (.same,[x])
  |some (.pointer e),some .unsafePointer=>if ap P e=0 then none else some (.p2u,[x])
  |some .unsafePointer,some (.pointer u)=>if ap P u=0 then none else some (.u2p (abV P u),[x])
  |some (.slice e),some .string=>if P.underlying e matches some (.int .u8)then some (.b2s,[x])else none
  |_,_=>none
 |.makeInterface t x=>match P.underlying t with
  |some (.interface _)=>none
  |some _=>some (.mki t,[x])
  |none=>none
 |.makeFunc fn first J=>some (.mkf fn first.size,first.toList++J.toList)
 |.makeMap t r=>match P.underlying t with
  |some (.map _ _)=>some (.mkm,r.toList)
  |_=>none
 |.makeSlice t l c=>match P.underlying t with
  |some (.slice e)=>match eQ P e with
   |some z=>if ap P e=0∨z.cells.length≠ap P e then none else some (.mks e (ap P e) (xv P e) z.cells,[l,c])
   |none=>none
  |_=>none
 |.slice t x j C mx=>match P.underlying t with
  |some .string=>if mx.isSome then none else some (.subs j.isSome C.isSome,x::(j.toList++C.toList))
  |some (.slice e)=>if ap P e=0 then none else some (.subl (ap P e) j.isSome C.isSome mx.isSome,x::(j.toList++C.toList++mx.toList))
  |some (.array n e)=>if ap P e=0 then none else some (.suba n (ap P e) j.isSome C.isSome mx.isSome,x::(j.toList++C.toList++mx.toList))
  |_=>none
 |.fieldAddr s x f=>match P.underlying s with
  |some (.struct fs)=>match fs[f]? with
   |some f=>if ap P f.type=0 then none else some (.fadr f.offset,[x])
   |none=>none
  |_=>none
 |.field s x f=>match P.underlying s with
  |some (.struct fs)=>match fs[f]? with
   |some f=>if ap P f.type=0 then none else match jj (P.underlying f.type)with
    |some b=>some (.fld f.offset (ap P f.type) b,[x])
    |none=>none
   |none=>none
  |_=>none
 |.indexAddr t x i=>match P.underlying t with
  |some (.slice e)=>if ap P e=0 then none else some (.idxl (ap P e),[x,i])
  |some (.array n e)=>if ap P e=0 then none else some (.idxa n (ap P e),[x,i])
  |_=>none
 |.index t x i=>match P.underlying t with
  |some .string=>some (.idxs,[x,i])
  |some (.array n e)=>if ap P e=0 then none else match jj (P.underlying e)with
   |some b=>some (.idxg n (ap P e) b,[x,i])
   |none=>none
  |_=>none
 |.lookup t x i ok=>match P.underlying t with
  |some (.map k e)=>match AL P k,eQ P e with
   |some q,some z=>some (.look q z ok,[x,i])
   |_,_=>none
  |_=>none
 |.mapUpdate t m k x=>match P.underlying t with
  |some (.map kt _)=>match AL P kt with
   |some q=>some (.put q,[m,k,x])
   |none=>none
  |_=>none
 |.insert t m k x=>match P.underlying t with
  |some (.map kt _)=>match AL P kt with
   |some q=>some (.put q,[m,k,x])
   |none=>none
  |_=>none
 |.mapEntry t m k=>match P.underlying t with
  |some (.map kt e)=>match AL P kt,eQ P e with
   |some q,some z=>some (.ment q z,[m,k])
   |_,_=>none
  |_=>none
 |.entryStore _ m s x=>some (.mest,[m,s,x])
 |.range t x=>match P.underlying t with
  |some (.map _ _)=>some (.rngm,[x])
  |_=>none
 |.entry R=>some (.ent,[R])
 |.extract x i=>some (.ext i,[x])
 |.call c=>match c.callee with
  |.builtin b=>IF P c b
  |.value (.func f)=>match P.funcs[f]? with
   |some fn=>match fn.body with
    |some _=>none
    |none=>match anL fn P with
     |some k=>some (k,c.args.toList)
     |none=>none
   |none=>none
  |_=>none
 |_=>none
def kAl:K→Bool
 |.alloc _ _=>true|.box _ _=>true|.lit _ _ _ _ _=>true|.mki _=>true|.mkf _ _=>true|.mkm=>true|.mks _ _ _ _=>true|.s2b _=>true|.rngs=>true|.rngm=>true|.subl _ _ _ _=>true|.app _ _ _ _=>true|.mknz _=>true
 |_=>false
def CR (f:List Oper):Option (Nat×Bool)→Option (Option (Pos×Bool))
 |none=>some none
 |some (j,w)=>match (f[j]?).bind (·.dst)with
  |some d=>if d+2≤2^64 then some (some (pos d,w))else none
  |none=>none
def V9 (f:Nat):Option Tmp→Option (Option Pos)
 |none=>some none
 |some d=>if d<f∧d+2≤2^64 then some (some (pos d))else none
def cOp (P:Program)(J:Glt)(r:Nat)(l:List Oper)(o:Oper):OP:=match V9 r o.dst with
 |none=>.bad
 |some j=>match CR l o.guard with
  |none=>.bad
  |some g=>match cK P J o.op with
   |some (k,p)=>.op ⟨k,p.map oH,j,g⟩ (kAl k)
   |none=>match o.op with
    |.call c=>match c.callee with
     |.value f=>.call (oH f::c.args.toList.map oH) j g
     |_=>.bad
    |.next C false=>match g with
     |none=>.nxt (oH C) j
     |some _=>.bad
    |_=>.bad
def nF (P:Program)(j:Glt)(g:Nat)(f:List Oper):List Oper→List OP
 |[]=>[]
 |o::r=>cOp P j g f o::nF P j g f r
def aZ:List Oper→List Nat→List Nat
 |[],acc=>acc
 |o::r,acc=>aZ r (acc++[o.after.toList.foldl (λs e=>if Region.binds .any e then s ||| 2^e.on ||| acc.getD e.on 0 else s) 0])
def ct:Nat→List Oper→Bool
 |_,[]=>true
 |i,o::r=>o.after.toList.all (λe=>!Region.binds .any e||decide (e.on<i))&&ct (i+1) r
def Do:List Src→List Pos
 |[]=>[]
 |.t p::l=>p::Do l
 |.c _::l=>Do l
def NY:Option (Pos×Bool)→List Pos
 |some (p,_)=>[p]
 |none=>[]
def looks:OP→List Pos
 |.op o _=>NY o.guard++Do o.args
 |.call args _ g=>NY g++Do args
 |_=>[]
def SH:OP→Option Pos
 |.op o _=>o.dst
 |.call _ d _=>d
 |.nxt _ d=>d
 |.bad=>none
def BX (a b:OP):Bool :=
 (match SH a with|some d=>!Vb d (looks b) && !(match SH b with|some f=>d.beq f|none=>false)|none=>true)&&(match SH b with|some d=>!Vb d (looks a)|none=>true)
def ad3:OP→Bool
 |.call _ _ _=>true
 |_=>false
def arG:OP→Nat
 |.op _ true=>2
 |.call _ _ _=>1
 |_=>0
def al9 (f:List Nat)(n:Nat)(done:List Nat)(i:Nat):Bool :=
 !done.contains i&&(List.range n).all λj=>!(f.getD i 0).testBit j||done.contains j
def P4 (g:List Nat)(cl:List Nat):Nat→List Nat→List Nat
 |0,done=>done.reverse
 |f+1,done=>
  let l:=(List.range cl.length).filter (al9 g cl.length done);match l.find? (λi=>cl.getD i 0 == 0)with
  |some i=>P4 g cl f (i::done)
  |none=>match l.find? (λi=>cl.getD i 0 == 1)with
   |some i=>P4 g cl f (i::done)
   |none=>match l.find? (λi=>(List.range cl.length).any λj=>cl.getD j 0 == 1&&(g.getD j 0).testBit i)with
    |some i=>P4 g cl f (i::done)
    |none=>match l with
     |i::_=>P4 g cl f (i::done)
     |[]=>done.reverse
def ads (g:List Nat)(f:List Nat)(p q:Nat):Bool :=!(g.getD (f.getD q 0) 0).testBit (f.getD p 0)
def agf (g:List OP)(f:List Nat)(p q:Nat):Bool:=match g[f.getD p 0]?,g[f.getD q 0]? with
 |some x,some y=>BX x y && !(ad3 x&&ad3 y)
 |_,_=>false
def NA:List Nat→Bool
 |[]=>true
 |a::l=>!l.contains a&&NA l
def Nd (g:List Oper)(j:List OP)(l:List Nat)(f:List Nat):Option (List (Nat×Nat)) :=
 let all:=(List.range f.length).flatMap λq=>((List.range q).filter λp=>ads l f p q).map λp=>(p,q)
 if ct 0 g&&Nat.beq f.length g.length&&NA f&&(List.range g.length).all (λi=>f.contains i)&&f.all (λi=>decide (i<g.length))&&all.all (λp=>agf j f p.1 p.2)then some all else none
def afZ (g:List Oper)(j:List OP)(l:List Nat)(f:List Nat):FC:=match Nd g j l f with
 |some ps=>.drawn (f.map λi=>j.getD i .bad) ps
 |none=>.bad
def Ie:List OP→List Pos
 |[]=>[]
 |o::r=>(match o with|.op o _=>o.dst.toList|.call _ d _=>d.toList|.nxt _ d=>d.toList|.bad=>[])++Ie r
def sW:FC→List Pos
 |.region f=>Ie f
 |.drawn f _=>Ie f
 |.seq a b=>sW a++sW b
 |.cond _ a b=>sW a++sW b
 |.block _ c=>sW c
 |.loop c=>sW c
 |.rloop _ d f _ c=>d.toList++Ie f++sW c
 |.rng _ ps a b=>ps++sW a++sW b
 |_=>[]
def cm:Code→Bool
 |.region _ f _=>f.toList.all λo=>match o.op with|.defer _=>false|_=>true
 |.seq a b=>cm a&&cm b
 |.cond _ a b=>cm a&&cm b
 |.block _ a=>cm a
 |.loop a=>cm a
 |.scope a=>cm a
 |.rangeFunc _ _ a b=>cm a&&cm b
 |_=>true
def cC (P:Program)(p:Glt)(j:Nat):Code→FC
 |.skip=>.skip
 |.label _=>.skip
 |.region _ g r=>match r with
  |false=>.region (nF P p j g.toList g.toList)
  |true=>afZ g.toList (nF P p j g.toList g.toList) (aZ g.toList []) (P4 (aZ g.toList []) ((nF P p j g.toList g.toList).map arG) g.size [])
 |.seq a b=>.seq (cC P p j a) (cC P p j b)
 |.cond c a b=>.cond (oH c) (cC P p j a) (cC P p j b)
 |.block id c=>.block id (cC P p j c)
 |.loop (.seq (.region id g false) y)=>match nF P p j g.toList g.toList with
  |.nxt x dst::l=>.rloop x dst l (dst.toList++Ie l++sW (cC P p j y)) (cC P p j y)
  |_=>.loop (cC P p j (.seq (.region id g false) y))
 |.loop c=>.loop (cC P p j c)
 |.rangeFunc f ps a b=>if cm a&&cm b&&ps.toList.all (λt=>decide (t<j∧t+2≤2^64))then .rng (oH f) (ps.toList.map pos) (cC P p j a) (cC P p j b)else .bad
 |.scope c=>cC P p j c
 |.exit id=>.exit id
 |.ret=>.ret
 |_=>.bad
def akK (P:Program):ResultVar→Option FR
 |.tmp t=>if t+2≤2^64 then some (.t (pos t))else none
 |.cell t f=>match jj (P.underlying f)with
  |some b=>if t+2≤2^64∧ap P f≠0 then some (.cell (pos t) (ap P f) b)else none
  |none=>none
def LQ (P:Program):List ResultVar→Option (List FR)
 |[]=>some []
 |r::l=>match akK P r,LQ P l with
  |some a,some b=>some (a::b)
  |_,_=>none
def fiOf (P:Program)(Gl:Glt)(f:FuncId):Option Fi:=match P.funcs[f]? with
 |some fn=>match fn.body with
  |some b=>if fn.name == "runtime.NumGoroutine" then none else match LQ P fn.results.toList with
   |some rs=>some ⟨cC P Gl fn.ntmps b,rs,fn.ntmps⟩
   |none=>none
  |none=>none
 |none=>none
