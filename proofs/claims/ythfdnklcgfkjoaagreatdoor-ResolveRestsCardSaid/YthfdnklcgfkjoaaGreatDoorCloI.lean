/- Closed runs. -/
import Derived.Test.YthfdnklcgfkjoaaGreatDoorCloE
set_option linter.all false
namespace Go.Proofs.YthfdnklcgfkjoaaGreatDoor.Clo
open Go Go.RowKit
variable [SymVal]
def RTs (f:Gx):List TV→List Value→Prop
 |[],[]=>True
 |t::l,v::vs=>RT f t v∧RTs f l vs
 |_,_=>False
def RTs.mono {g f:Gx}(h:g.le f):∀{l:List TV} {vs:List Value},RTs g l vs→RTs f l vs
 |[],[],_=>trivial
 |_::_,_::_,⟨a,b⟩=>⟨a.mono h,b.mono h⟩
def RTs.len {f:Gx}:∀{l:List TV} {vs:List Value},RTs f l vs→vs.length=l.length
 |[],[],_=>rfl
 |_::_,_::_,⟨_,b⟩=>by simp[b.len]
def RTs.append {f:Gx}:∀{l m:List TV} {g ws:List Value},RTs f l g→RTs f m ws→RTs f (l++m) (g++ws)
 |[],_,[],_,_,h=>h
 |_::_,_,_::_,_,⟨a,b⟩,h=>⟨a,b.append h⟩
variable{φ:Gx}{vs:List Value}
def RTs.one {t:TV}(h:RTs φ [t] vs):∃v,vs=[v]∧RT φ t v:=by
 match vs,h with
 |[v],⟨a,_⟩=>exact⟨v,rfl,a⟩
def RTs.cons {t:TV}{l:List TV}(h:RTs φ (t::l) vs):∃v ws,vs=v::ws∧RT φ t v∧RTs φ l ws:=by
 match vs,h with
 |v::ws,⟨a,b⟩=>exact⟨v,ws,rfl,a,b⟩
def RTs.nil (h:RTs φ [] vs):vs=[]:=by
 match vs,h with
 |[],_=>rfl
def OO {φ:Gx}:∀{l:List PV} {vs:List Value},cN φ l=some vs→RTs φ (pvT l) vs
 |[],vs,r=>by cases r;trivial
 |p::l,vs,r=>by obtain⟨v,j,rfl,g,f⟩:=gR r;exact⟨g,OO f⟩
def KA {φ:Gx}:∀{l:List TV} {r:List PV} {vs:List Value},pvs l=some r→RTs φ l vs→cN φ r=some vs
 |[],r,vs,h,hr=>by cases h;rw[hr.nil];rfl
 |.pv p::l,r,vs,h,hr=>by
  simp[pvs]at h;split at h
  next q hq=>cases h;obtain⟨v,ws,rfl,g,f⟩:=hr.cons;exact bU g (KA hq f)
  ·cases h
 |.unk::_,_,_,h,_=>by cases h
 |.tup _::_,_,_,h,_=>by cases h
def tn (h:Pos→EO)(w:Option (Pos×EO)):Pos→EO:=match w with
 |some (k,o)=>upd h k o
 |none=>h
def OkX (P:Program)(B:Nat)(J:W0)(φ:Gx)(h:Pos→EO)(w:World)(o:Oper)(a:Act)(out:TV)(g:Option (Pos×EO)):Prop :=
 (∀(K:Act→World→Prop) (Q:Exit→Act→World→Prop),(∀v f j,φ.le f→Inv B J f (tn h g) j→RT f out v→K (a.put o.dst v) j)→o.wp P a w K Q)∧∀k l,g=some (k,l)→i5 l=false
def gv:Value ⊕ Nat→Value
 |.inl v=>v
 |.inr n=>SymVal.v n
def GlOk (f:Glt)(P:Program)(B:Nat)(J:W0):Prop:=(∀g t v,f g t=some v→∀w,Below B J.w w→(Instr.loadAt t (.pointer (some ⟨g,0,none⟩))).run P w = .ok (gv v) w)∧∀w,Below B J.w w→SymVal.fact w
def C4 {o j:EO}{g f:Nat}{new:List CV}(h:Fd o g f new=some j):i5 j=false:=by
 unfold Fd at h;split at h
 next e s el len gen fz=>
  cases l:(Nat.beq g gen&&Nat.blt (f/s) len&&Nat.ble (f%s+new.length) s&&RW fz)with
  |false=>rw[l]at h;cases h
  |true =>rw[l,ξ]at h;split at h;cases h;rfl
 ·cases h
def rr {g s:Nat}:∀{l:List (List CV)} {x:List CV} {o j:EO} {f:Nat},lZ g s (x::l) o f=some j→i5 j=false
 |[],x,o,j,f,h=>by
  rw[lZ]at h;split at h
  next o1 h1=>cases h;exact C4 h1
  ·cases h
 |y::l,x,o,j,f,h=>by
  rw[lZ]at h;split at h
  ·exact rr h
  ·cases h
section
variable {P:Program}{B:Nat}{J:W0}{φ:Gx}{h:Pos→EO}{w:World}{o:Oper}{a:Act}
variable{v:Value}{out:TV}{ψ:Gx}{w' :World}{o' :EO}{k U:IntKind}{n:Int}{b:Bool}{s:List Nat}{off:Nat}{cap:Option Nat}{x y:Operand}{op:BinOp}{tx ty t:TypeId}{C:List TV}{f:Pos}
def ay (l:Inv B J φ h w)(f:(execOp a.eval o).run P w = .ok (.value v) w)(g:RT φ out v):OkX P B J φ h w o a out none:=⟨λK Q j=>by
 unfold Oper.wp;rw[f];exact j v φ w (Gx.le.refl φ) l g,λ_ _ e=>by cases e⟩
def g9 {k:Pos}(j:(execOp a.eval o).run P w = .ok (.value v) w')(g:φ.le ψ)(r:Inv B J ψ (upd h k o') w')(l:RT ψ out v)(f:i5 o'=false:=by rfl):OkX P B J φ h w o a out (some (k,o')):=⟨λK Q p=>by
 unfold Oper.wp;rw[j];exact p v ψ w' g r l,λ_ _ e=>by cases e;exact f⟩
def Ew {k:Pos}(j:(execOp a.eval o).run P w = .ok .skip w')(g:φ.le ψ)(p:Inv B J ψ (upd h k o') w')(f:i5 o'=false:=by rfl):OkX P B J φ h w o a .unk (some (k,o')):=⟨λK Q l=>by
 unfold Oper.wp;rw[j];exact l undef ψ w' g p trivial,λ_ _ e=>by cases e;exact f⟩
def dg (h:RT φ (.pv (.one (.int k n))) v):v = .int k n:=(χ h).symm
def rt_bl (h:RT φ (.pv (.one (.bl b))) v):v = .bool b:=(χ h).symm
def mF (h:RT φ (.pv (.one (.str s))) v):cU s=true∧v=pw s:=by
 have h:den φ (.str s)=some v:=h;simp only[den]at h;split at h
 next q=>exact⟨q,(χ h).symm⟩
 ·cases h
def gN {k:Pos}{g:Nat}(h:RT φ (.pv (.one (.ptr k g off))) v):∃l,φ.loc k g=some l∧v = .pointer (some ⟨l.b,off,none⟩):=by
 have h:den φ (.ptr k g off)=some v:=h;simp[den]at h;split at h
 next l q=>exact⟨l,q,(χ h).symm⟩
 ·cases h
def ML {k:Pos}{g len:Nat}(h:RT φ (.pv (.one (.sl k g off len cap))) v):∃l,φ.loc k g=some l∧v = .slice (some ⟨l.b,off,none⟩) len (iq cap l.n (off/l.s))∧Bx cap len l.n (off/l.s)=true:=by
 have h:den φ (.sl k g off len cap)=some v:=h;simp[den]at h;split at h
 next l q=>
  split at h
  next f=>exact⟨l,q,(χ h).symm,f⟩
  ·cases h
 ·cases h
def zK {k:Pos}{g len:Nat}(h:RT φ (.pv (.one (.sl k g off len cap))) v):∃l,φ.loc k g=some l∧v = .slice (some ⟨l.b,off,none⟩) len (iq cap l.n (off/l.s)):=by obtain⟨l,j,f,_⟩:=ML h;exact⟨l,j,f⟩
def WX {k:Pos}(h:RT φ (.pv (.one (.mp k))) v):∃l,φ.loc k 0=some l∧v = .map (some l.b):=by
 have h:den φ (.mp k)=some v:=h;simp[den]at h;split at h
 next l q=>exact⟨l,q,(χ h).symm⟩
 ·cases h
def MM {k:Pos}(h:RT φ (.pv (.one (.emp k))) v):∃a c,v = .slice (some a) 0 c:=by
 have h:den φ (.emp k)=some v:=h;simp[den]at h;split at h
 next a c q=>exact⟨a,c,(χ h).symm⟩
 ·cases h
def tO {f:List CV}(h:RT φ (.pv (.agg f)) v):∃vs,v = .agg vs.toArray∧bq φ f=some vs:=by
 have h:bg φ (.agg f)=some v:=h;simp[bg]at h;split at h
 next vs q=>exact⟨vs,(χ h).symm,q⟩
 ·cases h
def cE (k:IntKind)(n:Int):RT φ (.pv (.one (.int k n))) (.int k n):=rfl
def AF (b:Bool):RT φ (.pv (.one (.bl b))) (.bool b):=rfl
def ur (f:cU s=true):RT φ (.pv (.one (.str s))) (pw s):=by show den φ (.str s)=_;simp[den,f]
def cd {h:Pos→EO}:(eY k n).run h=some (.pv (.one (.int k n)),none):=by simp[eY,uj,Q.run]
def zJ {h:Pos→EO}:(tS b).run h=some (.pv (.one (.bl b)),none):=rfl
def Nm {z:Operand}(C:Inv B J φ h w)(l:o.op = .pick x y z){p q:TV}(j:RT φ (.pv (.one (.bl b))) (a.eval x))(g:RT φ p (a.eval y))(f:RT φ q (a.eval z)):OkX P B J φ h w o a (match b with|true=>p|false=>q) none:=by
 have r:=rt_bl j;refine ay C (v:=if b then a.eval y else a.eval z) ?_ ?_
 ·unfold execOp;simp[l,r,asBool]
 ·cases b
  ·exact f
  ·exact g
def sL (m n:Int):(m == n)=decide (m=n):=by by_cases h:m=n <;> simp[h]
def KX {f :IntKind}(h:kq k f=true):k=f:=by cases k <;> cases f <;> first|rfl|cases h
def ajj (l:Inv B J φ h w)(j:o.op = .binOp op tx x y ty){m:Int}(g:a.eval x = .int k m)(f:a.eval y = .int k n){R:Option (Pos×EO)}(p:(IK op k m n).run h=some (out,R)):OkX P B J φ h w o a out R:=by
 cases op <;> simp[IK]at p <;> first|(cases p;done)|skip
 case quo=>
  by_cases r:n=0
  ·simp[r,Q.run]at p
  ·have C:(n == 0)=false:=by simpa using r
   rw[C,S',cd]at p;cases p;refine ay l ?_ (cE _ _);unfold execOp;simp[j,g,f,eqGuard,binOp,Op.intDiv,r]
 case rem=>
  by_cases r:n=0
  ·simp[r,Q.run]at p
  ·have C:(n == 0)=false:=by simpa using r
   rw[C,S',cd]at p;cases p;refine ay l ?_ (cE _ _);unfold execOp;simp[j,g,f,eqGuard,binOp,Op.intDiv,r]
 all_goals first|rw[cd]at p|rw[zJ]at p
 all_goals (simp at p;obtain⟨rfl,rfl⟩:=p)
 case add=>refine ay l ?_ (cE _ _);unfold execOp;simp[j,g,f,eqGuard,binOp,Op.intArith]
 case sub=>refine ay l ?_ (cE _ _);unfold execOp;simp[j,g,f,eqGuard,binOp,Op.intArith]
 case mul=>refine ay l ?_ (cE _ _);unfold execOp;simp[j,g,f,eqGuard,binOp,Op.intArith]
 case and=>refine ay l ?_ (cE _ _);unfold execOp;simp[j,g,f,eqGuard,binOp,Op.intBits]
 case or=>refine ay l ?_ (cE _ _);unfold execOp;simp[j,g,f,eqGuard,binOp,Op.intBits]
 case xor=>refine ay l ?_ (cE _ _);unfold execOp;simp[j,g,f,eqGuard,binOp,Op.intBits]
 case eql=>refine ay l ?_ (AF _);unfold execOp;simp[j,g,f,eqGuard,binOp,Op.intCmp,sL]
 case neq=>refine ay l ?_ (AF _);unfold execOp;simp[j,g,f,eqGuard,binOp,Op.intCmp,bne,sL]
 case lss=>refine ay l ?_ (AF _);unfold execOp;simp[j,g,f,eqGuard,binOp,Op.intCmp]
 case leq=>refine ay l ?_ (AF _);unfold execOp;simp[j,g,f,eqGuard,binOp,Op.intCmp]
 case gtr=>refine ay l ?_ (AF _);unfold execOp;simp[j,g,f,eqGuard,binOp,Op.intCmp]
 case geq=>refine ay l ?_ (AF _);unfold execOp;simp[j,g,f,eqGuard,binOp,Op.intCmp]
def adu (R:Inv B J φ h w)(C:o.op = .binOp op tx x y ty){l :IntKind}{m:Int}(r:a.eval x = .int k m)(p:a.eval y = .int l n){j:Option (Pos×EO)}(f:(shI op k m n).run h=some (out,j)):OkX P B J φ h w o a out j:=by
 unfold shI at f;by_cases g:n<0
 ·simp[g,Q.run]at f
 ·simp[g]at f;cases op <;> first|(cases f;done)|skip
  all_goals (rw[cd]at f;cases f;refine ay R ?_ (cE _ _);unfold execOp;simp[C,r,p,eqGuard,binOp,Op.shift,g])
def iU (l:List UInt8):(⟨l.toArray⟩:ByteArray).toList=l:=by rw[ByteArray.toList_eq]
def gP {b:Nat}(h:cU (b::s)=true):b<256∧cU s=true:=by simp only[cU,n?,ι]at h;exact⟨cD.1 h.1,h.2⟩
def GP {b:Nat}(h:b<256)(f:cU s=true):cU (b::s)=true:=by simp only[cU,n?,ι];exact⟨cD.2 h,f⟩
def Ci {a b:Nat}(g:a<256)(f:b<256)(h:UInt8.ofNat a=UInt8.ofNat b):a=b:=by have:=C_ UInt8.toNat h;simpa[S? g,S? f]using this
def Co:∀{a b:List Nat},cU a=true→cU b=true→xu a b=(a.map UInt8.ofNat == b.map UInt8.ofNat)
 |[],[],_,_=>rfl
 |[],_::_,_,_=>rfl
 |_::_,[],_,_=>rfl
 |x::a,y::b,ha,f=>by
  obtain⟨r,p⟩:=gP ha;obtain⟨l,j⟩:=gP f;have g:=Co p j;simp only[xu,i?];by_cases e:x=y
  ·subst e;have:Nat.beq x x=true:=as8 x;rw[this,ξ,g];simp
  ·have:Nat.beq x y=false:=by cases f:Nat.beq x y with|false=>rfl|true=>exact absurd (κ f) e
   rw[this,S'];symm;simp;exact λq=>absurd (Ci r l q) e
def KV:∀{a b:List Nat},cU a=true→cU b=true→Ve a b=Op.bytesLess (a.map UInt8.ofNat) (b.map UInt8.ofNat)
 |[],[],_,_=>rfl
 |[],_::_,_,_=>rfl
 |_::_,[],_,_=>rfl
 |x::a,y::b,ha,g=>by
  obtain⟨p,J⟩:=gP ha;obtain⟨l,C⟩:=gP g;have r:=KV J C;simp[Ve,Op.bytesLess];have f:(UInt8.ofNat x<UInt8.ofNat y)↔x<y:=by rw[UInt8.lt_iff_toNat_lt];simp[S? p,S? l]
  by_cases e:x<y
  ·rw[show Nat.blt x y=true from cD.2 e];simp[f.2 e]
  ·rw[show Nat.blt x y=false from af8 e];have:¬UInt8.ofNat x<UInt8.ofNat y:=λq=>e (f.1 q);simp[this];by_cases j:x=y
   ·subst j;rw[show Nat.beq x x=true from as8 x];simp[r]
   ·rw[show Nat.beq x y=false by cases g:Nat.beq x y with|false=>rfl|true=>exact absurd (κ g) j];have:¬UInt8.ofNat x=UInt8.ofNat y:=λq=>j (Ci p l q);simp[this]
def Ny {a b:List Nat}(g:cU a=true)(f:cU b=true):cU (a++b)=true:=by simp only[cU,List.all_append,ι];exact⟨g,f⟩
def UY {a:List Nat}(n:Nat)(g:cU a=true):cU (a.take n)=true:=by simp[cU]at *;exact λb f=>g b (Z_ f)
def GQ {a:List Nat}(n:Nat)(g:cU a=true):cU (a.drop n)=true:=by simp[cU]at *;exact λb f=>g b (k? f)
def PF (a b:List Nat):pw (a++b) = .string ((⟨(a.map UInt8.ofNat).toArray⟩:ByteArray)++⟨(b.map UInt8.ofNat).toArray⟩):=by unfold pw;congr 1;apply asZ;simp
def vL (a:List Nat):(⟨(a.map UInt8.ofNat).toArray⟩:ByteArray).size=a.length:=by simp[ByteArray.size]
def aji (hI:Inv B J φ h w)(T:o.op = .binOp op tx x y ty){m n:List Nat}(j:cU m=true)(g:cU n=true)(R:a.eval x=pw m)(C:a.eval y=pw n){r:Option (Pos×EO)}(f:(aga op m n).run h=some (out,r)):OkX P B J φ h w o a out r:=by
 have p:=Co j g;have l:=KV j g;cases op <;> simp[aga]at f <;> first|(cases f;done)|skip
 case add=>
  by_cases U:m.length+n.length<4294967296
  ·rw[show Nat.blt (m.length+n.length) 4294967296=true from cD.2 U,ξ]at f;cases f;refine ay hI ?_ (ur (Ny j g));rw[PF];unfold execOp;simp only[T,R,C,pw,eqGuard,binOp,Op.stringOp,vL];simp;omega
  ·rw[show Nat.blt (m.length+n.length) 4294967296=false from af8 U]at f;cases f
 all_goals (rw[zJ]at f;cases f;refine ay hI ?_ (AF _);unfold execOp;simp[T,R,C,pw,eqGuard,binOp,Op.stringOp,p,l])
def aoq (p:Inv B J φ h w){op:UnOp}(l:o.op = .unOp op t x)(R:RTs φ C [a.eval x]){r:Option (Pos×EO)}(g:(eUn op C f).run h=some (out,r)):OkX P B J φ h w o a out r:=by
 unfold eUn at g;split at g
 ·obtain⟨v,e,j⟩:=R.one;cases e;split at g
  ·rw[zJ]at g;cases g;refine ay p ?_ (AF _);unfold execOp;simp[l,rt_bl j,Op.unary]
  ·rw[cd]at g;cases g;refine ay p ?_ (cE _ _);unfold execOp;simp[l,dg j,Op.unary,Op.intArith]
  ·rw[cd]at g;cases g;refine ay p ?_ (cE _ _);unfold execOp;simp[l,dg j,Op.unary,Op.intBits]
  ·cases g
 ·cases g
def ajg (hI:Inv B J φ h w){s:TypeId}(T:o.op = .convert s t x)(r:P.underlying s=some (.int U))(p:P.underlying t=some (.int k))(l:RTs φ C [a.eval x]){j:Option (Pos×EO)}(g:(Sz k C f).run h=some (out,j)):OkX P B J φ h w o a out j:=by
 unfold Sz at g;split at g
 ·obtain⟨v,e,R⟩:=l.one;cases e;split at g
  ·rw[cd]at g;cases g;refine ay hI ?_ (cE _ _);unfold execOp;simp[T,dg R,convert,ε r,ε p,Conv.intToInt]
  ·cases g
 ·cases g
def amA (hI:Inv B J φ h w){s:TypeId}(ho:o.op = .convert s t x)(hs:P.underlying s=some (.int U))(ht:P.underlying t=some .string)(T:RTs φ C [a.eval x]){R:Option (Pos×EO)}(g:(aeT C f).run h=some (out,R)):OkX P B J φ h w o a out R:=by
 unfold aeT at g;split at g
 ·obtain⟨v,e,p⟩:=T.one;cases e;split at g
  next n=>
   by_cases r:n<128
   ·rw[show Nat.blt n 128=true from cD.2 r,ξ]at g;cases g;refine ay hI ?_ (ur (GP Ω rfl));have l:Utf8.valid (Int.ofNat n)=true:=by
     simp only[Utf8.valid,ar6,ι,Δ];refine .inl ⟨Int.natCast_nonneg n, ?_⟩;show(n:Int)<55296;omega
    have j:Utf8.encode (Int.ofNat n)=⟨#[UInt8.ofNat n]⟩:=by unfold Utf8.encode;rw[l];simp[r]
    unfold execOp;have p:=dg p;simp at j p;simp[ho,p,convert,ε hs,ε ht,Conv.intToString,j,pw]
   ·rw[show Nat.blt n 128=false from af8 r]at g;cases g
  ·cases g
 ·cases g
def aiX (U:Inv B J φ h w){s:TypeId}(T:o.op = .convert s t x)(R:P.underlying s=some .string)(r:P.underlying t=some .string)(p:RTs φ C [a.eval x]){j:Option (Pos×EO)}(g:(Sp C f).run h=some (out,j)):OkX P B J φ h w o a out j:=by
 unfold Sp at g;split at g
 ·obtain⟨v,e,l⟩:=p.one;cases e;split at g
  ·cases g;obtain⟨h1,h2⟩:=mF l;refine ay U ?_ l;unfold execOp;simp[T,h2,pw,convert,ε R,ε r]
  ·cases g
 ·cases g
end
open Go Go.RowKit
variable [SymVal]
def Yd {φ:Gx}:∀{l:List CV},(∀c∈l,∃v,den φ c=some v)→∃vs,bq φ l=some vs
 |[],_=>⟨[],rfl⟩
 |c::l,h=>by obtain⟨v,g⟩:=h c Ψ;obtain⟨vs,j⟩:=Yd (l:=l) λx f=>h x (by simp[f]);exact⟨v::vs,wW g j⟩
def pS (b f j:Nat):(⟨b,f,none⟩:Addr).add j=⟨b,f+j,none⟩:=by unfold Addr.add;split <;> simp_all
section
variable {P:Program}{B:Nat}{J:W0}{φ:Gx}{h:Pos→EO}{w:World}{o:Oper}{a:Act}
variable{k f:Pos}{off:Nat}{cs new:List CV}{l:Loc}{t:TypeId}{b:Bool}{C:List TV}{out:TV}{news:List Value}
def Inv.rd (hI:Inv B J φ h w){g m:Nat}(f:Gp (h k) g off m=some cs)(hl:φ.loc k g=some l) :
  ∃vs,bq φ cs=some vs∧cs.length=m∧(∀j u,vs[j]? = some u→w.cell? ((⟨l.b,off,none⟩:Addr).add j)=some u)∧∃e len C fz s el,h k = .row e s el len C fz∧l.s=s∧0<s:=by
 have ho:=hI.obj k;unfold Gp at f;split at f
 next e s el len C fz hk=>
  rw[hk]at ho;obtain⟨h0,_,_,h2,h3⟩:=ho;cases R:(Nat.ble g C&&Nat.blt (off/s) len)with
  |false=>rw[R]at f;cases f
  |true=>
   rw[R,ξ]at f;simp[bD,cD]at R;obtain⟨c1,c2⟩:=R;split at f;rename_i p mm U;cases hd:(Nat.ble mm g&&Nat.ble (off%s+m) s)with
   |false=>rw[hd]at f;cases f
   |true=>
    rw[hd,ξ]at f;simp[bD]at hd;obtain⟨d1,d2⟩:=hd;cases f;obtain⟨l',q1,⟨q2,q3,arr,fr,q4,q5,q6,q7⟩,q8⟩:=h3 g c1;rw[q1]at hl;injection hl with hl;subst hl;obtain⟨r1,r2,r3⟩:=q7 (off/s) c2 (by rw[U];exact d1);rw[U]at r2 r3;have hdm:off/s*s+off%s=off:=by rw[R?];exact atk off s
    have pt:∀(j:Nat) (c:CV),((p.drop (off%s)).take m)[j]? = some c→∃v,arr[off+j]? = some v∧den φ c=some v:=λj c r=>by
     rw[E']at r;split at r
     ·rw[U']at r;obtain⟨v,z1,z2⟩:=r3 _ _ r;rw[←Nat.add_assoc,hdm]at z1;exact⟨v,z1,z2⟩
     ·cases r
    obtain⟨vs,P⟩:=Yd (φ:=φ) (l:=(p.drop (off%s)).take m) λc R=>by obtain⟨j,r⟩:=v? R;obtain⟨v,_,z⟩:=pt j c r;exact⟨v,z⟩
    have T:((p.drop (off%s)).take m).length=m:=by rw[h_,ass];have r2:p.length=s:=r2;omega
    refine⟨vs,P,T,λj u hu=>?_,e,len,C,fz,s,el,hk,q3,h0⟩;have r:j<((p.drop (off%s)).take m).length:=by rw[←bo P];exact(g_.1 hu).1
    obtain⟨v,z1,z2⟩:=pt j _ (ζ r);obtain⟨v',z3,z4⟩:=qY P (ζ r);rw[hu]at z3;cases z3;rw[z2]at z4;cases z4;rw[pS,asN w l'.b _ arr e fr q4];exact z1
 ·cases f
def agK (f:ap P t≠0):∃i,P.info? t=some i∧i.size=ap P t:=by
 unfold ap at f⊢;split at f
 next i g=>exact⟨i,g,rfl⟩
 ·exact absurd rfl f
def aJ (f:ap P t≠0)(w:World):(sizeOf t).run P w = .ok (ap P t) w:=by obtain⟨i,g,e⟩:=agK f;simp[sizeOf,typeInfo,g,e]
def run_isAgg (f:jj (P.underlying t)=some b)(w:World):(isAgg t).run P w = .ok b w:=by
 cases g:P.underlying t with
 |none=>rw[g]at f;cases f
 |some d =>rw[g]at f;simp[isAgg,ν,ε g];cases d <;> simp[jj]at f <;> subst f <;> rfl
def ai6 (U:Inv B J φ h w){x:Operand}(ho:o.op = .load t x)(hs:ap P t≠0)(hb:jj (P.underlying t)=some b)(hv:RTs φ C [a.eval x]){wr:Option (Pos×EO)}(j:(Ic (ap P t) b C f).run h=some (out,wr)):OkX P B J φ h w o a out wr:=by
 unfold Ic at j;split at j
 ·obtain⟨v,e,hr⟩:=hv.one;cases e;split at j
  next k g off=>
   simp[Q.run]at j;split at j
   ·rename_i cs T;obtain⟨l,hl,e⟩:=gN hr;obtain⟨vs,q1,q2,q3,_⟩:=U.rd T hl;have R:vs.length=ap P t:=by rw[bo q1,q2]
    unfold Qe at j;split at j
    ·rename_i p r;cases j;unfold I4 at r;cases b with
     |true =>cases r;refine ay U (v :=.agg vs.toArray) ?_ (by show bg φ (.agg cs)=_;simp[bg,q1]);unfold execOp;have:=B? (P:=P) w ⟨l.b,off,none⟩ vs q3;rw[R]at this;simp[ho,e,Instr.loadAt,Instr.sureAddr,loadVar,run_isAgg hb,aJ hs,this]
     |false=>
      simp only at r;split at r
      next c=>cases r;obtain⟨v,ws,rfl,z1,z2⟩:=co q1;refine ay U (v:=v) ?_ z1;unfold execOp;have hc:=q3 0 v rfl;rw[show((⟨l.b,off,none⟩:Addr).add 0)=⟨l.b,off,none⟩by simp[Addr.add]]at hc;simp[ho,e,Instr.loadAt,Instr.sureAddr,loadVar,run_isAgg hb,run_load,hc]
      ·cases r
    ·cases j
   ·cases j
  ·cases j
 ·cases j
def TX {j:Nat}(f:off+new.length≤cs.length):(dF cs off new)[j]? = if off≤j∧j<off+new.length then new[j-off]? else cs[j]?:=by
 unfold dF;by_cases g:j<off
 ·rw[ο Ω,k_,ω (by rw[h_];omega),E',β g]
 ·by_cases l:j<off+new.length
  ·rw[β Ω,k_,P' (by rw[h_];omega),h_,Y? Ω,ω Ω]
  ·rw[ο Ω,P' (by rw[a_,h_];omega),a_,h_,Y? Ω,U'];congr 1;omega
def TW (f:off+new.length≤cs.length):(dF cs off new).length=cs.length:=by unfold dF;simp;omega
def zb {f:Array Value}{j:Nat}(g:off+news.length≤f.size):(f.toList.take off++news++f.toList.drop (off+news.length)).toArray[j]? = if off≤j∧j<off+news.length then news[j-off]? else f[j]?:=by
 rw[asE];have l:f.toList.length=f.size:=ρ;by_cases p:j<off
 ·rw[ο Ω,k_,ω (by rw[h_];omega),E',β p,l_]
 ·by_cases r:j<off+news.length
  ·rw[β Ω,k_,P' (by rw[h_];omega),h_,Y? Ω,ω Ω]
  ·rw[ο Ω,P' (by rw[a_,h_];omega),a_,h_,Y? Ω,U',l_];congr 1;omega
def Inv.wr (hI:Inv B J φ h w){g:Nat}{o':EO}(hr:Fd (h k) g off new=some o')(hl:φ.loc k g=some l)(hn:bq φ new=some news) :
  ∃p e,w.heap[l.b]? = some (.cells p e (0,0))∧off+news.length≤p.size∧Inv B J φ (upd h k o') (w.setRow l.b (p.toList.take off++news++p.toList.drop (off+news.length)).toArray):=by
 have ho:=hI.obj k;have hnl:=bo hn;unfold Fd at hr;split at hr
 next e s el len gen fz hk=>
  rw[hk]at ho;obtain⟨h0,h1,hm,h2,h3⟩:=ho;cases hc:(Nat.beq g gen&&Nat.blt (off/s) len&&Nat.ble (off%s+new.length) s&&RW fz)with
  |false=>rw[hc]at hr;cases hr
  |true=>
   rw[hc,ξ]at hr;simp[bD,cD]at hc;obtain⟨⟨⟨rfl,c2⟩,c3⟩,c4⟩:=hc;have c4:fz = .no:=by cases fz <;> first|rfl|cases c4
   subst c4;split at hr;rename_i R mm hch;cases hr;obtain⟨l',q1,⟨q2,q3,p,fr,q4,q5,q6,q7⟩,q8⟩:=h3 g (δ _);rw[q1]at hl;injection hl with hl;subst hl;have q6:fr=(0,0):=q6;subst q6;have hmc:=hm _ c2;rw[hch]at hmc;obtain⟨r1,r2,r3⟩:=q7 (off/s) c2 (by rw[hch];exact hmc);rw[hch]at r2 r3;have r2:R.length=s:=r2;have hdm:off/s*s+off%s=off:=by rw[R?];exact atk off s
   have P:off+news.length≤p.size:=by have h5:(off/s+1)*s≤l'.n*s:=Y' s r1;have h6:(off/s+1)*s=off/s*s+s:=P_ _ _;rw[q5,hnl];omega
   refine⟨p,e,q4,P, ?_⟩;refine hI.turn (ψ:=φ) (Gx.le.refl φ) (λ_ _=>⟨λ_=>rfl,rfl,rfl⟩) (λg1 l1 x=>.inl ⟨g1,l1,x,rfl⟩) (λb hb hne=>ar8 w l'.b b _ (λe=>hne g l' q1 e.symm)) ?_ rfl rfl rfl (by simp[World.setRow]) (δ _) ?_
   ·intro g1 l1 z1 ob z2 z3;obtain hgt|hle:=T' g g1
    ·rw[h2 g1 hgt]at z1;cases z1
    ·obtain⟨l2,y1,⟨y2,y3,arr2,fr2,U,_⟩,_⟩:=h3 g1 hle;rw[y1]at z1;cases z1;rw[U]at z2;cases z2;cases z3
   ·have C:∀i,(el.set dch 32 (off/s) ⟨dF R (off%s) new,g⟩).get dch i=if off/s=i then⟨dF R (off%s) new,g⟩else el.get dch i:=λi=>PT.get_set dch _ 32 el (off/s) i Ω
    refine⟨h0,h1,λi hi=>?_,h2,λg1 hg1=>?_⟩
    ·rw[C];split
     ·exact δ _
     ·exact hm i hi
    ·obtain⟨l2,y1,⟨y2,y3,arr2,fr2,U,y5,y6,y7⟩,y8⟩:=h3 g1 hg1;refine⟨l2,y1, ?_,y8⟩;by_cases hb:l2.b=l'.b
     ·rw[hb,q4]at U;injection U with U;injection U with U _ y6';subst U;subst y6';have hsz:(p.toList.take off++news++p.toList.drop (off+news.length)).toArray.size=p.size:=by
       simp;omega
      refine⟨by rw[hb];exact q2,y3,_,(0,0),by rw[hb];exact asJ w l'.b p _ e _ q4,by rw[hsz];exact y5,rfl,λi hi f=>?_⟩;rw[C]at f⊢;by_cases r:off/s=i
      ·rw[β r]at f⊢;have:g1=g:=Nat.le_antisymm hg1 f;subst this;rw[q1]at y1;cases y1;subst r;refine⟨r1,by show(dF R (off%s) new).length=s;rw[TW Ω];exact r2,λj c T=>?_⟩;have T:(dF R (off%s) new)[j]? = some c:=T;rw[TX Ω]at T;rw[zb P];by_cases hin:off%s≤j∧j<off%s+new.length
       ·rw[β hin]at T;obtain⟨v,z1,z2⟩:=qY hn T;refine⟨v, ?_,z2⟩;rw[β (by rw[hnl];omega),show off/s*s+j-off=j-off%s by omega];exact z1
       ·rw[ο hin]at T;rw[ο (by rw[hnl];omega)];exact r3 j c T
      ·rw[ο r]at f⊢;obtain⟨x1,x2,x3⟩:=y7 i hi f;refine⟨x1,x2,λj c T=>?_⟩;have hjs:j<s:=by
        have:=(g_.1 T).1;omega
       have hne:¬(off≤i*s+j∧i*s+j<off+news.length):=by
        rw[hnl];intro hx;rcases T' i (off/s)with hlt|hge
        ·have h5:(i+1)*s≤off/s*s:=Y' s hlt;have h6:(i+1)*s=i*s+s:=P_ _ _;omega
        ·have h5:(off/s+1)*s≤i*s:=Y' s Ω;have h6:(off/s+1)*s=off/s*s+s:=P_ _ _;omega
       rw[zb P,ο hne];exact x3 j c T
     ·refine⟨y2,y3,arr2,fr2,by rw[ar8 w l'.b l2.b _ hb];exact U,y5,y6,λi hi f=>?_⟩;rw[C]at f⊢;by_cases r:off/s=i
      ·rw[β r]at f;have:g1=g:=Nat.le_antisymm hg1 f;subst this;rw[q1]at y1;cases y1;exact absurd rfl hb
      ·rw[ο r]at f⊢;exact y7 i hi f
 ·cases hr
def GK (hI:Inv B J φ h w){x y:Operand}(ho:o.op = .store t x y)(hs:ap P t≠0)(hv:RTs φ C [a.eval x,a.eval y]){wr:Option (Pos×EO)}(j:(CF (ap P t) C f).run h=some (out,wr)):OkX P B J φ h w o a out wr:=by
 unfold CF at j;split at j
 ·obtain⟨v1,ws,e,hr1,hr2⟩:=hv.cons;obtain⟨v2,e2,U⟩:=hr2.one;subst e2;simp at e;obtain⟨e1,e2⟩:=e;subst e1;subst e2;split at j
  next k g off p=>
   cases R:Nat.beq p.cells.length (ap P t)with
   |false=>rw[R]at j;cases j
   |true=>
    rw[R,ξ]at j;have R:=q0.1 R;simp[Q.run]at j;split at j
    ·rename_i o' hw;cases j;obtain⟨l,hl,e⟩:=gN hr1;have hd:=dD U;obtain⟨arr,e',z1,z2,z3⟩:=hI.wr hw hl hd;refine Ew ?_ (Gx.le.refl φ) z3 (C4 hw);have T:(a.eval y).cells.size=ap P t:=by
      have:=bo hd;rw[←R,←this,ρ]
     have r:=u? P l.b off e' (a.eval y).cells.toList 0 arr w z1 (by simpa using z2) (Bo hd);simp at r;unfold execOp;simp[ho,e,Instr.storeAt,Instr.sureAddr,storeVar,aJ hs,T,r]
    ·cases j
  ·cases j
 ·cases j
end
open Go Go.RowKit
variable [SymVal]
def WA:∀l:List UInt8,(l.map UInt8.toNat).map UInt8.ofNat=l
 |[]=>rfl
 |b::l=>by simp[WA l,UInt8.ofNat_toNat]
def Q1:∀l:List UInt8,cU (l.map UInt8.toNat)=true
 |[]=>rfl
 |b::l=>GP (UInt8.toNat_lt b) (Q1 l)
variable{v:Value}
def Io {c:CV}(h:akn v=some c)(φ:Gx):den φ c=some v:=by
 unfold akn at h;split at h;all_goals first|(simp at h;subst h)|skip
 all_goals first|rfl|skip
 next s=>simp only[den,Q1,h?,pw,WA]
 next f a b=>
  split at h
  next hab=>cases h;simp only[den];have j:a = #[]:=g? hab.1;have g:b = #[]:=g? hab.2;rw[j,g]
  ·cases h
 ·cases h
def D0:∀{l:List Value} {f:List CV},Yf l=some f→∀φ,bq φ f=some l
 |[],f,h,φ=>by cases h;rfl
 |v::l,f,h,φ=>by
  simp[Yf]at h;split at h
  next c r h1 h2=>cases h;exact wW (Io h1 φ) (D0 h2 φ)
  ·cases h
def Gr {p:PV}(h:aiG v=some p)(φ:Gx):bg φ p=some v:=by
 unfold aiG at h;split at h
 next cs=>
  split at h
  next l hl=>cases h;simp[bg,D0 hl φ]
  ·cases h
 ·split at h
  next c hc=>cases h;exact Io hc φ
  ·cases h
section
variable {P:Program}{B:Nat}{J:W0}{φ:Gx}{h:Pos→EO}{w:World}{o:Oper}{a:Act}
variable{t e:TypeId}{cs:List CV}{f:Pos}{C:List TV}{out:TV}{x y:Operand}{n m:Nat}{T:Array Field}{R:Field}{vs:List Value}{b:Bool}
def gU {z:PV}(f:eQ P t=some z):∃i v,P.info? t=some i∧i.zero=some v∧∀φ,bg φ z=some v:=by
 unfold eQ at f;split at f
 next i j=>
  split at f
  next v g=>exact⟨i,v,j,g,λφ=>Gr f φ⟩
  ·cases f
 ·cases f
def Inv.box (P:Inv B J φ h w){k:Pos}(R:h k = .none){f:Array Value}(U:bq φ cs=some f.toList)(hs:0<cs.length) :
  ∃r,φ.le r∧Inv B J r (upd h k (.row e cs.length (.node .leaf ⟨cs,0⟩ .leaf) 1 0 .no)) (w.alloc (.cells f e))∧RT r (.pv (.one (.ptr k 0 0))) (.pointer (some ⟨w.heap.size,0,none⟩)):=by
 have p:=P.le_add R ⟨w.heap.size,1,cs.length⟩;have C:f.size=cs.length:=by rw[←Array.length_toList,bo U]
 refine⟨_,p,P.new R (l:=⟨w.heap.size,1,cs.length⟩) rfl ⟨hs,by decide,λi T=>?_,λg hg=>?_,λg hg=>⟨⟨w.heap.size,1,cs.length⟩, ?_,⟨P.size,rfl,f,(0,0),B_ w _,by simp[C],rfl,λi T _=>⟨T, ?_⟩⟩,λ_=>δ _⟩⟩, ?_⟩
 ·obtain rfl:i=0:=Ω
  exact δ _
 ·simp only[Gx.add,h?];rw[ο Ω]
 ·obtain rfl:g=0:=Ω
  exact Gx.add_self _ _ _
 ·obtain rfl:i=0:=Ω
  refine⟨rfl,λj c hj=>?_⟩;obtain⟨v,h1,h2⟩:=qY U hj;exact⟨v,by simpa using h1,fH p h2⟩
 ·show den _ (.ptr k 0 0)=_;simp[den,Gx.add_self]
def F1 {v:Value}(w:World):(newVar t v).run P w = .ok ⟨w.heap.size,0,none⟩ (w.alloc (.cells v.cells t)):=by rfl
def GO (T:Inv B J φ h w){z:PV}(r:o.op = .alloc e)(p:eQ P e=some z)(hs:z.cells.length≠0)(R:h f = .none){j:Option (Pos×EO)}(g:(N9 e z.cells C f).run h=some (out,j)):OkX P B J φ h w o a out j:=by
 unfold N9 at g;split at g
 ·cases g;obtain⟨i,v,h1,h2,U⟩:=gU p;obtain⟨ψ,q1,q2,l⟩:=T.box R (e:=e) (dD (U φ)) Ω;refine g9 ?_ q1 q2 l;unfold execOp;simp[r,Instr.alloc,zeroValue,typeInfo,h1,h2,F1]
 ·cases g
def UU (hI:Inv B J φ h w)(U:o.op = .box e x)(hs:ap P e≠0)(hf:h f = .none)(R:RTs φ C [a.eval x]){l:Option (Pos×EO)}(g:(aeW e (ap P e) C f).run h=some (out,l)):OkX P B J φ h w o a out l:=by
 unfold aeW at g;split at g
 ·obtain⟨v,e1,T⟩:=R.one;cases e1;split at g
  next p=>
   cases j:Nat.beq p.cells.length (ap P e)with
   |false=>rw[j]at g;cases g
   |true =>rw[j,ξ]at g;have j:=q0.1 j;cases g;obtain⟨ψ,q1,q2,r⟩:=hI.box hf (e:=e) (dD T) Ω;rw[j]at q2;refine g9 ?_ q1 q2 r;unfold execOp;simp[U,Instr.box,F1]
  ·cases g
 ·cases g
def ZO (T:Inv B J φ h w)(p:o.op = .nilCheck x)(R:RTs φ C [a.eval x]){r:Option (Pos×EO)}(j:(Bm C f).run h=some (out,r)):OkX P B J φ h w o a out r:=by
 unfold Bm at j;split at j
 ·obtain⟨v,e,g⟩:=R.one;cases e;split at j;all_goals first|(cases j;done)|skip
  all_goals (cases j;refine ay T (v:=a.eval x) ?_ g;unfold execOp)
  ·obtain⟨l,_,e⟩:=gN g;simp[p,e]
  ·have e:some (Value.pointer (some ⟨_,0,none⟩))=some (a.eval x):=g;simp at e;simp[p,←e]
  ·have e:some (Value.func (.func _) #[] #[])=some (a.eval x):=g;simp at e;simp[p,←e]
  next k=>
   have g:den φ (.ifc k)=some (a.eval x):=g;simp[den]at g;split at g
   ·simp at g;simp[p,←g]
   ·cases g
 ·cases j
def ajf (hI:Inv B J φ h w){s:TypeId}(ho:o.op = .fieldAddr s x n)(hs:P.underlying s=some (.struct T))(hn:T[n]? = some R)(U:ap P R.type≠0)(hv:RTs φ C [a.eval x]){r:Option (Pos×EO)}(j:(Sw R.offset C f).run h=some (out,r)):OkX P B J φ h w o a out r:=by
 unfold Sw at j;split at j
 ·obtain⟨v,e,hr⟩:=hv.one;cases e;split at j
  next k g p=>cases j;obtain⟨l,hl,e⟩:=gN hr;refine ay hI (v :=.pointer (some ⟨l.b,p+R.offset,none⟩)) ?_ (by show den φ (.ptr k g (p+R.offset))=_;simp[den,hl]);unfold execOp;simp[ho,e,Instr.fieldAt,ε hs,hn,Instr.sureAddr,fieldPlace,aJ U,U,pS]
  ·cases j
 ·cases j
def WW {f s:Nat}{p:PV}(r:bq φ cs=some vs)(j:I4 b ((cs.drop f).take s)=some p)(T:f+s≤cs.length)(R:ap P t≠0)(J:ap P t=s)(C:jj (P.underlying t)=some b)(w:World):∃v,(part t vs.toArray f).run P w = .ok v w∧bg φ p=some v:=by
 have g:=lS s (jq f r);have l:=bo r;subst J;cases b with
 |true =>cases j;refine⟨.agg ((vs.drop f).take (ap P t)).toArray, ?_,by simp[bg,g]⟩;simp only[part,ν,run_isAgg C,Θ,h?,aJ R,Z'];congr 2;apply i_;simp
 |false=>
  simp[I4]at j;split at j
  next c hc=>
   cases j;rw[hc]at g;obtain⟨v,ws,e1,h1,h2⟩:=co g;have U:vs[f]? = some v:=by
    have:((vs.drop f).take (ap P t))[0]? = some v:=by rw[e1];rfl
    rw[E']at this;split at this
    ·simpa[U']using this
    ·cases this
   refine⟨v, ?_,h1⟩;simp[part,ν,run_isAgg C,U]
  ·cases j
def amB (hI:Inv B J φ h w)(ho:o.op = .field t x n)(hs:P.underlying t=some (.struct T))(hn:T[n]? = some R)(r:ap P R.type≠0)(hb:jj (P.underlying R.type)=some b)(U:RTs φ C [a.eval x]){l:Option (Pos×EO)}(g:(aeU R.offset (ap P R.type) b C f).run h=some (out,l)):OkX P B J φ h w o a out l:=by
 unfold aeU at g;split at g
 ·obtain⟨v,e,hr⟩:=U.one;cases e;split at g
  next cs=>
   cases j:Nat.ble (R.offset+ap P R.type) cs.length with
   |false=>rw[j]at g;cases g
   |true=>
    rw[j,ξ]at g;have j:=bD.1 j;unfold Qe at g;split at g
    next p hp=>cases g;obtain⟨vs,e,hd⟩:=tO hr;obtain⟨v,h1,h2⟩:=WW (P:=P) hd hp j r rfl hb w;refine ay hI (v:=v) ?_ h2;unfold execOp;simp[ho,e,Instr.field,ε hs,hn,asAgg,h1]
    ·cases g
  ·cases g
 ·cases g
def ajc (hI:Inv B J φ h w)(ho:o.op = .indexAddr t x y)(hs:P.underlying t=some (.slice e))(hz:ap P e≠0)(hv:RTs φ C [a.eval x,a.eval y]){wr:Option (Pos×EO)}(j:(Lw (ap P e) C f).run h=some (out,wr)):OkX P B J φ h w o a out wr:=by
 unfold Lw at j;split at j
 ·obtain⟨v1,ws,p,hr1,hr2⟩:=hv.cons;obtain⟨v2,R,U⟩:=hr2.one;subst R;simp at p;obtain⟨p,R⟩:=p;subst p;subst R;split at j
  next k g T n cap ik i=>
   cases r:Nat.blt i n with
   |false=>rw[r]at j;cases j
   |true =>rw[r,ξ]at j;have r:=cD.1 r;cases j;obtain⟨l,hl,p⟩:=zK hr1;have R:=dg U;refine ay hI (v :=.pointer (some ⟨l.b,T+i*ap P e,none⟩)) ?_ (by show den φ (.ptr k g _)=_;simp[den,hl]);unfold execOp;simp[ho,p,R,Instr.indexAt,asIntOf,ε hs,aJ hz,pS,r]
  ·cases j
 ·cases j
def aje (hI:Inv B J φ h w)(ho:o.op = .indexAddr t x y)(hs:P.underlying t=some (.array m e))(hz:ap P e≠0)(hv:RTs φ C [a.eval x,a.eval y]){wr:Option (Pos×EO)}(j:(Sv m (ap P e) C f).run h=some (out,wr)):OkX P B J φ h w o a out wr:=by
 unfold Sv at j;split at j
 ·obtain⟨v1,ws,p,hr1,hr2⟩:=hv.cons;obtain⟨v2,R,U⟩:=hr2.one;subst R;simp at p;obtain⟨p,R⟩:=p;subst p;subst R;split at j
  next k g T ik i=>
   cases r:Nat.blt i m with
   |false=>rw[r]at j;cases j
   |true =>rw[r,ξ]at j;have r:=cD.1 r;cases j;obtain⟨l,hl,p⟩:=gN hr1;have R:=dg U;refine ay hI (v :=.pointer (some ⟨l.b,T+i*ap P e,none⟩)) ?_ (by show den φ (.ptr k g _)=_;simp[den,hl]);unfold execOp;simp[ho,p,R,Instr.indexAt,asIntOf,Instr.sureAddr,ε hs,aJ hz,pS,r]
  ·cases j
 ·cases j
def ajb (hI:Inv B J φ h w)(ho:o.op = .index t x y)(hs:P.underlying t=some .string)(hv:RTs φ C [a.eval x,a.eval y]){wr:Option (Pos×EO)}(g:(Lv C f).run h=some (out,wr)):OkX P B J φ h w o a out wr:=by
 unfold Lv at g;split at g
 ·obtain⟨v1,ws,l,hr1,U⟩:=hv.cons;obtain⟨v2,R,T⟩:=U.one;subst R;simp at l;obtain⟨l,R⟩:=l;subst l;subst R;split at g
  next b ik i=>
   split at g
   ·rename_i c r p;rw[cd]at g;cases g;obtain⟨h1,l⟩:=mF hr1;have R:=dg T;have j:i<b.length:=by
     obtain q|q:=T' i b.length
     ·exact q
     ·rw[arS q]at p;cases p
    have hg:b[i]=c:=by rw[asj j]at p;injection p
    have hc256:c<256:=by have:=GQ i h1;rw[p]at this;exact(gP this).1
    refine ay hI (v :=.int .u8 (Int.ofNat c)) ?_ (cE _ _);have hb:(⟨(b.map UInt8.ofNat).toArray⟩:ByteArray)[i]? = some (UInt8.ofNat c):=by
     rw[getElem?_pos (⟨(b.map UInt8.ofNat).toArray⟩:ByteArray) i (by simpa[ByteArray.size]using j)];have:(⟨(b.map UInt8.ofNat).toArray⟩:ByteArray)[i]'(by simpa[ByteArray.size]using j)=UInt8.ofNat b[i]:=by show(b.map UInt8.ofNat).toArray[i]'(by simpa using j)=_;simp
     rw[this,hg]
    unfold execOp;simp[ho,l,R,pw,Instr.index,asIntOf,ε hs,hb];omega
   ·cases g
  ·cases g
 ·cases g
def ajd (hI:Inv B J φ h w)(ho:o.op = .index t x y)(hs:P.underlying t=some (.array m e))(hz:ap P e≠0)(hb:jj (P.underlying e)=some b)(hv:RTs φ C [a.eval x,a.eval y]){wr:Option (Pos×EO)}(g:(Su m (ap P e) b C f).run h=some (out,wr)):OkX P B J φ h w o a out wr:=by
 unfold Su at g;split at g
 ·obtain⟨v1,ws,j,U,T⟩:=hv.cons;obtain⟨v2,r,R⟩:=T.one;subst r;simp at j;obtain⟨j,r⟩:=j;subst j;subst r;split at g
  next cs ik i=>
   cases l:(Nat.blt i m&&Nat.ble (i*ap P e+ap P e) cs.length)with
   |false=>rw[l]at g;cases g
   |true=>
    rw[l,ξ]at g;simp[cD,bD]at l;unfold Qe at g;split at g
    next p hp=>cases g;obtain⟨vs,j,hd⟩:=tO U;have r:=dg R;obtain⟨v,h1,h2⟩:=WW (P:=P) hd hp l.2 hz rfl hb w;refine ay hI (v:=v) ?_ h2;unfold execOp;simp[ho,j,r,Instr.index,asIntOf,ε hs,aJ hz,l.1,h1]
    ·cases g
  ·cases g
 ·cases g
def amC (hI:Inv B J φ h w)(ho:o.op = .extract x n)(R:RTs φ C [a.eval x]){j:Option (Pos×EO)}(g:(aaV n C f).run h=some (out,j)):OkX P B J φ h w o a out j:=by
 unfold aaV at g;split at g
 ·obtain⟨v,e,T⟩:=R.one;cases e;split at g
  next l=>
   split at g
   ·rename_i p r hd;cases g;obtain⟨vs,h1,e⟩:=T;have U:l[n]? = some p:=by
     have:(l.drop n)[0]? = some p:=by rw[hd];rfl
     simpa[U']using this
    obtain⟨v,h2,h3⟩:=LF h1 U;refine ay hI (v:=v) ?_ h3;unfold execOp;simp[ho,e,Instr.extract,h2]
   ·cases g
  ·cases g
 ·cases g
def amv (r:Inv B J φ h w)(ho:o.op = .makeInterface t x){d:TypeDesc}(hd:P.underlying t=some d)(hn:∀m,d ≠ .interface m)(l:h f = .none)(T:RTs φ C [a.eval x]){R:Option (Pos×EO)}(g:(akb t C f).run h=some (out,R)):OkX P B J φ h w o a out R:=by
 unfold akb at g;split at g
 ·obtain⟨v,e,U⟩:=T.one;cases e;split at g
  next p=>cases g;have j:=r.le_addV l (.iface t (a.eval x));refine g9 (v :=.iface t (a.eval x)) ?_ j (r.newV l ⟨(r.free l).1,a.eval x,cP j U,Gx.addV_self _ _ _⟩) (by show den _ (.ifc f)=_;simp[den,Gx.addV_self]);unfold execOp;cases d <;> first|(exact absurd rfl (hn _))|simp[ho,Instr.makeInterface,ε hd]
  ·cases g
 ·cases g
def SO {l:List PV}(n:Nat)(h:cN φ l=some vs):cN φ (l.take n)=some (vs.take n)∧cN φ (l.drop n)=some (vs.drop n):=by
 induction l generalizing n vs with
 |nil=>cases h;simp[cN]
 |cons p l f=>
  obtain⟨v,J,rfl,C,r⟩:=gR h;cases n with
  |zero=>exact⟨by simp[cN],h⟩
  |succ n =>obtain⟨j,g⟩:=f n r;exact⟨bU C j,g⟩
def amw (R:Inv B J φ h w){fn:Fn}{first g:Array Operand}(ho:o.op = .makeFunc fn first g)(r:h f = .none)(hv:RTs φ C ((first.toList++g.toList).map a.eval)){T:Option (Pos×EO)}(p:(akc fn first.size C f).run h=some (out,T)):OkX P B J φ h w o a out T:=by
 unfold akc at p;split at p
 next l hl=>
  cases p;have hd:=KA hl hv;obtain⟨h1,U⟩:=SO first.size hd
  have t1:((first.toList++g.toList).map a.eval).take first.size=first.toList.map a.eval:=by rw[ar5,atl Ψ]
  have t2:((first.toList++g.toList).map a.eval).drop first.size=g.toList.map a.eval:=by rw[ar5,ato Ψ]
  rw[t1]at h1;rw[t2]at U;have j:=R.le_addV r (.func fn (first.toList.map a.eval).toArray (g.toList.map a.eval).toArray);refine g9 (v :=.func fn (first.toList.map a.eval).toArray (g.toList.map a.eval).toArray) ?_ j (R.newV r ⟨(R.free r).1,_,_,dC j h1,dC j U,Gx.addV_self _ _ _⟩) (by show den _ (.clo f)=_;simp[den,Gx.addV_self]);unfold execOp;have e1:first.map a.eval=(first.toList.map a.eval).toArray:=i_ Ψ
  have e2:g.map a.eval=(g.toList.map a.eval).toArray:=i_ Ψ;simp[ho,Instr.makeFunc,e1,e2]
 ·cases p
def aln (hI:Inv B J φ h w){cl:Call}{big:Bool}(ho:o.op = .call cl)(U:cl.callee = .builtin (match big with|true=>.max|false=>.min))(j:cl.args = #[x,y])(hv:RTs φ C [a.eval x,a.eval y]){wr:Option (Pos×EO)}(g:(eMx big C f).run h=some (out,wr)):OkX P B J φ h w o a out wr:=by
 unfold eMx at g;split at g
 ·obtain⟨v1,ws,l,T,R⟩:=hv.cons;obtain⟨v2,p,r⟩:=R.one;subst p;simp at l;obtain⟨l,p⟩:=l;subst l;subst p;split at g
  next k m k' n=>
   cases hc:kq k k' with
   |false=>rw[hc]at g;cases g
   |true =>rw[hc,ξ,cd]at g;have:=KX hc;subst this;cases g;have l:=dg T;have p:=dg r;refine ay hI ?_ (cE _ _);unfold execOp;cases big <;> simp[ho,resolve,U,j,invoke,builtin,Builtin.max_,Builtin.min_,Builtin.max2,Builtin.min2,l,p]
  ·cases g
 ·cases g
end
open Go Go.RowKit
variable [SymVal]
def yK:∀{a b:List CK} {l m:List CV} {r:Bool},eqL (a++b) l m=some r→∃r1 r2,eqL a (l.take a.length) (m.take a.length)=some r1∧eqL b (l.drop a.length) (m.drop a.length)=some r2∧r=(bif r1 then r2 else false)
 |[],b,l,m,r,h=>⟨true,r,by simp[eqL],by simpa using h,rfl⟩
 |k::a,b,x::l,y::m,r,h=>by
  simp[eqL]at h;split at h
  next f y1 h1 h2=>
   simp at h;obtain⟨r1,r2,q1,q2,g⟩:=yK h2;refine⟨(bif f then r1 else false),r2, ?_,by simpa using q2, ?_⟩
   ·simp[eqL,h1,q1]
   ·rw[←h,g];cases f <;> rfl
  ·cases h
 |k::a,b,[],_,r,h=>by simp[eqL]at h
 |k::a,b,_::_,[],r,h=>by simp[eqL]at h
def N8:∀{a:List CK} {l m:List CV} {r:Bool},eqL a l m=some r→l.length=a.length∧m.length=a.length
 |[],[],[],_,_=>⟨rfl,rfl⟩
 |k::a,x::l,y::m,r,h=>by
  simp[eqL]at h;split at h
  next h1 h2=>obtain⟨q1,q2⟩:=N8 h2;exact⟨by simp[q1],by simp[q2]⟩
  ·cases h
 |[],_::_,_,_,h=>by simp[eqL]at h
 |[],[],_::_,_,h=>by simp[eqL]at h
 |_::_,[],_,_,h=>by simp[eqL]at h
 |_::_,_::_,[],_,h=>by simp[eqL]at h
section
variable {P:Program}{B:Nat}{J:W0}{φ:Gx}{h:Pos→EO}{w:World}{o:Oper}{a:Act}
def PV.isAgg:PV→Bool
 |.agg _=>true
 |.one _=>false
def pB:Option TypeDesc→Bool
 |some (.struct _)=>true
 |_=>false
def Lp {d:Nat}{f:TypeId→Option (List CK)}(ih:∀t J,f t=some J→∀(p q:PV) vx vy r,bg φ p=some vx→bg φ q=some vy→p.isAgg=pB (P.underlying t)→q.isAgg=pB (P.underlying t)→eqL J p.cells q.cells=some r→(Op.equalIn d t vx vy).run P w = .ok r w)
  (hk:∀t J,f t=some J→jj (P.underlying t)=some (pB (P.underlying t))∧(pB (P.underlying t)=false→J.length=1)) (xs ys:Array Value):∀(T:List Field) (g:Nat) (J:List CK) (l m:List CV) (r:Bool),abl (ap P) f T g=some J→bq φ l=some (xs.toList.drop g)→bq φ m=some (ys.toList.drop g)→eqL J l m=some r→(Op.eqFields d xs ys T).run P w = .ok r w
 |[],g,J,l,m,r,hc,hx,hy,he=>by
  cases hc;cases l with
  |nil=>cases m with
   |nil=>cases he;rfl
   |cons _ _=>simp[eqL]at he
  |cons _ _=>simp[eqL]at he
 |R::T,g,J,l,m,r,hc,hx,hy,he=>by
  simp only[abl]at hc;split at hc
  next hn=>
   split at hc
   ·rename_i C hka;split at hc
    ·rename_i hz;split at hc
     ·rename_i kb hkb;cases hc;obtain⟨r1,r2,e1,e2,rfl⟩:=yK he;obtain⟨hl1,hm1⟩:=N8 e1;have hsz:ap P R.type≠0:=Ω
      obtain⟨hb,hk1⟩:=hk _ _ hka;have j:∀(l:List CV) (zs:Array Value),bq φ l=some (zs.toList.drop g)→(l.take C.length).length=C.length→∃p v,p.cells=l.take C.length∧p.isAgg=pB (P.underlying R.type)∧bg φ p=some v∧(part R.type zs R.offset).run P w = .ok v w:=by
       intro l zs hd hlen;have U:=lS C.length hd;cases hs:pB (P.underlying R.type)with
       |true =>rw[hs]at hb;refine⟨.agg (l.take C.length),.agg ((zs.toList.drop g).take C.length).toArray,rfl,rfl,by simp[bg,U], ?_⟩;simp[part,ν,run_isAgg hb,aJ hsz,Z',hn.2,hz.1];congr 2;apply i_;simp
       |false=>
        rw[hs]at hb;have hone:C.length=1:=hk1 hs;rw[hone]at U hlen;match hlt:l.take 1,hlen with
        |[c],_=>
         rw[hlt]at U;obtain⟨v,ws,e3,h1,h2⟩:=co U;have hg:zs[g]? = some v:=by
          have:((zs.toList.drop g).take 1)[0]? = some v:=by rw[e3];rfl
          rw[E']at this;split at this
          ·simpa[U']using this
          ·cases this
         refine⟨.one c,v,by rw[hone,hlt];rfl,rfl,h1, ?_⟩;simp[part,ν,run_isAgg hb,hn.2,hg]
      obtain⟨p,vx,p1,p2,p3,p4⟩:=j l xs hx hl1;obtain⟨q,vy,q1,q2,q3,q4⟩:=j m ys hy hm1;have hA:=ih R.type C hka p q vx vy r1 p3 q3 p2 q2 (by rw[p1,q1];exact e1);have hR:=Lp ih hk xs ys T (g+C.length) kb (l.drop C.length) (m.drop C.length) r2 hkb (by rw[←List.drop_drop];exact jq _ hx) (by rw[←List.drop_drop];exact jq _ hy) e2;simp[Op.eqFields,hn.1,ν,p4,q4,hA];cases r1 with
      |false=>simp
      |true=>simp[hR]
     ·cases hc
    ·cases hc
   ·cases hc
  ·cases hc
def S6:∀(d:Nat) (t:TypeId) (f:List CK),i4 P d t=some f→jj (P.underlying t)=some (pB (P.underlying t))∧(pB (P.underlying t)=false→f.length=1)
 |0,t,f,h=>by cases h
 |d+1,t,f,h=>by
  simp[i4]at h;split at h
  next hu=>cases h;rw[hu];exact⟨rfl,λ_=>rfl⟩
  next hu=>cases h;rw[hu];exact⟨rfl,λ_=>rfl⟩
  next hu=>cases h;rw[hu];exact⟨rfl,λ_=>rfl⟩
  next hu=>rw[hu];exact⟨rfl,λx=>by cases x⟩
  ·cases h
def EM:∀(d:Nat) (D:Nat) (t:TypeId) (ks:List CK),i4 P d t=some ks→∀(p q:PV) R J r,bg φ p=some R→bg φ q=some J→p.isAgg=pB (P.underlying t)→q.isAgg=pB (P.underlying t)→eqL ks p.cells q.cells=some r→(Op.equalIn (D+d) t R J).run P w = .ok r w
 |0,D,t,ks,h,p,q,R,J,r,_,_,_,_,_=>by cases h
 |d+1,D,t,ks,h,p,q,R,J,r,j,g,hp,hq,he=>by
  have one:∀{ck:CK},pB (P.underlying t)=false→ks=[ck]→∃c c',p = .one c∧q = .one c'∧eqC ck c c'=some r:=by
   intro ck hs hk;rw[hs]at hp hq;cases p with
   |agg l=>cases hp
   |one c=>
    cases q with
    |agg l=>cases hq
    |one c'=>
     refine⟨c,c',rfl,rfl, ?_⟩;rw[hk]at he;simp[PV.cells,eqL]at he;split at he
     next x y h1 h2=>simp at h2 he;subst h2;rw[h1];cases x <;> simp_all
     ·cases he
  simp[i4]at h;rw[←Nat.add_assoc];split at h
  next hu=>
   simp at h;obtain⟨c,c',rfl,rfl,f⟩:=one (by rw[hu];rfl) h.symm;cases c <;> cases c' <;> simp only[eqC]at f <;> first|(cases f;done)|skip
   rename_i a b;simp at f;have j:some (Value.bool a)=some R:=j;have g:some (Value.bool b)=some J:=g;injection j with j;injection g with g;subst j;subst g;subst f;rw[atd w (D+d) t a b hu];cases a <;> cases b <;> rfl
  next k hu=>
   simp at h;obtain⟨c,c',rfl,rfl,f⟩:=one (by rw[hu];rfl) h.symm;cases c <;> cases c' <;> simp[eqC]at f <;> first|(cases f;done)|skip
   rename_i U a k2 b;cases C:(kq k U&&kq k k2)with
   |false=>rw[C]at f;cases f
   |true =>rw[C]at f;simp at C;have e1:=KX C.1;have e2:=KX C.2;subst e1;subst e2;simp at f;have j:some (Value.int k a)=some R:=j;have g:some (Value.int k b)=some J:=g;injection j with j;injection g with g;subst j;subst g;subst f;rw[ati w (D+d) t k k a b hu,sL]
  next hu=>
   simp only[η]at h;obtain⟨c,c',rfl,rfl,f⟩:=one (by rw[hu];rfl) h.symm;cases c <;> cases c' <;> simp only[eqC]at f <;> first|(cases f;done)|skip
   rename_i a b;simp only[η]at f;obtain⟨h1,e1⟩:=mF (φ:=φ) (v:=R) j;obtain⟨h2,e2⟩:=mF (φ:=φ) (v:=J) g;subst e1;subst e2;subst f;rw[Co h1 h2];unfold pw;rw[as2 w (D+d) t _ _ hu,iU,iU]
  next T hu=>
   split at h
   ·cases h
   ·rename_i hst;have hst:P.stoodInHeld t=false:=by simpa using hst
    rw[hu]at hp hq;cases p with
    |one c=>cases hp
    |agg l=>
     cases q with
     |one c=>cases hq
     |agg m=>
      obtain⟨xs,e1,hd1⟩:=tO (φ:=φ) (v:=R) j;obtain⟨ys,e2,hd2⟩:=tO (φ:=φ) (v:=J) g;subst e1;subst e2;have hfo:P.fieldsOf t=T:=by simp[Program.fieldsOf,hu]
      rw[run_equalIn_struct w (D+d) t _ _ (by rw[hfo];exact hu) hst,hfo];exact Lp (λt ks hk p q R J r=>EM d D t ks hk p q R J r) (λt ks hk=>S6 d t ks hk) _ _ T.toList 0 ks l m r h (by simpa using hd1) (by simpa using hd2) he
  ·cases h
end
