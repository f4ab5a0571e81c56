/- Closed runs. -/
import Derived.Test.YthfdnklcgfkjoaaGreatDoorCloI
import Derived.Laws.BytesString
import Derived.Deep.AppendSrc
import Derived.Laws.MakeOwn
set_option linter.all false
namespace Go.Proofs.YthfdnklcgfkjoaaGreatDoor.Clo
open Go Go.RowKit
variable [SymVal]
section
variable {P:Program}{B:Nat}{J:W0}{φ:Gx}{h:Pos→EO}{w:World}{o:Oper}{a:Act}
def pG (neg:Bool):BinOp:=match neg with|true=>.neq|false=>.eql
def qU (neg b:Bool):Bool:=match neg with|true=>!b|false=>b
def ady (r:Inv B J φ h w){neg:Bool}{t p:TypeId}{x y:Operand}(f:o.op = .binOp (pG neg) t x y p){b:Bool}
  (g:(eqGuard (pG neg) t x y (a.eval x) (a.eval y)).run P w = .ok () w) (l:∀op,(op = .eql∨op = .neq)→binOp op t (a.eval x) (a.eval y)=(do pure (.bool (qU (match op with|.neq=>true|_=>false) (←Op.equal t (a.eval x) (a.eval y))))))
  (j:(Op.equal t (a.eval x) (a.eval y)).run P w = .ok b w):OkX P B J φ h w o a (.pv (.one (.bl (qU neg b)))) none:=by
 refine ay r ?_ (AF _);unfold execOp;cases neg
 ·simp[f,pG,ν];rw[show(eqGuard .eql t x y (a.eval x) (a.eval y)).run P w = .ok () w from g,l .eql (.inl rfl)];simp[j,qU]
 ·simp[f,pG,ν];rw[show(eqGuard .neq t x y (a.eval x) (a.eval y)).run P w = .ok () w from g,l .neq (.inr rfl)];simp[j,qU]
variable{v:Value}{k:Pos}
def WY {n:Nat}(h:RT φ (.pv (.one (.glob n))) v):v = .pointer (some ⟨n,0,none⟩):=(χ h).symm
def kZ (h:RT φ (.pv (.one .nilp)) v):v = .pointer none:=(χ h).symm
def eV (h:RT φ (.pv (.one .nils)) v):v = .slice none 0 0:=(χ h).symm
def rO (h:RT φ (.pv (.one .nilm)) v):v = .map none:=(χ h).symm
def vY (h:RT φ (.pv (.one .nilf)) v):v = .nilFunc:=(χ h).symm
def acS {f:FuncId}(h:RT φ (.pv (.one (.fnc f))) v):v = .func (.func f) #[] #[]:=(χ h).symm
def Em (h:RT φ (.pv (.one .nili)) v):v = .nilIface:=(χ h).symm
def acT (h:RT φ (.pv (.one (.clo k))) v):∃fn x y,φ.val k=some (.func fn x y)∧v = .func fn x y:=by
 have h:den φ (.clo k)=some v:=h;simp[den]at h;split at h
 next fn x y q=>exact⟨fn,x,y,q,(χ h).symm⟩
 ·cases h
def acR (h:RT φ (.pv (.one (.ifc k))) v):∃t u,φ.val k=some (.iface t u)∧v = .iface t u:=by
 have h:den φ (.ifc k)=some v:=h;simp[den]at h;split at h
 next t u q=>exact⟨t,u,q,(χ h).symm⟩
 ·cases h
def EqF (P:Program)(w:World)(neg:Bool)(t:TypeId)(x y:Operand)(g f:Value)(b:Bool):Prop :=
 (eqGuard (pG neg) t x y g f).run P w = .ok () w∧(∀op,(op = .eql∨op = .neq)→binOp op t g f=(do pure (.bool (qU (match op with|.neq=>true|_=>false) (←Op.equal t g f)))))∧(Op.equal t g f).run P w = .ok b w
section
variable {t e:TypeId}{neg:Bool}{x y:Operand}
def VL (f:P.underlying t=some (.pointer e))(q:Option Addr):EqF P w neg t x y (.pointer none) (.pointer q) q.isNone:=by
 refine⟨by cases neg <;> simp[eqGuard,pG],by rintro op (rfl|rfl) <;> simp[binOp,qU], ?_⟩;have:∀d,(Op.equalIn (d+1) t (.pointer none) (.pointer q)).run P w = .ok q.isNone w:=λd=>by simp[Op.equalIn,ε f]
 exact this 9999
def aeF (f:P.underlying t=some (.pointer e))(q:Addr):EqF P w neg t x y (.pointer (some q)) (.pointer none) false:=by
 refine⟨by cases neg <;> simp[eqGuard,pG],by rintro op (rfl|rfl) <;> simp[binOp,qU], ?_⟩;have:∀d,(Op.equalIn (d+1) t (.pointer (some q)) (.pointer none)).run P w = .ok false w:=λd=>by simp[Op.equalIn,ε f]
 exact this 9999
def ang (l:P.underlying t=some (.pointer e))(g:ap P e≠0)(b m n:Nat):EqF P w neg t x y (.pointer (some ⟨b,m,none⟩)) (.pointer (some ⟨b,n,none⟩)) (Nat.beq m n):=by
 refine⟨by cases neg <;> simp[eqGuard,pG],by rintro op (rfl|rfl) <;> simp[binOp,qU], ?_⟩;have p:((⟨b,m,none⟩:Addr) == ⟨b,n,none⟩)=Nat.beq m n:=by
  by_cases f:m=n
  ·subst f;simp[as8]
  ·have r:Nat.beq m n=false:=by cases j:Nat.beq m n with|false=>rfl|true=>exact absurd (q0.1 j) f
   rw[r];simp[f]
 have:∀d,(Op.equalIn (d+1) t (.pointer (some ⟨b,m,none⟩)) (.pointer (some ⟨b,n,none⟩))).run P w = .ok (Nat.beq m n) w:=λd=>by simp[Op.equalIn,ε l,aJ g,g,sameAddr,p]
 exact this 9999
def VK (f:P.underlying t=some (.slice e))(q:Option Addr)(n c:Nat):EqF P w neg t x y (.slice none 0 0) (.slice q n c) q.isNone:=by
 refine⟨by cases neg <;> simp[eqGuard,pG],by rintro op (rfl|rfl) <;> simp[binOp,qU], ?_⟩;have:∀d,(Op.equalIn (d+1) t (.slice none 0 0) (.slice q n c)).run P w = .ok q.isNone w:=λd=>by simp[Op.equalIn,ε f]
 exact this 9999
def aeG (f:P.underlying t=some (.slice e))(q:Addr)(n c:Nat):EqF P w neg t x y (.slice (some q) n c) (.slice none 0 0) false:=by
 refine⟨by cases neg <;> simp[eqGuard,pG],by rintro op (rfl|rfl) <;> simp[binOp,qU], ?_⟩;have:∀d,(Op.equalIn (d+1) t (.slice (some q) n c) (.slice none 0 0)).run P w = .ok false w:=λd=>by simp[Op.equalIn,ε f]
 exact this 9999
def aeH {k:TypeId}(f:P.underlying t=some (.map k e))(q:Option Nat):EqF P w neg t x y (.map none) (.map q) q.isNone:=by
 refine⟨by cases neg <;> simp[eqGuard,pG],by rintro op (rfl|rfl) <;> simp[binOp,qU], ?_⟩;have:∀d,(Op.equalIn (d+1) t (.map none) (.map q)).run P w = .ok q.isNone w:=λd=>by simp[Op.equalIn,ε f]
 exact this 9999
def ani {k:TypeId}(f:P.underlying t=some (.map k e))(q:Nat):EqF P w neg t x y (.map (some q)) (.map none) false:=by
 refine⟨by cases neg <;> simp[eqGuard,pG],by rintro op (rfl|rfl) <;> simp[binOp,qU], ?_⟩;have:∀d,(Op.equalIn (d+1) t (.map (some q)) (.map none)).run P w = .ok false w:=λd=>by simp[Op.equalIn,ε f]
 exact this 9999
variable{k l:Array TypeId}{m:Array (String×TypeId)}
def anm {m:Bool}(f:P.underlying t=some (.func k l m)):EqF P w neg t x y .nilFunc .nilFunc true:=by
 refine⟨by cases neg <;> simp[eqGuard,pG],by rintro op (rfl|rfl) <;> simp[binOp,qU], ?_⟩;have:∀d,(Op.equalIn (d+1) t .nilFunc .nilFunc).run P w = .ok true w:=λd=>by simp[Op.equalIn,ε f]
 exact this 9999
def aeK {m:Bool}(g:P.underlying t=some (.func k l m))(f:Fn)(q r:Array Value):EqF P w neg t x y .nilFunc (.func f q r) false:=by
 refine⟨by cases neg <;> simp[eqGuard,pG],by rintro op (rfl|rfl) <;> simp[binOp,qU], ?_⟩;have:∀d,(Op.equalIn (d+1) t .nilFunc (.func f q r)).run P w = .ok false w:=λd=>by simp[Op.equalIn,ε g]
 exact this 9999
def aeI {m:Bool}(g:P.underlying t=some (.func k l m))(f:Fn)(q r:Array Value):EqF P w neg t x y (.func f q r) .nilFunc false:=by
 refine⟨by cases neg <;> simp[eqGuard,pG],by rintro op (rfl|rfl) <;> simp[binOp,qU], ?_⟩;have:∀d,(Op.equalIn (d+1) t (.func f q r) .nilFunc).run P w = .ok false w:=λd=>by simp[Op.equalIn,ε g]
 exact this 9999
def anl (f:P.underlying t=some (.interface m))(g:(isC x||isC y)=true):EqF P w neg t x y .nilIface .nilIface true:=by
 refine⟨by cases neg <;> cases x <;> cases y <;> first|rfl|(simp[isC]at g),by rintro op (rfl|rfl) <;> simp[binOp,qU], ?_⟩;have:∀d,(Op.equalIn (d+1) t .nilIface .nilIface).run P w = .ok true w:=λd=>by simp[Op.equalIn,ε f]
 exact this 9999
def ank (f:P.underlying t=some (.interface m))(u:TypeId)(v:Value):EqF P w neg t x y .nilIface (.iface u v) false:=by
 refine⟨by cases neg <;> simp[eqGuard,pG],by rintro op (rfl|rfl) <;> simp[binOp,qU], ?_⟩;have:∀d,(Op.equalIn (d+1) t .nilIface (.iface u v)).run P w = .ok false w:=λd=>by simp[Op.equalIn,ε f]
 exact this 9999
def anj (f:P.underlying t=some (.interface m))(u:TypeId)(v:Value):EqF P w neg t x y (.iface u v) .nilIface false:=by
 refine⟨by cases neg <;> simp[eqGuard,pG],by rintro op (rfl|rfl) <;> simp[binOp,qU], ?_⟩;have:∀d,(Op.equalIn (d+1) t (.iface u v) .nilIface).run P w = .ok false w:=λd=>by simp[Op.equalIn,ε f]
 exact this 9999
end
variable{t:TypeId}{q:EqK}{neg b:Bool}{x y:Operand}
def aj1 {p:Bool}(h:Ib P t p=some q):match q with
 |.flat g agg=>i4 P 20 t=some g∧agg=pB (P.underlying t)∧(agg=true→P.eqGuardType P.depth t=false)
 |.ptr=>∃e,P.underlying t=some (.pointer e)∧ap P e≠0
 |.slc=>∃e,P.underlying t=some (.slice e)
 |.mp=>∃k e,P.underlying t=some (.map k e)
 |.fnc=>∃k l m,P.underlying t=some (.func k l m)
 |.ifc c=>(∃m,P.underlying t=some (.interface m))∧c=p:=by
 unfold Ib at h;split at h
 next e f=>
  split at h
  ·cases h
  next r=>cases h;exact⟨e,f,r⟩
 next e f=>cases h;exact⟨e,f⟩
 next k e f=>cases h;exact⟨k,e,f⟩
 next k l m f=>cases h;exact⟨k,l,m,f⟩
 next m f=>cases h;exact⟨⟨m,f⟩,rfl⟩
 next fs f=>
  split at h
  ·cases h
  next C=>
   split at h
   next g j=>cases h;exact⟨j,by rw[f];rfl,λ_=>by simpa using C⟩
   ·cases h
 ·cases h
 next d _ _ _ _ _ hst _ f=>
  split at h
  next g j=>cases h;refine⟨j, ?_,λx=>by cases x⟩;rw[f];cases d <;> first|rfl|exact(hst _ rfl).elim
  ·cases h
 ·cases h
def aeJ (hni:∀k,P.underlying t≠some (.int k))(hns:P.underlying t≠some .string){U:List CK}{agg:Bool}(J:i4 P 20 t=some U)(r:agg=pB (P.underlying t))(hg:agg=true→P.eqGuardType P.depth t=false){p q:PV}{T R:Value}(h1:bg φ p=some T)(h2:bg φ q=some R)(g:eqP U agg p q=some b):EqF P w neg t x y T R b:=by
 unfold eqP at g;split at g
 next c c'=>
  cases f:agg with
  |true=>rw[f]at g;cases g
  |false=>
   rw[f]at g r;have g:eqL U [c] [c']=some b:=g;have j:=EM (P:=P) (w:=w) 20 9980 t U J (.one c) (.one c') T R b h1 h2 r r g;have C:P.underlying t=some .bool:=by
    simp[i4]at J;split at J
    ·assumption
    next k C=>exact absurd C (hni k)
    next C=>exact absurd C hns
    next C=>rw[C]at r;cases r
    ·cases J
   simp only[i4,C,η]at J;subst J;cases c <;> cases c' <;> simp[eqL,eqC]at g;have z1:=rt_bl (φ:=φ) (v:=T) h1;have z2:=rt_bl (φ:=φ) (v:=R) h2;rw[z1,z2]at j⊢;exact⟨by cases neg <;> simp[eqGuard,pG],by rintro op (rfl|rfl) <;> simp[binOp,qU],j⟩
 next l m=>
  cases f:agg with
  |false=>rw[f]at g;cases g
  |true =>have hg:=hg f;rw[f]at g r;have g:eqL U l m=some b:=g;have j:=EM (P:=P) (w:=w) 20 9980 t U J (.agg l) (.agg m) T R b h1 h2 r r g;obtain⟨xs,z1,_⟩:=tO (φ:=φ) (v:=T) h1;obtain⟨ys,z2,_⟩:=tO (φ:=φ) (v:=R) h2;rw[z1,z2]at j⊢;exact⟨by cases neg <;> simp[eqGuard,pG,H_,hg],by rintro op (rfl|rfl) <;> simp[binOp,qU],j⟩
 ·cases g
def anh (U:∀k,P.underlying t≠some (.int k))(T:P.underlying t≠some .string)(J:Ib P t (isC x||isC y)=some q){a1 a2:TV}{v1 v2:Value}(j:RT φ a1 v1)(f:RT φ a2 v2)(p:eqQ q a1 a2=some b):EqF P w neg t x y v1 v2 b:=by
 have R:=aj1 J;unfold eqQ at p;split at p
 ·exact aeJ U T R.1 R.2.1 R.2.2 j f p
 ·obtain⟨e,r,hz⟩:=R;split at p;all_goals first|(cases p;done)|skip
  ·cases p;rw[kZ j,kZ f];exact VL r none
  ·cases p;obtain⟨l,_,z⟩:=gN f;rw[kZ j,z];exact VL r (some _)
  ·cases p;obtain⟨l,_,z⟩:=gN j;rw[kZ f,z];exact aeF r _
  ·cases p;rw[kZ j,WY f];exact VL r (some _)
  ·cases p;rw[WY j,kZ f];exact aeF r _
  next k g o1 k' g' o2=>
   cases C:(k.beq k'&&Nat.beq g g')with
   |false=>rw[C]at p;cases p
   |true =>rw[C,ξ]at p;simp only[ι,Pos.beq_iff,q0]at C;obtain⟨rfl,rfl⟩:=C;cases p;obtain⟨l,l1,z⟩:=gN j;obtain⟨l',l2,z'⟩:=gN f;rw[l1]at l2;cases l2;rw[z,z'];exact ang r hz _ _ _
 ·obtain⟨e,r⟩:=R;split at p;all_goals first|(cases p;done)|skip
  all_goals (simp at p;subst p)
  ·rw[eV j,eV f];exact VK r none 0 0
  ·obtain⟨l,_,z⟩:=zK f;rw[eV j,z];exact VK r (some _) _ _
  ·obtain⟨l,_,z⟩:=zK j;rw[eV f,z];exact aeG r _ _ _
  ·obtain⟨l,c,z⟩:=MM f;rw[eV j,z];exact VK r (some _) _ _
  ·obtain⟨l,c,z⟩:=MM j;rw[eV f,z];exact aeG r _ _ _
 ·obtain⟨k,e,r⟩:=R;split at p;all_goals first|(cases p;done)|skip
  all_goals (simp at p;subst p)
  ·rw[rO j,rO f];exact aeH r none
  ·obtain⟨l,_,z⟩:=WX f;rw[rO j,z];exact aeH r (some _)
  ·obtain⟨l,_,z⟩:=WX j;rw[rO f,z];exact ani r _
 ·obtain⟨k,l,m,r⟩:=R;split at p;all_goals first|(cases p;done)|skip
  all_goals (simp at p;subst p)
  ·rw[vY j,vY f];exact anm r
  ·rw[vY j,acS f];exact aeK r _ _ _
  ·rw[acS j,vY f];exact aeI r _ _ _
  ·obtain⟨_,_,_,_,z⟩:=acT f;rw[vY j,z];exact aeK r _ _ _
  ·obtain⟨_,_,_,_,z⟩:=acT j;rw[vY f,z];exact aeI r _ _ _
 next cn x1 y1=>
  obtain⟨⟨m,r⟩,hcn⟩:=R;split at p;all_goals first|(cases p;done)|skip
  ·cases C:cn with
   |false=>rw[C]at p;cases p
   |true =>rw[C]at p;cases p;rw[Em j,Em f];exact anl r (by rw[←hcn,C])
  ·cases p;obtain⟨_,_,_,z⟩:=acR f;rw[Em j,z];exact ank r _ _
  ·cases p;obtain⟨_,_,_,z⟩:=acR j;rw[Em f,z];exact anj r _ _
 ·cases p
def amD (hI:Inv B J φ h w){ty:TypeId}(ho:o.op = .binOp (pG neg) t x y ty)(U:∀k,P.underlying t≠some (.int k))(T:P.underlying t≠some .string)(R:Ib P t (isC x||isC y)=some q){C:List TV}(hv:RTs φ C [a.eval x,a.eval y]){f:Pos}{out:TV}{wr:Option (Pos×EO)}(g:(aeV neg q C f).run h=some (out,wr)):OkX P B J φ h w o a out wr:=by
 unfold aeV at g;split at g
 ·obtain⟨v1,ws,j,r,p⟩:=hv.cons;obtain⟨v2,e2,l⟩:=p.one;subst e2;simp at j;obtain⟨j,e2⟩:=j;subst j;subst e2;split at g
  next b hb=>rw[zJ]at g;cases g;obtain⟨h1,h2,h3⟩:=anh (neg:=neg) U T R r l hb (w:=w);exact ady hI ho h1 h2 h3
  ·cases g
 ·cases g
end
open Go Go.RowKit
variable [SymVal]
def gx {f:Type}{s:Nat}:∀{l:List (List f)},(∀a∈l,a.length=s)→l.flatten.length=l.length*s
 |[],_=>by simp
 |x::l,h=>by rw[G_,a_,h x Ψ,gx λa g=>h a (by simp[g]),q_,P_,U?]
def Bg {f:Type}{s:Nat}:∀{l:List (List f)},(∀a∈l,a.length=s)→∀{i j:Nat} {a:List f} {c:f},l[i]? = some a→a[j]? = some c→l.flatten[i*s+j]? = some c
 |[],_,i,j,a,c,h,_=>by simp at h
 |x::l,hs,i,j,a,c,h,hj=>by
  have g:=hs x Ψ;cases i with
  |zero =>simp at h;subst h;have:=(g_.1 hj).1;rw[G_,Q?,I',ω this];exact hj
  |succ i=>
   simp at h;have:=Bg (λa p=>hs a (by simp[p])) h hj;have e:(i+1)*s+j=x.length+(i*s+j):=by rw[g,P_];omega
   rw[G_,e,P' Ω,asr];exact this
def vk {m:Nat}:∀{l:List (List CV)} {el:PT Ch} {i:Nat},i+l.length+2≤2^32→∀j,(po m l el i).get dch j=if h:i≤j∧j<i+l.length then⟨l[j-i]'Ω,m⟩else el.get dch j
 |[],el,i,_,j=>by rw[as6 Ψ];rfl
 |a::l,el,i,hb,j=>by
  simp at hb;simp only[po];rw[vk (l:=l) (i:=i+1) Ω j,PT.get_set dch _ 32 el i j Ω];by_cases g:i=j
  ·subst g;rw[as6 Ω,β rfl,asT Ψ];simp
  ·rw[ο g];by_cases f:i+1≤j∧j<i+1+l.length
   ·rw[asT f,asT Ξ];congr 1;have:j-i=(j-(i+1))+1:=Ω
    simp[this]
   ·rw[as6 f,as6 Ξ]
section
variable {P:Program}{B:Nat}{J:W0}{φ:Gx}{h:Pos→EO}{w:World}{o:Oper}{a:Act}
variable{e t:TypeId}{cl:Call}{x:Operand}{C:List TV}{f:Pos}{out:TV}{wr:Option (Pos×EO)}
def Inv.newR (U:Inv B J φ h w){k:Pos}(hk:h k = .none){s N:Nat}{l:List (List CV)}{vs:List Value}{arr:Array Value}{fr:Nat×Nat}{fz:Fz}(hs:0<s)(hl:∀a∈l,a.length=s)(hd:bq φ l.flatten=some vs)
  (C:∀(j:Nat) (v:Value),vs[j]? = some v→arr[j]? = some v) (hN:arr.size=N*s) (hn:l.length≤N) (hb:l.length+2≤2^32) (T:aoW fr arr.size fz) :
  φ.le (φ.add k ⟨w.heap.size,N,s⟩)∧Inv B J (φ.add k ⟨w.heap.size,N,s⟩) (upd h k (.row e s (po 0 l .leaf 0) l.length 0 fz)) (w.alloc (.cells arr e fr)):=by
 have r:=U.le_add hk ⟨w.heap.size,N,s⟩;have f:=λj=>vk (m:=0) (l:=l) (el :=.leaf) (i:=0) Ω j;refine⟨r,U.new hk rfl ⟨hs,hb,λi R=>?_,λg hg=>?_,λg hg=>⟨⟨w.heap.size,N,s⟩, ?_,⟨U.size,rfl,arr,fr,B_ w _,hN,T,λi R _=>⟨by show i<N;omega, ?_⟩⟩,λ_=>hn⟩⟩⟩
 ·rw[f,asT Ω];exact δ _
 ·simp only[Gx.add,h?];rw[ο Ω]
 ·obtain rfl:g=0:=Ω
  exact Gx.add_self _ _ _
 ·rw[f,asT Ω];have p:l[i-0]'Ω∈l:=r_ _;refine⟨hl _ p,λj c P=>?_⟩;have P:(l[i-0]'Ω)[j]? = some c:=P;obtain⟨v,z1,z2⟩:=qY hd (Bg hl (i:=i-0) (ζ Ω) P);rw[asw]at z1;exact⟨v,C _ _ z1,fH r z2⟩
def Inv.rds (U:Inv B J φ h w){k:Pos}{g s:Nat}{l:Loc}(T:φ.loc k g=some l):∀{n f:Nat} {x:List (List CV)},rX (h k) g s n f=some x→x.length=n∧(∀a∈x,a.length=s)∧∃p,bq φ x.flatten=some p∧∀j u,p[j]? = some u→w.cell? ((⟨l.b,f,none⟩:Addr).add j)=some u
 |0,f,x,C=>by cases C;exact⟨rfl,(λ_ q=>by cases q),[],rfl,λj u q=>by simp at q⟩
 |n+1,f,x,C=>by
  simp[rX]at C;split at C
  next a r h1 h2=>
   cases C;obtain⟨p,q1,q2,q3,_⟩:=U.rd h1 T;obtain⟨p1,p2,ws,p3,p4⟩:=U.rds T h2;refine⟨by simp[p1],λb R=>?_,p++ws,cM q1 p3,λj u P=>?_⟩
   ·obtain rfl|R:=N'.1 R
    ·exact q2
    ·exact p2 b R
   ·have hvl:=bo q1;by_cases hj:j<p.length
    ·rw[ω hj]at P;exact q3 j u P
    ·rw[P' Ω]at P;have:=p4 _ u P;rw[pS]at this⊢;rw[show f+s+(j-p.length)=f+j by omega]at this;exact this
  ·cases C
def ai7 (hI:Inv B J φ h w)(U:o.op = .call cl)(p:cl.callee = .builtin .len)(j:cl.args = #[x])(l:cl.argTypes = #[t])(R:P.underlying t=some .string)(r:RTs φ C [a.eval x])(g:(Lt C f).run h=some (out,wr)):OkX P B J φ h w o a out wr:=by
 unfold Lt at g;split at g
 ·obtain⟨v,e,T⟩:=r.one;cases e;split at g
  next b=>rw[cd]at g;cases g;refine ay hI ?_ (cE _ _);unfold execOp;simp[U,resolve,p,j,invoke,builtin,Builtin.len_,l,(mF T).2,pw,ε R,goInt,vL]
  ·cases g
 ·cases g
def ai9 (hI:Inv B J φ h w)(T:o.op = .call cl)(p:cl.callee = .builtin .len)(g:cl.args = #[x])(j:cl.argTypes = #[t])(r:P.underlying t=some (.slice e))(U:RTs φ C [a.eval x])(l:(Lu C f).run h=some (out,wr)):OkX P B J φ h w o a out wr:=by
 unfold Lu at l;split at l
 ·obtain⟨v,e,R⟩:=U.one;cases e;split at l;all_goals first|(cases l;done)|skip
  all_goals (rw[cd]at l;cases l;refine ay hI ?_ (cE _ _);unfold execOp)
  ·simp[T,resolve,p,g,invoke,builtin,Builtin.len_,j,eV R,ε r,goInt]
  ·obtain⟨_,_,z⟩:=MM R;simp[T,resolve,p,g,invoke,builtin,Builtin.len_,j,z,ε r,goInt]
  ·obtain⟨_,_,z⟩:=zK R;simp[T,resolve,p,g,invoke,builtin,Builtin.len_,j,z,ε r,goInt]
 ·cases l
def ai8 (U:Inv B J φ h w){k:TypeId}(ho:o.op = .call cl)(T:cl.callee = .builtin .len)(j:cl.args = #[x])(p:cl.argTypes = #[t])(hu:P.underlying t=some (.map k e))(hv:RTs φ C [a.eval x])(g:(Sr C f).run h=some (out,wr)):OkX P B J φ h w o a out wr:=by
 unfold Sr at g;split at g
 ·obtain⟨v,e,hr⟩:=hv.one;cases e;split at g;all_goals first|(cases g;done)|skip
  ·rw[cd]at g;cases g;refine ay U ?_ (cE _ _);unfold execOp;simp[ho,resolve,T,j,invoke,builtin,Builtin.len_,p,rO hr,ε hu,goInt]
  next m=>
   simp[Q.run]at g;have r:=U.obj m;split at g
   ·rename_i es cl' hm;rw[cd]at g;cases g;rw[hm]at r;obtain⟨_,l,vs,q1,_,q3,q4,_⟩:=r;obtain⟨l',l2,z⟩:=WX hr;rw[q1]at l2;cases l2;refine ay U (v :=.int .i64 vs.size) ?_ (by show some (Value.int .i64 (Int.ofNat es.length))=_;rw[←q4,ρ];rfl);have R:(getObj l.b).run P w = .ok (.map vs cl') w:=by simp[getObj,Sem.run,q3]
    unfold execOp;simp[ho,resolve,T,j,invoke,builtin,Builtin.len_,p,z,ε hu,goInt,R]
   ·cases g
 ·cases g
def aja (T:Inv B J φ h w){n:Nat}(R:o.op = .call cl)(p:cl.callee = .builtin .len)(g:cl.args = #[x])(l:cl.argTypes = #[t])(r:P.underlying t=some (.array n e))(j:(Ss n C f).run h=some (out,wr)):OkX P B J φ h w o a out wr:=by
 unfold Ss at j;split at j
 ·rw[cd]at j;cases j;refine ay T ?_ (cE _ _);unfold execOp;simp[R,resolve,p,g,invoke,builtin,Builtin.len_,l,ε r,goInt]
 ·cases j
def ajh (hI:Inv B J φ h w)(T:o.op = .call cl)(p:cl.callee = .builtin .cap)(g:cl.args = #[x])(l:cl.argTypes = #[t])(r:P.underlying t=some (.slice e))(U:RTs φ C [a.eval x])(j:(SA C f).run h=some (out,wr)):OkX P B J φ h w o a out wr:=by
 unfold SA at j;split at j
 ·obtain⟨v,e,R⟩:=U.one;cases e;split at j;all_goals first|(cases j;done)|skip
  all_goals (rw[cd]at j;cases j;refine ay hI ?_ (cE _ _);unfold execOp)
  ·simp[T,resolve,p,g,invoke,builtin,Builtin.cap_,l,eV R,ε r,goInt]
  ·obtain⟨_,_,z⟩:=zK R;simp[T,resolve,p,g,invoke,builtin,Builtin.cap_,l,z,iq,ε r,goInt]
 ·cases j
def u7:∀{l:List (List CV)} {b:List Nat} {g:List Value},BA l=some b→bq φ l.flatten=some g→cU b=true∧g=b.map λc=>Value.int .u8 (Int.ofNat c)
 |[],b,g,h,hd=>by cases h;cases hd;exact⟨rfl,rfl⟩
 |x::l,b,g,h,hd=>by
  unfold BA at h;split at h
  next h0=>cases h0
  next n l' h0=>
   injection h0 with h0 f;subst h0;subst f;cases j:Nat.blt n 256 with
   |false=>rw[j]at h;cases h
   |true=>
    rw[j,ξ]at h;split at h
    next b' hb'=>cases h;obtain⟨v,ws,rfl,f,p⟩:=co hd;obtain⟨q1,q2⟩:=u7 hb' p;have f:some (Value.int .u8 (Int.ofNat n))=some v:=f;injection f with f;exact⟨GP (cD.1 j) q1,by rw[q2,←f];rfl⟩
    ·cases h
  ·cases h
def ag9 (b:List Nat)(C:Addr)(c:Nat)(j:(loadCells C b.length).run P w = .ok (b.map λc=>Value.int .u8 (Int.ofNat c)).toArray w):(Conv.bytesToString (.slice (some C) b.length c)).run P w = .ok (pw b) w:=by
 have f:(loadCells C b.length).run P w = .ok ((b.map Int.ofNat).map (Value.int .u8)).toArray w:=by rw[j,V?];rfl
 rw[run_bytesToString (P:=P) w C b.length c (b.map Int.ofNat) f];have l:∀(p:List Nat) (g:ByteArray),(p.map Int.ofNat).foldl (λr n=>r.push (UInt8.ofNat n.toNat)) g=⟨g.data++(p.map UInt8.ofNat).toArray⟩:=by
  intro p;induction p with
  |nil=>intro g;simp
  |cons n p J=>intro g;simp only[i?,Z?,J];congr 1;simp[ByteArray.push]
 rw[l];unfold pw;congr 3;simp
def amG (U:Inv B J φ h w){s:TypeId}(ho:o.op = .convert s t x)(hs:P.underlying s=some (.slice e))(ht:P.underlying t=some .string)(he:P.underlying e=some (.int .u8))(hv:RTs φ C [a.eval x])(j:(akg C f).run h=some (out,wr)):OkX P B J φ h w o a out wr:=by
 unfold akg at j;split at j
 ·obtain⟨v,e1,hr⟩:=hv.one;cases e1;split at j
  ·cases j;refine ay U (v :=.string ⟨#[]⟩) ?_ (ur rfl);unfold execOp;simp[ho,eV hr,convert,ε hs,ε ht,ε he,Conv.bytesToString];rfl
  next k g r n cap=>
   simp[Q.run]at j;split at j
   ·rename_i l hl;split at j
    ·rename_i b hb;cases j;obtain⟨T,l1,z⟩:=zK hr;obtain⟨q1,_,vs,q3,q4⟩:=U.rds l1 hl;obtain⟨p1,p2⟩:=u7 hb q3;have hbl:b.length=n:=by
      have:vs.length=n*1:=by rw[bo q3,gx (s:=1) (λa ha=>(U.rds l1 hl).2.1 a ha),q1]
      rw[p2]at this;simpa using this
     refine ay U ?_ (ur p1);have p:=B? (P:=P) w ⟨T.b,r,none⟩ vs q4;rw[p2]at p;have R:=ag9 (P:=P) (w:=w) b ⟨T.b,r,none⟩ (iq cap T.n (r/T.s)) (by simpa using p);rw[hbl]at R;unfold execOp;simp[ho,z,convert,ε hs,ε ht,ε he,R]
    ·cases j
   ·cases j
  ·cases j
 ·cases j
end
open Go Go.RowKit
variable [SymVal]
def E1 (z:Array Value)(n:Nat)(r:0<z.size):((Array.range (n*z.size)).map (z[· % z.size]!)).toList=(List.replicate n z.toList).flatten:=by
 apply V_;intro p;have f:∀a∈List.replicate n z.toList,a.length=z.size:=λa C=>by rw[aso C];simp
 by_cases g:p<n*z.size
 ·have J:p/z.size<n:=Nat.div_lt_of_lt_mul (by rw[R?];exact g);have l:p%z.size<z.size:=Nat.mod_lt _ r;have j:(List.replicate n z.toList).flatten[p/z.size*z.size+p%z.size]? = some z[p%z.size]:=Bg f (a:=z.toList) (by rw[atx,β J]) (by simp[l]);rw[R?,atk]at j;rw[j];simp[g,l]
 ·rw[z_ Ξ,z_ (by rw[gx f];simp;omega)]
def SI {g:Type}{z:List g}{s:Nat}(f:z.length=s):∀(k n:Nat),k≤n→(List.replicate n z).flatten.drop (k*s)=(List.replicate (n-k) z).flatten
 |0,n,_=>by simp
 |k+1,n+1,h=>by rw[X?,G_,P_,U?,←List.drop_drop,←f,asd,f,SI f k n Ω,show n+1-(k+1)=n-k by omega]
 |k+1,0,h=>Ω
def Ii {f:Gx}{g:List CV}{z:List Value}(h:bq f g=some z):∀n,bq f (List.replicate n g).flatten=some (List.replicate n z).flatten
 |0=>rfl
 |n+1=>by rw[X?,G_,X?,G_];exact cM h (Ii h n)
def nv (f:Nat):∀(g:List Value) (k:Nat) (cells:Array Value),f+k+g.length≤cells.size →
  ((g.zipIdx k).foldl (λp (x:Value×Nat)=>p.setIfInBounds (f+x.2) x.1) cells).toList=cells.toList.take (f+k)++g++cells.toList.drop (f+k+g.length)
 |[],k,cells,_=>by simp
 |v::g,k,cells,h=>by
  simp;simp at h;rw[nv f g (k+1) _ Ξ];have j:f+k<cells.toList.length:=by simp;omega
  simp;rw[show f+(k+1)=f+k+1 by omega,show f+k+1+g.length=f+k+(g.length+1)by omega,List.take_set,List.drop_set_of_lt Ω,
   d? j,asD _ _ Ξ]
  have l:min (f+k) cells.size=f+k:=Ω
  simp[l]
def jo (off:Nat)(v:Value)(cells:Array Value)(h:off+v.cells.size≤cells.size) :
  (v.cells.zipIdx.foldl (λf (x:Value×Nat)=>f.setIfInBounds (off+x.2) x.1) cells).toList=cells.toList.take off++v.cells.toList++cells.toList.drop (off+v.cells.size):=by
 rw[←Array.foldl_toList,Array.toList_zipIdx];have:=nv off v.cells.toList 0 cells (by simpa using h);simpa using this
def uQ (size:Nat):∀(g:List Value) (i:Nat) (f:Array Value),(∀v∈g,v.cells.size=size)→(i+g.length)*size≤f.size →
  ∃j,Instr.fill (λi=>some (i*size,size)) f ((List.range' i g.length).zip g)=some j∧j.toList=f.toList.take (i*size)++(g.map λv=>v.cells.toList).flatten++f.toList.drop ((i+g.length)*size)
 |[],i,f,_,h=>⟨f,by simp[Instr.fill],Ψ⟩
 |v::g,i,f,hv,h=>by
  have r:=hv v Ψ;have hm:i*size+size≤(i+(v::g).length)*size:=by rw[←Nat.succ_mul];exact Y' _ Ψ
  have l:i*size+v.cells.size≤f.size:=by rw[r];omega
  have p:=jo (i*size) v f l;have C:(v.cells.zipIdx.foldl (λP (x:Value×Nat)=>P.setIfInBounds (i*size+x.2) x.1) f).size=f.size:=by rw[←Array.length_toList,p];simp;omega
  have U:(i+1+g.length)*size=(i+(v::g).length)*size:=by congr 1;simp;omega
  obtain⟨j,e1,e2⟩:=uQ size g (i+1) (v.cells.zipIdx.foldl (λP (x:Value×Nat)=>P.setIfInBounds (i*size+x.2) x.1) f) (λu hu=>hv u (by simp[hu])) (by rw[C,U];exact h);refine⟨j, ?_, ?_⟩
  ·simp only[q_,Y_,abs,Instr.fill];have J:¬(v.cells.size≠size||i*size+v.cells.size>f.size)=true:=by
    simp[r];omega
   rw[ο J];exact e1
  ·rw[e2,p];have R:(f.toList.take (i*size)++v.cells.toList).length=(i+1)*size:=by
    simp[r,P_];omega
   have hd:(f.toList.take (i*size)++v.cells.toList++f.toList.drop (i*size+v.cells.size)).drop ((i+1+g.length)*size)=f.toList.drop ((i+(v::g).length)*size):=by have T:(i+1+g.length)*size=(i+1)*size+g.length*size:=F_ _ _ _;rw[T,←List.drop_drop,←R,asd,I_];congr 1;rw[r,←U,T,P_]
   rw[hd,←R,o?];simp
section
variable {P:Program}{B:Nat}{J:W0}{φ:Gx}{h:Pos→EO}{w:World}{o:Oper}{a:Act}
def Wt:Option Value→Option Nat→Prop
 |none,none=>True
 |some v,some n=>∃k,v = .int k (Int.ofNat n)
 |_,_=>False
def GH {b:Option Operand}{r g:List TV}{n:Option Nat}{vs:List Value}(f:adr b.isSome r=some (n,g))(j:RTs φ r (b.toList.map a.eval++vs)):Wt (b.map a.eval) n∧RTs φ g vs:=by
 cases b with
 |none =>cases f;exact⟨awN,j⟩
 |some x=>
  simp[adr]at f;split at f
  next t r1=>
   split at f
   next k m=>cases f;obtain⟨v,ws,e,p,l⟩:=j.cons;cases e;exact⟨⟨k,dg p⟩,l⟩
   ·cases f
  ·cases f
variable{lo R:Option Operand}{x:Operand}{C:List TV}{f:Pos}{out:TV}{wr:Option (Pos×EO)}
def IJ {mx:Option Operand}{r:List TV}{k:Option Nat→Option Nat→Option Nat→Q}{res:TV×Option (Pos×EO)}(f:(abt lo.isSome R.isSome mx.isSome r k).run h=some res)(p:RTs φ r (lo.toList.map a.eval++(R.toList.map a.eval++mx.toList.map a.eval))) :
  ∃l m n,(k l m n).run h=some res∧Wt (lo.map a.eval) l∧Wt (R.map a.eval) m∧Wt (mx.map a.eval) n:=by
 unfold abt at f;split at f
 next l r1 h1=>
  split at f
  next m r2 h2=>
   split at f
   next n h3=>obtain⟨b1,j⟩:=GH h1 p;obtain⟨b2,g⟩:=GH h2 j;obtain⟨C,_⟩:=GH (vs:=[]) h3 (by simpa using g);exact⟨l,m,n,f,b1,b2,C⟩
   ·cases f
  ·cases f
 ·cases f
def yp (w:World)(f:Bool)(len cap:Nat){lo R mx:Option Value}{l m n:Option Nat}(j:Wt lo l)(p:Wt R m)(C:Wt mx n)(c1:gD n cap≤cap)(c2:gD m len≤gD n cap)(c3:gD l 0≤gD m len)(c4:Ar m n=true) :
  (Instr.sliceBounds f len cap lo R mx).run P w = .ok (gD l 0,gD m len,gD n cap) w:=by
 have g:∀(k:IntKind) (x y:Nat) (c:BoundsCode),x≤y→(Instr.sliceBound (.int k (Int.ofNat x)) y c).run P w = .ok x w:=λk x y c U=>by
  have:(x:Int)≤(y:Int):=Ω
  simp[Instr.sliceBound,asIntOf,this]
 cases mx with
 |none=>
  cases n with
  |some n=>exact C.elim
  |none=>
   simp[gD]at c1 c2 c3⊢;cases R with
   |none=>
    cases m with
    |some m=>exact p.elim
    |none=>
     cases lo with
     |none=>
      cases l with
      |some l=>exact j.elim
      |none=>simp[Instr.sliceBounds]
     |some v=>
      cases l with
      |none=>exact j.elim
      |some l =>obtain⟨k,rfl⟩:=j;simp only[Instr.sliceBounds,ν,Z',Θ,g k l _ _ c3]
   |some T=>
    cases m with
    |none=>exact p.elim
    |some m=>
     obtain⟨r,rfl⟩:=p;cases lo with
     |none=>
      cases l with
      |some l=>exact j.elim
      |none=>simp only[Instr.sliceBounds,ν,Z',Θ,g r m _ _ c2]
     |some v=>
      cases l with
      |none=>exact j.elim
      |some l =>obtain⟨k,rfl⟩:=j;simp only[Instr.sliceBounds,ν,Z',Θ,g r m _ _ c2,g k l _ _ c3]
 |some vm=>
  cases n with
  |none=>exact C.elim
  |some n=>
   obtain⟨J,rfl⟩:=C;simp only[gD]at c1 c2 c3⊢;cases R with
   |none=>
    cases m with
    |some m=>exact p.elim
    |none=>simp[Ar]at c4
   |some T=>
    cases m with
    |none=>exact p.elim
    |some m=>
     obtain⟨r,rfl⟩:=p;cases lo with
     |none=>
      cases l with
      |some l=>exact j.elim
      |none=>simp only[Instr.sliceBounds,ν,Z',Θ,g J n _ _ c1,g r m _ _ c2]
     |some v=>
      cases l with
      |none=>exact j.elim
      |some l =>obtain⟨k,rfl⟩:=j;simp only[Instr.sliceBounds,ν,Z',Θ,g J n _ _ c1,g r m _ _ c2,g k l _ _ c3]
def aiU (hI:Inv B J φ h w){t:TypeId}(ho:o.op = .slice t x lo R none)(hu:P.underlying t=some .string)(hv:RTs φ C ((x::(lo.toList++R.toList)).map a.eval))(r:(So lo.isSome R.isSome C f).run h=some (out,wr)):OkX P B J φ h w o a out wr:=by
 unfold So at r;split at r
 ·obtain⟨v1,ws,T,hr1,U⟩:=hv.cons;simp at T;obtain⟨T,e2⟩:=T;subst T;subst e2;obtain⟨l,m,n,j,b1,b2,b3⟩:=IJ (mx:=none) r (by simpa using U);cases n with
  |some n=>exact b3.elim
  |none=>
   split at j
   ·rename_i b;cases p:(Nat.ble (gD m b.length) b.length&&Nat.ble (gD l 0) (gD m b.length))with
    |false=>rw[p]at j;cases j
    |true=>
     rw[p,ξ]at j;simp[bD]at p;cases j;obtain⟨q1,q2⟩:=mF hr1;have hb:=yp (P:=P) w false b.length b.length b1 b2 b3 (δ _) p.1 p.2 (by cases m <;> rfl);refine ay hI ?_ (ur (GQ _ (UY _ q1)));have g:(⟨(b.map UInt8.ofNat).toArray⟩:ByteArray).extract (gD l 0) (gD m b.length)=⟨(((b.take (gD m b.length)).drop (gD l 0)).map UInt8.ofNat).toArray⟩:=by apply asZ;simp[atD,List.drop_take,att]
     unfold execOp;simp only[gD]at hb;simp[ho,q2,pw,Instr.sliceAt,ν,ε hu,Instr.slice,vL];simp at hb;rw[hb];simp[Z'];simp[gD]at g;rw[g];rfl
   ·cases j
 ·cases r
def Inv.rowS (P:Inv B J φ h w){k:Pos}{g:Nat}{l:Loc}{e:TypeId}{s:Nat}{U:PT Ch}{len j:Nat}{fz:Fz}(C:h k = .row e s U len j fz)(f:φ.loc k g=some l):l.s=s:=by
 have p:=P.obj k;rw[C]at p;obtain⟨_,_,_,T,R⟩:=p;obtain x|x:=T' j g
 ·rw[T g x]at f;cases f
 ·obtain⟨l',q1,⟨_,r,_⟩,_⟩:=R g x;rw[q1]at f;injection f with f;rw[←f];exact r
def BZ {k:Pos}{g off s l hh m:Nat}{f:Loc}(j:φ.loc k g=some f):bg φ (.one (.sl k g (bif Nat.beq l m then off else off+l*s) (hh-l) (some (m-l))))=some (.slice (if m=l then some ⟨f.b,off,none⟩else some ((⟨f.b,off,none⟩:Addr).add (l*s))) (hh-l) (m-l)):=by
 show den φ (.sl k g _ _ _)=_;simp[den,j,iq,Bx];by_cases e:m=l
 ·subst e;simp[as8]
 ·have:Nat.beq l m=false:=by cases p:Nat.beq l m with|false=>rfl|true=>exact absurd (q0.1 p).symm e
  rw[this,S',ο e,pS]
def aiV (hI:Inv B J φ h w){t e:TypeId}{mx:Option Operand}(ho:o.op = .slice t x lo R mx)(hu:P.underlying t=some (.slice e))(hz:ap P e≠0)(hf:h f = .none)(hv:RTs φ C ((x::(lo.toList++R.toList++mx.toList)).map a.eval))(hq:(X4 (ap P e) lo.isSome R.isSome mx.isSome C f).run h=some (out,wr)):OkX P B J φ h w o a out wr:=by
 unfold X4 at hq;split at hq
 ·obtain⟨v1,ws,e1,hr1,hr2⟩:=hv.cons;simp at e1;obtain⟨e1,e2⟩:=e1;subst e1;subst e2;obtain⟨l,m,n,j,b1,b2,b3⟩:=IJ hq (by simpa using hr2);have U:∀(A:Option Addr) (len cap:Nat),a.eval x = .slice A len cap→gD n cap≤cap→gD m len≤gD n cap→gD l 0≤gD m len→Ar m n=true →
    (execOp a.eval o).run P w = .ok (.value (.slice (if gD n cap=gD l 0 then A else A.map (·.add (gD l 0*ap P e))) (gD m len-gD l 0) (gD n cap-gD l 0))) w:=λA len cap hx c1 c2 c3 c4=>by
   have hb:=yp (P:=P) w true len cap b1 b2 b3 c1 c2 c3 c4;unfold execOp;simp[ho,hx,Instr.sliceAt,ν,ε hu,Instr.slice,hb,aJ hz,Z']
  unfold alg at j;split at j
  ·cases r:(Nat.beq (gD l 0) 0&&Nat.beq (gD m 0) 0&&Nat.beq (gD n 0) 0&&Ar m n)with
   |false=>rw[r]at j;cases j
   |true =>rw[r,ξ]at j;simp at r;obtain⟨⟨⟨c1,c2⟩,c3⟩,c4⟩:=r;cases j;have:=U none 0 0 (eV hr1) Ω Ω Ω c4;rw[c1,c2,c3]at this;exact ay hI this rfl
  next k g off len cap=>
   obtain⟨p,hl,z,hcf⟩:=ML hr1;split at j
   ·rename_i c;cases r:(Nat.ble (gD n c) c&&Nat.ble (gD m len) (gD n c)&&Nat.ble (gD l 0) (gD m len)&&Ar m n)with
    |false=>rw[r]at j;cases j
    |true =>rw[r,ξ]at j;simp[bD]at r;obtain⟨⟨⟨c1,c2⟩,c3⟩,c4⟩:=r;cases j;have:=U _ _ _ z c1 c2 c3 c4;refine ay hI this ?_;have hs:=BZ (s:=ap P e) (off:=off) (l:=gD l 0) (hh:=gD m len) (m:=gD n c) hl;simp[iq];exact hs
   ·split at j
    ·rename_i n';split at j
     ·rename_i m';cases r:(Nat.ble n' len&&Nat.ble m' n'&&Nat.ble (gD l 0) m')with
      |false=>rw[r]at j;cases j
      |true =>rw[r,ξ]at j;simp[bD]at r;obtain⟨⟨c1,c2⟩,c3⟩:=r;cases j;have hC:off/p.s+len≤p.n:=bD.1 hcf;have:=U _ _ _ z (by simp[gD,iq];omega) (by simp[gD];exact c2) c3 rfl;refine ay hI this ?_;have hs:=BZ (s:=ap P e) (off:=off) (l:=gD l 0) (hh:=m') (m:=n') hl;simp[gD]at hs⊢;exact hs
     ·cases j
    ·have hC:off/p.s+len≤p.n:=bD.1 hcf;cases r:(Nat.ble (gD m len) len&&Nat.ble (gD l 0) (gD m len))with
     |false=>rw[r]at j;cases j
     |true=>
      rw[r,ξ]at j;simp[bD]at r;obtain⟨c1,c2⟩:=r;have hr:=U _ _ _ z (δ _) (by simp[gD,iq]at c1⊢;omega) c2 (by cases m <;> rfl);generalize gD l 0=L at *;generalize gD m len=M at *;simp[gD,iq]at hr;cases hb:Nat.beq L 0 with
      |true =>rw[hb,ξ]at j;have hb:=q0.1 hb;subst hb;cases j;refine ay hI hr ?_;show den φ (.sl k g off M none)=_;simp only[den,hl,iq,Bx];have hx:Nat.ble (off/p.s+M) p.n=true:=bD.2 Ω;simp[hx,Addr.add]
      |false=>
       rw[hb,S']at j;have hb:L≠0:=λe=>by rw[e]at hb;cases hb
       cases T:Nat.blt L len with
       |true=>
        rw[T,ξ]at j;have T:=cD.1 T;simp[Q.run]at j;split at j
        ·rename_i e' s' el' len' gen' fz' hk';cases hss:Nat.beq (ap P e) s' with
         |false=>rw[hss]at j;cases j
         |true=>
          rw[hss,ξ]at j;have hss:=q0.1 hss;cases j;have hls:p.s=ap P e:=by rw[hss];exact hI.rowS hk' hl
          refine ay hI hr ?_;have hdiv:(off+L*ap P e)/p.s=off/p.s+L:=by rw[hls,Nat.add_mul_div_right _ _ Ω]
          show den φ (.sl k g (off+L*ap P e) (M-L) none)=_;simp only[den,hl,iq,Bx,hdiv];have hx:Nat.ble (off/p.s+L+(M-L)) p.n=true:=bD.2 Ω;have hy:¬p.n-off/p.s=L:=Ω
          simp only[hx,h?,ο hy,pS,Nat.sub_sub]
        ·cases j
       |false=>
        rw[T,S']at j;have T:¬L<len:=λq=>by rw[cD.2 q]at T;cases T
        simp only[Q.run,η,π]at j;obtain⟨rfl,rfl⟩:=j;have e0:M-L=0:=Ω
        rw[e0]at hr;have hval:∃A,(execOp a.eval o).run P w = .ok (.value (.slice (some A) 0 (p.n-off/p.s-L))) w:=by
         by_cases hCL:p.n-off/p.s=L
         ·simp only[hCL,h?]at hr⊢;exact⟨_,hr⟩
         ·simp only[hCL,asK]at hr;exact⟨_,hr⟩
        obtain⟨A,hr⟩:=hval;have hle:=hI.le_addV hf (.slice (some A) 0 (p.n-off/p.s-L));exact g9 hr hle (hI.newV hf ⟨(hI.free hf).1,A,_,Gx.addV_self _ _ _⟩) (by show den _ (.emp f)=_;simp only[den,Gx.addV_self])
  ·cases j
 ·cases hq
end
open Go Go.RowKit
variable [SymVal]
def SN {f:Gx}{r new:List CV}{g j:List Value}{off:Nat}(p:bq f r=some g)(l:bq f new=some j):bq f (dF r off new)=some (g.take off++j++g.drop (off+j.length)):=by unfold dF;rw[bo l];exact cM (cM (lS off p) l) (jq _ p)
section
variable {P:Program}{B:Nat}{J:W0}{φ:Gx}{h:Pos→EO}{w:World}{o:Oper}{a:Act}
def uR {place:Nat→Option (Nat×Nat)}:∀{parts:List (Nat×Operand)} {ps:List (Nat×Nat)} {C:List TV} {r j:List CV} {f:Array Value},parts.map (λp=>place p.1)=ps.map some→DU ps C r=some j→RTs φ C (parts.map λp=>a.eval p.2)→bq φ r=some f.toList →
  ∃g,Instr.fill place f (parts.map λp=>(p.1,a.eval p.2))=some g∧bq φ j=some g.toList
 |[],[],[],r,j,f,_,hf,_,U=>by cases hf;exact⟨f,rfl,U⟩
 |(i,x)::parts,[],_,_,_,_,hp,_,_,_=>by simp at hp
 |[],_::_,_,_,_,_,hp,_,_,_=>by simp at hp
 |(i,x)::parts,(off,s)::ps,[],r,j,f,hp,hf,hv,U=>by simp[DU]at hf
 |[],[],_::_,_,_,_,_,hf,_,_=>by simp[DU]at hf
 |(i,x)::parts,(off,s)::ps,t::C,r,j,f,hp,hf,hv,U=>by
  simp at hp;obtain⟨hp1,hp2⟩:=hp;obtain⟨v,ws,e,hr,hv2⟩:=hv.cons;cases e;cases t with
  |unk=>simp[DU]at hf
  |tup l=>simp[DU]at hf
  |pv p=>
   simp[DU]at hf;cases hc:(Nat.beq p.cells.length s&&Nat.ble (off+s) r.length)with
   |false=>rw[hc]at hf;cases hf
   |true=>
    rw[hc,ξ]at hf;simp[bD]at hc;have T:=dD hr;have J:(a.eval x).cells.size=s:=by rw[←Array.length_toList,bo T,hc.1]
    have hal:f.size=r.length:=by rw[←Array.length_toList,bo U]
    have R:off+(a.eval x).cells.size≤f.size:=by rw[J,hal];exact hc.2
    have hfc:=jo off (a.eval x) f R;have P:=SN (off:=off) U T;rw[ρ,←hfc]at P;obtain⟨g,q1,q2⟩:=uR hp2 hf hv2 P;refine⟨g, ?_,q2⟩;simp only[i?,Instr.fill,hp1];have hno:¬(((a.eval x).cells.size≠s||off+(a.eval x).cells.size>f.size)=true):=by simp[J];omega
    rw[ο hno];exact q1
def Ac {g:Array Field}:∀{parts:List (Nat×Operand)} {ps:List (Nat×Nat)},Ad P g parts=some ps→parts.map (λp=>(g.map λf=>(f.offset,ap P f.type))[p.1]?)=ps.map some
 |[],ps,h=>by cases h;rfl
 |(i,x)::parts,ps,h=>by
  simp[Ad]at h;split at h
  next f hf=>
   split at h
   next l hl=>cases h;simp only[i?,Ac hl,G',A_];simp[hf]
   ·cases h
  ·cases h
variable{t:TypeId}{f:Pos}{C:List TV}{out:TV}{wr:Option (Pos×EO)}
def Am (hI:Inv B J φ h w){parts:Array (Nat×Operand)}(ho:o.op = .build t parts){z:PV}(hz:eQ P t=some z){ps:List (Nat×Nat)}
  (hp:(∃fs,P.underlying t=some (.struct fs)∧(fs.toList.all λf=>(P.info? f.type).isSome)=true∧Ad P fs parts.toList=some ps)∨(∃n e,P.underlying t=some (.array n e)∧ap P e≠0∧ps=parts.toList.map λp=>(p.1*ap P e,ap P e)))
  {C:List TV} (hv:RTs φ C ((parts.toList.map (·.2)).map a.eval)) {f:Pos} {out:TV} {wr:Option (Pos×EO)} (hq:(Id z.cells ps C f).run h=some (out,wr)):OkX P B J φ h w o a out wr:=by
 unfold Id at hq;split at hq
 next cs hcs=>
  cases hq;obtain⟨i,v,h1,h2,h3⟩:=gU hz;have hd:=dD (h3 φ);have hv':RTs φ C (parts.toList.map λp=>a.eval p.2):=by rw[V?]at hv;exact hv
  have U:(parts.map λ(i,x)=>(i,a.eval x)).toList=parts.toList.map λp=>(p.1,a.eval p.2):=by simp
  rcases hp with⟨fs,hu,r,hpl⟩|⟨n,e,hu,hse,rfl⟩
  ·obtain⟨T,q1,q2⟩:=uR (place:=λi=>(fs.map λf=>(f.offset,ap P f.type))[i]?) (Ac hpl) hcs hv' hd;refine ay hI (v :=.agg T) ?_ (by show bg φ (.agg cs)=_;simp[bg,q2]);have hm:∀(l:List Field) (w:World),(∀f∈l,∃j,P.info? f.type=some j)→(l.mapM (λf=>(do pure (f.offset,←sizeOf f.type):Sem (Nat×Nat)))).run P w = .ok (l.map λf=>(f.offset,ap P f.type)) w:=by
    intro l;induction l with
    |nil=>intro w _;simp
    |cons f l ih=>
     intro w r;obtain⟨j,hj⟩:=r f Ψ;have h1:(do pure (f.offset,←sizeOf f.type):Sem (Nat×Nat)).run P w = .ok (f.offset,ap P f.type) w:=by simp[sizeOf,typeInfo,hj,ap]
     rw[arR,ν,h1,Θ,ν,ih w (λg hg=>r g (by simp[hg])),Θ];rfl
   have hall':∀f∈fs.toList,∃j,P.info? f.type=some j:=λf hf=>Option.isSome_iff_exists.1 (d_.1 r f hf);have R:(fs.mapM λf=>(do pure (f.offset,←sizeOf f.type):Sem (Nat×Nat))).run P w = .ok (fs.map λf=>(f.offset,ap P f.type)) w:=by rw[t?,Sem.run_map,hm _ _ hall'];simp[Result.andThen,←Array.toList_map]
   unfold execOp;simp only[ho,Instr.build,zeroValue,typeInfo,ν,H_,h1,h2,Z',Θ,ε hu,R,U,q1]
  ·have hpl:parts.toList.map (λp=>(λi=>some (i*ap P e,ap P e)) p.1)=(parts.toList.map λp=>(p.1*ap P e,ap P e)).map some:=by simp
   obtain⟨T,q1,q2⟩:=uR (place:=λi=>some (i*ap P e,ap P e)) hpl hcs hv' hd;refine ay hI (v :=.agg T) ?_ (by show bg φ (.agg cs)=_;simp[bg,q2]);unfold execOp;simp[ho,Instr.build,zeroValue,typeInfo,ν,H_,h1,h2,Z',ε hu,aJ hse,U,q1]
 ·cases hq
def aiW (hI:Inv B J φ h w){e:TypeId}{N:Nat}{x:Operand}{U R mx:Option Operand}(ho:o.op = .slice t x U R mx)(hu:P.underlying t=some (.array N e))(hz:ap P e≠0)(hv:RTs φ C ((x::(U.toList++R.toList++mx.toList)).map a.eval))(p:(X5 N (ap P e) U.isSome R.isSome mx.isSome C f).run h=some (out,wr)):OkX P B J φ h w o a out wr:=by
 unfold X5 at p;split at p
 ·obtain⟨v1,ws,T,hr1,hr2⟩:=hv.cons;simp at T;obtain⟨T,e2⟩:=T;subst T;subst e2;obtain⟨l,m,n,j,b1,b2,b3⟩:=IJ p (by simpa using hr2);split at j
  next k g off=>
   cases r:(Nat.ble (gD n N) N&&Nat.ble (gD m N) (gD n N)&&Nat.ble (gD l 0) (gD m N)&&Ar m n)with
   |false=>rw[r]at j;cases j
   |true=>
    rw[r,ξ]at j;simp[bD]at r;obtain⟨⟨⟨c1,c2⟩,c3⟩,c4⟩:=r;cases j;obtain⟨lc,hl,z⟩:=gN hr1;have hb:=yp (P:=P) w false N N b1 b2 b3 c1 c2 c3 c4;have hs:=BZ (s:=ap P e) (off:=off) (l:=gD l 0) (hh:=gD m N) (m:=gD n N) hl;refine ay hI (v :=.slice (if gD n N=gD l 0 then some ⟨lc.b,off,none⟩else some ((⟨lc.b,off,none⟩:Addr).add (gD l 0*ap P e))) (gD m N-gD l 0) (gD n N-gD l 0)) ?_ hs;unfold execOp;simp[ho,z,Instr.sliceAt,ν,ε hu,Instr.sureAddr,Z',hb,aJ hz];by_cases he:gD n N=gD l 0
    ·simp[he]
    ·simp[ο he]
  ·cases j
 ·cases p
def amu (T:Inv B J φ h w){r:Option Operand}(U:o.op = .makeMap t r){k e:TypeId}(hu:P.underlying t=some (.map k e))(hf:h f = .none)(R:RTs φ C (r.toList.map a.eval))(p:(aka C f).run h=some (out,wr)):OkX P B J φ h w o a out wr:=by
 have j:(execOp a.eval o).run P w = .ok (.value (.map (some w.heap.size))) (w.alloc (.map #[] 0))→OkX P B J φ h w o a (.pv (.one (.mp f))) (some (f,.map [] 0)):=λl=>by refine g9 l (T.le_add hf ⟨w.heap.size,0,0⟩) (T.new hf rfl ⟨λg hg=>?_,⟨w.heap.size,0,0⟩, #[],Gx.add_self _ _ _,T.size,B_ w _,rfl,λi e he=>by simp at he⟩) (by show den _ (.mp f)=_;simp[den,Gx.add_self]);simp only[Gx.add,h?];rw[ο Ω]
 unfold aka at p;split at p
 ·cases p;refine j ?_;cases r with
  |none=>unfold execOp;simp[U,Instr.makeMap]
  |some x=>simp[RTs]at R
 ·cases p;refine j ?_;cases r with
  |none=>simp[RTs]at R
  |some x =>have e1:=dg (R:RTs φ _ [a.eval x]).1;unfold execOp;simp[U,Instr.makeMap,ε hu,asInt,asIntOf,e1]
 ·cases p
end
open Go Go.RowKit
variable [SymVal]
section
variable {P:Program}{B:Nat}{J:W0}{φ:Gx}{h:Pos→EO}{w:World}{o:Oper}{a:Act}
def vC (f:Pos→EO)(k:Pos)(x y:EO):upd (upd f k x) k y=upd f k y:=by funext q;simp[upd];split <;> rfl
def I9 (w:World)(g:Nat)(x y:Array Value):(w.setRow g x).setRow g y=w.setRow g y:=by
 unfold World.setRow;simp[World.mk.injEq];apply Array.ext_getElem?;intro i;simp only[r?];by_cases e:g=i
 ·simp[e];congr 1;funext f;cases f <;> rfl
 ·simp[e]
def Inv.wrs {k:Pos}{g s:Nat}{l:Loc}:∀{x:List CV} {r:List (List CV)} {h:Pos→EO} {w:World} {j:Nat} {o':EO} {f:List Value},Inv B J φ h w→lZ g s (x::r) (h k) j=some o'→(∀a∈x::r,a.length=s)→φ.loc k g=some l→bq φ (x::r).flatten=some f →
  ∃p e,w.heap[l.b]? = some (.cells p e (0,0))∧j+f.length≤p.size∧Inv B J φ (upd h k o') (w.setRow l.b (p.toList.take j++f++p.toList.drop (j+f.length)).toArray)
 |x,[],h,w,j,o',f,hI,hr,hs,hl,U=>by
  simp[lZ]at hr;split at hr
  next o1 h1=>
   cases hr;have U:bq φ x=some f:=by simpa using U
   exact hI.wr h1 hl U
  ·cases hr
 |x,y::r,h,w,j,o',f,hI,hr,hs,hl,U=>by
  rw[lZ]at hr;split at hr
  next o1 h1=>
   rw[G_]at U;have hxs:=hs x Ψ;obtain⟨R,hn1⟩:∃vs,bq φ x=some vs:=by
    have:=lS x.length U;rw[o?]at this;exact⟨_,this⟩
   obtain⟨T,hn2⟩:∃vs,bq φ (y::r).flatten=some vs:=by have:=jq x.length U;rw[asd]at this;exact⟨_,this⟩
   have P:f=R++T:=by have:=cM hn1 hn2;rw[U]at this;exact χ this
   have hl1:R.length=s:=by rw[bo hn1,hxs]
   obtain⟨p,e,q1,q2,q3⟩:=hI.wr h1 hl hn1;have hk1:(upd h k o1) k=o1:=bk _ _ _;obtain⟨C,e2,p1,p2,p3⟩:=Inv.wrs (h:=upd h k o1) q3 (by rw[hk1];exact hr) (λa ha=>hs a (by simp at ha⊢;exact .inr ha)) hl hn2;rw[asJ w l.b p _ e _ q1]at p1;injection p1 with p1;injection p1 with p1 _ _;have hal:C.toList=p.toList.take j++R++p.toList.drop (j+R.length):=by rw[←p1]
   have hlen:C.size=p.size:=by rw[←Array.length_toList,hal];simp;omega
   refine⟨p,e,q1,by rw[P,a_];omega, ?_⟩;rw[vC]at p3;rw[I9]at p3;have harr:C.toList.take (j+s)++T++C.toList.drop (j+s+T.length)=p.toList.take j++f++p.toList.drop (j+f.length):=by
    have e1:C.toList.take (j+s)=p.toList.take j++R:=by rw[hal,atl];rw[a_,h_,ρ,hl1];omega
    have e2:C.toList.drop (j+s+T.length)=p.toList.drop (j+f.length):=by
     rw[hal,←List.drop_drop,ato,I_]
     ·congr 1;rw[P,a_,hl1];omega
     ·rw[a_,h_,ρ,hl1];omega
    rw[e1,e2,P];simp
   rw[harr]at p3;exact p3
  ·cases hr
def acx (hI:Inv B J φ h w){s:Nat}{str:Bool}{x:TV}{v:Value}{k:List (List CV)→Q}{res:TV×Option (Pos×EO)}(f:(alT s str x k).run h=some res)(R:RT φ x v){T:TypeId}(C:(str=false∧∃e,P.underlying T=some (.slice e))∨(str=true∧P.underlying T=some .string∧s=1)) :
  ∃l p,(k l).run h=some res∧(∀a∈l,a.length=s)∧bq φ l.flatten=some p∧Go.Src P s T v l.length p w:=by
 unfold alT at f;split at f
 next j g off n cap=>
  rcases C with⟨rfl,e,r⟩|⟨rfl,_,_⟩
  ·simp[Q.run]at f;split at f
   next l hl=>obtain⟨lc,l1,z⟩:=zK R;obtain⟨q1,q2,vs,U,q4⟩:=hI.rds l1 hl;refine⟨l,vs,f,q2,U, ?_⟩;rw[z,q1];exact Go.Src.ofSlice w r _ n _ vs (by rw[bo U,gx q2,q1]) q4 (Bo U)
   ·cases f
  ·cases f
 ·rcases C with⟨rfl,e,r⟩|⟨rfl,_,_⟩
  ·refine⟨[],[],f,(λ_ q=>by cases q),rfl, ?_⟩;rw[eV R];exact Go.Src.ofNil w r 0
  ·cases f
 next kk=>
  rcases C with⟨rfl,e,r⟩|⟨rfl,_,_⟩
  ·refine⟨[],[],f,(λ_ q=>by cases q),rfl, ?_⟩;obtain⟨A,c,z⟩:=MM R;rw[z];exact Go.Src.ofSlice w r A 0 c [] Ψ (λj u q=>by simp at q) (λu q=>by cases q)
  ·cases f
 next b=>
  rcases C with⟨rfl,_⟩|⟨rfl,r,rfl⟩
  ·cases f
  ·obtain⟨h1,z⟩:=mF R;have hd:∀b:List Nat,cU b=true→bq φ (b.map λc=>[CV.int .u8 (Int.ofNat c)]).flatten=some (byteCells ⟨(b.map UInt8.ofNat).toArray⟩):=by
    intro b;induction b with
    |nil=>intro _;rfl
    |cons c b ih=>
     intro hb;obtain⟨b1,b2⟩:=gP hb;have:=ih b2;rw[i?,G_];have e1:byteCells ⟨((c::b).map UInt8.ofNat).toArray⟩=[Value.int .u8 (Int.ofNat c)]++byteCells ⟨(b.map UInt8.ofNat).toArray⟩:=by unfold byteCells;simp;omega
     rw[e1];exact cM rfl this
   refine⟨b.map λc=>[.int .u8 (Int.ofNat c)],_,f,λa ha=>?_,hd b h1, ?_⟩
   ·obtain⟨c,_,rfl⟩:=y_.1 ha;rfl
   ·rw[z,asy];have:=Go.Src.ofString (P:=P) w r ⟨(b.map UInt8.ofNat).toArray⟩;rw[vL]at this;exact this
 ·cases f
def xG {t T ty e:TypeId}{i:TypeInfo}(ht:P.underlying t=some (.slice e))(R:P.info? e=some i){b off f sCap:Nat}{x:Value}{n:Nat}{g:List Value}(C:Go.Src P i.size T x n g w)(l:f+n≤sCap){j:Array Value}{J:TypeId}(hb:w.heap[b]? = some (.cells j J (0,0)))(r:off+f*i.size+g.length≤j.size) :
  (Builtin.append_ #[t,T] ty #[.slice (some ⟨b,off,none⟩) f sCap,x]).run P w = .ok (.slice (some ⟨b,off,none⟩) (f+n) sCap) (w.setRow b (j.toList.take (off+f*i.size)++g++j.toList.drop (off+f*i.size+g.length)).toArray):=by
 have p:=u? P b (off+f*i.size) J g 0 j w hb (by simpa using r) C.one;simp at p;rcases C.kind with⟨J,U⟩|U <;> simp[Builtin.append_,ε ht,ε U,sizeOf,typeInfo,R,C.len,l,C.cells,Addr.add_lit,p]
end
open Go Go.RowKit
variable [SymVal]
section
variable {P:Program}{B:Nat}{J:W0}{φ:Gx}{h:Pos→EO}{w:World}{o:Oper}{a:Act}
variable{cl:Call}{k:Pos}{e:TypeId}{l:List (List CV)}{news:List Value}
def fF {s x:Operand}{t r:TypeId}(C:o.op = .call cl)(l:cl.callee = .builtin .append)(f:cl.args = #[s,x])(j:cl.argTypes = #[t,r]){v:Value}{p:World}(g:(Builtin.append_ #[t,r] o.type #[a.eval s,a.eval x]).run P w = .ok v p) :
  (execOp a.eval o).run P w = .ok (.value v) p:=by
 unfold execOp;simp[C,resolve,l,f,j,invoke,builtin,g]
def E0 (z:Array Value)(n:Nat):(Builtin.zeroCells z n).size=n*z.size:=by simp[Builtin.zeroCells]
def Gx.turn (φ:Gx)(k:Pos)(g:Nat)(l:Loc):Gx:=⟨λq m=>if q=k∧m=g then some l else φ.loc q m,φ.val,φ.mu⟩
def Gx.turn_self (φ:Gx)(k:Pos)(g:Nat)(l:Loc):(φ.turn k g l).loc k g=some l:=by simp[Gx.turn]
def Gx.turn_ne (φ:Gx){g m:Nat}(l:Loc)(f:m≠g):(φ.turn k g l).loc k m=φ.loc k m:=by simp[Gx.turn,f]
def Inv.turnUp (hI:Inv B J φ h w){s:Nat}{el:PT Ch}{len g n:Nat}(hrow:h k = .row e s el len g .no){lc:Loc}(hl:φ.loc k g=some lc)(hn:n≤len)(hb:n+l.length≤4294967290)
  (hall:∀a∈l,a.length=s) (hd:bq φ l.flatten=some news) {w':World} {l':Loc} {r:Array Value} (hls:l'.s=s) (hB:B≤l'.b) (harr':w'.heap[l'.b]? = some (.cells r e (0,0))) (hsz:r.size=l'.n*s) (hN:n+l.length≤l'.n)
  (hold:∀j,j<n*s→∀arr e fr,w.heap[lc.b]? = some (.cells arr e fr)→r[j]? = arr[j]?) (hnew:∀(j:Nat) (u:Value),news[j]? = some u→r[n*s+j]? = some u)
  (T:l'.b=lc.b∨w.heap.size≤l'.b) (hsame:l'.b=lc.b→∀arr e fr,w.heap[lc.b]? = some (.cells arr e fr)→r.size=arr.size)
  (hw:∀b,b<w.heap.size→b≠l'.b→w'.heap[b]? = w.heap[b]?) (hos:w'.os=w.os) (htp:w'.tape=w.tape) (hou:w'.output=w.output) (hws:w.heap.size≤w'.heap.size) (hdr:w.drawn≤w'.drawn) :
  φ.le (φ.turn k (g+1) l')∧Inv B J (φ.turn k (g+1) l') (upd h k (.row e s (po (g+1) l el n) (n+l.length) (g+1) .no)) w':=by
 have hob:=hI.obj k;rw[hrow]at hob;obtain⟨h0,h1,hmm,h2,h3⟩:=hob;have hle:φ.le (φ.turn k (g+1) l'):=⟨λq m x P=>by
  by_cases e:q=k∧m=g+1
  ·obtain⟨rfl,rfl⟩:=e;rw[h2 _ Ω]at P;cases P
  ·simp[Gx.turn,ο e];exact P,λ_ _ hv=>hv,λ_ _ hv=>hv⟩
 have hget:=λj=>vk (m:=g+1) (l:=l) (el:=el) (i:=n) Ω j;have hin:∀{i j:Nat},i<n→j<s→i*s+j<n*s:=λ{i j} R hj=>by have h5:(i+1)*s≤n*s:=Y' s R;have h6:(i+1)*s=i*s+s:=P_ _ _;omega
 refine⟨hle,hI.turn hle (λq hq=>⟨λm=>by simp[Gx.turn,hq],rfl,rfl⟩) (λm x P=>?_) (λb hb hne=>hw b hb λeb=>?_) (λm x P ob hb hst=>?_) hos htp hou hws hdr ⟨h0,Ω,λi R=>?_,λm hm=>?_,λm hm=>?_⟩⟩
 ·by_cases em:m=g+1
  ·subst em;rw[Gx.turn_self]at P;cases P;obtain q|q:=T
   ·exact .inl ⟨g,lc,hl,q.symm⟩
   ·exact .inr q
  ·rw[Gx.turn_ne _ _ em]at P;exact .inl ⟨m,x,P,rfl⟩
 ·obtain q|q:=T
  ·exact hne g lc hl (by rw[←q];exact eb.symm)
  ·omega
 ·obtain hgt|hle':=T' g m
  ·rw[h2 m hgt]at P;cases P
  ·obtain⟨l2,y1,⟨y2,y3,p,U,y4,_⟩,_⟩:=h3 m hle';rw[y1]at P;cases P;rw[y4]at hb;cases hb;cases hst
 ·rw[hget];split
  ·exact δ _
  ·have:=hmm i Ω;omega
 ·rw[Gx.turn_ne _ _ Ω];exact h2 m Ω
 ·by_cases em:m=g+1
  ·subst em;refine⟨l',Gx.turn_self _ _ _ _,⟨hB,hls,r,(0,0),harr',hsz,rfl,λi R _=>⟨Ω, ?_⟩⟩,λ_=>hN⟩;rw[hget];by_cases C:n≤i∧i<n+l.length
   ·rw[asT C];have hmem:l[i-n]'Ω∈l:=r_ _;refine⟨hall _ hmem,λj c hj=>?_⟩;have hj:(l[i-n]'Ω)[j]? = some c:=hj;obtain⟨v,z1,z2⟩:=qY hd (Bg hall (i:=i-n) (ζ Ω) hj);refine⟨v, ?_,fH hle z2⟩;have:=hnew _ _ z1;rw[←Nat.add_assoc,←Nat.add_mul,show n+(i-n)=i by omega]at this;exact this
   ·rw[as6 C];obtain⟨l2,y1,⟨y2,y3,p,U,y4,y5,y6,y7⟩,y8⟩:=h3 g (δ _);rw[hl]at y1;cases y1;obtain⟨x1,x2,x3⟩:=y7 i Ω (hmm i Ω);refine⟨x2,λj c hj=>?_⟩;obtain⟨v,z1,z2⟩:=x3 j c hj;have hjs:=(g_.1 hj).1;refine⟨v, ?_,fH hle z2⟩;rw[hold _ (hin Ω Ω) p e U y4];exact z1
  ·obtain⟨l2,y1,⟨y2,y3,p,U,y4,y5,y6,y7⟩,y8⟩:=h3 m Ω;refine⟨l2,by rw[Gx.turn_ne _ _ em];exact y1, ?_,λP=>absurd P em⟩;have hlt:=hI.lt y1;by_cases hbb:l2.b=l'.b
   ·have hlc:l'.b=lc.b:=by
     obtain q|q:=T
     ·exact q
     ·omega
    have y4':w.heap[lc.b]? = some (.cells p e U):=by rw[←hlc,←hbb];exact y4
    refine⟨y2,y3,r,(0,0),by rw[hbb];exact harr',by rw[hsame hlc p e U y4'];exact y5,rfl,λi R f=>?_⟩;rw[hget]at f⊢;by_cases C:n≤i∧i<n+l.length
    ·rw[asT C]at f;simp only at f;omega
    ·rw[as6 C]at f⊢;obtain⟨x1,x2,x3⟩:=y7 i Ω f;refine⟨x1,x2,λj c hj=>?_⟩;obtain⟨v,z1,z2⟩:=x3 j c hj;have hjs:=(g_.1 hj).1;refine⟨v, ?_,fH hle z2⟩;rw[hold _ (hin Ω Ω) p e U y4'];exact z1
   ·refine⟨y2,y3,p,U,by rw[hw _ hlt hbb];exact y4,y5,y6,λi R f=>?_⟩;rw[hget]at f⊢;by_cases C:n≤i∧i<n+l.length
    ·rw[asT C]at f;simp only at f;omega
    ·rw[as6 C]at f⊢;obtain⟨x1,x2⟩:=y7 i Ω f;exact⟨x1,x2.mono hle⟩
def Cy {n bytes:Nat}(h:n*bytes≤140737488355328){old:Nat}(f:old<n):Builtin.nextslicecap n old*bytes≤281474976710656:=asM f h
def Inv.drw (f:Inv B J φ h w):Inv B J φ h w.drew:=f.drew
def Yu (hI:Inv B J φ h w){f:Pos}(hf:h f = .none){z:PV}(hz:eQ P e=some z)(R:z.cells.length=ap P e)(hs0:ap P e≠0){old:List (List CV)}{olds:List Value}{N:Nat}(p:∀a∈old,a.length=ap P e)(hl:∀a∈l,a.length=ap P e)(hd1:bq φ old.flatten=some olds)(U:bq φ l.flatten=some news)
  (hb:old.length+l.length≤4294967290) (hN:old.length+l.length≤N) :
  ∃i v,P.info? e=some i∧i.zero=some v∧i.size=ap P e∧i.bytes=xv P e ∧
   φ.le (φ.add f ⟨w.heap.size,N,ap P e⟩)∧Inv B J (φ.add f ⟨w.heap.size,N,ap P e⟩) (upd h f (newRow e (ap P e) (old++l) (old.length+l.length))) (w.drew.alloc (.cells ((olds++news).toArray++Builtin.zeroCells v.cells (N-(old.length+l.length))) e)) ∧
   RT (φ.add f ⟨w.heap.size,N,ap P e⟩) (.pv (.one (.sl f 0 0 (old.length+l.length) none))) (.slice (some ⟨w.heap.size,0,none⟩) (old.length+l.length) N):=by
 obtain⟨i,v,h1,h2,h3⟩:=gU hz;have T:v.cells.size=ap P e:=by rw[←Array.length_toList,bo (dD (h3 φ)),R]
 have g:∀a∈old++l,a.length=ap P e:=λa ha=>by
  obtain q|q:=Q'.1 ha
  ·exact p a q
  ·exact hl a q
 have C:bq φ (old++l).flatten=some (olds++news):=by rw[List.flatten_append];exact cM hd1 U
 have r:(olds++news).length=(old.length+l.length)*ap P e:=by rw[bo C,gx g,a_]
 obtain⟨q1,q2⟩:=hI.drw.newR hf (e:=e) (s:=ap P e) (N:=N) (l:=old++l) (vs:=olds++news) (arr:=(olds++news).toArray++Builtin.zeroCells v.cells (N-(old.length+l.length))) (fr:=(0,0)) (fz :=.no) Ω g C
  (λj u hu=>by
   have hj:=(g_.1 hu).1;rw[K_ (by simpa using hj)];simpa using hu) (by
   rw[Array.size_append,E0,T,as9,r,←Nat.add_mul];congr 1;omega) (by rw[a_];exact hN) (by rw[a_];omega) rfl
 rw[a_]at q2;refine⟨i,v,h1,h2,by simp[ap,h1],by simp[xv,h1],q1,q2, ?_⟩;show den _ (.sl f 0 0 _ none)=_;have hc:Bx none (old.length+l.length) N 0=true:=by simp only[Bx,I'];exact bD.2 hN
 simp[den,Gx.add_self,hc,iq]
def adz (hI:Inv B J φ h w){s x:Operand}{t tx:TypeId}{str:Bool}(ho:o.op = .call cl)(hcl:cl.callee = .builtin .append)(T:cl.args = #[s,x])(hty:cl.argTypes = #[t,tx])(hu:P.underlying t=some (.slice e)){z:PV}(hz:eQ P e=some z)(hzs:z.cells.length=ap P e)(hs0:ap P e≠0)
  (ht:(str=false∧∃e,P.underlying tx=some (.slice e))∨(str=true∧P.underlying tx=some .string∧ap P e=1)) {f:Pos} (hf:h f = .none) {C:List TV} (hv:RTs φ C [a.eval s,a.eval x]) {out:TV} {wr:Option (Pos×EO)} (hq:(akh e (ap P e) (xv P e) str C f).run h=some (out,wr)):OkX P B J φ h w o a out wr:=by
 obtain⟨i,zv,R,hiz,_⟩:=gU hz;have his:i.size=ap P e:=by simp[ap,R]
 have hib:i.bytes=xv P e:=by simp[xv,R]
 unfold akh at hq;split at hq
 ·obtain⟨v1,ws,e1,hr1,hr2⟩:=hv.cons;obtain⟨v2,e2,hr3⟩:=hr2.one;subst e2;simp at e1;obtain⟨e1,e2⟩:=e1;subst e1;subst e2;obtain⟨l,news,p,hall,hd,hsrc⟩:=acx hI hq hr3 ht;have r:Go.Src P i.size tx (a.eval x) l.length news w:=by rw[his];exact hsrc
  unfold aoQ at p;split at p
  ·
   have ev:=eV hr1;split at p
   ·cases p;refine ay hI (v :=.slice none 0 0) (fF ho hcl T hty ?_) rfl;rw[ev];have hnn:news=[]:=K' (by rw[hsrc.newsLen];simp);subst hnn;have g1:=r.len;have g2:=r.cells;simp at g1 g2;rcases r.kind with⟨e',p⟩|p <;> simp[Builtin.append_,ε hu,ε p,sizeOf,typeInfo,R,g1,g2]
   ·rename_i hne;cases hc:(Nat.ble (l.length*xv P e) 140737488355328&&kY (ap P e) l&&Nat.ble l.length 4294967290)with
    |false=>rw[hc]at p;cases p
    |true=>
     rw[hc,ξ]at p;simp[bD]at hc;obtain⟨⟨c1,c2⟩,c3⟩:=hc;cases p;have hpos:0<l.length:=by
      cases l with
      |nil=>exact absurd rfl hne
      |cons _ _=>simp
     have hcap:=atg w l.length 0 e;obtain⟨i',v',y1,y2,y3,y4,y5,y6,y7⟩:=Yu (P:=P) hI hf hz hzs hs0 (old:=[]) (l:=l) (olds:=[]) (news:=news) (N:=grownCap w l.length 0 e) (λ_ q=>by cases q) hall rfl hd (by simpa using c3) (by simpa using hcap);simp at y6 y7;refine g9 (fF ho hcl T hty ?_) y5 y6 y7;rw[ev];have:=run_append_grow_src (P:=P) w t tx o.type e i' v' hu y1 y2 none 0 0 [] (run_firstCells_none w.drew i'.size 0 0 0) (a.eval x) l.length news (by rw[y3];exact hsrc) Ω Ω (by rw[y4];simpa using Cy c1 (old:=0) hpos);simpa using this
  next k g off n cap=>
   obtain⟨U,hl,ev,hcf⟩:=ML hr1;split at p
   ·have hroom:n≤iq cap U.n (off/U.s)∧out = .pv (.one (.sl k g off n cap))∧wr=none:=by
     cases cap with
     |some c=>
      simp only at p;cases hc:Nat.ble n c with
      |false=>rw[hc]at p;cases p
      |true =>rw[hc,ξ]at p;simp[Q.run]at p;exact⟨bD.1 hc,p.1.symm,p.2.symm⟩
     |none =>simp[Q.run]at p;refine⟨?_,p.1.symm,p.2.symm⟩;have:=bD.1 hcf;simp[iq];omega
    obtain⟨hroom,rfl,rfl⟩:=hroom;refine ay hI (fF ho hcl T hty ?_) hr1;rw[ev];have hnn:news=[]:=K' (by rw[hsrc.newsLen];simp);subst hnn;have g1:=r.len;have g2:=r.cells;simp at g1 g2;rcases r.kind with⟨e',p⟩|p <;> simp[Builtin.append_,ε hu,ε p,sizeOf,typeInfo,R,g1,g2,hroom,storeCells]
   ·rename_i hne;have hpos:0<l.length:=by
     cases l with
     |nil=>exact absurd rfl hne
     |cons _ _=>simp
    simp[Q.run]at p;have inplace:∀o',lZ g (ap P e) l (h k) (off+n*ap P e)=some o'→n+l.length≤iq cap U.n (off/U.s)→RT φ (.pv (.one (.sl k g off (n+l.length) cap))) (.slice (some ⟨U.b,off,none⟩) (n+l.length) (iq cap U.n (off/U.s)))→OkX P B J φ h w o a (.pv (.one (.sl k g off (n+l.length) cap))) (some (k,o')):=λo' hw hroom hrt=>by
     cases l with
     |nil=>exact absurd rfl hne
     |cons x0 r0 =>obtain⟨arr,e',z1,z2,z3⟩:=hI.wrs hw hall hl hd;refine g9 (fF ho hcl T hty ?_) (Gx.le.refl φ) z3 hrt (rr hw);rw[ev];have:=xG (P:=P) (ty:=o.type) hu R r hroom z1 (by rw[his];exact z2);rw[his]at this;exact this
    split at p
    ·rename_i c;cases hc:Nat.ble (n+l.length) c with
     |true=>
      rw[hc,ξ]at p;split at p
      next o' hw=>cases p;refine inplace o' hw (bD.1 hc) ?_;show den φ (.sl k g off _ (some c))=_;simp[den,hl,Bx]
      ·cases p
     |false=>
      rw[hc,S']at p;have hc:c<n+l.length:=by
       rcases T' c (n+l.length)with q|q
       ·exact q
       ·rw[bD.2 q]at hc;cases hc
      split at p
      ·rename_i old hold;cases hc2:(Nat.ble ((n+l.length)*xv P e) 140737488355328&&kY (ap P e) old&&kY (ap P e) l&&Nat.ble (n+l.length) 4294967290)with
       |false=>rw[hc2]at p;cases p
       |true=>
        rw[hc2,ξ]at p;simp[bD]at hc2;obtain⟨⟨⟨c1,_⟩,_⟩,c4⟩:=hc2;cases p;obtain⟨q1,q2,olds,q3,q4⟩:=hI.rds hl hold;have hcap:=atg w (n+l.length) c e;obtain⟨i',v',y1,y2,y3,y4,y5,y6,y7⟩:=Yu (P:=P) hI hf hz hzs hs0 (old:=old) (l:=l) (olds:=olds) (news:=news) (N:=grownCap w (n+l.length) c e) q2 hall q3 hd Ω Ω;rw[q1]at y6 y7;refine g9 (fF ho hcl T hty ?_) y5 y6 y7;rw[ev];have hol:olds.length=n*i'.size:=by rw[bo q3,gx q2,q1,y3]
        exact run_append_grow_src (P:=P) w t tx o.type e i' v' hu y1 y2 (some ⟨U.b,off,none⟩) n c olds (ar7 w.drew i'.size n _ n c olds hol (by simpa using q4)) (a.eval x) l.length news (by rw[y3];exact hsrc) hc Ω (by rw[y4];exact Cy c1 hc)
      ·cases p
    ·split at p
     ·rename_i e' s' el len gen fz hrow;cases hc:(Nat.beq e e'&&Nat.beq (ap P e) s'&&Nat.beq g gen&&Nat.beq (off%ap P e) 0&&kY (ap P e) l&&Nat.ble ((n+l.length)*xv P e) 140737488355328&&Nat.ble (n+l.length) 4294967290&&RW fz)with
      |false=>rw[hc]at p;cases p
      |true=>
       rw[hc,ξ]at p;simp[bD]at hc;obtain⟨⟨⟨⟨⟨⟨⟨rfl,rfl⟩,rfl⟩,c4⟩,c5⟩,c6⟩,c7⟩,c8⟩:=hc;have c8:fz = .no:=by cases fz <;> first|rfl|cases c8
       subst c8;have hls:=hI.rowS hrow hl;have hob:=hI.obj k;rw[hrow]at hob;obtain⟨g0,g1,gm,g2,g3⟩:=hob;obtain⟨lc',m1,⟨m2,m3,arr,fr,m4,m5,m6,m7⟩,m8⟩:=g3 g (δ _);rw[hl]at m1;cases m1;have m6:fr=(0,0):=m6;subst m6;have hC:=bD.1 hcf;have hn8:=m8 rfl;cases hfit:Nat.ble (off/ap P e+n+l.length) len with
       |true=>
        rw[hfit,ξ]at p;have hfit:=bD.1 hfit;split at p
        next o' hw=>cases p;rw[hls]at hC;refine inplace o' hw (by simp[iq];rw[hls];omega) ?_;show den φ (.sl k g off _ none)=_;have hx:Nat.ble (off/U.s+(n+l.length)) U.n=true:=bD.2 (by rw[hls];omega);simp[den,hl,Bx,hx]
        ·cases p
       |false=>
        rw[hfit,S']at p;cases hc9:(Nat.beq off 0&&Nat.ble n len)with
        |false=>rw[hc9]at p;cases p
        |true=>
         rw[hc9,ξ]at p;simp[bD]at hc9;obtain⟨rfl,c9⟩:=hc9;cases p;have hgt:len<n+l.length:=by
          rcases T' len (n+l.length)with q|q
          ·exact q
          ·rw[as7,I',bD.2 q]at hfit;cases hfit
         rw[as7]at ev;have hns:n*ap P e≤arr.size:=by rw[m5];exact Y' _ Ω
         have hnl:news.length=l.length*ap P e:=by rw[bo hd,gx hall]
         rcases T' U.n (n+l.length)with hg|hg
         ·
          have hcap:=atg w (n+l.length) U.n e;have hvs:zv.cells.size=ap P e:=by obtain⟨i',v',w1,w2,w3⟩:=gU hz;rw[R]at w1;cases w1;rw[hiz]at w2;cases w2;rw[←Array.length_toList,bo (dD (w3 φ)),hzs]
          have hol:(arr.toList.take (n*ap P e)).length=n*ap P e:=by rw[h_,ρ];omega
          obtain⟨q1,q2⟩:=Inv.turnUp (l:=l) (news:=news) (w':=w.drew.alloc (.cells ((arr.toList.take (n*ap P e)++news).toArray++Builtin.zeroCells zv.cells (grownCap w (n+l.length) U.n e-(n+l.length))) e)) (l':=⟨w.heap.size,grownCap w (n+l.length) U.n e,ap P e⟩) hI hrow hl c9 c7 hall hd rfl hI.size (B_ w.drew _)
           (by rw[Array.size_append,E0,hvs,as9,a_,hol,hnl,←Nat.add_mul,←Nat.add_mul];congr 1;show _=grownCap w (n+l.length) U.n e;omega) (by show n+l.length≤grownCap w (n+l.length) U.n e;omega)
           (λj hj arr2 e2 fr2 hh=>by
            rw[m4]at hh;injection hh with hh;injection hh with hh _ _;subst hh;rw[K_ Ξ,asE,ω Ω,E',β hj,l_])
           (λj u hj=>by
            have:=(g_.1 hj).1;rw[K_ Ξ,asE,P' Ω,hol,asr];exact hj)
           (.inr (δ _)) (λhh=>by have:=hI.lt hl;simp only at hh;omega) (λb hb _=>heap_alloc_old w.drew _ b hb) rfl rfl rfl (by show w.heap.size≤(w.heap.push _).size;simp) (j? _)
          refine g9 (v :=.slice (some ⟨w.heap.size,0,none⟩) (n+l.length) (grownCap w (n+l.length) U.n e)) (fF ho hcl T hty ?_) q1 q2 ?_
          ·rw[ev];have:=run_append_grow_src (P:=P) w t tx o.type e i zv hu R hiz (some ⟨U.b,0,none⟩) n U.n (arr.toList.take (n*ap P e)) (ar7 w.drew i.size n _ n U.n _ (by rw[his];exact hol) (λj u hj=>by
            have hjl:=(g_.1 hj).1;rw[pS,I'];rw[asN w.drew U.b j arr e (0,0) m4];rw[E',β Ω,l_]at hj;exact hj)) (a.eval x) l.length news r hg Ω (by rw[hib];exact Cy c6 hg)
           simpa[iq]using this
          ·show den _ (.sl k (g+1) 0 _ none)=_;have hx:Nat.ble (0+(n+l.length)) (grownCap w (n+l.length) U.n e)=true:=bD.2 Ω;simp only[den,Gx.turn_self,as7,Bx,hx,h?,iq,asw]
         ·
          have hfit2:n*ap P e+news.length≤arr.size:=by rw[m5,hnl,←Nat.add_mul];exact Y' _ hg
          have hsz2:(arr.toList.take (n*ap P e)++news++arr.toList.drop (n*ap P e+news.length)).toArray.size=arr.size:=by simp;omega
          obtain⟨q1,q2⟩:=Inv.turnUp (l:=l) (news:=news) (w':=w.setRow U.b (arr.toList.take (n*ap P e)++news++arr.toList.drop (n*ap P e+news.length)).toArray) (l':=U) hI hrow hl c9 c7 hall hd hls m2 (asJ w U.b arr _ e _ m4)
           (by rw[hsz2];exact m5) hg
           (λj hj arr2 e2 fr2 hh=>by
            rw[m4]at hh;injection hh with hh;injection hh with hh _ _;subst hh;rw[zb hfit2,ο Ω])
           (λj u hj=>by
            have:=(g_.1 hj).1;rw[zb hfit2,β Ω,asr];exact hj)
           (.inl rfl) (λ_ arr2 e2 fr2 hh=>by
            rw[m4]at hh;injection hh with hh;injection hh with hh _ _;subst hh;exact hsz2) (λb hb hne=>ar8 w U.b b _ hne) rfl rfl rfl (by simp[World.setRow]) (δ _)
          refine g9 (v :=.slice (some ⟨U.b,0,none⟩) (n+l.length) (iq none U.n 0)) (fF ho hcl T hty ?_) q1 q2 ?_
          ·rw[ev];have:=xG (P:=P) (ty:=o.type) (sCap:=iq none U.n 0) hu R r (by simpa[iq]using hg) (off:=0) m4 (by rw[his,I'];exact hfit2);rw[his,I']at this;exact this
          ·show den _ (.sl k (g+1) 0 _ none)=_;have hx:Nat.ble (0+(n+l.length)) U.n=true:=bD.2 Ω;simp only[den,Gx.turn_self,as7,Bx,hx,h?]
     ·cases p
  ·cases p
 ·cases hq
end
