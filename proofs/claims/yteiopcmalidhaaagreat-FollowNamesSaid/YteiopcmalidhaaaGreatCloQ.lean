/- Closed runs. -/
import Derived.Test.YteiopcmalidhaaaGreatCloI
import Derived.Laws.BytesString
import Derived.Deep.AppendSrc
import Derived.Laws.MakeOwn
import Derived.MapKept
import Derived.Maps.RangeRun
set_option linter.all false
namespace Go.Proofs.YteiopcmalidhaaaGreat
namespace Clo
open Go Go.RowKit
variable [SymVal]
section
variable {P:Program}{B:Nat}{R:W0}{φ:Gx}{h:Pos→EO}{w:World}{o:Oper}{a:Act}
def oA (neg:Bool):BinOp:=match neg with|true=>.neq|false=>.eql
def pP (neg b:Bool):Bool:=match neg with|true=>!b|false=>b
def Yr (r:Inv B R φ h w){neg:Bool}{t p:TypeId}{x y:Operand}(f:o.op = .binOp (oA neg) t x y p){b:Bool}
  (g:(eqGuard (oA neg) t x y (a.eval x) (a.eval y)).run P w = .ok () w) (l:∀op,(op = .eql∨op = .neq)→binOp op t (a.eval x) (a.eval y)=(do pure (.bool (pP (match op with|.neq=>true|_=>false) (←Op.equal t (a.eval x) (a.eval y))))))
  (j:(Op.equal t (a.eval x) (a.eval y)).run P w = .ok b w):OkX P B R φ h w o a (.pv (.one (.bl (pP neg b)))) none:=by
 refine aq r ?_ (yu _);unfold execOp;cases neg
 ·simp[f,oA,ξ];rw[show(eqGuard .eql t x y (a.eval x) (a.eval y)).run P w = .ok () w from g,l .eql (.inl rfl)];simp[j,pP]
 ·simp[f,oA,ξ];rw[show(eqGuard .neq t x y (a.eval x) (a.eval y)).run P w = .ok () w from g,l .neq (.inr rfl)];simp[j,pP]
variable{v:Value}{k:Pos}
def Sr {n:Nat}(h:RT φ (.pv (.one (.glob n))) v):v = .pointer (some ⟨n,0,none⟩):=(π h).symm
def kn (h:RT φ (.pv (.one .nilp)) v):v = .pointer none:=(π h).symm
def dP (h:RT φ (.pv (.one .nils)) v):v = .slice none 0 0:=(π h).symm
def np (h:RT φ (.pv (.one .nilm)) v):v = .map none:=(π h).symm
def uo (h:RT φ (.pv (.one .nilf)) v):v = .nilFunc:=(π h).symm
def XB {f:FuncId}(h:RT φ (.pv (.one (.fnc f))) v):v = .func (.func f) #[] #[]:=(π h).symm
def B2 (h:RT φ (.pv (.one .nili)) v):v = .nilIface:=(π h).symm
def XC (h:RT φ (.pv (.one (.clo k))) v):∃fn x y,φ.val k=some (.func fn x y)∧v = .func fn x y:=by
 have h:den φ (.clo k)=some v:=h;simp[den]at h;split at h
 next fn x y q=>exact⟨fn,x,y,q,(π h).symm⟩
 ·cases h
def XA (h:RT φ (.pv (.one (.ifc k))) v):∃t u,φ.val k=some (.iface t u)∧v = .iface t u:=by
 have h:den φ (.ifc k)=some v:=h;simp[den]at h;split at h
 next t u q=>exact⟨t,u,q,(π h).symm⟩
 ·cases h
def EqF (P:Program)(w:World)(neg:Bool)(t:TypeId)(x y:Operand)(g f:Value)(b:Bool):Prop :=
 (eqGuard (oA neg) t x y g f).run P w = .ok () w∧(∀op,(op = .eql∨op = .neq)→binOp op t g f=(do pure (.bool (pP (match op with|.neq=>true|_=>false) (←Op.equal t g f)))))∧(Op.equal t g f).run P w = .ok b w
section
variable {t e:TypeId}{neg:Bool}{x y:Operand}
def Rp (f:P.underlying t=some (.pointer e))(q:Option Addr):EqF P w neg t x y (.pointer none) (.pointer q) q.isNone:=by
 refine⟨by cases neg <;> simp[eqGuard,oA],by rintro op (rfl|rfl) <;> simp[binOp,pP], ?_⟩;have:∀d,(Op.equalIn (d+1) t (.pointer none) (.pointer q)).run P w = .ok q.isNone w:=λd=>by simp[Op.equalIn,ε f]
 exact this 9999
def Zu (f:P.underlying t=some (.pointer e))(q:Addr):EqF P w neg t x y (.pointer (some q)) (.pointer none) false:=by
 refine⟨by cases neg <;> simp[eqGuard,oA],by rintro op (rfl|rfl) <;> simp[binOp,pP], ?_⟩;have:∀d,(Op.equalIn (d+1) t (.pointer (some q)) (.pointer none)).run P w = .ok false w:=λd=>by simp[Op.equalIn,ε f]
 exact this 9999
def afL (l:P.underlying t=some (.pointer e))(g:ah P e≠0)(b m n:Nat):EqF P w neg t x y (.pointer (some ⟨b,m,none⟩)) (.pointer (some ⟨b,n,none⟩)) (Nat.beq m n):=by
 refine⟨by cases neg <;> simp[eqGuard,oA],by rintro op (rfl|rfl) <;> simp[binOp,pP], ?_⟩;have p:((⟨b,m,none⟩:Addr) == ⟨b,n,none⟩)=Nat.beq m n:=by
  by_cases f:m=n
  ·subst f;simp[ajI]
  ·have r:Nat.beq m n=false:=by cases j:Nat.beq m n with|false=>rfl|true=>exact absurd (pX.1 j) f
   rw[r];simp[f]
 have:∀d,(Op.equalIn (d+1) t (.pointer (some ⟨b,m,none⟩)) (.pointer (some ⟨b,n,none⟩))).run P w = .ok (Nat.beq m n) w:=λd=>by simp[Op.equalIn,ε l,az g,g,sameAddr,p]
 exact this 9999
def Ro (f:P.underlying t=some (.slice e))(q:Option Addr)(n c:Nat):EqF P w neg t x y (.slice none 0 0) (.slice q n c) q.isNone:=by
 refine⟨by cases neg <;> simp[eqGuard,oA],by rintro op (rfl|rfl) <;> simp[binOp,pP], ?_⟩;have:∀d,(Op.equalIn (d+1) t (.slice none 0 0) (.slice q n c)).run P w = .ok q.isNone w:=λd=>by simp[Op.equalIn,ε f]
 exact this 9999
def Zv (f:P.underlying t=some (.slice e))(q:Addr)(n c:Nat):EqF P w neg t x y (.slice (some q) n c) (.slice none 0 0) false:=by
 refine⟨by cases neg <;> simp[eqGuard,oA],by rintro op (rfl|rfl) <;> simp[binOp,pP], ?_⟩;have:∀d,(Op.equalIn (d+1) t (.slice (some q) n c) (.slice none 0 0)).run P w = .ok false w:=λd=>by simp[Op.equalIn,ε f]
 exact this 9999
def Zw {k:TypeId}(f:P.underlying t=some (.map k e))(q:Option Nat):EqF P w neg t x y (.map none) (.map q) q.isNone:=by
 refine⟨by cases neg <;> simp[eqGuard,oA],by rintro op (rfl|rfl) <;> simp[binOp,pP], ?_⟩;have:∀d,(Op.equalIn (d+1) t (.map none) (.map q)).run P w = .ok q.isNone w:=λd=>by simp[Op.equalIn,ε f]
 exact this 9999
def afN {k:TypeId}(f:P.underlying t=some (.map k e))(q:Nat):EqF P w neg t x y (.map (some q)) (.map none) false:=by
 refine⟨by cases neg <;> simp[eqGuard,oA],by rintro op (rfl|rfl) <;> simp[binOp,pP], ?_⟩;have:∀d,(Op.equalIn (d+1) t (.map (some q)) (.map none)).run P w = .ok false w:=λd=>by simp[Op.equalIn,ε f]
 exact this 9999
variable{k l:Array TypeId}{m:Array (String×TypeId)}
def afR {m:Bool}(f:P.underlying t=some (.func k l m)):EqF P w neg t x y .nilFunc .nilFunc true:=by
 refine⟨by cases neg <;> simp[eqGuard,oA],by rintro op (rfl|rfl) <;> simp[binOp,pP], ?_⟩;have:∀d,(Op.equalIn (d+1) t .nilFunc .nilFunc).run P w = .ok true w:=λd=>by simp[Op.equalIn,ε f]
 exact this 9999
def Zz {m:Bool}(g:P.underlying t=some (.func k l m))(f:Fn)(q r:Array Value):EqF P w neg t x y .nilFunc (.func f q r) false:=by
 refine⟨by cases neg <;> simp[eqGuard,oA],by rintro op (rfl|rfl) <;> simp[binOp,pP], ?_⟩;have:∀d,(Op.equalIn (d+1) t .nilFunc (.func f q r)).run P w = .ok false w:=λd=>by simp[Op.equalIn,ε g]
 exact this 9999
def Zx {m:Bool}(g:P.underlying t=some (.func k l m))(f:Fn)(q r:Array Value):EqF P w neg t x y (.func f q r) .nilFunc false:=by
 refine⟨by cases neg <;> simp[eqGuard,oA],by rintro op (rfl|rfl) <;> simp[binOp,pP], ?_⟩;have:∀d,(Op.equalIn (d+1) t (.func f q r) .nilFunc).run P w = .ok false w:=λd=>by simp[Op.equalIn,ε g]
 exact this 9999
def afQ (f:P.underlying t=some (.interface m))(g:(isC x||isC y)=true):EqF P w neg t x y .nilIface .nilIface true:=by
 refine⟨by cases neg <;> cases x <;> cases y <;> first|rfl|(simp[isC]at g),by rintro op (rfl|rfl) <;> simp[binOp,pP], ?_⟩;have:∀d,(Op.equalIn (d+1) t .nilIface .nilIface).run P w = .ok true w:=λd=>by simp[Op.equalIn,ε f]
 exact this 9999
def afP (f:P.underlying t=some (.interface m))(u:TypeId)(v:Value):EqF P w neg t x y .nilIface (.iface u v) false:=by
 refine⟨by cases neg <;> simp[eqGuard,oA],by rintro op (rfl|rfl) <;> simp[binOp,pP], ?_⟩;have:∀d,(Op.equalIn (d+1) t .nilIface (.iface u v)).run P w = .ok false w:=λd=>by simp[Op.equalIn,ε f]
 exact this 9999
def afO (f:P.underlying t=some (.interface m))(u:TypeId)(v:Value):EqF P w neg t x y (.iface u v) .nilIface false:=by
 refine⟨by cases neg <;> simp[eqGuard,oA],by rintro op (rfl|rfl) <;> simp[binOp,pP], ?_⟩;have:∀d,(Op.equalIn (d+1) t (.iface u v) .nilIface).run P w = .ok false w:=λd=>by simp[Op.equalIn,ε f]
 exact this 9999
end
variable{t:TypeId}{q:EqK}{neg b:Bool}{x y:Operand}
def acR {j:Bool}(h:E0 P t j=some q):match q with
 |.flat J agg=>iA P 20 t=some J∧agg=oq (P.underlying t)∧(agg=true→P.eqGuardType P.depth t=false)
 |.ptr=>∃e,P.underlying t=some (.pointer e)∧ah P e≠0
 |.slc=>∃e,P.underlying t=some (.slice e)
 |.mp=>∃k e,P.underlying t=some (.map k e)
 |.fnc=>∃k l m,P.underlying t=some (.func k l m)
 |.ifc c=>(∃m,P.underlying t=some (.interface m))∧c=j:=by
 unfold E0 at h;split at h
 next e f=>
  split at h
  ·cases h
  next p=>cases h;exact⟨e,f,p⟩
 next e f=>cases h;exact⟨e,f⟩
 next k e f=>cases h;exact⟨k,e,f⟩
 next k l m f=>cases h;exact⟨k,l,m,f⟩
 next m f=>cases h;exact⟨⟨m,f⟩,rfl⟩
 next fs f=>
  split at h
  ·cases h
  next r=>
   split at h
   next J g=>cases h;exact⟨g,by rw[f];rfl,λ_=>by simpa using r⟩
   ·cases h
 ·cases h
 next d _ _ _ _ _ hst _ f=>
  split at h
  next J g=>cases h;refine⟨g, ?_,λx=>by cases x⟩;rw[f];cases d <;> first|rfl|exact(hst _ rfl).elim
  ·cases h
 ·cases h
def Zy (hni:∀k,P.underlying t≠some (.int k))(hns:P.underlying t≠some .string){J:List CK}{agg:Bool}(R:iA P 20 t=some J)(r:agg=oq (P.underlying t))(hg:agg=true→P.eqGuardType P.depth t=false){p q:PV}{U T:Value}(h1:aP φ p=some U)(h2:aP φ q=some T)(g:eqP J agg p q=some b):EqF P w neg t x y U T b:=by
 unfold eqP at g;split at g
 next c c'=>
  cases f:agg with
  |true=>rw[f]at g;cases g
  |false=>
   rw[f]at g r;have g:eqL J [c] [c']=some b:=g;have j:=Cn (P:=P) (w:=w) 20 9980 t J R (.one c) (.one c') U T b h1 h2 r r g;have C:P.underlying t=some .bool:=by
    simp[iA]at R;split at R
    ·assumption
    next k C=>exact absurd C (hni k)
    next C=>exact absurd C hns
    next C=>rw[C]at r;cases r
    ·cases R
   simp only[iA,C,θ]at R;subst R;cases c <;> cases c' <;> simp[eqL,eqC]at g;have z1:=Dc (φ:=φ) (v:=U) h1;have z2:=Dc (φ:=φ) (v:=T) h2;rw[z1,z2]at j⊢;exact⟨by cases neg <;> simp[eqGuard,oA],by rintro op (rfl|rfl) <;> simp[binOp,pP],j⟩
 next l m=>
  cases f:agg with
  |false=>rw[f]at g;cases g
  |true =>have hg:=hg f;rw[f]at g r;have g:eqL J l m=some b:=g;have j:=Cn (P:=P) (w:=w) 20 9980 t J R (.agg l) (.agg m) U T b h1 h2 r r g;obtain⟨xs,z1,_⟩:=sg (φ:=φ) (v:=U) h1;obtain⟨ys,z2,_⟩:=sg (φ:=φ) (v:=T) h2;rw[z1,z2]at j⊢;exact⟨by cases neg <;> simp[eqGuard,oA,P_,hg],by rintro op (rfl|rfl) <;> simp[binOp,pP],j⟩
 ·cases g
def afM (U:∀k,P.underlying t≠some (.int k))(R:P.underlying t≠some .string)(J:E0 P t (isC x||isC y)=some q){a1 a2:TV}{v1 v2:Value}(j:RT φ a1 v1)(f:RT φ a2 v2)(p:eqQ q a1 a2=some b):EqF P w neg t x y v1 v2 b:=by
 have T:=acR J;unfold eqQ at p;split at p
 ·exact Zy U R T.1 T.2.1 T.2.2 j f p
 ·obtain⟨e,r,hz⟩:=T;split at p;all_goals first|(cases p;done)|skip
  ·cases p;rw[kn j,kn f];exact Rp r none
  ·cases p;obtain⟨l,_,z⟩:=ga f;rw[kn j,z];exact Rp r (some _)
  ·cases p;obtain⟨l,_,z⟩:=ga j;rw[kn f,z];exact Zu r _
  ·cases p;rw[kn j,Sr f];exact Rp r (some _)
  ·cases p;rw[Sr j,kn f];exact Zu r _
  next k g o1 k' g' o2=>
   cases C:(k.beq k'&&Nat.beq g g')with
   |false=>rw[C]at p;cases p
   |true =>rw[C,G']at p;simp only[κ,Pos.beq_iff,pX]at C;obtain⟨rfl,rfl⟩:=C;cases p;obtain⟨l,l1,z⟩:=ga j;obtain⟨l',l2,z'⟩:=ga f;rw[l1]at l2;cases l2;rw[z,z'];exact afL r hz _ _ _
 ·obtain⟨e,r⟩:=T;split at p;all_goals first|(cases p;done)|skip
  all_goals (simp at p;subst p)
  ·rw[dP j,dP f];exact Ro r none 0 0
  ·obtain⟨l,_,z⟩:=vO f;rw[dP j,z];exact Ro r (some _) _ _
  ·obtain⟨l,_,z⟩:=vO j;rw[dP f,z];exact Zv r _ _ _
  ·obtain⟨l,c,z⟩:=Jj f;rw[dP j,z];exact Ro r (some _) _ _
  ·obtain⟨l,c,z⟩:=Jj j;rw[dP f,z];exact Zv r _ _ _
 ·obtain⟨k,e,r⟩:=T;split at p;all_goals first|(cases p;done)|skip
  all_goals (simp at p;subst p)
  ·rw[np j,np f];exact Zw r none
  ·obtain⟨l,_,z⟩:=Sq f;rw[np j,z];exact Zw r (some _)
  ·obtain⟨l,_,z⟩:=Sq j;rw[np f,z];exact afN r _
 ·obtain⟨k,l,m,r⟩:=T;split at p;all_goals first|(cases p;done)|skip
  all_goals (simp at p;subst p)
  ·rw[uo j,uo f];exact afR r
  ·rw[uo j,XB f];exact Zz r _ _ _
  ·rw[XB j,uo f];exact Zx r _ _ _
  ·obtain⟨_,_,_,_,z⟩:=XC f;rw[uo j,z];exact Zz r _ _ _
  ·obtain⟨_,_,_,_,z⟩:=XC j;rw[uo f,z];exact Zx r _ _ _
 next cn x1 y1=>
  obtain⟨⟨m,r⟩,hcn⟩:=T;split at p;all_goals first|(cases p;done)|skip
  ·cases C:cn with
   |false=>rw[C]at p;cases p
   |true =>rw[C]at p;cases p;rw[B2 j,B2 f];exact afQ r (by rw[←hcn,C])
  ·cases p;obtain⟨_,_,_,z⟩:=XA f;rw[B2 j,z];exact afP r _ _
  ·cases p;obtain⟨_,_,_,z⟩:=XA j;rw[B2 f,z];exact afO r _ _
 ·cases p
def ae9 (hI:Inv B R φ h w){ty:TypeId}(ho:o.op = .binOp (oA neg) t x y ty)(U:∀k,P.underlying t≠some (.int k))(T:P.underlying t≠some .string)(J:E0 P t (isC x||isC y)=some q){C:List TV}(hv:RTs φ C [a.eval x,a.eval y]){f:Pos}{out:TV}{wr:Option (Pos×EO)}(g:(ZN neg q C f).run h=some (out,wr)):OkX P B R φ h w o a out wr:=by
 unfold ZN at g;split at g
 ·obtain⟨v1,ws,j,r,p⟩:=hv.cons;obtain⟨v2,e2,l⟩:=p.one;subst e2;simp at j;obtain⟨j,e2⟩:=j;subst j;subst e2;split at g
  next b hb=>rw[xN]at g;cases g;obtain⟨h1,h2,h3⟩:=afM (neg:=neg) U T J r l hb (w:=w);exact Yr hI ho h1 h2 h3
  ·cases g
 ·cases g
end
variable [SymVal]
def fS {f:Type}{s:Nat}:∀{l:List (List f)},(∀a∈l,a.length=s)→l.flatten.length=l.length*s
 |[],_=>by simp
 |x::l,h=>by rw[D_,P',h x Ψ,fS λa g=>h a (by simp[g]),r_,T_,G?]
def tp {f:Type}{s:Nat}:∀{l:List (List f)},(∀a∈l,a.length=s)→∀{i j:Nat} {a:List f} {c:f},l[i]? = some a→a[j]? = some c→l.flatten[i*s+j]? = some c
 |[],_,i,j,a,c,h,_=>by simp at h
 |x::l,hs,i,j,a,c,h,hj=>by
  have g:=hs x Ψ;cases i with
  |zero =>simp at h;subst h;have:=(N'.1 hj).1;rw[D_,aiv,Z',ο this];exact hj
  |succ i=>
   simp at h;have:=tp (λa p=>hs a (by simp[p])) h hj;have e:(i+1)*s+j=x.length+(i*s+j):=by rw[g,T_];omega
   rw[D_,e,Q' Ω,aje];exact this
def n9 {m:Nat}:∀{l:List (List CV)} {el:PT Ch} {i:Nat},i+l.length+2≤2^32→∀j,(oa m l el i).get dch j=if h:i≤j∧j<i+l.length then⟨l[j-i]'Ω,m⟩else el.get dch j
 |[],el,i,_,j=>by rw[ajG Ψ];rfl
 |a::l,el,i,hb,j=>by
  simp at hb;simp only[oa];rw[n9 (l:=l) (i:=i+1) Ω j,PT.get_set dch _ 32 el i j Ω];by_cases g:i=j
  ·subst g;rw[ajG Ω,β rfl,ai7 Ψ];simp
  ·rw[B' g];by_cases f:i+1≤j∧j<i+1+l.length
   ·rw[ai7 f,ai7 Ξ];congr 1;have:j-i=(j-(i+1))+1:=Ω
    simp[this]
   ·rw[ajG f,ajG Ξ]
section
variable {P:Program}{B:Nat}{R:W0}{φ:Gx}{h:Pos→EO}{w:World}{o:Oper}{a:Act}
variable{e t:TypeId}{cl:Call}{x:Operand}{C:List TV}{f:Pos}{out:TV}{wr:Option (Pos×EO)}
def Inv.newR (U:Inv B R φ h w){k:Pos}(hk:h k = .none){s N:Nat}{l:List (List CV)}{vs:List Value}{arr:Array Value}{fr:Nat×Nat}{fz:Fz}(hs:0<s)(hl:∀a∈l,a.length=s)(hd:aV φ l.flatten=some vs)
  (C:∀(j:Nat) (v:Value),vs[j]? = some v→arr[j]? = some v) (hN:arr.size=N*s) (hn:l.length≤N) (hb:l.length+2≤2^32) (P:ahp fr arr.size fz) :
  φ.le (φ.add k ⟨w.heap.size,N,s⟩)∧Inv B R (φ.add k ⟨w.heap.size,N,s⟩) (upd h k (.row e s (oa 0 l .leaf 0) l.length 0 fz)) (w.alloc (.cells arr e fr)):=by
 have r:=U.le_add hk ⟨w.heap.size,N,s⟩;have f:=λj=>n9 (m:=0) (l:=l) (el :=.leaf) (i:=0) Ω j;refine⟨r,U.new hk rfl ⟨hs,hb,λi T=>?_,λg hg=>?_,λg hg=>⟨⟨w.heap.size,N,s⟩, ?_,⟨U.size,rfl,arr,fr,z_ w _,hN,P,λi T _=>⟨by show i<N;omega, ?_⟩⟩,λ_=>hn⟩⟩⟩
 ·rw[f,ai7 Ω];exact ζ _
 ·simp only[Gx.add,h?];rw[B' Ω]
 ·obtain rfl:g=0:=Ω
  exact Gx.add_self _ _ _
 ·rw[f,ai7 Ω];have p:l[i-0]'Ω∈l:=e_ _;refine⟨hl _ p,λj c J=>?_⟩;have J:(l[i-0]'Ω)[j]? = some c:=J;obtain⟨v,z1,z2⟩:=mw hd (tp hl (i:=i-0) (δ Ω) J);rw[aiZ]at z1;exact⟨v,C _ _ z1,dZ r z2⟩
def Inv.rds (U:Inv B R φ h w){k:Pos}{g s:Nat}{l:Loc}(T:φ.loc k g=some l):∀{n f:Nat} {x:List (List CV)},oo (h k) g s n f=some x→x.length=n∧(∀a∈x,a.length=s)∧∃p,aV φ x.flatten=some p∧∀j u,p[j]? = some u→w.cell? ((⟨l.b,f,none⟩:Addr).add j)=some u
 |0,f,x,C=>by cases C;exact⟨rfl,(λ_ q=>by cases q),[],rfl,λj u q=>by simp at q⟩
 |n+1,f,x,C=>by
  simp[oo]at C;split at C
  next a r h1 h2=>
   cases C;obtain⟨p,q1,q2,q3,_⟩:=U.rd h1 T;obtain⟨p1,p2,ws,p3,p4⟩:=U.rds T h2;refine⟨by simp[p1],λb P=>?_,p++ws,ct q1 p3,λj u J=>?_⟩
   ·obtain rfl|P:=C'.1 P
    ·exact q2
    ·exact p2 b P
   ·have hvl:=aY q1;by_cases hj:j<p.length
    ·rw[ο hj]at J;exact q3 j u J
    ·rw[Q' Ω]at J;have:=p4 _ u J;rw[oJ]at this⊢;rw[show f+s+(j-p.length)=f+j by omega]at this;exact this
  ·cases C
def ab6 (hI:Inv B R φ h w)(U:o.op = .call cl)(p:cl.callee = .builtin .len)(j:cl.args = #[x])(l:cl.argTypes = #[t])(J:P.underlying t=some .string)(r:RTs φ C [a.eval x])(g:(In C f).run h=some (out,wr)):OkX P B R φ h w o a out wr:=by
 unfold In at g;split at g
 ·obtain⟨v,e,T⟩:=r.one;cases e;split at g
  next b=>rw[bT]at g;cases g;refine aq hI ?_ (cm _ _);unfold execOp;simp[U,resolve,p,j,invoke,builtin,Builtin.len_,l,(lN T).2,og,ε J,goInt,ug]
  ·cases g
 ·cases g
def ab8 (hI:Inv B R φ h w)(T:o.op = .call cl)(p:cl.callee = .builtin .len)(g:cl.args = #[x])(j:cl.argTypes = #[t])(r:P.underlying t=some (.slice e))(U:RTs φ C [a.eval x])(l:(Io C f).run h=some (out,wr)):OkX P B R φ h w o a out wr:=by
 unfold Io at l;split at l
 ·obtain⟨v,e,J⟩:=U.one;cases e;split at l;all_goals first|(cases l;done)|skip
  all_goals (rw[bT]at l;cases l;refine aq hI ?_ (cm _ _);unfold execOp)
  ·simp[T,resolve,p,g,invoke,builtin,Builtin.len_,j,dP J,ε r,goInt]
  ·obtain⟨_,_,z⟩:=Jj J;simp[T,resolve,p,g,invoke,builtin,Builtin.len_,j,z,ε r,goInt]
  ·obtain⟨_,_,z⟩:=vO J;simp[T,resolve,p,g,invoke,builtin,Builtin.len_,j,z,ε r,goInt]
 ·cases l
def ab7 (U:Inv B R φ h w){k:TypeId}(ho:o.op = .call cl)(T:cl.callee = .builtin .len)(j:cl.args = #[x])(p:cl.argTypes = #[t])(hu:P.underlying t=some (.map k e))(hv:RTs φ C [a.eval x])(g:(Oq C f).run h=some (out,wr)):OkX P B R φ h w o a out wr:=by
 unfold Oq at g;split at g
 ·obtain⟨v,e,hr⟩:=hv.one;cases e;split at g;all_goals first|(cases g;done)|skip
  ·rw[bT]at g;cases g;refine aq U ?_ (cm _ _);unfold execOp;simp[ho,resolve,T,j,invoke,builtin,Builtin.len_,p,np hr,ε hu,goInt]
  next m=>
   simp[Q.run]at g;have r:=U.obj m;split at g
   ·rename_i es cl' hm;rw[bT]at g;cases g;rw[hm]at r;obtain⟨_,l,vs,q1,_,q3,q4,_⟩:=r;obtain⟨l',l2,z⟩:=Sq hr;rw[q1]at l2;cases l2;refine aq U (v :=.int .i64 vs.size) ?_ (by show some (Value.int .i64 (Int.ofNat es.length))=_;rw[←q4,ω];rfl);have J:(getObj l.b).run P w = .ok (.map vs cl') w:=by simp[getObj,Sem.run,q3]
    unfold execOp;simp[ho,resolve,T,j,invoke,builtin,Builtin.len_,p,z,ε hu,goInt,J]
   ·cases g
 ·cases g
def ab9 (T:Inv B R φ h w){n:Nat}(J:o.op = .call cl)(p:cl.callee = .builtin .len)(g:cl.args = #[x])(l:cl.argTypes = #[t])(r:P.underlying t=some (.array n e))(j:(Ot n C f).run h=some (out,wr)):OkX P B R φ h w o a out wr:=by
 unfold Ot at j;split at j
 ·rw[bT]at j;cases j;refine aq T ?_ (cm _ _);unfold execOp;simp[J,resolve,p,g,invoke,builtin,Builtin.len_,l,ε r,goInt]
 ·cases j
def ach (hI:Inv B R φ h w)(T:o.op = .call cl)(p:cl.callee = .builtin .cap)(g:cl.args = #[x])(l:cl.argTypes = #[t])(r:P.underlying t=some (.slice e))(U:RTs φ C [a.eval x])(j:(Oy C f).run h=some (out,wr)):OkX P B R φ h w o a out wr:=by
 unfold Oy at j;split at j
 ·obtain⟨v,e,J⟩:=U.one;cases e;split at j;all_goals first|(cases j;done)|skip
  all_goals (rw[bT]at j;cases j;refine aq hI ?_ (cm _ _);unfold execOp)
  ·simp[T,resolve,p,g,invoke,builtin,Builtin.cap_,l,dP J,ε r,goInt]
  ·obtain⟨_,_,z⟩:=vO J;simp[T,resolve,p,g,invoke,builtin,Builtin.cap_,l,z,gk,ε r,goInt]
 ·cases j
def tJ:∀{l:List (List CV)} {b:List Nat} {g:List Value},zo l=some b→aV φ l.flatten=some g→cI b=true∧g=b.map λc=>Value.int .u8 (Int.ofNat c)
 |[],b,g,h,hd=>by cases h;cases hd;exact⟨rfl,rfl⟩
 |x::l,b,g,h,hd=>by
  unfold zo at h;split at h
  next h0=>cases h0
  next n l' h0=>
   injection h0 with h0 f;subst h0;subst f;cases j:Nat.blt n 256 with
   |false=>rw[j]at h;cases h
   |true=>
    rw[j,G']at h;split at h
    next b' hb'=>cases h;obtain⟨v,ws,rfl,f,p⟩:=bW hd;obtain⟨q1,q2⟩:=tJ hb' p;have f:some (Value.int .u8 (Int.ofNat n))=some v:=f;injection f with f;exact⟨DX (bM.1 j) q1,by rw[q2,←f];rfl⟩
    ·cases h
  ·cases h
def abv (b:List Nat)(C:Addr)(c:Nat)(j:(loadCells C b.length).run P w = .ok (b.map λc=>Value.int .u8 (Int.ofNat c)).toArray w):(Conv.bytesToString (.slice (some C) b.length c)).run P w = .ok (og b) w:=by
 have f:(loadCells C b.length).run P w = .ok ((b.map Int.ofNat).map (Value.int .u8)).toArray w:=by rw[j,W?];rfl
 rw[run_bytesToString (P:=P) w C b.length c (b.map Int.ofNat) f];have l:∀(p:List Nat) (g:ByteArray),(p.map Int.ofNat).foldl (λr n=>r.push (UInt8.ofNat n.toNat)) g=⟨g.data++(p.map UInt8.ofNat).toArray⟩:=by
  intro p;induction p with
  |nil=>intro g;simp
  |cons n p J=>intro g;simp only[b?,List.foldl_cons,J];congr 1;simp[ByteArray.push]
 rw[l];unfold og;congr 3;simp
def afe (U:Inv B R φ h w){s:TypeId}(ho:o.op = .convert s t x)(hs:P.underlying s=some (.slice e))(ht:P.underlying t=some .string)(he:P.underlying e=some (.int .u8))(hv:RTs φ C [a.eval x])(j:(ac8 C f).run h=some (out,wr)):OkX P B R φ h w o a out wr:=by
 unfold ac8 at j;split at j
 ·obtain⟨v,e1,hr⟩:=hv.one;cases e1;split at j
  ·cases j;refine aq U (v :=.string ⟨#[]⟩) ?_ (sL rfl);unfold execOp;simp[ho,dP hr,convert,ε hs,ε ht,ε he,Conv.bytesToString];rfl
  next k g r n cap=>
   simp[Q.run]at j;split at j
   ·rename_i l hl;split at j
    ·rename_i b hb;cases j;obtain⟨T,l1,z⟩:=vO hr;obtain⟨q1,_,vs,q3,q4⟩:=U.rds l1 hl;obtain⟨p1,p2⟩:=tJ hb q3;have hbl:b.length=n:=by
      have:vs.length=n*1:=by rw[aY q3,fS (s:=1) (λa ha=>(U.rds l1 hl).2.1 a ha),q1]
      rw[p2]at this;simpa using this
     refine aq U ?_ (sL p1);have p:=T? (P:=P) w ⟨T.b,r,none⟩ vs q4;rw[p2]at p;have J:=abv (P:=P) (w:=w) b ⟨T.b,r,none⟩ (gk cap T.n (r/T.s)) (by simpa using p);rw[hbl]at J;unfold execOp;simp[ho,z,convert,ε hs,ε ht,ε he,J]
    ·cases j
   ·cases j
  ·cases j
 ·cases j
end
variable [SymVal]
def Cz (z:Array Value)(n:Nat)(r:0<z.size):((Array.range (n*z.size)).map (z[· % z.size]!)).toList=(List.replicate n z.toList).flatten:=by
 apply X_;intro p;have f:∀a∈List.replicate n z.toList,a.length=z.size:=λa C=>by rw[aiz C];simp
 by_cases g:p<n*z.size
 ·have J:p/z.size<n:=Nat.div_lt_of_lt_mul (by rw[E?];exact g);have l:p%z.size<z.size:=Nat.mod_lt _ r;have j:(List.replicate n z.toList).flatten[p/z.size*z.size+p%z.size]? = some z[p%z.size]:=tp f (a:=z.toList) (by rw[ajf,β J]) (by simp[l]);rw[E?,aj3]at j;rw[j];simp[g,l]
 ·rw[u_ Ξ,u_ (by rw[fS f];simp;omega)]
def OK {g:Type}{z:List g}{s:Nat}(f:z.length=s):∀(k n:Nat),k≤n→(List.replicate n z).flatten.drop (k*s)=(List.replicate (n-k) z).flatten
 |0,n,_=>by simp
 |k+1,n+1,h=>by rw[o?,D_,T_,G?,←List.drop_drop,←f,ai3,f,OK f k n Ω,show n+1-(k+1)=n-k by omega]
 |k+1,0,h=>Ω
def zd {f:Gx}{g:List CV}{z:List Value}(h:aV f g=some z):∀n,aV f (List.replicate n g).flatten=some (List.replicate n z).flatten
 |0=>rfl
 |n+1=>by rw[o?,D_,o?,D_];exact ct h (zd h n)
def mq (f:Nat):∀(g:List Value) (k:Nat) (cells:Array Value),f+k+g.length≤cells.size →
  ((g.zipIdx k).foldl (λp (x:Value×Nat)=>p.setIfInBounds (f+x.2) x.1) cells).toList=cells.toList.take (f+k)++g++cells.toList.drop (f+k+g.length)
 |[],k,cells,_=>by simp
 |v::g,k,cells,h=>by
  simp;simp at h;rw[mq f g (k+1) _ Ξ];have j:f+k<cells.toList.length:=by simp;omega
  simp;rw[show f+(k+1)=f+k+1 by omega,show f+k+1+g.length=f+k+(g.length+1)by omega,List.take_set,List.drop_set_of_lt Ω,
   v_ j,ajm _ _ Ξ]
  have l:min (f+k) cells.size=f+k:=Ω
  simp[l]
def iT (off:Nat)(v:Value)(cells:Array Value)(h:off+v.cells.size≤cells.size) :
  (v.cells.zipIdx.foldl (λf (x:Value×Nat)=>f.setIfInBounds (off+x.2) x.1) cells).toList=cells.toList.take off++v.cells.toList++cells.toList.drop (off+v.cells.size):=by
 rw[←Array.foldl_toList,Array.toList_zipIdx];have:=mq off v.cells.toList 0 cells (by simpa using h);simpa using this
def tA (size:Nat):∀(g:List Value) (i:Nat) (f:Array Value),(∀v∈g,v.cells.size=size)→(i+g.length)*size≤f.size →
  ∃j,Instr.fill (λi=>some (i*size,size)) f ((List.range' i g.length).zip g)=some j∧j.toList=f.toList.take (i*size)++(g.map λv=>v.cells.toList).flatten++f.toList.drop ((i+g.length)*size)
 |[],i,f,_,h=>⟨f,by simp[Instr.fill],Ψ⟩
 |v::g,i,f,hv,h=>by
  have r:=hv v Ψ;have hm:i*size+size≤(i+(v::g).length)*size:=by rw[←Nat.succ_mul];exact g_ _ Ψ
  have l:i*size+v.cells.size≤f.size:=by rw[r];omega
  have p:=iT (i*size) v f l;have C:(v.cells.zipIdx.foldl (λP (x:Value×Nat)=>P.setIfInBounds (i*size+x.2) x.1) f).size=f.size:=by rw[←Array.length_toList,p];simp;omega
  have U:(i+1+g.length)*size=(i+(v::g).length)*size:=by congr 1;simp;omega
  obtain⟨j,e1,e2⟩:=tA size g (i+1) (v.cells.zipIdx.foldl (λP (x:Value×Nat)=>P.setIfInBounds (i*size+x.2) x.1) f) (λu hu=>hv u (by simp[hu])) (by rw[C,U];exact h);refine⟨j, ?_, ?_⟩
  ·simp only[r_,U_,aiD,Instr.fill];have J:¬(v.cells.size≠size||i*size+v.cells.size>f.size)=true:=by
    simp[r];omega
   rw[B' J];exact e1
  ·rw[e2,p];have R:(f.toList.take (i*size)++v.cells.toList).length=(i+1)*size:=by
    simp[r,T_];omega
   have hd:(f.toList.take (i*size)++v.cells.toList++f.toList.drop (i*size+v.cells.size)).drop ((i+1+g.length)*size)=f.toList.drop ((i+(v::g).length)*size):=by have T:(i+1+g.length)*size=(i+1)*size+g.length*size:=Q_ _ _ _;rw[T,←List.drop_drop,←R,ai3,K_];congr 1;rw[r,←U,T,T_]
   rw[hd,←R,Q?];simp
section
variable {P:Program}{B:Nat}{R:W0}{φ:Gx}{h:Pos→EO}{w:World}{o:Oper}{a:Act}
def R0:Option Value→Option Nat→Prop
 |none,none=>True
 |some v,some n=>∃k,v = .int k (Int.ofNat n)
 |_,_=>False
def DP {b:Option Operand}{r g:List TV}{n:Option Nat}{vs:List Value}(f:Yj b.isSome r=some (n,g))(j:RTs φ r (b.toList.map a.eval++vs)):R0 (b.map a.eval) n∧RTs φ g vs:=by
 cases b with
 |none =>cases f;exact⟨ans,j⟩
 |some x=>
  simp[Yj]at f;split at f
  next t r1=>
   split at f
   next k m=>cases f;obtain⟨v,ws,e,p,l⟩:=j.cons;cases e;exact⟨⟨k,cR p⟩,l⟩
   ·cases f
  ·cases f
variable{lo T:Option Operand}{x:Operand}{C:List TV}{f:Pos}{out:TV}{wr:Option (Pos×EO)}
def FA {mx:Option Operand}{r:List TV}{k:Option Nat→Option Nat→Option Nat→Q}{res:TV×Option (Pos×EO)}(f:(Wp lo.isSome T.isSome mx.isSome r k).run h=some res)(p:RTs φ r (lo.toList.map a.eval++(T.toList.map a.eval++mx.toList.map a.eval))) :
  ∃l m n,(k l m n).run h=some res∧R0 (lo.map a.eval) l∧R0 (T.map a.eval) m∧R0 (mx.map a.eval) n:=by
 unfold Wp at f;split at f
 next l r1 h1=>
  split at f
  next m r2 h2=>
   split at f
   next n h3=>obtain⟨b1,j⟩:=DP h1 p;obtain⟨b2,g⟩:=DP h2 j;obtain⟨C,_⟩:=DP (vs:=[]) h3 (by simpa using g);exact⟨l,m,n,f,b1,b2,C⟩
   ·cases f
  ·cases f
 ·cases f
def wB (w:World)(f:Bool)(len cap:Nat){lo T mx:Option Value}{l m n:Option Nat}(j:R0 lo l)(p:R0 T m)(J:R0 mx n)(c1:gD n cap≤cap)(c2:gD m len≤gD n cap)(C:gD l 0≤gD m len)(c4:ym m n=true) :
  (Instr.sliceBounds f len cap lo T mx).run P w = .ok (gD l 0,gD m len,gD n cap) w:=by
 have g:∀(k:IntKind) (x y:Nat) (c:BoundsCode),x≤y→(Instr.sliceBound (.int k (Int.ofNat x)) y c).run P w = .ok x w:=λk x y c hxy=>by
  have:(x:Int)≤(y:Int):=Ω
  simp[Instr.sliceBound,asIntOf,this]
 cases mx with
 |none=>
  cases n with
  |some n=>exact J.elim
  |none=>
   simp[gD]at c1 c2 C⊢;cases T with
   |none=>
    cases m with
    |some m=>exact p.elim
    |none=>
     cases lo with
     |none=>
      cases l with
      |some l=>exact j.elim
      |none=>simp[Instr.sliceBounds]
     |some v=>
      cases l with
      |none=>exact j.elim
      |some l =>obtain⟨k,rfl⟩:=j;simp only[Instr.sliceBounds,ξ,a_,Δ,g k l _ _ C]
   |some U=>
    cases m with
    |none=>exact p.elim
    |some m=>
     obtain⟨r,rfl⟩:=p;cases lo with
     |none=>
      cases l with
      |some l=>exact j.elim
      |none=>simp only[Instr.sliceBounds,ξ,a_,Δ,g r m _ _ c2]
     |some v=>
      cases l with
      |none=>exact j.elim
      |some l =>obtain⟨k,rfl⟩:=j;simp only[Instr.sliceBounds,ξ,a_,Δ,g r m _ _ c2,g k l _ _ C]
 |some vm=>
  cases n with
  |none=>exact J.elim
  |some n=>
   obtain⟨R,rfl⟩:=J;simp only[gD]at c1 c2 C⊢;cases T with
   |none=>
    cases m with
    |some m=>exact p.elim
    |none=>simp[ym]at c4
   |some U=>
    cases m with
    |none=>exact p.elim
    |some m=>
     obtain⟨r,rfl⟩:=p;cases lo with
     |none=>
      cases l with
      |some l=>exact j.elim
      |none=>simp only[Instr.sliceBounds,ξ,a_,Δ,g R n _ _ c1,g r m _ _ c2]
     |some v=>
      cases l with
      |none=>exact j.elim
      |some l =>obtain⟨k,rfl⟩:=j;simp only[Instr.sliceBounds,ξ,a_,Δ,g R n _ _ c1,g r m _ _ c2,g k l _ _ C]
def abT (hI:Inv B R φ h w){t:TypeId}(ho:o.op = .slice t x lo T none)(hu:P.underlying t=some .string)(hv:RTs φ C ((x::(lo.toList++T.toList)).map a.eval))(r:(Om lo.isSome T.isSome C f).run h=some (out,wr)):OkX P B R φ h w o a out wr:=by
 unfold Om at r;split at r
 ·obtain⟨v1,ws,J,hr1,U⟩:=hv.cons;simp at J;obtain⟨J,e2⟩:=J;subst J;subst e2;obtain⟨l,m,n,j,b1,b2,b3⟩:=FA (mx:=none) r (by simpa using U);cases n with
  |some n=>exact b3.elim
  |none=>
   split at j
   ·rename_i b;cases p:(Nat.ble (gD m b.length) b.length&&Nat.ble (gD l 0) (gD m b.length))with
    |false=>rw[p]at j;cases j
    |true=>
     rw[p,G']at j;simp[bf]at p;cases j;obtain⟨q1,q2⟩:=lN hr1;have hb:=wB (P:=P) w false b.length b.length b1 b2 b3 (ζ _) p.1 p.2 (by cases m <;> rfl);refine aq hI ?_ (sL (DY _ (Qz _ q1)));have g:(⟨(b.map UInt8.ofNat).toArray⟩:ByteArray).extract (gD l 0) (gD m b.length)=⟨(((b.take (gD m b.length)).drop (gD l 0)).map UInt8.ofNat).toArray⟩:=by apply ajA;simp[akh,List.drop_take,aj8]
     unfold execOp;simp only[gD]at hb;simp[ho,q2,og,Instr.sliceAt,ξ,ε hu,Instr.slice,ug];simp at hb;rw[hb];simp[a_];simp[gD]at g;rw[g];rfl
   ·cases j
 ·cases r
def Inv.rowS (J:Inv B R φ h w){k:Pos}{g:Nat}{l:Loc}{e:TypeId}{s:Nat}{U:PT Ch}{len j:Nat}{fz:Fz}(C:h k = .row e s U len j fz)(f:φ.loc k g=some l):l.s=s:=by
 have p:=J.obj k;rw[C]at p;obtain⟨_,_,_,T,P⟩:=p;obtain x|x:=d_ j g
 ·rw[T g x]at f;cases f
 ·obtain⟨l',q1,⟨_,r,_⟩,_⟩:=P g x;rw[q1]at f;injection f with f;rw[←f];exact r
def zI {k:Pos}{g off s l hh m:Nat}{f:Loc}(j:φ.loc k g=some f):aP φ (.one (.sl k g (bif Nat.beq l m then off else off+l*s) (hh-l) (some (m-l))))=some (.slice (if m=l then some ⟨f.b,off,none⟩else some ((⟨f.b,off,none⟩:Addr).add (l*s))) (hh-l) (m-l)):=by
 show den φ (.sl k g _ _ _)=_;simp[den,j,gk,xb];by_cases e:m=l
 ·subst e;simp[ajI]
 ·have:Nat.beq l m=false:=by cases p:Nat.beq l m with|false=>rfl|true=>exact absurd (pX.1 p).symm e
  rw[this,E_,B' e,oJ]
def abU (hI:Inv B R φ h w){t e:TypeId}{mx:Option Operand}(ho:o.op = .slice t x lo T mx)(hu:P.underlying t=some (.slice e))(hz:ah P e≠0)(hf:h f = .none)(hv:RTs φ C ((x::(lo.toList++T.toList++mx.toList)).map a.eval))(hq:(Tr (ah P e) lo.isSome T.isSome mx.isSome C f).run h=some (out,wr)):OkX P B R φ h w o a out wr:=by
 unfold Tr at hq;split at hq
 ·obtain⟨v1,ws,e1,hr1,hr2⟩:=hv.cons;simp at e1;obtain⟨e1,e2⟩:=e1;subst e1;subst e2;obtain⟨l,m,n,j,b1,b2,b3⟩:=FA hq (by simpa using hr2);have U:∀(A:Option Addr) (len cap:Nat),a.eval x = .slice A len cap→gD n cap≤cap→gD m len≤gD n cap→gD l 0≤gD m len→ym m n=true →
    (execOp a.eval o).run P w = .ok (.value (.slice (if gD n cap=gD l 0 then A else A.map (·.add (gD l 0*ah P e))) (gD m len-gD l 0) (gD n cap-gD l 0))) w:=λA len cap hx c1 c2 c3 c4=>by
   have hb:=wB (P:=P) w true len cap b1 b2 b3 c1 c2 c3 c4;unfold execOp;simp[ho,hx,Instr.sliceAt,ξ,ε hu,Instr.slice,hb,az hz,a_]
  unfold adZ at j;split at j
  ·cases r:(Nat.beq (gD l 0) 0&&Nat.beq (gD m 0) 0&&Nat.beq (gD n 0) 0&&ym m n)with
   |false=>rw[r]at j;cases j
   |true =>rw[r,G']at j;simp at r;obtain⟨⟨⟨c1,c2⟩,c3⟩,c4⟩:=r;cases j;have:=U none 0 0 (dP hr1) Ω Ω Ω c4;rw[c1,c2,c3]at this;exact aq hI this rfl
  next k g off len cap=>
   obtain⟨p,hl,z,hcf⟩:=Ji hr1;split at j
   ·rename_i c;cases r:(Nat.ble (gD n c) c&&Nat.ble (gD m len) (gD n c)&&Nat.ble (gD l 0) (gD m len)&&ym m n)with
    |false=>rw[r]at j;cases j
    |true =>rw[r,G']at j;simp[bf]at r;obtain⟨⟨⟨c1,c2⟩,c3⟩,c4⟩:=r;cases j;have:=U _ _ _ z c1 c2 c3 c4;refine aq hI this ?_;have hs:=zI (s:=ah P e) (off:=off) (l:=gD l 0) (hh:=gD m len) (m:=gD n c) hl;simp[gk];exact hs
   ·split at j
    ·rename_i n';split at j
     ·rename_i m';cases r:(Nat.ble n' len&&Nat.ble m' n'&&Nat.ble (gD l 0) m')with
      |false=>rw[r]at j;cases j
      |true =>rw[r,G']at j;simp[bf]at r;obtain⟨⟨c1,c2⟩,c3⟩:=r;cases j;have hC:off/p.s+len≤p.n:=bf.1 hcf;have:=U _ _ _ z (by simp[gD,gk];omega) (by simp[gD];exact c2) c3 rfl;refine aq hI this ?_;have hs:=zI (s:=ah P e) (off:=off) (l:=gD l 0) (hh:=m') (m:=n') hl;simp[gD]at hs⊢;exact hs
     ·cases j
    ·have hC:off/p.s+len≤p.n:=bf.1 hcf;cases r:(Nat.ble (gD m len) len&&Nat.ble (gD l 0) (gD m len))with
     |false=>rw[r]at j;cases j
     |true=>
      rw[r,G']at j;simp[bf]at r;obtain⟨c1,c2⟩:=r;have hr:=U _ _ _ z (ζ _) (by simp[gD,gk]at c1⊢;omega) c2 (by cases m <;> rfl);generalize gD l 0=L at *;generalize gD m len=M at *;simp[gD,gk]at hr;cases hb:Nat.beq L 0 with
      |true =>rw[hb,G']at j;have hb:=pX.1 hb;subst hb;cases j;refine aq hI hr ?_;show den φ (.sl k g off M none)=_;simp only[den,hl,gk,xb];have hx:Nat.ble (off/p.s+M) p.n=true:=bf.2 Ω;simp[hx,Addr.add]
      |false=>
       rw[hb,E_]at j;have hb:L≠0:=λe=>by rw[e]at hb;cases hb
       cases J:Nat.blt L len with
       |true=>
        rw[J,G']at j;have J:=bM.1 J;simp[Q.run]at j;split at j
        ·rename_i e' s' el' len' gen' fz' hk';cases hss:Nat.beq (ah P e) s' with
         |false=>rw[hss]at j;cases j
         |true=>
          rw[hss,G']at j;have hss:=pX.1 hss;cases j;have hls:p.s=ah P e:=by rw[hss];exact hI.rowS hk' hl
          refine aq hI hr ?_;have hdiv:(off+L*ah P e)/p.s=off/p.s+L:=by rw[hls,Nat.add_mul_div_right _ _ Ω]
          show den φ (.sl k g (off+L*ah P e) (M-L) none)=_;simp only[den,hl,gk,xb,hdiv];have hx:Nat.ble (off/p.s+L+(M-L)) p.n=true:=bf.2 Ω;have hy:¬p.n-off/p.s=L:=Ω
          simp only[hx,h?,B' hy,oJ,Nat.sub_sub]
        ·cases j
       |false=>
        rw[J,E_]at j;have J:¬L<len:=λq=>by rw[bM.2 q]at J;cases J
        simp only[Q.run,θ,χ]at j;obtain⟨rfl,rfl⟩:=j;have e0:M-L=0:=Ω
        rw[e0]at hr;have hval:∃A,(execOp a.eval o).run P w = .ok (.value (.slice (some A) 0 (p.n-off/p.s-L))) w:=by
         by_cases hCL:p.n-off/p.s=L
         ·simp only[hCL,h?]at hr⊢;exact⟨_,hr⟩
         ·simp only[hCL,ajp]at hr;exact⟨_,hr⟩
        obtain⟨A,hr⟩:=hval;have hle:=hI.le_addV hf (.slice (some A) 0 (p.n-off/p.s-L));exact fD hr hle (hI.newV hf ⟨(hI.free hf).1,A,_,Gx.addV_self _ _ _⟩) (by show den _ (.emp f)=_;simp only[den,Gx.addV_self])
  ·cases j
 ·cases hq
end
variable [SymVal]
def OO {f:Gx}{r new:List CV}{g j:List Value}{off:Nat}(p:aV f r=some g)(l:aV f new=some j):aV f (du r off new)=some (g.take off++j++g.drop (off+j.length)):=by unfold du;rw[aY l];exact ct (ct (kY off p) l) (iV _ p)
section
variable {P:Program}{B:Nat}{R:W0}{φ:Gx}{h:Pos→EO}{w:World}{o:Oper}{a:Act}
def tB {place:Nat→Option (Nat×Nat)}:∀{parts:List (Nat×Operand)} {ps:List (Nat×Nat)} {C:List TV} {r j:List CV} {f:Array Value},parts.map (λp=>place p.1)=ps.map some→Bx ps C r=some j→RTs φ C (parts.map λp=>a.eval p.2)→aV φ r=some f.toList →
  ∃g,Instr.fill place f (parts.map λp=>(p.1,a.eval p.2))=some g∧aV φ j=some g.toList
 |[],[],[],r,j,f,_,hf,_,U=>by cases hf;exact⟨f,rfl,U⟩
 |(i,x)::parts,[],_,_,_,_,hp,_,_,_=>by simp at hp
 |[],_::_,_,_,_,_,hp,_,_,_=>by simp at hp
 |(i,x)::parts,(off,s)::ps,[],r,j,f,hp,hf,hv,U=>by simp[Bx]at hf
 |[],[],_::_,_,_,_,_,hf,_,_=>by simp[Bx]at hf
 |(i,x)::parts,(off,s)::ps,t::C,r,j,f,hp,hf,hv,U=>by
  simp at hp;obtain⟨hp1,hp2⟩:=hp;obtain⟨v,ws,e,hr,hv2⟩:=hv.cons;cases e;cases t with
  |unk=>simp[Bx]at hf
  |tup l=>simp[Bx]at hf
  |pv p=>
   simp[Bx]at hf;cases hc:(Nat.beq p.cells.length s&&Nat.ble (off+s) r.length)with
   |false=>rw[hc]at hf;cases hf
   |true=>
    rw[hc,G']at hf;simp[bf]at hc;have T:=cM hr;have J:(a.eval x).cells.size=s:=by rw[←Array.length_toList,aY T,hc.1]
    have hal:f.size=r.length:=by rw[←Array.length_toList,aY U]
    have R:off+(a.eval x).cells.size≤f.size:=by rw[J,hal];exact hc.2
    have hfc:=iT off (a.eval x) f R;have P:=OO (off:=off) U T;rw[ω,←hfc]at P;obtain⟨g,q1,q2⟩:=tB hp2 hf hv2 P;refine⟨g, ?_,q2⟩;simp only[b?,Instr.fill,hp1];have hno:¬(((a.eval x).cells.size≠s||off+(a.eval x).cells.size>f.size)=true):=by simp[J];omega
    rw[B' hno];exact q1
def x6 {g:Array Field}:∀{parts:List (Nat×Operand)} {ps:List (Nat×Nat)},x7 P g parts=some ps→parts.map (λp=>(g.map λf=>(f.offset,ah P f.type))[p.1]?)=ps.map some
 |[],ps,h=>by cases h;rfl
 |(i,x)::parts,ps,h=>by
  simp[x7]at h;split at h
  next f hf=>
   split at h
   next l hl=>cases h;simp only[b?,x6 hl,I',I_];simp[hf]
   ·cases h
  ·cases h
variable{t:TypeId}{f:Pos}{C:List TV}{out:TV}{wr:Option (Pos×EO)}
def yh (hI:Inv B R φ h w){parts:Array (Nat×Operand)}(ho:o.op = .build t parts){z:PV}(hz:dq P t=some z){ps:List (Nat×Nat)}
  (hp:(∃fs,P.underlying t=some (.struct fs)∧(fs.toList.all λf=>(P.info? f.type).isSome)=true∧x7 P fs parts.toList=some ps)∨(∃n e,P.underlying t=some (.array n e)∧ah P e≠0∧ps=parts.toList.map λp=>(p.1*ah P e,ah P e)))
  {C:List TV} (hv:RTs φ C ((parts.toList.map (·.2)).map a.eval)) {f:Pos} {out:TV} {wr:Option (Pos×EO)} (hq:(E2 z.cells ps C f).run h=some (out,wr)):OkX P B R φ h w o a out wr:=by
 unfold E2 at hq;split at hq
 next cs hcs=>
  cases hq;obtain⟨i,v,h1,h2,h3⟩:=fg hz;have hd:=cM (h3 φ);have hv':RTs φ C (parts.toList.map λp=>a.eval p.2):=by rw[W?]at hv;exact hv
  have U:(parts.map λ(i,x)=>(i,a.eval x)).toList=parts.toList.map λp=>(p.1,a.eval p.2):=by simp
  rcases hp with⟨fs,hu,r,hpl⟩|⟨n,e,hu,hse,rfl⟩
  ·obtain⟨T,q1,q2⟩:=tB (place:=λi=>(fs.map λf=>(f.offset,ah P f.type))[i]?) (x6 hpl) hcs hv' hd;refine aq hI (v :=.agg T) ?_ (by show aP φ (.agg cs)=_;simp[aP,q2]);have hm:∀(l:List Field) (w:World),(∀f∈l,∃j,P.info? f.type=some j)→(l.mapM (λf=>(do pure (f.offset,←sizeOf f.type):Sem (Nat×Nat)))).run P w = .ok (l.map λf=>(f.offset,ah P f.type)) w:=by
    intro l;induction l with
    |nil=>intro w _;simp
    |cons f l ih=>
     intro w r;obtain⟨j,hj⟩:=r f Ψ;have h1:(do pure (f.offset,←sizeOf f.type):Sem (Nat×Nat)).run P w = .ok (f.offset,ah P f.type) w:=by simp[sizeOf,typeInfo,hj,ah]
     rw[aiJ,ξ,h1,Δ,ξ,ih w (λg hg=>r g (by simp[hg])),Δ];rfl
   have hall':∀f∈fs.toList,∃j,P.info? f.type=some j:=λf hf=>Option.isSome_iff_exists.1 (T'.1 r f hf);have J:(fs.mapM λf=>(do pure (f.offset,←sizeOf f.type):Sem (Nat×Nat))).run P w = .ok (fs.map λf=>(f.offset,ah P f.type)) w:=by rw[B?,Sem.run_map,hm _ _ hall'];simp[Result.andThen,←Array.toList_map]
   unfold execOp;simp only[ho,Instr.build,zeroValue,typeInfo,ξ,P_,h1,h2,a_,Δ,ε hu,J,U,q1]
  ·have hpl:parts.toList.map (λp=>(λi=>some (i*ah P e,ah P e)) p.1)=(parts.toList.map λp=>(p.1*ah P e,ah P e)).map some:=by simp
   obtain⟨T,q1,q2⟩:=tB (place:=λi=>some (i*ah P e,ah P e)) hpl hcs hv' hd;refine aq hI (v :=.agg T) ?_ (by show aP φ (.agg cs)=_;simp[aP,q2]);unfold execOp;simp[ho,Instr.build,zeroValue,typeInfo,ξ,P_,h1,h2,a_,ε hu,az hse,U,q1]
 ·cases hq
def abV (hI:Inv B R φ h w){e:TypeId}{N:Nat}{x:Operand}{U T mx:Option Operand}(ho:o.op = .slice t x U T mx)(hu:P.underlying t=some (.array N e))(hz:ah P e≠0)(hv:RTs φ C ((x::(U.toList++T.toList++mx.toList)).map a.eval))(p:(Ts N (ah P e) U.isSome T.isSome mx.isSome C f).run h=some (out,wr)):OkX P B R φ h w o a out wr:=by
 unfold Ts at p;split at p
 ·obtain⟨v1,ws,J,hr1,hr2⟩:=hv.cons;simp at J;obtain⟨J,e2⟩:=J;subst J;subst e2;obtain⟨l,m,n,j,b1,b2,b3⟩:=FA p (by simpa using hr2);split at j
  next k g off=>
   cases r:(Nat.ble (gD n N) N&&Nat.ble (gD m N) (gD n N)&&Nat.ble (gD l 0) (gD m N)&&ym m n)with
   |false=>rw[r]at j;cases j
   |true=>
    rw[r,G']at j;simp[bf]at r;obtain⟨⟨⟨c1,c2⟩,c3⟩,c4⟩:=r;cases j;obtain⟨lc,hl,z⟩:=ga hr1;have hb:=wB (P:=P) w false N N b1 b2 b3 c1 c2 c3 c4;have hs:=zI (s:=ah P e) (off:=off) (l:=gD l 0) (hh:=gD m N) (m:=gD n N) hl;refine aq hI (v :=.slice (if gD n N=gD l 0 then some ⟨lc.b,off,none⟩else some ((⟨lc.b,off,none⟩:Addr).add (gD l 0*ah P e))) (gD m N-gD l 0) (gD n N-gD l 0)) ?_ hs;unfold execOp;simp[ho,z,Instr.sliceAt,ξ,ε hu,Instr.sureAddr,a_,hb,az hz];by_cases he:gD n N=gD l 0
    ·simp[he]
    ·simp[B' he]
  ·cases j
 ·cases p
def ae0 (T:Inv B R φ h w){r:Option Operand}(U:o.op = .makeMap t r){k e:TypeId}(hu:P.underlying t=some (.map k e))(hf:h f = .none)(J:RTs φ C (r.toList.map a.eval))(p:(ac0 C f).run h=some (out,wr)):OkX P B R φ h w o a out wr:=by
 have j:(execOp a.eval o).run P w = .ok (.value (.map (some w.heap.size))) (w.alloc (.map #[] 0))→OkX P B R φ h w o a (.pv (.one (.mp f))) (some (f,.map [] 0)):=λl=>by refine fD l (T.le_add hf ⟨w.heap.size,0,0⟩) (T.new hf rfl ⟨λg hg=>?_,⟨w.heap.size,0,0⟩, #[],Gx.add_self _ _ _,T.size,z_ w _,rfl,λi e he=>by simp at he⟩) (by show den _ (.mp f)=_;simp[den,Gx.add_self]);simp only[Gx.add,h?];rw[B' Ω]
 unfold ac0 at p;split at p
 ·cases p;refine j ?_;cases r with
  |none=>unfold execOp;simp[U,Instr.makeMap]
  |some x=>simp[RTs]at J
 ·cases p;refine j ?_;cases r with
  |none=>simp[RTs]at J
  |some x =>have e1:=cR (J:RTs φ _ [a.eval x]).1;unfold execOp;simp[U,Instr.makeMap,ε hu,asInt,asIntOf,e1]
 ·cases p
end
variable [SymVal]
section
variable {P:Program}{B:Nat}{R:W0}{φ:Gx}{h:Pos→EO}{w:World}{o:Oper}{a:Act}
def ke (f:Pos→EO)(k:Pos)(x y:EO):upd (upd f k x) k y=upd f k y:=by funext q;simp[upd];split <;> rfl
def FZ (w:World)(g:Nat)(x y:Array Value):(w.setRow g x).setRow g y=w.setRow g y:=by
 unfold World.setRow;simp[World.mk.injEq];apply Array.ext_getElem?;intro i;simp only[z?];by_cases e:g=i
 ·simp[e];congr 1;funext f;cases f <;> rfl
 ·simp[e]
def Inv.wrs {k:Pos}{g s:Nat}{l:Loc}:∀{x:List CV} {r:List (List CV)} {h:Pos→EO} {w:World} {j:Nat} {o':EO} {f:List Value},Inv B R φ h w→jR g s (x::r) (h k) j=some o'→(∀a∈x::r,a.length=s)→φ.loc k g=some l→aV φ (x::r).flatten=some f →
  ∃p e,w.heap[l.b]? = some (.cells p e (0,0))∧j+f.length≤p.size∧Inv B R φ (upd h k o') (w.setRow l.b (p.toList.take j++f++p.toList.drop (j+f.length)).toArray)
 |x,[],h,w,j,o',f,hI,hr,hs,hl,U=>by
  simp[jR]at hr;split at hr
  next o1 h1=>
   cases hr;have U:aV φ x=some f:=by simpa using U
   exact hI.wr h1 hl U
  ·cases hr
 |x,y::r,h,w,j,o',f,hI,hr,hs,hl,U=>by
  rw[jR]at hr;split at hr
  next o1 h1=>
   rw[D_]at U;have hxs:=hs x Ψ;obtain⟨P,hn1⟩:∃vs,aV φ x=some vs:=by
    have:=kY x.length U;rw[Q?]at this;exact⟨_,this⟩
   obtain⟨T,hn2⟩:∃vs,aV φ (y::r).flatten=some vs:=by have:=iV x.length U;rw[ai3]at this;exact⟨_,this⟩
   have J:f=P++T:=by have:=ct hn1 hn2;rw[U]at this;exact π this
   have hl1:P.length=s:=by rw[aY hn1,hxs]
   obtain⟨p,e,q1,q2,q3⟩:=hI.wr h1 hl hn1;have hk1:(upd h k o1) k=o1:=ay _ _ _;obtain⟨C,e2,p1,p2,p3⟩:=Inv.wrs (h:=upd h k o1) q3 (by rw[hk1];exact hr) (λa ha=>hs a (by simp at ha⊢;exact .inr ha)) hl hn2;rw[ajo w l.b p _ e _ q1]at p1;injection p1 with p1;injection p1 with p1 _ _;have hal:C.toList=p.toList.take j++P++p.toList.drop (j+P.length):=by rw[←p1]
   have hlen:C.size=p.size:=by rw[←Array.length_toList,hal];simp;omega
   refine⟨p,e,q1,by rw[J,P'];omega, ?_⟩;rw[ke]at p3;rw[FZ]at p3;have harr:C.toList.take (j+s)++T++C.toList.drop (j+s+T.length)=p.toList.take j++f++p.toList.drop (j+f.length):=by
    have e1:C.toList.take (j+s)=p.toList.take j++P:=by rw[hal,List.take_left'];rw[P',l_,ω,hl1];omega
    have e2:C.toList.drop (j+s+T.length)=p.toList.drop (j+f.length):=by
     rw[hal,←List.drop_drop,List.drop_left',K_]
     ·congr 1;rw[J,P',hl1];omega
     ·rw[P',l_,ω,hl1];omega
    rw[e1,e2,J];simp
   rw[harr]at p3;exact p3
  ·cases hr
def Xl (hI:Inv B R φ h w){s:Nat}{str:Bool}{x:TV}{v:Value}{k:List (List CV)→Q}{res:TV×Option (Pos×EO)}(f:(aew s str x k).run h=some res)(J:RT φ x v){T:TypeId}(C:(str=false∧∃e,P.underlying T=some (.slice e))∨(str=true∧P.underlying T=some .string∧s=1)) :
  ∃l p,(k l).run h=some res∧(∀a∈l,a.length=s)∧aV φ l.flatten=some p∧Go.Src P s T v l.length p w:=by
 unfold aew at f;split at f
 next j g off n cap=>
  rcases C with⟨rfl,e,r⟩|⟨rfl,_,_⟩
  ·simp[Q.run]at f;split at f
   next l hl=>obtain⟨lc,l1,z⟩:=vO J;obtain⟨q1,q2,vs,U,q4⟩:=hI.rds l1 hl;refine⟨l,vs,f,q2,U, ?_⟩;rw[z,q1];exact Go.Src.ofSlice w r _ n _ vs (by rw[aY U,fS q2,q1]) q4 (tF U)
   ·cases f
  ·cases f
 ·rcases C with⟨rfl,e,r⟩|⟨rfl,_,_⟩
  ·refine⟨[],[],f,(λ_ q=>by cases q),rfl, ?_⟩;rw[dP J];exact Go.Src.ofNil w r 0
  ·cases f
 next kk=>
  rcases C with⟨rfl,e,r⟩|⟨rfl,_,_⟩
  ·refine⟨[],[],f,(λ_ q=>by cases q),rfl, ?_⟩;obtain⟨A,c,z⟩:=Jj J;rw[z];exact Go.Src.ofSlice w r A 0 c [] Ψ (λj u q=>by simp at q) (λu q=>by cases q)
  ·cases f
 next b=>
  rcases C with⟨rfl,_⟩|⟨rfl,r,rfl⟩
  ·cases f
  ·obtain⟨h1,z⟩:=lN J;have hd:∀b:List Nat,cI b=true→aV φ (b.map λc=>[CV.int .u8 (Int.ofNat c)]).flatten=some (byteCells ⟨(b.map UInt8.ofNat).toArray⟩):=by
    intro b;induction b with
    |nil=>intro _;rfl
    |cons c b ih=>
     intro hb;obtain⟨b1,b2⟩:=ge hb;have:=ih b2;rw[b?,D_];have e1:byteCells ⟨((c::b).map UInt8.ofNat).toArray⟩=[Value.int .u8 (Int.ofNat c)]++byteCells ⟨(b.map UInt8.ofNat).toArray⟩:=by unfold byteCells;simp;omega
     rw[e1];exact ct rfl this
   refine⟨b.map λc=>[.int .u8 (Int.ofNat c)],_,f,λa ha=>?_,hd b h1, ?_⟩
   ·obtain⟨c,_,rfl⟩:=s_.1 ha;rfl
   ·rw[z,o_];have:=Go.Src.ofString (P:=P) w r ⟨(b.map UInt8.ofNat).toArray⟩;rw[ug]at this;exact this
 ·cases f
def vN {t R ty e:TypeId}{i:TypeInfo}(ht:P.underlying t=some (.slice e))(T:P.info? e=some i){b off f sCap:Nat}{x:Value}{n:Nat}{g:List Value}(C:Go.Src P i.size R x n g w)(l:f+n≤sCap){j:Array Value}{J:TypeId}(hb:w.heap[b]? = some (.cells j J (0,0)))(r:off+f*i.size+g.length≤j.size) :
  (Builtin.append_ #[t,R] ty #[.slice (some ⟨b,off,none⟩) f sCap,x]).run P w = .ok (.slice (some ⟨b,off,none⟩) (f+n) sCap) (w.setRow b (j.toList.take (off+f*i.size)++g++j.toList.drop (off+f*i.size+g.length)).toArray):=by
 have p:=j? P b (off+f*i.size) J g 0 j w hb (by simpa using r) C.one;simp at p;rcases C.kind with⟨J,U⟩|U <;> simp[Builtin.append_,ε ht,ε U,sizeOf,typeInfo,T,C.len,l,C.cells,Addr.add_lit,p]
end
variable [SymVal]
section
variable {P:Program}{B:Nat}{R:W0}{φ:Gx}{h:Pos→EO}{w:World}{o:Oper}{a:Act}
variable{cl:Call}{k:Pos}{e:TypeId}{l:List (List CV)}{news:List Value}
def e9 {s x:Operand}{t r:TypeId}(C:o.op = .call cl)(l:cl.callee = .builtin .append)(f:cl.args = #[s,x])(j:cl.argTypes = #[t,r]){v:Value}{p:World}(g:(Builtin.append_ #[t,r] o.type #[a.eval s,a.eval x]).run P w = .ok v p) :
  (execOp a.eval o).run P w = .ok (.value v) p:=by
 unfold execOp;simp[C,resolve,l,f,j,invoke,builtin,g]
def Cy (z:Array Value)(n:Nat):(Builtin.zeroCells z n).size=n*z.size:=by simp[Builtin.zeroCells]
def Gx.turn (φ:Gx)(k:Pos)(g:Nat)(l:Loc):Gx:=⟨λq m=>if q=k∧m=g then some l else φ.loc q m,φ.val,φ.mu⟩
def Gx.turn_self (φ:Gx)(k:Pos)(g:Nat)(l:Loc):(φ.turn k g l).loc k g=some l:=by simp[Gx.turn]
def Gx.turn_ne (φ:Gx){g m:Nat}(l:Loc)(f:m≠g):(φ.turn k g l).loc k m=φ.loc k m:=by simp[Gx.turn,f]
def Inv.turnUp (hI:Inv B R φ h w){s:Nat}{el:PT Ch}{len g n:Nat}(hrow:h k = .row e s el len g .no){lc:Loc}(hl:φ.loc k g=some lc)(hn:n≤len)(hb:n+l.length≤4294967290)
  (hall:∀a∈l,a.length=s) (hd:aV φ l.flatten=some news) {w':World} {l':Loc} {r:Array Value} (hls:l'.s=s) (hB:B≤l'.b) (harr':w'.heap[l'.b]? = some (.cells r e (0,0))) (hsz:r.size=l'.n*s) (hN:n+l.length≤l'.n)
  (hold:∀j,j<n*s→∀arr e fr,w.heap[lc.b]? = some (.cells arr e fr)→r[j]? = arr[j]?) (hnew:∀(j:Nat) (u:Value),news[j]? = some u→r[n*s+j]? = some u)
  (P:l'.b=lc.b∨w.heap.size≤l'.b) (hsame:l'.b=lc.b→∀arr e fr,w.heap[lc.b]? = some (.cells arr e fr)→r.size=arr.size)
  (hw:∀b,b<w.heap.size→b≠l'.b→w'.heap[b]? = w.heap[b]?) (hos:w'.os=w.os) (htp:w'.tape=w.tape) (hou:w'.output=w.output) (hws:w.heap.size≤w'.heap.size) (hdr:dz w≤dz w') :
  φ.le (φ.turn k (g+1) l')∧Inv B R (φ.turn k (g+1) l') (upd h k (.row e s (oa (g+1) l el n) (n+l.length) (g+1) .no)) w':=by
 have hob:=hI.obj k;rw[hrow]at hob;obtain⟨h0,h1,hmm,h2,h3⟩:=hob;have hle:φ.le (φ.turn k (g+1) l'):=⟨λq m x J=>by
  by_cases e:q=k∧m=g+1
  ·obtain⟨rfl,rfl⟩:=e;rw[h2 _ Ω]at J;cases J
  ·simp[Gx.turn,B' e];exact J,λ_ _ hv=>hv,λ_ _ hv=>hv⟩
 have hget:=λj=>n9 (m:=g+1) (l:=l) (el:=el) (i:=n) Ω j;have hin:∀{i j:Nat},i<n→j<s→i*s+j<n*s:=λ{i j} T hj=>by have h5:(i+1)*s≤n*s:=g_ s T;have h6:(i+1)*s=i*s+s:=T_ _ _;omega
 refine⟨hle,hI.turn hle (λq hq=>⟨λm=>by simp[Gx.turn,hq],rfl,rfl⟩) (λm x J=>?_) (λb hb hne=>hw b hb λeb=>?_) (λm x J ob hb hst=>?_) hos htp hou hws hdr ⟨h0,Ω,λi T=>?_,λm hm=>?_,λm hm=>?_⟩⟩
 ·by_cases em:m=g+1
  ·subst em;rw[Gx.turn_self]at J;cases J;obtain q|q:=P
   ·exact .inl ⟨g,lc,hl,q.symm⟩
   ·exact .inr q
  ·rw[Gx.turn_ne _ _ em]at J;exact .inl ⟨m,x,J,rfl⟩
 ·obtain q|q:=P
  ·exact hne g lc hl (by rw[←q];exact eb.symm)
  ·omega
 ·obtain hgt|hle':=d_ g m
  ·rw[h2 m hgt]at J;cases J
  ·obtain⟨l2,y1,⟨y2,y3,p,U,y4,_⟩,_⟩:=h3 m hle';rw[y1]at J;cases J;rw[y4]at hb;cases hb;cases hst
 ·rw[hget];split
  ·exact ζ _
  ·have:=hmm i Ω;omega
 ·rw[Gx.turn_ne _ _ Ω];exact h2 m Ω
 ·by_cases em:m=g+1
  ·subst em;refine⟨l',Gx.turn_self _ _ _ _,⟨hB,hls,r,(0,0),harr',hsz,rfl,λi T _=>⟨Ω, ?_⟩⟩,λ_=>hN⟩;rw[hget];by_cases C:n≤i∧i<n+l.length
   ·rw[ai7 C];have hmem:l[i-n]'Ω∈l:=e_ _;refine⟨hall _ hmem,λj c hj=>?_⟩;have hj:(l[i-n]'Ω)[j]? = some c:=hj;obtain⟨v,z1,z2⟩:=mw hd (tp hall (i:=i-n) (δ Ω) hj);refine⟨v, ?_,dZ hle z2⟩;have:=hnew _ _ z1;rw[←Nat.add_assoc,←Nat.add_mul,show n+(i-n)=i by omega]at this;exact this
   ·rw[ajG C];obtain⟨l2,y1,⟨y2,y3,p,U,y4,y5,y6,y7⟩,y8⟩:=h3 g (ζ _);rw[hl]at y1;cases y1;obtain⟨x1,x2,x3⟩:=y7 i Ω (hmm i Ω);refine⟨x2,λj c hj=>?_⟩;obtain⟨v,z1,z2⟩:=x3 j c hj;have hjs:=(N'.1 hj).1;refine⟨v, ?_,dZ hle z2⟩;rw[hold _ (hin Ω Ω) p e U y4];exact z1
  ·obtain⟨l2,y1,⟨y2,y3,p,U,y4,y5,y6,y7⟩,y8⟩:=h3 m Ω;refine⟨l2,by rw[Gx.turn_ne _ _ em];exact y1, ?_,λJ=>absurd J em⟩;have hlt:=hI.lt y1;by_cases hbb:l2.b=l'.b
   ·have hlc:l'.b=lc.b:=by
     obtain q|q:=P
     ·exact q
     ·omega
    have y4':w.heap[lc.b]? = some (.cells p e U):=by rw[←hlc,←hbb];exact y4
    refine⟨y2,y3,r,(0,0),by rw[hbb];exact harr',by rw[hsame hlc p e U y4'];exact y5,rfl,λi T f=>?_⟩;rw[hget]at f⊢;by_cases C:n≤i∧i<n+l.length
    ·rw[ai7 C]at f;simp only at f;omega
    ·rw[ajG C]at f⊢;obtain⟨x1,x2,x3⟩:=y7 i Ω f;refine⟨x1,x2,λj c hj=>?_⟩;obtain⟨v,z1,z2⟩:=x3 j c hj;have hjs:=(N'.1 hj).1;refine⟨v, ?_,dZ hle z2⟩;rw[hold _ (hin Ω Ω) p e U y4'];exact z1
   ·refine⟨y2,y3,p,U,by rw[hw _ hlt hbb];exact y4,y5,y6,λi T f=>?_⟩;rw[hget]at f⊢;by_cases C:n≤i∧i<n+l.length
    ·rw[ai7 C]at f;simp only at f;omega
    ·rw[ajG C]at f⊢;obtain⟨x1,x2⟩:=y7 i Ω f;exact⟨x1,x2.mono hle⟩
def Ai {n bytes:Nat}(h:n*bytes≤140737488355328){old:Nat}(f:old<n):Builtin.nextslicecap n old*bytes≤281474976710656:=aj5 f h
def Inv.drw (f:Inv B R φ h w):Inv B R φ h w.drew:=f.drew
def TU (hI:Inv B R φ h w){f:Pos}(hf:h f = .none){z:PV}(hz:dq P e=some z)(J:z.cells.length=ah P e)(hs0:ah P e≠0){old:List (List CV)}{olds:List Value}{N:Nat}(p:∀a∈old,a.length=ah P e)(hl:∀a∈l,a.length=ah P e)(hd1:aV φ old.flatten=some olds)(U:aV φ l.flatten=some news)
  (hb:old.length+l.length≤4294967290) (hN:old.length+l.length≤N) :
  ∃i v,P.info? e=some i∧i.zero=some v∧i.size=ah P e∧i.bytes=vC P e ∧
   φ.le (φ.add f ⟨w.heap.size,N,ah P e⟩)∧Inv B R (φ.add f ⟨w.heap.size,N,ah P e⟩) (upd h f (newRow e (ah P e) (old++l) (old.length+l.length))) (w.drew.alloc (.cells ((olds++news).toArray++Builtin.zeroCells v.cells (N-(old.length+l.length))) e)) ∧
   RT (φ.add f ⟨w.heap.size,N,ah P e⟩) (.pv (.one (.sl f 0 0 (old.length+l.length) none))) (.slice (some ⟨w.heap.size,0,none⟩) (old.length+l.length) N):=by
 obtain⟨i,v,h1,h2,h3⟩:=fg hz;have T:v.cells.size=ah P e:=by rw[←Array.length_toList,aY (cM (h3 φ)),J]
 have g:∀a∈old++l,a.length=ah P e:=λa ha=>by
  obtain q|q:=O'.1 ha
  ·exact p a q
  ·exact hl a q
 have C:aV φ (old++l).flatten=some (olds++news):=by rw[ajw];exact ct hd1 U
 have r:(olds++news).length=(old.length+l.length)*ah P e:=by rw[aY C,fS g,P']
 obtain⟨q1,q2⟩:=hI.drw.newR hf (e:=e) (s:=ah P e) (N:=N) (l:=old++l) (vs:=olds++news) (arr:=(olds++news).toArray++Builtin.zeroCells v.cells (N-(old.length+l.length))) (fr:=(0,0)) (fz :=.no) Ω g C
  (λj u hu=>by
   have hj:=(N'.1 hu).1;rw[G_ (by simpa using hj)];simpa using hu) (by
   rw[aiM,Cy,T,H?,r,←Nat.add_mul];congr 1;omega) (by rw[P'];exact hN) (by rw[P'];omega) rfl
 rw[P']at q2;refine⟨i,v,h1,h2,by simp[ah,h1],by simp[vC,h1],q1,q2, ?_⟩;show den _ (.sl f 0 0 _ none)=_;have hc:xb none (old.length+l.length) N 0=true:=by simp only[xb,Z'];exact bf.2 hN
 simp[den,Gx.add_self,hc,gk]
def Ys (hI:Inv B R φ h w){s x:Operand}{t tx:TypeId}{str:Bool}(ho:o.op = .call cl)(hcl:cl.callee = .builtin .append)(J:cl.args = #[s,x])(hty:cl.argTypes = #[t,tx])(hu:P.underlying t=some (.slice e)){z:PV}(hz:dq P e=some z)(hzs:z.cells.length=ah P e)(hs0:ah P e≠0)
  (ht:(str=false∧∃e,P.underlying tx=some (.slice e))∨(str=true∧P.underlying tx=some .string∧ah P e=1)) {f:Pos} (hf:h f = .none) {C:List TV} (hv:RTs φ C [a.eval s,a.eval x]) {out:TV} {wr:Option (Pos×EO)} (hq:(ac9 e (ah P e) (vC P e) str C f).run h=some (out,wr)):OkX P B R φ h w o a out wr:=by
 obtain⟨i,zv,T,hiz,_⟩:=fg hz;have his:i.size=ah P e:=by simp[ah,T]
 have hib:i.bytes=vC P e:=by simp[vC,T]
 unfold ac9 at hq;split at hq
 ·obtain⟨v1,ws,e1,hr1,hr2⟩:=hv.cons;obtain⟨v2,e2,hr3⟩:=hr2.one;subst e2;simp at e1;obtain⟨e1,e2⟩:=e1;subst e1;subst e2;obtain⟨l,news,p,hall,hd,hsrc⟩:=Xl hI hq hr3 ht;have r:Go.Src P i.size tx (a.eval x) l.length news w:=by rw[his];exact hsrc
  unfold ahi at p;split at p
  ·
   have ev:=dP hr1;split at p
   ·cases p;refine aq hI (v :=.slice none 0 0) (e9 ho hcl J hty ?_) rfl;rw[ev];have hnn:news=[]:=U' (by rw[hsrc.newsLen];simp);subst hnn;have g1:=r.len;have g2:=r.cells;simp at g1 g2;rcases r.kind with⟨e',p⟩|p <;> simp[Builtin.append_,ε hu,ε p,sizeOf,typeInfo,T,g1,g2]
   ·rename_i hne;cases hc:(Nat.ble (l.length*vC P e) 140737488355328&&km (ah P e) l&&Nat.ble l.length 4294967290)with
    |false=>rw[hc]at p;cases p
    |true=>
     rw[hc,G']at p;simp[bf]at hc;obtain⟨⟨c1,c2⟩,c3⟩:=hc;cases p;have hpos:0<l.length:=by
      cases l with
      |nil=>exact absurd rfl hne
      |cons _ _=>simp
     have hcap:=aj0 w l.length 0 e;obtain⟨i',v',y1,y2,y3,y4,y5,y6,y7⟩:=TU (P:=P) hI hf hz hzs hs0 (old:=[]) (l:=l) (olds:=[]) (news:=news) (N:=grownCap w l.length 0 e) (λ_ q=>by cases q) hall rfl hd (by simpa using c3) (by simpa using hcap);simp at y6 y7;refine fD (e9 ho hcl J hty ?_) y5 y6 y7;rw[ev];have:=run_append_grow_src (P:=P) w t tx o.type e i' v' hu y1 y2 none 0 0 [] (run_firstCells_none w.drew i'.size 0 0 0) (a.eval x) l.length news (by rw[y3];exact hsrc) Ω Ω (by rw[y4];simpa using Ai c1 (old:=0) hpos);simpa using this
  next k g off n cap=>
   obtain⟨U,hl,ev,hcf⟩:=Ji hr1;split at p
   ·have hroom:n≤gk cap U.n (off/U.s)∧out = .pv (.one (.sl k g off n cap))∧wr=none:=by
     cases cap with
     |some c=>
      simp only at p;cases hc:Nat.ble n c with
      |false=>rw[hc]at p;cases p
      |true =>rw[hc,G']at p;simp[Q.run]at p;exact⟨bf.1 hc,p.1.symm,p.2.symm⟩
     |none =>simp[Q.run]at p;refine⟨?_,p.1.symm,p.2.symm⟩;have:=bf.1 hcf;simp[gk];omega
    obtain⟨hroom,rfl,rfl⟩:=hroom;refine aq hI (e9 ho hcl J hty ?_) hr1;rw[ev];have hnn:news=[]:=U' (by rw[hsrc.newsLen];simp);subst hnn;have g1:=r.len;have g2:=r.cells;simp at g1 g2;rcases r.kind with⟨e',p⟩|p <;> simp[Builtin.append_,ε hu,ε p,sizeOf,typeInfo,T,g1,g2,hroom,storeCells]
   ·rename_i hne;have hpos:0<l.length:=by
     cases l with
     |nil=>exact absurd rfl hne
     |cons _ _=>simp
    simp[Q.run]at p;have inplace:∀o',jR g (ah P e) l (h k) (off+n*ah P e)=some o'→n+l.length≤gk cap U.n (off/U.s)→RT φ (.pv (.one (.sl k g off (n+l.length) cap))) (.slice (some ⟨U.b,off,none⟩) (n+l.length) (gk cap U.n (off/U.s)))→OkX P B R φ h w o a (.pv (.one (.sl k g off (n+l.length) cap))) (some (k,o')):=λo' hw hroom hrt=>by
     cases l with
     |nil=>exact absurd rfl hne
     |cons x0 r0 =>obtain⟨arr,e',z1,z2,z3⟩:=hI.wrs hw hall hl hd;refine fD (e9 ho hcl J hty ?_) (Gx.le.refl φ) z3 hrt (j9 hw);rw[ev];have:=vN (P:=P) (ty:=o.type) hu T r hroom z1 (by rw[his];exact z2);rw[his]at this;exact this
    split at p
    ·rename_i c;cases hc:Nat.ble (n+l.length) c with
     |true=>
      rw[hc,G']at p;split at p
      next o' hw=>cases p;refine inplace o' hw (bf.1 hc) ?_;show den φ (.sl k g off _ (some c))=_;simp[den,hl,xb]
      ·cases p
     |false=>
      rw[hc,E_]at p;have hc:c<n+l.length:=by
       rcases d_ c (n+l.length)with q|q
       ·exact q
       ·rw[bf.2 q]at hc;cases hc
      split at p
      ·rename_i old hold;cases hc2:(Nat.ble ((n+l.length)*vC P e) 140737488355328&&km (ah P e) old&&km (ah P e) l&&Nat.ble (n+l.length) 4294967290)with
       |false=>rw[hc2]at p;cases p
       |true=>
        rw[hc2,G']at p;simp[bf]at hc2;obtain⟨⟨⟨c1,_⟩,_⟩,c4⟩:=hc2;cases p;obtain⟨q1,q2,olds,q3,q4⟩:=hI.rds hl hold;have hcap:=aj0 w (n+l.length) c e;obtain⟨i',v',y1,y2,y3,y4,y5,y6,y7⟩:=TU (P:=P) hI hf hz hzs hs0 (old:=old) (l:=l) (olds:=olds) (news:=news) (N:=grownCap w (n+l.length) c e) q2 hall q3 hd Ω Ω;rw[q1]at y6 y7;refine fD (e9 ho hcl J hty ?_) y5 y6 y7;rw[ev];have hol:olds.length=n*i'.size:=by rw[aY q3,fS q2,q1,y3]
        exact run_append_grow_src (P:=P) w t tx o.type e i' v' hu y1 y2 (some ⟨U.b,off,none⟩) n c olds (aiW w.drew i'.size n _ n c olds hol (by simpa using q4)) (a.eval x) l.length news (by rw[y3];exact hsrc) hc Ω (by rw[y4];exact Ai c1 hc)
      ·cases p
    ·split at p
     ·rename_i e' s' el len gen fz hrow;cases hc:(Nat.beq e e'&&Nat.beq (ah P e) s'&&Nat.beq g gen&&Nat.beq (off%ah P e) 0&&km (ah P e) l&&Nat.ble ((n+l.length)*vC P e) 140737488355328&&Nat.ble (n+l.length) 4294967290&&NY fz)with
      |false=>rw[hc]at p;cases p
      |true=>
       rw[hc,G']at p;simp[bf]at hc;obtain⟨⟨⟨⟨⟨⟨⟨rfl,rfl⟩,rfl⟩,c4⟩,c5⟩,c6⟩,c7⟩,c8⟩:=hc;have c8:fz = .no:=by cases fz <;> first|rfl|cases c8
       subst c8;have hls:=hI.rowS hrow hl;have hob:=hI.obj k;rw[hrow]at hob;obtain⟨g0,g1,gm,g2,g3⟩:=hob;obtain⟨lc',m1,⟨m2,m3,arr,fr,m4,m5,m6,m7⟩,m8⟩:=g3 g (ζ _);rw[hl]at m1;cases m1;have m6:fr=(0,0):=m6;subst m6;have hC:=bf.1 hcf;have hn8:=m8 rfl;cases hfit:Nat.ble (off/ah P e+n+l.length) len with
       |true=>
        rw[hfit,G']at p;have hfit:=bf.1 hfit;split at p
        next o' hw=>cases p;rw[hls]at hC;refine inplace o' hw (by simp[gk];rw[hls];omega) ?_;show den φ (.sl k g off _ none)=_;have hx:Nat.ble (off/U.s+(n+l.length)) U.n=true:=bf.2 (by rw[hls];omega);simp[den,hl,xb,hx]
        ·cases p
       |false=>
        rw[hfit,E_]at p;cases hc9:(Nat.beq off 0&&Nat.ble n len)with
        |false=>rw[hc9]at p;cases p
        |true=>
         rw[hc9,G']at p;simp[bf]at hc9;obtain⟨rfl,c9⟩:=hc9;cases p;have hgt:len<n+l.length:=by
          rcases d_ len (n+l.length)with q|q
          ·exact q
          ·rw[ajH,Z',bf.2 q]at hfit;cases hfit
         rw[ajH]at ev;have hns:n*ah P e≤arr.size:=by rw[m5];exact g_ _ Ω
         have hnl:news.length=l.length*ah P e:=by rw[aY hd,fS hall]
         rcases d_ U.n (n+l.length)with hg|hg
         ·
          have hcap:=aj0 w (n+l.length) U.n e;have hvs:zv.cells.size=ah P e:=by obtain⟨i',v',w1,w2,w3⟩:=fg hz;rw[T]at w1;cases w1;rw[hiz]at w2;cases w2;rw[←Array.length_toList,aY (cM (w3 φ)),hzs]
          have hol:(arr.toList.take (n*ah P e)).length=n*ah P e:=by rw[l_,ω];omega
          obtain⟨q1,q2⟩:=Inv.turnUp (l:=l) (news:=news) (w':=w.drew.alloc (.cells ((arr.toList.take (n*ah P e)++news).toArray++Builtin.zeroCells zv.cells (grownCap w (n+l.length) U.n e-(n+l.length))) e)) (l':=⟨w.heap.size,grownCap w (n+l.length) U.n e,ah P e⟩) hI hrow hl c9 c7 hall hd rfl hI.size (z_ w.drew _)
           (by rw[aiM,Cy,hvs,H?,P',hol,hnl,←Nat.add_mul,←Nat.add_mul];congr 1;show _=grownCap w (n+l.length) U.n e;omega) (by show n+l.length≤grownCap w (n+l.length) U.n e;omega)
           (λj hj arr2 e2 fr2 hh=>by
            rw[m4]at hh;injection hh with hh;injection hh with hh _ _;subst hh;rw[G_ Ξ,abs,ο Ω,K',β hj,f_])
           (λj u hj=>by
            have:=(N'.1 hj).1;rw[G_ Ξ,abs,Q' Ω,hol,aje];exact hj)
           (.inr (ζ _)) (λhh=>by have:=hI.lt hl;simp only at hh;omega) (λb hb _=>@heap_alloc_old w.drew _ b hb) rfl rfl rfl (by show w.heap.size≤(w.heap.push _).size;simp) ((by first|exact ai9 _|exact c_ _))
          refine fD (v :=.slice (some ⟨w.heap.size,0,none⟩) (n+l.length) (grownCap w (n+l.length) U.n e)) (e9 ho hcl J hty ?_) q1 q2 ?_
          ·rw[ev];have:=run_append_grow_src (P:=P) w t tx o.type e i zv hu T hiz (some ⟨U.b,0,none⟩) n U.n (arr.toList.take (n*ah P e)) (aiW w.drew i.size n _ n U.n _ (by rw[his];exact hol) (λj u hj=>by
            have hjl:=(N'.1 hj).1;rw[oJ,Z'];rw[ajq w.drew U.b j arr e (0,0) m4];rw[K',β Ω,f_]at hj;exact hj)) (a.eval x) l.length news r hg Ω (by rw[hib];exact Ai c6 hg)
           simpa[gk]using this
          ·show den _ (.sl k (g+1) 0 _ none)=_;have hx:Nat.ble (0+(n+l.length)) (grownCap w (n+l.length) U.n e)=true:=bf.2 Ω;simp only[den,Gx.turn_self,ajH,xb,hx,h?,gk,aiZ]
         ·
          have hfit2:n*ah P e+news.length≤arr.size:=by rw[m5,hnl,←Nat.add_mul];exact g_ _ hg
          have hsz2:(arr.toList.take (n*ah P e)++news++arr.toList.drop (n*ah P e+news.length)).toArray.size=arr.size:=by simp;omega
          obtain⟨q1,q2⟩:=Inv.turnUp (l:=l) (news:=news) (w':=w.setRow U.b (arr.toList.take (n*ah P e)++news++arr.toList.drop (n*ah P e+news.length)).toArray) (l':=U) hI hrow hl c9 c7 hall hd hls m2 (ajo w U.b arr _ e _ m4)
           (by rw[hsz2];exact m5) hg
           (λj hj arr2 e2 fr2 hh=>by
            rw[m4]at hh;injection hh with hh;injection hh with hh _ _;subst hh;rw[xq hfit2,B' Ω])
           (λj u hj=>by
            have:=(N'.1 hj).1;rw[xq hfit2,β Ω,aje];exact hj)
           (.inl rfl) (λ_ arr2 e2 fr2 hh=>by
            rw[m4]at hh;injection hh with hh;injection hh with hh _ _;subst hh;exact hsz2) (λb hb hne=>aiY w U.b b _ hne) rfl rfl rfl (by simp[World.setRow]) (ζ _)
          refine fD (v :=.slice (some ⟨U.b,0,none⟩) (n+l.length) (gk none U.n 0)) (e9 ho hcl J hty ?_) q1 q2 ?_
          ·rw[ev];have:=vN (P:=P) (ty:=o.type) (sCap:=gk none U.n 0) hu T r (by simpa[gk]using hg) (off:=0) m4 (by rw[his,Z'];exact hfit2);rw[his,Z']at this;exact this
          ·show den _ (.sl k (g+1) 0 _ none)=_;have hx:Nat.ble (0+(n+l.length)) U.n=true:=bf.2 Ω;simp only[den,Gx.turn_self,ajH,xb,hx,h?]
     ·cases p
  ·cases p
 ·cases hq
end
variable [SymVal]
section
variable {P:Program}{B:Nat}{R:W0}{φ:Gx}{h:Pos→EO}{w:World}{o:Oper}{a:Act}
variable{J:List CK}{agg:Bool}{p q:PV}{t U:TypeId}{v:Value}{r:Option (Nat×ME)}{es:List ME}{vs:List MapEntry}{i:Nat}{e:ME}{m:MapEntry}{l:Loc}
def Co {r:Bool}(h:eqP J agg p q=some r):p.isAgg=agg∧q.isAgg=agg∧eqL J p.cells q.cells=some r:=by
 unfold eqP at h;split at h
 ·cases agg with
  |true=>cases h
  |false=>exact⟨rfl,rfl,h⟩
 ·cases agg with
  |true=>exact⟨rfl,rfl,h⟩
  |false=>cases h
 ·cases h
def QY (R:iA P 20 t=some J)(j:agg=oq (P.underlying t)){g f:Value}{r:Bool}(C:aP φ p=some g)(l:aP φ q=some f)(T:eqP J agg p q=some r):(Op.equal t g f).run P w = .ok r w:=by obtain⟨h1,h2,U⟩:=Co T;exact Cn (P:=P) (w:=w) 20 9980 t J R p q g f r C l (h1.trans j) (h2.trans j) U
def Oc:∀{J:List CK} {l m:List CV},eqL J l m=some true→l=m
 |[],[],[],_=>rfl
 |k::J,a::l,b::m,h=>by
  simp[eqL]at h;split at h
  next x y h1 h2=>
   simp only[θ]at h;cases x with
   |false=>cases h
   |true=>
    have h:y=true:=h;subst h;rw[Oc h2];congr 1;cases k <;> cases a <;> cases b <;> simp only[eqC]at h1 <;> first|(cases h1;done)|skip
    next a b=>cases a <;> cases b <;> simp_all
    ·rename_i k r a p b;cases f:(kq k r&&kq k p)with
     |false=>rw[f]at h1;cases h1
     |true =>rw[f]at h1;simp at f;have R:=HW f.1;have P:=HW f.2;subst R;subst P;simp at h1;rw[h1]
    ·rename_i a b;simp at h1;have:∀{a b:List Nat},vz a b=true→a=b:=by
      intro a;induction a with
      |nil=>intro b g;cases b with
       |nil=>rfl
       |cons _ _=>cases g
      |cons x a C=>intro b g;cases b with
       |nil=>cases g
       |cons y b=>
        simp only[vz]at g;cases j:Nat.beq x y with
        |false=>rw[j]at g;cases g
        |true=>rw[j]at g;rw[pX.1 j,C g]
     rw[this h1]
  ·cases h
 |[],_::_,_,h=>by simp[eqL]at h
 |[],[],_::_,h=>by simp[eqL]at h
 |_::_,[],_,h=>by simp[eqL]at h
 |_::_,_::_,[],h=>by simp[eqL]at h
def Zt (h:eqP J agg p q=some true):p=q:=by obtain⟨j,g,f⟩:=Co h;have:=Oc f;cases p <;> cases q <;> simp_all[PV.cells,PV.isAgg]
def O0 {k:CK}{c:CV}{r:Bool}(h:eqC k c c=some r)(f:den φ c=some v)(n:Nat):Instr.sameBits n v v=true:=by
 cases k <;> cases c <;> simp[eqC]at h <;> first|(cases h;done)|skip
 ·have f:some (Value.bool _)=some v:=f;cases f;simp[Instr.sameBits]
 ·have f:some (Value.int _ _)=some v:=f;cases f;simp[Instr.sameBits]
 ·obtain⟨_,e⟩:=lN (φ:=φ) (v:=v) f;rw[e];simp[Instr.sameBits,og];exact(Go.MapKept.bytes_beq _ _).2 rfl
def IE {n:Nat}:∀{J:List CK} {l:List CV} {vs:List Value} {r:Bool},eqL J l l=some r→aV φ l=some vs→(vs.zip vs).all (λ(x,y)=>Instr.sameBits n x y)=true
 |[],[],vs,_,_,hd=>by cases hd;rfl
 |k::J,a::l,vs,r,h,hd=>by
  simp[eqL]at h;split at h
  next x y h1 h2=>obtain⟨v,ws,rfl,q1,q2⟩:=bW hd;simp[O0 h1 q1,IE h2 q2]
  ·cases h
 |[],_::_,_,_,h,_=>by simp[eqL]at h
 |_::_,[],_,_,h,_=>by simp[eqL]at h
def ID {r:Bool}(h:eqP J agg p p=some r)(j:aP φ p=some v):(Instr.keyThatStays v v).run P w = .ok v w:=by
 obtain⟨_,_,f⟩:=Co h;have:Instr.sameBits 10000 v v=true:=by
  cases p with
  |one c=>
   simp[PV.cells]at f;cases J with
   |nil=>simp[eqL]at f
   |cons k J=>
    simp[eqL]at f;split at f
    next g _=>exact O0 g j 10000
    ·cases f
  |agg l =>obtain⟨vs,e,g⟩:=sg (φ:=φ) (v:=v) j;rw[e];simp[Instr.sameBits];have:=IE (n:=9999) f g;simpa using this
 simp[Instr.keyThatStays,this]
def zm {d:Nat}{em:Bool}{f:TypeId→Option (List CK)}(ih:∀t J,f t=some J→∀(p:PV) v r,aP φ p=some v→p.isAgg=oq (P.underlying t)→eqL J p.cells p.cells=some r→(Instr.checkKey em d t v).run P w = .ok () w)
  (hk:∀t J,f t=some J→iP (P.underlying t)=some (oq (P.underlying t))∧(oq (P.underlying t)=false→J.length=1)) (xs:Array Value) (F:Field→PUnit→Sem (ForInStep PUnit)) (hF:∀(fd:Field) (v:Value),fd.name ≠ "_" → (part fd.type xs fd.offset).run P w = .ok v w→(Instr.checkKey em d fd.type v).run P w = .ok () w→(F fd PUnit.unit).run P w = .ok (.yield PUnit.unit) w) :
  ∀(fs:List Field) (off:Nat) (J:List CK) (l:List CV) (r:Bool),Wl (ah P) f fs off=some J→aV φ l=some (xs.toList.drop off)→eqL J l l=some r→(forIn fs PUnit.unit F).run P w = .ok PUnit.unit w
 |[],off,J,l,r,hc,hx,he=>by simp
 |fd::fs,off,J,l,r,hc,hx,he=>by
  simp only[Wl]at hc;split at hc
  next hn=>
   split at hc
   ·rename_i ka hka;split at hc
    ·rename_i hz;split at hc
     ·rename_i kb hkb;cases hc;obtain⟨r1,r2,e1,e2,rfl⟩:=wV he;obtain⟨hl1,_⟩:=KH e1;have hsz:ah P fd.type≠0:=Ω
      obtain⟨hb,hk1⟩:=hk _ _ hka;have hd2:=kY ka.length hx;have hp:∃p v,p.cells=l.take ka.length∧p.isAgg=oq (P.underlying fd.type)∧aP φ p=some v∧(part fd.type xs fd.offset).run P w = .ok v w:=by
       cases hs:oq (P.underlying fd.type)with
       |true =>rw[hs]at hb;refine⟨.agg (l.take ka.length),.agg ((xs.toList.drop off).take ka.length).toArray,rfl,rfl,by simp[aP,hd2], ?_⟩;simp[part,ξ,cD hb,az hsz,a_,hn.2,hz.1];congr 2;apply m_;simp
       |false=>
        rw[hs]at hb;have hone:ka.length=1:=hk1 hs;rw[hone]at hd2 hl1;match hlt:l.take 1,hl1 with
        |[c],_=>
         rw[hlt]at hd2;obtain⟨v,ws,e3,h1,h2⟩:=bW hd2;have hg:xs[off]? = some v:=by
          have:((xs.toList.drop off).take 1)[0]? = some v:=by rw[e3];rfl
          rw[K']at this;split at this
          ·simpa[b_]using this
          ·cases this
         refine⟨.one c,v,by rw[hone,hlt];rfl,rfl,h1, ?_⟩;simp[part,ξ,cD hb,hn.2,hg]
      obtain⟨p,v,p1,p2,p3,p4⟩:=hp;have hA:=ih fd.type ka hka p v r1 p3 p2 (by rw[p1];exact e1);have hR:=zm ih hk xs F hF fs (off+ka.length) kb (l.drop ka.length) r2 hkb (by rw[←List.drop_drop];exact iV _ hx) e2;simp[ξ,hF fd v hn.1 p4 hA];exact hR
     ·cases hc
    ·cases hc
   ·cases hc
  ·cases hc
def Fs {em:Bool}:∀(d:Nat) (D:Nat) (t:TypeId) (J:List CK),iA P d t=some J→∀(p:PV) v r,aP φ p=some v→p.isAgg=oq (P.underlying t)→eqL J p.cells p.cells=some r→(Instr.checkKey em (D+d) t v).run P w = .ok () w
 |0,D,t,J,h,p,v,r,_,_,_=>by cases h
 |d+1,D,t,J,h,p,v,r,hx,hp,he=>by
  simp[iA]at h;rw[←Nat.add_assoc];split at h
  next hu=>simp only[Instr.checkKey,ξ,ε hu,Δ];rfl
  next k hu=>simp only[Instr.checkKey,ξ,ε hu,Δ];rfl
  next hu=>simp only[Instr.checkKey,ξ,ε hu,Δ];rfl
  next fs hu=>
   split at h
   ·cases h
   ·rw[hu]at hp;cases p with
    |one c=>cases hp
    |agg l =>obtain⟨T,U,g⟩:=sg (φ:=φ) (v:=v) hx;subst U;rw[Instr.checkKey];simp only[ξ,ε hu,Δ];rw[←Array.forIn_toList];rw[zm (P:=P) (w:=w) (em:=em) (d:=D+d) (λt J f p v r=>Fs d D t J f p v r) (λt J f=>OW d t J f) T.toArray _ (λfd v R C j=>by simp[R,C,j]) fs.toList 0 J l r h (by simpa using g) he];rfl
  ·cases h
def kOk (P:Program)(U:TypeId)(J:List CK)(agg:Bool):Prop:=iA P 20 U=some J∧agg=oq (P.underlying U)
def uL {q:EqK}(h:nE P t=some q):∃J agg,q = .flat J agg∧kOk P t J agg:=by
 unfold nE at h;split at h
 next fs f=>
  split at h
  next J g=>simp at h;exact⟨J,true,h.symm,g,by rw[f];rfl⟩
  ·cases h
 next d hd f=>
  split at h
  next J g=>simp at h;refine⟨J,false,h.symm,g, ?_⟩;rw[f];cases d <;> first|rfl|(exact absurd rfl (hd _))
  ·cases h
 ·cases h
def d8 (g:kOk P U J agg)(j:aP φ p=some v)(f:rD J agg p=true)(em:Bool):(Instr.checkKey em 10000 U v).run P w = .ok () w:=by
 unfold rD at f;split at f
 next r hr=>obtain⟨C,_,l⟩:=Co hr;exact Fs (P:=P) (w:=w) 20 9980 U J g.1 p v r j (C.trans g.2) l
 ·cases f
def Fnd (_:Gx)(es:List ME)(vs:List MapEntry)(i:Nat)(J:List CK)(agg:Bool)(k:PV)(r:Option (Nat×ME))(o:Option (Nat×Value)):Prop:=match r with
 |none=>o=none
 |some (n,e)=>∃j m,n=i+j∧o=some (n,m.val)∧es[j]? = some e∧vs[j]? = some m∧eqP J agg k e.key=some true
def Fnd.next {k:PV}{o:Option (Nat×Value)}(f:Fnd φ es vs (i+1) J agg k r o):Fnd φ (e::es) (m::vs) i J agg k r o:=by
 unfold Fnd at f⊢;split
 ·exact f
 ·obtain⟨j,m,P,C,p,l,g⟩:=f;exact⟨j+1,m,Ω,C,by simpa using p,by simpa using l,g⟩
def my (C:fV φ (e::es) (m::vs)):aP φ e.key=some m.key∧aP φ e.val=some m.val∧m.born=e.born∧fV φ es vs:=by obtain⟨J,g⟩:=C;obtain⟨v,q1,q2,l,j⟩:=g 0 e rfl;cases q1;refine⟨q2,l,j,by simpa using J,λi P f=>?_⟩;obtain⟨v,r,p⟩:=g (i+1) P (by simpa using f);exact⟨v,by simpa using r,p⟩
def N4 {U:TypeId}{J:List CK}{agg:Bool}(f:kOk P U J agg){k:PV}{v:Value}(j:aP φ k=some v):∀{es:List ME} {vs:List MapEntry} {i:Nat} {r:Option (Nat×ME)},fV φ es vs→tw J agg k es i=some r→∃o,(Instr.findAsking U v vs i).run P w = .ok o w∧Fnd φ es vs i J agg k r o
 |[],[],i,r,_,hf=>by cases hf;exact⟨none,rfl,rfl⟩
 |[],_::_,i,r,hd,hf=>by have:=hd.1;simp at this
 |_::_,[],i,r,hd,hf=>by have:=hd.1;simp at this
 |e::es,m::vs,i,r,hd,hf=>by
  obtain⟨l,R,C,p⟩:=my hd;simp[tw]at hf;split at hf
  next g=>cases hf;exact⟨some (i,m.val),by simp[Instr.findAsking,QY f.1 f.2 j l g],0,m,rfl,rfl,rfl,rfl,g⟩
  next g=>obtain⟨o,q1,q2⟩:=N4 f j p hf;exact⟨o,by simp[Instr.findAsking,QY f.1 f.2 j l g,q1],q2.next⟩
  ·cases hf
def Mg (R:kOk P U J agg){d:TypeDesc}(j:P.underlying U=some d){C l:Value}{r b:Bool}(hx:aP φ p=some C)(T:aP φ q=some l)(he:eqP J agg p q=some r)(g:Instr.sameNow d C l=some b):b=r:=by
 have f:=QY (P:=P) (w:=default) R.1 R.2 hx T he;unfold Instr.sameNow at g;split at g
 next k a k' b'=>
  split at g
  next hkk=>subst hkk;simp at g;have:=aj2 (P:=P) default 9999 U k _ a b' j;rw[show Op.equal U (.int k a) (.int k b')=Op.equalIn (9999+1) U (.int k a) (.int k b') from rfl,this]at f;injection f with f _;rw[←f,←g]
  ·cases g
 next a b'=>simp at g;have:=ajB (P:=P) default 9999 U a b' j;rw[show Op.equal U (.string a) (.string b')=Op.equalIn (9999+1) U (.string a) (.string b') from rfl,this]at f;injection f with f _;rw[←f,←g,beq_toListBytes]
 next a b'=>simp at g;have:=ajT (P:=P) default 9999 U a b' j;rw[show Op.equal U (.bool a) (.bool b')=Op.equalIn (9999+1) U (.bool a) (.bool b') from rfl,this]at f;injection f with f _;rw[←f,←g]
 ·cases g
def N3 {U:TypeId}{J:List CK}{agg:Bool}(l:kOk P U J agg){d:TypeDesc}(f:P.underlying U=some d){k:PV}{v:Value}(j:aP φ k=some v):∀{es:List ME} {vs:List MapEntry} {i:Nat} {r:Option (Nat×ME)} {o:Option (Nat×Value)},fV φ es vs→tw J agg k es i=some r→Instr.findNow d v vs i=some o→Fnd φ es vs i J agg k r o
 |[],[],i,r,o,_,hf,hn=>by simp[tw]at hf;simp[Instr.findNow]at hn;subst hf;subst hn;rfl
 |[],_::_,i,r,o,f,hf,_=>by have:=f.1;simp at this
 |_::_,[],i,r,o,f,hf,_=>by have:=f.1;simp at this
 |e::es,m::vs,i,r,o,hde,hf,hn=>by
  obtain⟨p,T,R,C⟩:=my hde;simp[tw]at hf;simp[Instr.findNow]at hn;split at hn
  next hb=>
   cases hn;split at hf
   next g=>cases hf;exact⟨0,m,rfl,rfl,rfl,rfl,g⟩
   next g=>have:=Mg l f j p g hb;cases this
   ·cases hf
  next hb=>
   split at hf
   next g=>have:=Mg l f j p g hb;cases this
   ·exact(N3 l f j C hf hn).next
   ·cases hf
  ·cases hn
def jM (j:kOk P U J agg){k:PV}(l:aP φ k=some v)(C:fV φ es vs)(p:tw J agg k es 0=some r):∃o,(Instr.findKey U v vs).run P w = .ok o w∧Fnd φ es vs 0 J agg k r o:=by
 obtain⟨d,f⟩:∃d,P.underlying U=some d:=by
  cases f:P.underlying U with
  |some d=>exact⟨d,rfl⟩
  |none =>have:=j.1;simp[iA,f]at this
 cases g:Instr.findNow d v vs 0 with
 |some o=>exact⟨o,by simp[Instr.findKey,ε f,g],N3 j f l C p g⟩
 |none =>obtain⟨o,q1,q2⟩:=N4 (w:=w) j l C p;exact⟨o,by simp[Instr.findKey,ε f,g,q1],q2⟩
def Me (f:ME→ME):∀(es:List ME) (i j:Nat),(zL es i f)[j]? = if i=j then(es[j]?).map f else es[j]?
 |[],i,j=>by simp[zL]
 |e::es,0,0=>by simp[zL]
 |e::es,0,j+1=>by simp[zL]
 |e::es,i+1,0=>by simp[zL]
 |e::es,i+1,j+1=>by simp only[zL,S?,Me f es i j];simp
def Mc (f:ME→ME):∀(es:List ME) (i:Nat),(zL es i f).length=es.length
 |[],i=>rfl
 |e::es,0=>rfl
 |e::es,i+1=>by simp[zL,Mc f es i]
def At {vs:Array MapEntry}(r:fV φ es vs.toList){f:ME→ME}{g:MapEntry→MapEntry}(p:∀e m,es[i]? = some e→vs[i]? = some m→aP φ e.key=some m.key→aP φ e.val=some m.val→m.born=e.born→aP φ (f e).key=some (g m).key∧aP φ (f e).val=some (g m).val∧(g m).born=(f e).born):fV φ (zL es i f) (vs.modify i g).toList:=by
 refine⟨by simp[Mc];simpa using r.1,λj e l=>?_⟩;rw[Me]at l;rw[f_,z?];split at l
 next hij=>subst hij;rw[β rfl];simp at l;obtain⟨J,C,rfl⟩:=l;obtain⟨m,q1,q2,R,P⟩:=r.2 i J C;rw[f_]at q1;exact⟨g m,by rw[q1];rfl,p J m C q1 q2 R P⟩
 next hij=>rw[B' hij];obtain⟨m,q1,q2⟩:=r.2 j e l;rw[f_]at q1;exact⟨m,q1,q2⟩
def Fe {vs:Array MapEntry}(l:fV φ es vs.toList)(C:aP φ e.key=some m.key)(r:aP φ e.val=some m.val)(p:m.born=e.born):fV φ (es++[e]) (vs.push m).toList:=by
 have g:vs.size=es.length:=by rw[←l.1,ω]
 refine⟨by simp[g],λj x f=>?_⟩;rw[f_];obtain hj|hj:=d_ j es.length
 ·rw[ο hj]at f;obtain⟨v,q1,q2⟩:=l.2 j x f;rw[f_]at q1;exact⟨v,by rw[Array.getElem?_push,B' Ω];exact q1,q2⟩
 ·rw[Q' hj]at f;have:j=es.length:=by
   have:=(N'.1 f).1;simp at this;omega
  subst this;simp at f;subst f;exact⟨m,by rw[←g];simp,C,r,p⟩
def Inv.setO (hI:Inv B R φ h w){k:Pos}(hl:φ.loc k 0=some l)(p:∀g,0<g→φ.loc k g=none){ob j:Obj}(hb:w.heap[l.b]? = some ob)(P:Xk ob=false){r:EO}(T:gp φ { w with heap:=w.heap.setIfInBounds l.b j } B k r)(U:blank r=false:=by rfl):Inv B R φ (upd h k r) { w with heap:=w.heap.setIfInBounds l.b j }:=by
 have only:∀g J,φ.loc k g=some J→J=l:=λg J f=>by
  cases g with
  |zero=>rw[hl]at f;exact(π f).symm
  |succ g=>rw[p _ Ω]at f;cases f
 refine hI.turn (ψ:=φ) (Gx.le.refl φ) (λ_ _=>⟨λ_=>rfl,rfl,rfl⟩) (λg1 C x=>.inl ⟨g1,C,x,rfl⟩) (λb hb' hne=>?_) (λg1 C x ob1 h1 h2=>?_) rfl rfl rfl Ψ (ζ _) T U
 ·simp[hne 0 l hl]
 ·rw[only g1 C x,hb]at h1;cases h1;rw[P]at h2;cases h2
def uG (P:Inv B R φ h w){m:Pos}{clock:Nat}(J:h m = .map es clock)(C:RT φ (.pv (.one (.mp m))) v):∃l vs,φ.loc m 0=some l∧(∀g,0<g→φ.loc m g=none)∧v = .map (some l.b)∧B≤l.b∧w.heap[l.b]? = some (.map vs clock)∧fV φ es vs.toList:=by obtain⟨l,j,T⟩:=Sq C;have f:=P.obj m;rw[J]at f;obtain⟨U,l',vs,q1,q2,r,p⟩:=f;rw[j]at q1;cases q1;exact⟨l,vs,j,U,T,q2,r,p⟩
def Inv.setM (J:Inv B R φ h w){m:Pos}(p:φ.loc m 0=some l)(f:∀g,0<g→φ.loc m g=none)(P:B≤l.b){vs vs':Array MapEntry}{c c':Nat}(r:w.heap[l.b]? = some (.map vs c)){j:List ME}(C:fV φ j vs'.toList):Inv B R φ (upd h m (.map j c')) { w with heap:=w.heap.setIfInBounds l.b (.map vs' c') } :=
 J.setO p f r rfl ⟨f,l,vs',p,P,(Go.MapKept.heap_set r).1,C⟩
def Lc {z:PV}(f:dq P t=some z)(w:World):∃v,(zeroValue t).run P w = .ok v w∧∀φ,aP φ z=some v:=by obtain⟨i,v,l,j,g⟩:=fg f;exact⟨v,by simp[zeroValue,typeInfo,l,j],g⟩
def ab4 (hI:Inv B R φ h w){e:TypeId}{x y:Operand}{ok:Bool}(ho:o.op = .lookup t x y ok)(hu:P.underlying t=some (.map U e)){q:EqK}(hkey:nE P U=some q){z:PV}(hz:dq P e=some z){C:List TV}(hv:RTs φ C [a.eval x,a.eval y]){f:Pos}{out:TV}{wr:Option (Pos×EO)}(g:(Oo q z ok C f).run h=some (out,wr)):OkX P B R φ h w o a out wr:=by
 obtain⟨J,agg,rfl,hk⟩:=uL hkey;unfold Oo at g;split at g
 ·obtain⟨v1,ws,e1,hr1,hr2⟩:=hv.cons;obtain⟨v2,e2,T⟩:=hr2.one;subst e2;simp at e1;obtain⟨e1,e2⟩:=e1;subst e1;subst e2;split at g
  next ks' agg' kv heq=>
   injection heq with h1 h2;subst h1;subst h2;have T:aP φ kv=some (a.eval y):=T;cases hok:rD J agg kv with
   |false=>rw[hok]at g;cases g
   |true=>
    rw[hok,G']at g;obtain⟨zv,hzr,hzd⟩:=Lc hz w;have fin:∀{r:Option PV} {v:Option Value},(uH ok z r).run h=some (out,wr)→(match r,v with|none,none=>True|some p,some u=>aP φ p=some u|_,_=>False)→(execOp a.eval o).run P w = .ok (.value (match v with|some u=>(if ok then .tuple #[u,.bool true]else u)|none=>(if ok then .tuple #[zv,.bool false]else zv))) w→OkX P B R φ h w o a out wr:=by
     intro r v hl hm hrun;unfold uH at hl;cases ok with
     |true=>
      cases r with
      |none=>
       cases v with
       |some _=>cases hm
       |none =>cases hl;exact aq hI hrun ⟨[zv,.bool false],bt (hzd φ) rfl,rfl⟩
      |some p=>
       cases v with
       |none=>cases hm
       |some u =>cases hl;exact aq hI hrun ⟨[u,.bool true],bt hm rfl,rfl⟩
     |false=>
      cases r with
      |none=>
       cases v with
       |some _=>cases hm
       |none =>cases hl;exact aq hI hrun (hzd φ)
      |some p=>
       cases v with
       |none=>cases hm
       |some u =>cases hl;exact aq hI hrun hm
    split at g
    ·have ev:=np hr1;refine fin (v:=none) g trivial ?_;unfold execOp;have hf:(Instr.findKey U (a.eval y) []).run P w = .ok none w:=by
      obtain⟨o',q1,q2⟩:=jM (w:=w) hk T (es:=[]) (vs:=[]) ⟨rfl,λi e he=>by simp at he⟩ rfl;rw[q1,show o'=none from q2]
     simp[ho,ev,Instr.lookup,ε hu,d8 hk T hok,hf,hzr]
    ·rename_i m;simp[Q.run]at g;split at g
     ·rename_i es clock hm;obtain⟨l,vs,q1,_,ev,_,q3,q4⟩:=uG hI hm hr1;split at g
      ·rename_i r hf;obtain⟨o',p1,p2⟩:=jM (w:=w) hk T q4 hf;refine fin (v:=o'.map (·.2)) g ?_ ?_
       ·unfold Fnd at p2;split at p2
        ·subst p2;trivial
        ·obtain⟨j,m',_,h2,h3,h4,_⟩:=p2;rw[h2];obtain⟨m2,z1,_,z3,_⟩:=q4.2 j _ h3;rw[h4]at z1;cases z1;exact z3
       ·unfold execOp;cases o' with
        |none=>simp[ho,ev,Instr.lookup,ε hu,getObj,Sem.run,q3,d8 hk T hok,p1,hzr,Result.andThen]
        |some pr=>simp[ho,ev,Instr.lookup,ε hu,getObj,Sem.run,q3,d8 hk T hok,p1,Result.andThen]
      ·cases g
     ·cases g
    ·cases g
  ·cases g
 ·cases g
end
open Go.MapKept
variable [SymVal]
section
variable {P:Program}{B:Nat}{R:W0}{φ:Gx}{h:Pos→EO}{w:World}{o:Oper}{a:Act}
variable{es:List ME}{vs:Array MapEntry}{v:Value}{t U:TypeId}{x y:Operand}{q:EqK}{C:List TV}{f:Pos}{out:TV}{wr:Option (Pos×EO)}
def Id (hd:fV φ es vs.toList){J:List CK}{agg:Bool}{k:PV}(T:aP φ k=some v){j:Nat}{e:ME}{m:MapEntry}(U:es[j]? = some e)(C:vs.toList[j]? = some m)(r:eqP J agg k e.key=some true):(((vs[j]?).map (·.key)).getD v)=v∧vs[j]? = some m∧aP φ e.val=some m.val∧m.born=e.born∧eqP J agg k k=some true:=by
 obtain⟨m2,p,g,R,P⟩:=hd.2 j e U;rw[C]at p;cases p;have l:=Zt r;subst l;rw[T]at g;injection g with g;have f:vs[j]? = some m:=by rw[←Array.getElem?_toList];exact C
 exact⟨by rw[f];exact g.symm,f,R,P,r⟩
def Yo (hI:Inv B R φ h w){e:TypeId}{z:Operand}(ho:o.op = .mapUpdate t x y z∨o.op = .insert t x y z)(hu:P.underlying t=some (.map U e))(hkey:nE P U=some q)(hv:RTs φ C [a.eval x,a.eval y,a.eval z])(p:(acX q C f).run h=some (out,wr)):OkX P B R φ h w o a out wr:=by
 obtain⟨J,agg,rfl,hk⟩:=uL hkey;have hex:∀{w'},(Instr.mapUpdate t (a.eval x) (a.eval y) (a.eval z)).run P w = .ok () w'→(execOp a.eval o).run P w = .ok .skip w':=λhr=>by unfold execOp;obtain ho|ho:=ho <;> simp[ho,hr]
 unfold acX at p;split at p
 ·obtain⟨v1,ws,e1,hr1,hr2⟩:=hv.cons;obtain⟨v2,ws2,e2,g,hr4⟩:=hr2.cons;obtain⟨v3,e3,r⟩:=hr4.one;subst e3;subst e2;simp at e1;obtain⟨e1,e2,e3⟩:=e1;subst e1;subst e2;subst e3;split at p
  next ks' agg' m kv v heq=>
   injection heq with h1 h2;subst h1;subst h2;have g:aP φ kv=some (a.eval y):=g;have r:aP φ v=some (a.eval z):=r;cases T:rD J agg kv with
   |false=>rw[T]at p;cases p
   |true=>
    rw[T,G']at p;simp[Q.run]at p;split at p
    ·rename_i es clock hm;obtain⟨l,vs,q1,qo,ev,qB,q3,q4⟩:=uG hI hm hr1;split at p
     ·rename_i i e' hf;cases p;obtain⟨o',p1,p2⟩:=jM (w:=w) hk g q4 hf;obtain⟨j,m',rfl,h2,h3,h4,h5⟩:=p2;obtain⟨y1,y2,y3,y4,y5⟩:=Id q4 g h3 h4 h5;subst h2;refine B8 (hex ?_) (Gx.le.refl φ) (hI.setM q1 qo qB (c':=clock) (vs':=vs.modify (0+j) λe=>{ e with key:=a.eval y,val:=a.eval z }) q3 (At q4 λe m _ _ _ _ hb=>⟨g,r,hb⟩));have y1':(((vs[0+j]?).map (·.key)).getD (a.eval y))=a.eval y:=by rw[Z'];exact y1
      simp only[Instr.mapUpdate,ξ,ε hu,ev,Δ,C_ q3,d8 hk g T,p1,y1',ID y5 g,e? _ q3]
     next hf=>cases p;obtain⟨o',p1,p2⟩:=jM (w:=w) hk g q4 hf;have p2:o'=none:=p2;subst p2;refine B8 (hex ?_) (Gx.le.refl φ) (hI.setM q1 qo qB (c':=clock+1) (vs':=vs.push { key:=a.eval y,val:=a.eval z,born:=clock }) q3 (Fe q4 g r rfl));simp[Instr.mapUpdate,ξ,ε hu,ev,C_ q3,d8 hk g T,p1,e? _ q3]
     ·cases p
    ·cases p
  ·cases p
 ·cases p
def TC:∀(es:List ME) (i:Nat),RG es i=es.eraseIdx i
 |[],_=>by simp[RG]
 |_::es,0=>by simp[RG]
 |e::es,i+1=>by simp[RG,TC es i]
def Wc (g:fV φ es vs.toList)(i:Nat):fV φ (RG es i) (vs.eraseIdxIfInBounds i).toList:=by
 have l:(vs.eraseIdxIfInBounds i).toList=vs.toList.eraseIdx i:=by
  unfold Array.eraseIdxIfInBounds;split
  ·simp
  next h=>rw[List.eraseIdx_of_length_le (by simpa using h)]
 rw[l,TC];refine⟨by rw[List.length_eraseIdx,List.length_eraseIdx,g.1],λj e f=>?_⟩;rw[List.getElem?_eraseIdx]at f⊢;split at f
 next h=>rw[β h];exact g.2 j e f
 next h=>rw[B' h];exact g.2 (j+1) e f
def afb (hI:Inv B R φ h w){cl:Call}{t2 e:TypeId}(ho:o.op = .call cl)(hcl:cl.callee = .builtin .delete)(hargs:cl.args = #[x,y])(hty:cl.argTypes = #[t,t2])(hu:P.underlying t=some (.map U e))(hkey:nE P U=some q)(hv:RTs φ C [a.eval x,a.eval y])(p:(ac5 q C f).run h=some (out,wr)):OkX P B R φ h w o a out wr:=by
 obtain⟨J,agg,rfl,hk⟩:=uL hkey;have hex:∀{w'},(Builtin.delete_ #[t,t2] o.type #[a.eval x,a.eval y]).run P w = .ok (.tuple #[]) w'→(execOp a.eval o).run P w = .ok (.value (.tuple #[])) w':=λhr=>by unfold execOp;simp[ho,resolve,hcl,hargs,invoke,builtin,hty,hr]
 have hrt:∀ψ:Gx,RT ψ (.tup []) (.tuple #[]):=λψ=>⟨[],rfl,rfl⟩;unfold ac5 at p;split at p
 ·obtain⟨v1,ws,e1,hr1,hr2⟩:=hv.cons;obtain⟨v2,e2,g⟩:=hr2.one;subst e2;simp at e1;obtain⟨e1,e2⟩:=e1;subst e1;subst e2;split at p
  next ks' agg' kv heq=>
   injection heq with h1 h2;subst h1;subst h2;have g:aP φ kv=some (a.eval y):=g;cases r:rD J agg kv with
   |false=>rw[r]at p;cases p
   |true =>rw[r,G']at p;cases p;refine aq hI (hex ?_) (hrt _);simp[Builtin.delete_,np hr1,ξ,ε hu,d8 hk g r]
  next ks' agg' m kv heq=>
   injection heq with h1 h2;subst h1;subst h2;have g:aP φ kv=some (a.eval y):=g;cases r:rD J agg kv with
   |false=>rw[r]at p;cases p
   |true=>
    rw[r,G']at p;simp[Q.run]at p;split at p
    ·rename_i es clock hm;obtain⟨l,vs,q1,qo,ev,qB,T,q4⟩:=uG hI hm hr1;split at p
     next i e' hf=>cases p;obtain⟨o',p1,p2⟩:=jM (w:=w) hk g q4 hf;obtain⟨j,m',rfl,h2,h3,h4,h5⟩:=p2;subst h2;refine fD (hex ?_) (Gx.le.refl φ) (hI.setM q1 qo qB (c':=clock) (vs':=vs.eraseIdxIfInBounds (0+j)) T (Wc q4 (0+j))) (hrt _);simp[Builtin.delete_,ξ,ε hu,ev,C_ T,d8 hk g r,p1,e? _ T]
     ·rename_i hf;cases p;obtain⟨o',p1,p2⟩:=jM (w:=w) hk g q4 hf;have p2:o'=none:=p2;subst p2;refine aq hI (hex ?_) (hrt _);have hset:w.heap.setIfInBounds l.b (.map vs clock)=w.heap:=by
       apply Array.ext_getElem?;intro k;rw[aj4];split
       next hkk=>subst hkk;rw[β (η.1 T).1,T]
       ·rfl
      simp[Builtin.delete_,ξ,ε hu,ev,C_ T,d8 hk g r,p1,e? _ T,hset]
     ·cases p
    ·cases p
  ·cases p
 ·cases p
def ab2 (hI:Inv B R φ h w){e:TypeId}(ho:o.op = .mapEntry t x y)(hu:P.underlying t=some (.map U e))(hkey:nE P U=some q){z:PV}(hz:dq P e=some z)(hv:RTs φ C [a.eval x,a.eval y])(p:(Tx q z C f).run h=some (out,wr)):OkX P B R φ h w o a out wr:=by
 obtain⟨J,agg,rfl,hk⟩:=uL hkey;have hex:∀{v w'},(Instr.mapEntry t (a.eval x) (a.eval y)).run P w = .ok v w'→(execOp a.eval o).run P w = .ok (.value v) w':=λhr=>by unfold execOp;simp[ho,hr]
 unfold Tx at p;split at p
 ·obtain⟨v1,ws,e1,hr1,hr2⟩:=hv.cons;obtain⟨v2,e2,g⟩:=hr2.one;subst e2;simp at e1;obtain⟨e1,e2⟩:=e1;subst e1;subst e2;split at p
  next ks' agg' m kv heq=>
   injection heq with h1 h2;subst h1;subst h2;have g:aP φ kv=some (a.eval y):=g;cases r:rD J agg kv with
   |false=>rw[r]at p;cases p
   |true=>
    rw[r,G']at p;simp[Q.run]at p;split at p
    ·rename_i es clock hm;obtain⟨l,vs,q1,qo,ev,qB,T,q4⟩:=uG hI hm hr1;split at p
     ·rename_i i e' hf;cases p;obtain⟨o',p1,p2⟩:=jM (w:=w) hk g q4 hf;obtain⟨j,m',rfl,h2,h3,h4,h5⟩:=p2;obtain⟨y1,y2,y3,y4,y5⟩:=Id q4 g h3 h4 h5;subst h2;have y1':(((vs[0+j]?).map (·.key)).getD (a.eval y))=a.eval y:=by rw[Z'];exact y1
      have y2':(((vs[0+j]?).map λx=>(x.born:Int)).getD 0)=Int.ofNat e'.born:=by rw[Z',y2];show(m'.born:Int)=_;rw[y4];rfl
      refine fD (v :=.tuple #[m'.val,.int .i64 (Int.ofNat e'.born)]) (hex ?_) (Gx.le.refl φ) (hI.setM q1 qo qB (c':=clock) (vs':=vs.modify (0+j) λe=>{ e with key:=a.eval y }) T (At q4 λe m _ _ _ hvv hb=>⟨g,hvv,hb⟩)) ⟨_,bt y3 (bt (cm _ _) rfl),rfl⟩;simp only[Instr.mapEntry,ξ,ε hu,ev,Δ,C_ T,d8 hk g r,p1,y1',ID y5 g,e? _ T,a_,goInt];rw[y2']
     next hf=>cases p;obtain⟨o',p1,p2⟩:=jM (w:=w) hk g q4 hf;have p2:o'=none:=p2;subst p2;obtain⟨zv,hzr,hzd⟩:=Lc hz w;refine fD (v :=.tuple #[zv,.int .i64 (Int.ofNat clock)]) (hex ?_) (Gx.le.refl φ) (hI.setM q1 qo qB (c':=clock+1) (vs':=vs.push { key:=a.eval y,val:=zv,born:=clock }) T (Fe q4 g (hzd φ) rfl)) ⟨_,bt (hzd φ) (bt (cm _ _) rfl),rfl⟩;simp only[Instr.mapEntry,ξ,ε hu,ev,Δ,C_ T,d8 hk g r,p1,hzr,e? _ T,a_,goInt];rfl
     ·cases p
    ·cases p
  ·cases p
 ·cases p
def EW:∀{es:List ME} {vs:List MapEntry} {b i n:Nat},fV φ es vs→Tn b es i=some n→∃j,n=i+j∧vs.findIdx? (λe=>(e.born:Int) == (b:Int))=some j
 |[],vs,b,i,n,_,h=>by cases h
 |e::es,[],b,i,n,hd,h=>by have:=hd.1;simp at this
 |e::es,m::vs,b,i,n,hd,h=>by
  obtain⟨_,_,g,p⟩:=my hd;simp[Tn]at h;cases f:Nat.beq e.born b with
  |true =>rw[f]at h;cases h;have f:=pX.1 f;exact⟨0,rfl,by simp[List.findIdx?_cons,g,f]⟩
  |false=>
   rw[f]at h;obtain⟨j,rfl,l⟩:=EW p h;have f:=B_ f;have f:¬((e.born:Int)=(b:Int)):=Ω
   exact⟨j+1,Ω,by simp[List.findIdx?_cons,g,f];simpa using l⟩
def ab1 (hI:Inv B R φ h w){z:Operand}(ho:o.op = .entryStore t x y z)(hv:RTs φ C [a.eval x,a.eval y,a.eval z])(g:(Tw C f).run h=some (out,wr)):OkX P B R φ h w o a out wr:=by
 unfold Tw at g;split at g
 ·obtain⟨v1,ws,U,hr1,hr2⟩:=hv.cons;obtain⟨v2,ws2,e2,hr3,hr4⟩:=hr2.cons;obtain⟨v3,e3,r⟩:=hr4.one;subst e3;subst e2;simp at U;obtain⟨U,e2,e3⟩:=U;subst U;subst e2;subst e3;split at g
  next m k b v=>
   have r:aP φ v=some (a.eval z):=r;have hb:=cR hr3;simp[Q.run]at g;split at g
   ·rename_i es clock hm;obtain⟨l,vs,q1,qo,ev,qB,q3,q4⟩:=uG hI hm hr1;split at g
    ·rename_i i hf;cases g;obtain⟨j,T,hj⟩:=EW q4 hf;rw[Z']at T;subst T;have hj':vs.findIdx? (λe=>(e.born:Int) == (b:Int))=some i:=by have:=List.findIdx?_toArray (p:=λe=>((e:MapEntry).born:Int) == (b:Int)) (l:=vs.toList);rw[hj]at this;simpa using this
     refine B8 (w':={ w with heap:=w.heap.setIfInBounds l.b (.map (vs.modify i λe=>{ e with val:=a.eval z }) clock) }) ?_ (Gx.le.refl φ) (hI.setM q1 qo qB q3 (At q4 λe m _ _ hkk _ hb=>⟨hkk,r,hb⟩));unfold execOp;have J:=e? (P:=P) (.map (vs.modify i λe=>{ e with val:=a.eval z }) clock) q3;have hb':a.eval y = .int k (b:Int):=hb;simp[ho,ev,Instr.entryStore,C_ q3,hb',asInt,asIntOf,hj',J]
    ·cases g
   ·cases g
  ·cases g
 ·cases g
def abX (p:Inv B R φ h w){e:TypeId}(ho:o.op = .range t x)(hu:P.underlying t=some (.map U e))(hf:h f = .none)(hv:RTs φ C [a.eval x])(j:(Tt C f).run h=some (out,wr)):OkX P B R φ h w o a out wr:=by
 unfold Tt at j;split at j
 ·obtain⟨v,e1,hr⟩:=hv.one;cases e1;have mk:∀{ob:Obj} {o':EO},(execOp a.eval o).run P w = .ok (.value (.pointer (some ⟨w.heap.size,0,none⟩))) (w.alloc ob)→gp (φ.add f ⟨w.heap.size,0,0⟩) (w.alloc ob) B f o'→blank o'=false→out = .pv (.one (.ptr f 0 0))→wr=some (f,o')→OkX P B R φ h w o a out wr:=λ{ob o'} r T J h1 h2=>by
   subst h1;subst h2;refine fD r (p.le_add hf _) (p.new hf (l:=⟨w.heap.size,0,0⟩) rfl T J) ?_ J;show den _ (.ptr f 0 0)=_;simp[den,Gx.add_self]
  have one:∀g,0<g→(φ.add f ⟨w.heap.size,0,0⟩).loc f g=none:=λg hg=>by simp only[Gx.add,h?];rw[B' Ω]
  split at j
  ·cases j;refine mk (ob :=.mapIter none 0 #[] 0) (o' :=.mit none 0 [] 0) ?_ ⟨one,⟨w.heap.size,0,0⟩,Gx.add_self _ _ _,p.size,z_ w _⟩ rfl rfl rfl;unfold execOp;simp[ho,np hr,Instr.range,ε hu]
  next m=>
   simp[Q.run]at j;split at j
   next es clock hm=>cases j;obtain⟨l,vs,q1,qo,ev,qB,q3,q4⟩:=uG p hm hr;refine mk (ob :=.mapIter (some l.b) clock #[] clock) (o' :=.mit (some m) clock [] clock) ?_ ⟨one,⟨w.heap.size,0,0⟩,Gx.add_self _ _ _,p.size,l,(p.le_add hf _).loc _ _ _ q1,z_ w _⟩ rfl rfl rfl;unfold execOp;simp[ho,ev,Instr.range,ε hu,C_ q3]
   ·cases j
  ·cases j
 ·cases j
def Bq:∀{es:List ME} {vs:List MapEntry} {b:Nat} {e:ME},fV φ es vs→KG b es=some e→∃m,vs.find? (λx=>x.born == b)=some m∧aP φ e.key=some m.key∧aP φ e.val=some m.val
 |[],vs,b,e,_,h=>by cases h
 |x::es,[],b,e,hd,h=>by have:=hd.1;simp at this
 |x::es,m::vs,b,e,hd,h=>by
  obtain⟨r,p,g,l⟩:=my hd;simp[KG]at h;cases f:Nat.beq x.born b with
  |true =>rw[f]at h;cases h;exact⟨m,by simp[g,pX.1 f],r,p⟩
  |false=>
   rw[f]at h;obtain⟨j,q1,q2⟩:=Bq l h;have f:=B_ f;have:(m.born == b)=false:=by rw[g];simpa using f
   exact⟨j,by rw[ajl,this];exact q1,q2⟩
def Ew:∀{l:List Nat} {b:Nat},YS l=some b→l.getLast? = some b
 |[],_,h=>by cases h
 |[x],b,h=>h
 |x::y::l,b,h=>by have:=Ew (l:=y::l) h;rw[List.getLast?_cons_cons];exact this
def sY (_:Inv B R φ h w){k:Pos}{g:Nat}(p:RT φ (.pv (.one (.ptr k g 0))) v){l:Loc}(r:φ.loc k 0=some l)(j:∀g,0<g→φ.loc k g=none):v = .pointer (some ⟨l.b,0,none⟩):=by
 obtain⟨J,f,C⟩:=ga p;cases g with
 |zero =>rw[r]at f;injection f with f;rw[C,f]
 |succ g=>rw[j _ Ω]at f;cases f
def iZ {m:Option Nat}{r f c:Nat}{seen:Array Nat}(g:w.heap[r]? = some (.mapIter m f seen c)):(getObj r).run P w = .ok (.mapIter m f seen c) w:=by simp[getObj,Sem.run,g]
def afa (hI:Inv B R φ h w)(ho:o.op = .entry x)(hv:RTs φ C [a.eval x])(p:(ac4 C f).run h=some (out,wr)):OkX P B R φ h w o a out wr:=by
 unfold ac4 at p;split at p
 ·obtain⟨v,e1,hr⟩:=hv.one;cases e1;have fin:∀{m:Pos} {l lm:Loc} {b j r:Nat} {seen:Array Nat},(ZB m b j).run h=some (out,wr)→φ.loc m 0=some lm→a.eval x = .pointer (some ⟨l.b,0,none⟩)→w.heap[l.b]? = some (.mapIter (some lm.b) r seen j)→seen.back? = some b→OkX P B R φ h w o a out wr:=by
   intro m l lm b j r seen p hlm hx hit hback;unfold ZB at p;simp[Q.run]at p;split at p
   ·rename_i es clock hm;cases hc:Nat.beq clock j with
    |false=>rw[hc]at p;cases p
    |true=>
     rw[hc,G']at p;have hc:=pX.1 hc;subst hc;split at p
     ·rename_i e hf;cases p;have J:=hI.obj m;rw[hm]at J;obtain⟨_,l2,vs,q1,q2,U,T⟩:=J;rw[hlm]at q1;cases q1;obtain⟨me,z1,z2,z3⟩:=Bq T hf;have z1':vs.find? (λx=>x.born == b)=some me:=by rw[←Array.find?_toList];exact z1
      refine aq hI (v :=.tuple #[me.key,me.val]) ?_ ⟨_,bt z2 (bt z3 rfl),rfl⟩;unfold execOp;simp[ho,hx,Instr.entry,iZ hit,C_ U,hback,z1']
     ·cases p
   ·cases p
  split at p
  next k g=>
   simp[Q.run]at p;have J:=hI.obj k;split at p
   ·rename_i m r seen j hk;rw[hk]at J;obtain⟨g1,l,q1,q2,lm,U,T⟩:=J;split at p
    next b hb=>exact fin p U (sY hI hr q1 g1) T (by rw[List.back?_toArray];exact Ew hb)
    ·cases p
   next m r bs b c hk=>rw[hk]at J;obtain⟨g1,l,lm,seen,j,n,q1,q2,U,T,_,_,_,q8⟩:=J;obtain⟨z1,z2⟩:=q8 (b,c) rfl;have z2:j=c:=z2;subst z2;exact fin p U (sY hI hr q1 g1) T z1
   next m b c hk=>rw[hk]at J;obtain⟨g1,l,lm,r,seen,q1,q2,U,T,q5⟩:=J;exact fin p U (sY hI hr q1 g1) T q5
   ·cases p
  ·cases p
 ·cases p
def vF {seen:List Nat}:∀{es:List ME} {vs:List MapEntry},fV φ es vs→fV φ (wq seen es) (vs.filter λe=>!seen.toArray.contains e.born)
 |[],[],_=>⟨rfl,λi e h=>by simp[wq]at h⟩
 |[],_::_,hd=>by have:=hd.1;simp at this
 |_::_,[],hd=>by have:=hd.1;simp at this
 |e::es,m::vs,hd=>by
  obtain⟨J,C,p,r⟩:=my hd;have g:=vF (seen:=seen) r;have f:seen.any (Nat.beq e.born)=seen.toArray.contains m.born:=by
   rw[p,akl,List.contains_eq_any_beq];congr 1;funext y;cases l:Nat.beq e.born y with
   |true=>simp[pX.1 l]
   |false=>simp[B_ l]
  simp only[wq,ajX];rw[f];cases P:seen.toArray.contains m.born with
  |true=>simpa using g
  |false=>
   simp only[E_,i?,h?];refine⟨by rw[r_,r_,g.1],λi x j=>?_⟩;cases i with
   |zero =>simp at j;subst j;exact⟨m,rfl,J,C,p⟩
   |succ i=>simpa using g.2 i x (by simpa using j)
def abZ (hI:Inv B R φ h w)(ho:o.op = .next x false){t:TV}(hr:RT φ t (a.eval x))(f:Ed h t=some (out,wr)):OkX P B R φ h w o a out wr:=by
 have hex:∀{v w'},(Instr.next (a.eval x) false o.type).run P w = .ok v w'→(execOp a.eval o).run P w = .ok (.value v) w':=λhr=>by unfold execOp;simp[ho,hr]
 have over:RT φ vI (.tuple #[.bool false]):=⟨[.bool false],rfl,rfl⟩;unfold Ed at f;split at f
 next it g=>
  have J:=hI.obj it;split at f
  next since seen stepped hk=>cases f;rw[hk]at J;obtain⟨g1,l,q1,q2,q3⟩:=J;refine aq hI (hex ?_) over;rw[sY hI hr q1 g1];simp[Instr.next,iZ q3]
  next m since seen sp hk=>
   rw[hk]at J;obtain⟨g1,l,q1,q2,lm,q3,q4⟩:=J;split at f
   ·rename_i es clock hm;have hom:=hI.obj m;rw[hm]at hom;obtain⟨_,l2,vs,y1,y2,y3,y4⟩:=hom;rw[q3]at y1;cases y1;have r:=vF (seen:=seen) y4;have hfl:(vs.filter λe=>!seen.toArray.contains e.born).toList=vs.toList.filter λe=>!seen.toArray.contains e.born:=by simp
    rw[←hfl]at r;split at f
    ·rename_i hus;rw[hus]at r;have hnil:(vs.filter λe=>!seen.toArray.contains e.born) = #[]:=by
      apply V_;rw[←Array.length_toList,r.1];rfl
     cases j:(seen.isEmpty||es.isEmpty||es.any (λe=>Nat.blt e.born sp))with
     |false=>rw[j]at f;cases f
     |true=>
      rw[j,G']at f;cases f;have hno:(!seen.toArray.isEmpty && !vs.isEmpty&&vs.all (·.born≥sp))=false:=by
       simp only[aiC]at j;rcases j with(j|j)|j
       ·have:seen=[]:=by simpa using j
        subst this;rfl
       ·have:es=[]:=by simpa using j
        subst this;have:vs = #[]:=by apply V_;rw[←Array.length_toList,y4.1];rfl
        subst this;simp
       ·obtain⟨e,he,U⟩:=List.any_eq_true.1 j;obtain⟨i,T⟩:=N_ he;obtain⟨p,z1,_,_,z4⟩:=y4.2 i e T;rw[akm];right;rw[Bool.eq_false_iff];intro C;have:=ajS.1 C p (q_.1 (Y_ z1));have U:=bM.1 U;simp at this;omega
      refine aq hI (hex ?_) over;rw[sY hI hr q1 g1];simp only[Instr.next,ξ,iZ q4,Δ,C_ y3,hno,hnil];simp[Question.forced]
    ·rename_i e hus;rw[hus]at r;cases j:(Nat.blt e.born since&&Nat.blt e.born sp)with
     |false=>rw[j]at f;cases f
     |true=>
      rw[j,G']at f;cases f;simp[bM]at j;obtain⟨p,z1,z2,z3,z4⟩:=r.2 0 e rfl;have hone:(vs.filter λe=>!seen.toArray.contains e.born) = #[p]:=by
       apply m_;have hl:=r.1;revert z1 hl;generalize (vs.filter λe=>!seen.toArray.contains e.born).toList=L;intro z1 hl;match L,hl with
       |[y],_=>simp at z1;rw[z1]
      have hmem:p∈vs:=by
       have:p∈(vs.filter λe=>!seen.toArray.contains e.born):=by rw[hone];simp
       exact(aiy.1 this).1
      have hno:(!seen.toArray.isEmpty && !vs.isEmpty&&vs.all (·.born≥sp))=false:=by rw[akm];right;rw[Bool.eq_false_iff];intro C;have:=ajS.1 C p hmem;simp at this;omega
      have U:p.born<since:=Ω
      refine fD (hex (v :=.tuple #[.bool true,p.key,p.val]) (w':={ w with heap:=w.heap.setIfInBounds l.b (.mapIter (some lm.b) since (seen.toArray.push p.born) clock) }) ?_) (Gx.le.refl φ) (hI.setO q1 g1 (ob :=.mapIter (some lm.b) since seen.toArray sp) q4 rfl ⟨g1,l,q1,q2,lm,q3, ?_⟩) ⟨_,bt rfl (bt z2 (bt z3 rfl)),rfl⟩
      ·rw[sY hI hr q1 g1];have hset:(setObj l.b (.mapIter (some lm.b) since (seen.toArray.push p.born) clock)).run P w = .ok () { w with heap:=w.heap.setIfInBounds l.b (.mapIter (some lm.b) since (seen.toArray.push p.born) clock) }:=by
        simp[setObj,Sem.run,q4]
       have hge:¬since≤p.born:=Ω
       simp only[Instr.next,ξ,iZ q4,Δ,C_ y3,hno,hone];simp only[aja]at hset⊢;simp[U,hge,Question.forced,hset]
      ·rw[(aix q4).1,z4];simp
    ·cases f
   ·cases f
  ·cases f
 ·cases f
end
