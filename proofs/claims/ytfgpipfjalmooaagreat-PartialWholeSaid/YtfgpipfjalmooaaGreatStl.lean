/- A region that draws its order. -/
import Derived.Test.YtfgpipfjalmooaaGreatAl
import Derived.StillTailTactics
import Derived.OrdersIn
import Derived.RegionIn
import Derived.LoopIn
import Derived.WalkKit
import Derived.OwnWalkIn
import Derived.OrdersHeld
open Bool renaming true→ä
open Go renaming World→ö,Value→ü,Program→ß,Operand→æ,execOp→ø
set_option linter.all false
namespace Go.Proofs.YtfgpipfjalmooaaGreat
namespace Abs
open Go
section
variable {F:Fence}{n:Nat}{P:ß}{ops:Array Oper}{r:Region.Mode}{w:ö}{Q:Exit→Act→ö→Prop}
def G5 (o:Oper):Bool:=match o.op with
 |.load ..|.fieldAddr ..|.lookup ..|.indexAddr ..|.move ..|.binOp ..|.buildSlice ..|.mapUpdate ..=>ä
 |.call c=>(match c.callee with|.builtin .append=>ä|_=>false)
 |_=>false
def N0 (s:Sem Unit)(P:ß)(w:ö)(x:Next)(j:ö)(h:(do s;pure Next.skip:Sem Next).run P w = .ok x j):x = .skip:=by
 cases f:s.run P w with
 |ok v g=>simp[go_sem,f,Result.andThen]at h;exact h.1.symm
 |halt x g=>simp[go_sem,f,Result.andThen]at h
def re (s:Sem ü)(P:ß)(w:ö)(x:Next)(j:ö)(h:(do let x ←s;pure (Next.value x):Sem Next).run P w = .ok x j):∃v,x = .value v:=by
 cases f:s.run P w with
 |ok v g=>simp[go_sem,f,Result.andThen]at h;exact⟨v,h.1.symm⟩
 |halt x g=>simp[go_sem,f,Result.andThen]at h
variable{o:Oper}{i p:Nat}{a:Act}{K:Act→ö→Prop}{S:ö→Prop}{w' :ö}{g:Array Bool}
def Yz (h:G5 o=ä):(∀c,o.op ≠ .defer c)∧∀(g:æ→ü) (P:ß) (w:ö) x w',(ø g o).run P w = .ok x w'→(∃v,x = .value v)∨x = .skip:=by
 unfold G5 at h;split at h;case h_10=>cases h
 case h_9 c f=>
  refine⟨λc e=>(by rw[f]at e;cases e),λg P w x w' e=>?_⟩;split at h
  next hc=>unfold ø at e;simp only[f]at e;unfold resolve at e;simp only[hc]at e;rw[π,n_]at e;simp only[Result.andThen]at e;exact .inl (re _ _ _ _ _ e)
  ·cases h
 case h_8 f =>refine⟨λc e=>(by rw[f]at e;cases e),λg P w x w' e=>?_⟩;unfold ø at e;simp only[f]at e;exact .inr (N0 _ _ _ _ _ e)
 all_goals
  rename_i f;refine⟨λc e=>(by rw[f]at e;cases e),λg P w x w' e=>?_⟩;unfold ø at e;simp only[f]at e;first
   |exact .inl (re _ _ _ _ _ e)
   |(simp[go_sem]at e;exact .inl ⟨_,e.1.symm⟩)
def OC (Q:Exit→Act→ö→Prop):Exit→Act→ö→Prop
 |.normal,a,w=>Q .normal a w
 |_,_,_=>False
def DV (p:∀f,F.fn f)(j:∀o,ops[i]? = some o→G5 o=ä)(g:wpOp P ops (OC Q) i K a w):wpOpIn F n P ops Q i K a w:=by
 unfold wpOp at g;unfold wpOpIn;split
 next ho=>simp[ho]at g;exact g
 next o ho=>
  simp[ho]at g;split
  next hw=>
   simp[hw]at g;obtain⟨c1,c2⟩:=Yz (j o ho);obtain g|⟨_,J,C,r⟩:=g
   ·refine⟨λf _=>p f, ?_⟩;rw[show o.semAt F.round a.eval=ø a.eval o from Oper.semAt_plain F _ _ c1];unfold Oper.wp at g;cases l:(ø a.eval o).run P w with
    |ok x w'=>
     rw[l]at g;rcases c2 _ _ _ _ _ l with⟨v,rfl⟩|rfl
     ·exact g
     ·exact g
    |halt x w' =>rw[l]at g;cases x <;> simp[Oper.upon]at g;exact g.elim
   ·exact r.elim
  next hw=>simp[hw]at g;exact⟨λf _=>p f,g⟩
def sk (l:∀f,F.fn f)(j:ops.all G5=ä){S:ö→Prop}:∀(p:Nat) (g:Array Bool) (a:Act) (w:ö),wpAnyH P r ops (OC Q) S p g a w→wpAnyIn F n P r ops Q p g a w
 |0,_,_,_,h=>h
 |p+1,_,_,_,h=>⟨h.1,λi J=>DV l (λo C=>by
   have:=Array.all_eq_true'.1 j o (q? C);exact this) (wpOp_mono (λT w' R=>sk l j p _ T w' R.2) (h.2 i J))⟩
def wM (P:ß)(ops:Array Oper)(S:ö→Prop):List Nat→(Act→Prop)→Act→Prop
 |[],K,a=>K a
 |i::is,K,a=>∃o v,ops[i]? = some o∧YieldsIf P ops S o v a∧wM P ops S is K (a.put o.dst v)
def bc {f:List Nat}{K:Act→Prop}(v:ü)(l:ops[i]? = some o)(j:Region.wanted o (yielded ops a.tmps)=ä)(g:∀w,S w→(ø a.eval o).run P w = .ok (.value v) w)(h:wM P ops S f K (a.put o.dst v)):wM P ops S (i::f) K a :=
 ⟨o,v,l,.inl ⟨j,g⟩,h⟩
def cP {v:ü}(j:ops[i]? = some o)(f:Region.wanted o (yielded ops a.tmps)=ä)(g:(ø a.eval o).run P w = .ok (.value v) w')(h:K (a.put o.dst v) w'):wpOp P ops Q i K a w:=by unfold wpOp;simp[j,f];refine .inl ?_;unfold Oper.wp;rw[g];exact h
def uG (j:ops[i]? = some o)(f:Region.wanted o (yielded ops a.tmps)=ä)(g:(ø a.eval o).run P w = .ok .skip w')(h:K (a.put o.dst undef) w'):wpOp P ops Q i K a w:=by unfold wpOp;simp[j,f];refine .inl ?_;unfold Oper.wp;rw[g];exact h
def pY (f:Region.ready r ops g=[i])(h:wpOp P ops Q i (λC w'=>S w'∧wpAnyH P r ops Q S p (g.setIfInBounds i ä) C w') a w):wpAnyH P r ops Q S (p+1) g a w :=
 wpAnyH_all f Ψ λj l=>by rw[E'.1 l];exact h
def abv {k:Nat}(l:Region.ready r ops g=[i,k])(R:wpOp P ops Q i (λf w'=>S w'∧wpAnyH P r ops Q S p (g.setIfInBounds i ä) f w') a w)(J:wpOp P ops Q k (λf w'=>S w'∧wpAnyH P r ops Q S p (g.setIfInBounds k ä) f w') a w):wpAnyH P r ops Q S (p+1) g a w :=
 wpAnyH_all l Ψ λj C=>by
  obtain e|e:=c_.1 C
  ·rw[e];exact R
  ·rw[E'.1 e];exact J
def iU {g:æ→ü}{s x:æ}{t:TypeId}{u y l:ü}(j:o.op = .call { callee :=.builtin .append,args :=#[s,x],argTypes :=#[t,t] })(r:g s=u)(p:g x=y)(f:(Builtin.append_ #[t,t] o.type #[u,y]).run P w = .ok l w'):(ø g o).run P w = .ok (.value l) w':=by simp[ø,j,resolve,invoke,builtin,r,p,f,Result.andThen]
def Ek (r:Region.Mode)(ops:Array Oper):List Nat→Array Bool→Bool
 |[],_=>ä
 |i::is,g=>Region.free r ops g i&&((Region.ready r ops g).contains i&&Ek r ops is (g.setIfInBounds i ä))
def O8:List Nat→Array Bool→Array Bool
 |[],l=>l
 |i::is,l=>O8 is (l.setIfInBounds i ä)
def Gp {S:ö→Prop}(j:Region.noSelect ops=ä)(l:S w){p:Nat}:∀(f:List Nat) (g:Array Bool) (a:Act),Ek r ops f g=ä →
  wM P ops S f (λR=>wpAnyH P r ops (OC Q) S p (O8 f g) R w) a→wpAnyH P r ops (OC Q) S (p+f.length) g a w
 |[],_,_,_,h=>h
 |i::f,g,a,hB,h=>by simp only[Ek,θ]at hB;obtain⟨o,v,J,C,h⟩:=h;exact wpAnyH_take J j hB.1 hB.2.1 (λ_ _ _ h=>h.elim) C l (Gp j l f _ _ hB.2.2 h)
def AC {id:Nat}(R:∀f,F.fn f)(j:ops.all G5=ä)(r:P.follows .mixedOrders=ä)(l:Region.noSelect ops=ä)(g:List Nat)(p:Nat)(C:p+g.length=ops.size)(T:Ek .any ops g (Array.replicate ops.size false)=ä)(J:S { w with drawn:=w.drawn+1 })
  (h:wM P ops S g (λU=>wpAnyH P .any ops (OC Q) S p (O8 g (Array.replicate ops.size false)) U { w with drawn:=w.drawn+1 }) a):(Code.region id ops ä).wpIn F n P Q a w:=by
 refine wpIn_region_any r (sk R j (S:=S) _ _ _ _ ?_);have:=Gp l J g _ _ T h;rwa[C]at this
end
