/- A region that draws its order. -/
import Derived.Test.YtfgpipfjalmooaaGreatAl
import Derived.StillTailTactics
import Derived.OrdersIn
import Derived.RegionIn
import Derived.LoopIn
import Derived.WalkKit
import Derived.OwnWalkIn
import Derived.OrdersHeld
set_option linter.all false
namespace Go.Proofs.YtfgpipfjalmooaaGreat
namespace Abs
open Go
section
variable {F:Fence}{n:Nat}{P:Program}{ops:Array Oper}{r:Region.Mode}{w:World}{Q:Exit→Act→World→Prop}
def HJ (o:Oper):Bool:=match o.op with
 |.load ..|.fieldAddr ..|.lookup ..|.indexAddr ..|.move ..|.binOp ..|.buildSlice ..|.mapUpdate ..=>true
 |.call c=>(match c.callee with|.builtin .append=>true|_=>false)
 |_=>false
def Ow (s:Sem Unit)(P:Program)(w:World)(x:Next)(j:World)(h:(do s;pure Next.skip:Sem Next).run P w = .ok x j):x = .skip:=by
 cases f:s.run P w with
 |ok v g=>simp[go_sem,f,Result.andThen]at h;exact h.1.symm
 |halt x g=>simp[go_sem,f,Result.andThen]at h
def zE (s:Sem Value)(P:Program)(w:World)(x:Next)(j:World)(h:(do let x ←s;pure (Next.value x):Sem Next).run P w = .ok x j):∃v,x = .value v:=by
 cases f:s.run P w with
 |ok v g=>simp[go_sem,f,Result.andThen]at h;exact⟨v,h.1.symm⟩
 |halt x g=>simp[go_sem,f,Result.andThen]at h
variable{o:Oper}{i p:Nat}{a:Act}{K:Act→World→Prop}{S:World→Prop}{w' :World}{g:Array Bool}
def Y9 (h:HJ o=true):(∀c,o.op ≠ .defer c)∧∀(g:Operand→Value) (P:Program) (w:World) x w',(execOp g o).run P w = .ok x w'→(∃v,x = .value v)∨x = .skip:=by
 unfold HJ at h;split at h;case h_10=>cases h
 case h_9 c f=>
  refine⟨λc e=>(by rw[f]at e;cases e),λg P w x w' e=>?_⟩;split at h
  next hc=>unfold execOp at e;simp only[f]at e;unfold resolve at e;simp only[hc]at e;rw[υ,j_]at e;simp only[Result.andThen]at e;exact .inl (zE _ _ _ _ _ e)
  ·cases h
 case h_8 f =>refine⟨λc e=>(by rw[f]at e;cases e),λg P w x w' e=>?_⟩;unfold execOp at e;simp only[f]at e;exact .inr (Ow _ _ _ _ _ e)
 all_goals
  rename_i f;refine⟨λc e=>(by rw[f]at e;cases e),λg P w x w' e=>?_⟩;unfold execOp at e;simp only[f]at e;first
   |exact .inl (zE _ _ _ _ _ e)
   |(simp[go_sem]at e;exact .inl ⟨_,e.1.symm⟩)
def O7 (Q:Exit→Act→World→Prop):Exit→Act→World→Prop
 |.normal,a,w=>Q .normal a w
 |_,_,_=>False
def EE (p:∀f,F.fn f)(j:∀o,ops[i]? = some o→HJ o=true)(g:wpOp P ops (O7 Q) i K a w):wpOpIn F n P ops Q i K a w:=by
 unfold wpOp at g;unfold wpOpIn;split
 next ho=>simp[ho]at g;exact g
 next o ho=>
  simp[ho]at g;split
  next hw=>
   simp[hw]at g;obtain⟨c1,c2⟩:=Y9 (j o ho);obtain g|⟨_,J,C,r⟩:=g
   ·refine⟨λf _=>p f, ?_⟩;rw[show o.semAt F.round a.eval=execOp a.eval o from Oper.semAt_plain F _ _ c1];unfold Oper.wp at g;cases l:(execOp a.eval o).run P w with
    |ok x w'=>
     rw[l]at g;rcases c2 _ _ _ _ _ l with⟨v,rfl⟩|rfl
     ·exact g
     ·exact g
    |halt x w' =>rw[l]at g;cases x <;> simp[Oper.upon]at g;exact g.elim
   ·exact r.elim
  next hw=>simp[hw]at g;exact⟨λf _=>p f,g⟩
def tc (l:∀f,F.fn f)(j:ops.all HJ=true){S:World→Prop}:∀(p:Nat) (g:Array Bool) (a:Act) (w:World),wpAnyH P r ops (O7 Q) S p g a w→wpAnyIn F n P r ops Q p g a w
 |0,_,_,_,h=>h
 |p+1,_,_,_,h=>⟨h.1,λi J=>EE l (λo C=>by
   have:=Array.all_eq_true'.1 j o (m? C);exact this) (wpOp_mono (λT w' R=>tc l j p _ T w' R.2) (h.2 i J))⟩
def I0 (P:Program)(ops:Array Oper)(S:World→Prop):List Nat→(Act→Prop)→Act→Prop
 |[],K,a=>K a
 |i::is,K,a=>∃o v,ops[i]? = some o∧YieldsIf P ops S o v a∧I0 P ops S is K (a.put o.dst v)
def dX {f:List Nat}{K:Act→Prop}(v:Value)(l:ops[i]? = some o)(j:Region.wanted o (yielded ops a.tmps)=true)(g:∀w,S w→(execOp a.eval o).run P w = .ok (.value v) w)(h:I0 P ops S f K (a.put o.dst v)):I0 P ops S (i::f) K a :=
 ⟨o,v,l,.inl ⟨j,g⟩,h⟩
def pG {v:Value}(j:ops[i]? = some o)(f:Region.wanted o (yielded ops a.tmps)=true)(g:(execOp a.eval o).run P w = .ok (.value v) w')(h:K (a.put o.dst v) w'):wpOp P ops Q i K a w:=by unfold wpOp;simp[j,f];refine .inl ?_;unfold Oper.wp;rw[g];exact h
def IL (j:ops[i]? = some o)(f:Region.wanted o (yielded ops a.tmps)=true)(g:(execOp a.eval o).run P w = .ok .skip w')(h:K (a.put o.dst undef) w'):wpOp P ops Q i K a w:=by unfold wpOp;simp[j,f];refine .inl ?_;unfold Oper.wp;rw[g];exact h
def qO (f:Region.ready r ops g=[i])(h:wpOp P ops Q i (λC w'=>S w'∧wpAnyH P r ops Q S p (g.setIfInBounds i true) C w') a w):wpAnyH P r ops Q S (p+1) g a w :=
 wpAnyH_all f Ψ λj l=>by rw[ξ.1 l];exact h
def abT {k:Nat}(l:Region.ready r ops g=[i,k])(R:wpOp P ops Q i (λf w'=>S w'∧wpAnyH P r ops Q S p (g.setIfInBounds i true) f w') a w)(J:wpOp P ops Q k (λf w'=>S w'∧wpAnyH P r ops Q S p (g.setIfInBounds k true) f w') a w):wpAnyH P r ops Q S (p+1) g a w :=
 wpAnyH_all l Ψ λj C=>by
  obtain e|e:=J'.1 C
  ·rw[e];exact R
  ·rw[ξ.1 e];exact J
def xB {g:Operand→Value}{s x:Operand}{t:TypeId}{u y l:Value}(j:o.op = .call { callee :=.builtin .append,args :=#[s,x],argTypes :=#[t,t] })(r:g s=u)(p:g x=y)(f:(Builtin.append_ #[t,t] o.type #[u,y]).run P w = .ok l w'):(execOp g o).run P w = .ok (.value l) w':=by simp[execOp,j,resolve,invoke,builtin,r,p,f,Result.andThen]
def UL (r:Region.Mode)(ops:Array Oper):List Nat→Array Bool→Bool
 |[],_=>true
 |i::is,g=>Region.free r ops g i&&((Region.ready r ops g).contains i&&UL r ops is (g.setIfInBounds i true))
def abq:List Nat→Array Bool→Array Bool
 |[],l=>l
 |i::is,l=>abq is (l.setIfInBounds i true)
def G5 {S:World→Prop}(j:Region.noSelect ops=true)(l:S w){p:Nat}:∀(f:List Nat) (g:Array Bool) (a:Act),UL r ops f g=true →
  I0 P ops S f (λR=>wpAnyH P r ops (O7 Q) S p (abq f g) R w) a→wpAnyH P r ops (O7 Q) S (p+f.length) g a w
 |[],_,_,_,h=>h
 |i::f,g,a,hB,h=>by simp only[UL,η]at hB;obtain⟨o,v,J,C,h⟩:=h;exact wpAnyH_take J j hB.1 hB.2.1 (λ_ _ _ h=>h.elim) C l (G5 j l f _ _ hB.2.2 h)
def BI {id:Nat}(R:∀f,F.fn f)(j:ops.all HJ=true)(r:P.follows .mixedOrders=true)(l:Region.noSelect ops=true)(g:List Nat)(p:Nat)(C:p+g.length=ops.size)(T:UL .any ops g (Array.replicate ops.size false)=true)(J:S { w with drawn:=w.drawn+1 })
  (h:I0 P ops S g (λU=>wpAnyH P .any ops (O7 Q) S p (abq g (Array.replicate ops.size false)) U { w with drawn:=w.drawn+1 }) a):(Code.region id ops true).wpIn F n P Q a w:=by
 refine wpIn_region_any r (tc R j (S:=S) _ _ _ _ ?_);have:=G5 l J g _ _ T h;rwa[C]at this
end
