/- A region that draws its order. -/
import Derived.Test.YtfgpipfjalmooaaGreatAl
import Derived.StillTailTactics
import Derived.OrdersIn
import Derived.RegionIn
import Derived.LoopIn
import Derived.WalkKit
import Derived.OwnWalkIn
import Derived.OrdersHeld
set_option linter.all false
namespace Go.Proofs.YtfgpipfjalmooaaGreat
namespace Abs
open Go
section
variable {F:Fence}{n:Nat}{P:Program}{ops:Array Oper}{f:Region.Mode}{w:World}{Q:Exit→Act→World→Prop}
theorem LP (s:Sem Value)(P:Program)(w:World)(x:Next)(j:World)(h:(do let x ←s;pure (Next.value x):Sem Next).run P w = .ok x j):∃v,x = .value v:=by
 cases f:s.run P w with
 |ok v g=>simp[go_sem,f,Result.andThen]at h;exact⟨v,h.1.symm⟩
 |halt x g=>simp[go_sem,f,Result.andThen]at h
def Fp (P:Program)(ops:Array Oper)(S:World→Prop):List Nat→(Act→Prop)→Act→Prop
 |[],K,a=>K a
 |i::is,K,a=>∃o v,ops[i]? = some o∧YieldsIf P ops S o v a∧Fp P ops S is K (a.put o.dst v)
variable{i:Nat}{o:Oper}{a:Act}{K:Act→World→Prop}{w' :World}
theorem cO {S:World→Prop}{f:List Nat}{K:Act→Prop}(v:Value)(l:ops[i]? = some o)(j:Region.wanted o (yielded ops a.tmps)=true)(g:∀w,S w→(execOp a.eval o).run P w = .ok (.value v) w)(h:Fp P ops S f K (a.put o.dst v)):Fp P ops S (i::f) K a :=
 ⟨o,v,l,.inl ⟨j,g⟩,h⟩
theorem jM {v:Value}(j:ops[i]? = some o)(f:Region.wanted o (yielded ops a.tmps)=true)(g:(execOp a.eval o).run P w = .ok (.value v) w')(h:K (a.put o.dst v) w'):wpOp P ops Q i K a w:=by unfold wpOp;simp[j,f];refine .inl ?_;unfold Oper.wp;rw[g];exact h
theorem Jd (j:ops[i]? = some o)(f:Region.wanted o (yielded ops a.tmps)=true)(g:(execOp a.eval o).run P w = .ok .skip w')(h:K (a.put o.dst undef) w'):wpOp P ops Q i K a w:=by unfold wpOp;simp[j,f];refine .inl ?_;unfold Oper.wp;rw[g];exact h
theorem xL {g:Operand→Value}{s x:Operand}{t:TypeId}{u y l:Value}(j:o.op = .call { callee :=.builtin .append,args :=#[s,x],argTypes :=#[t,t] })(r:g s=u)(p:g x=y)(f:(Builtin.append_ #[t,t] o.type #[u,y]).run P w = .ok l w'):(execOp g o).run P w = .ok (.value l) w':=by simp[execOp,j,resolve,invoke,builtin,r,p,f,Result.andThen]
def Va (f:Region.Mode)(ops:Array Oper):List Nat→Array Bool→Bool
 |[],_=>true
 |i::is,listed=>Region.free f ops listed i&&((Region.ready f ops listed).contains i&&Va f ops is (listed.setIfInBounds i true))
def abC:List Nat→Array Bool→Array Bool
 |[],l=>l
 |i::is,l=>abC is (l.setIfInBounds i true)
end
