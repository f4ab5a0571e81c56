/- The statement 'ResolveRestsCardSaid': for every input the law ResolveRests returns true, and what it is given reads afterwards as before. The two errors that the card lists hold what the program's text lays. -/
import Derived.Test.YthfdnklcgfkjoaaGreatDoorRstD
import Derived.Test.YthfdnklcgfkjoaaGreatDoorRstE
import Derived.SevenTiedAt
set_option linter.all false
namespace Go.Proofs.YthfdnklcgfkjoaaGreatDoor.Abs
open Go Go.Proofs Go.ChangeShapes Go.WideShapes Go.RowKit Tryz
def Ca:Rows.ResolveRestsSaid :=
 OpenClaim.holds_of_wide 3 f3 rfl rfl rfl rfl rfl rfl rfl ⟨rfl,rfl,rfl,rfl,rfl⟩ rfl rfl rfl rfl rfl (by kernel_rfl) func3 aeo
  (f_ (by kernel_rfl)) (by unfold Func.isWrapper;first|(rw[β (by decide +kernel)];kernel_rfl)|(rw[ο (by decide +kernel)];exact⟨rfl,rfl⟩))
  (λj f H g _=>MT j f H g)
def arf:Rows.resolveRestsRow.wfByText (OpenSpec.ofChange Rows.resolveRestsSpec)=true:=by kernel_rfl
def amS:pinned.checked.prog.mainIs=some (true, "8c899fef2e3f938f69f010bec30b8812ea1183c40ab4d919b5199bb500cadb5e".toList):=by kernel_rfl
def ajE:true=pinned.checked.prog.looks []:=by kernel_rfl
def ajD:pinned.checked.prog.funcNamed Rows.resolveRestsRow.func=some 3:=by kernel_rfl
def amU:pinned.checked.prog.funcs[3]? = some f3:=func3
def ajC:([3,22,24].all λu=>!pinned.checked.prog.wantsStandIn u)=true:=by kernel_rfl
def amK:pinned.checked.prog.funcs.any Func.goes=false:=by kernel_rfl
def aow {P:Program}(h:P.funcs.any Func.goes=false)(f:FuncId):P.goes f=false:=by
 have r:∀g:FuncId,((P.funcs[g]?).any Func.goes)=false:=λg=>by
  cases l:P.funcs[g]? with
  |none=>rfl
  |some fn =>rw[Array.any_eq_false]at h;obtain⟨j,e⟩:=θ.1 l;have:=h g j;rw[e]at this;simpa using this
 have p:((P.closure f).any λg=>(P.funcs[g]?).any Func.goes)=false:=J?.2 λg _=>by rw[r g];simp
 unfold Program.goes;rw[p,h,Bool.and_false];rfl
def amT:false=Rows.resolveRestsRow.goesBy pinned.checked.prog:=by
 have h:∀c:OpenClaim,c.start = .entering→false=c.goesBy pinned.checked.prog:=λc g=>by
  unfold OpenClaim.goesBy Program.goesAt Program.goesFrom;rw[g];cases pinned.checked.prog.funcNamed c.func with
  |none=>rfl
  |some f=>simp[aow amK f]
 exact h _ rfl
def arg:∀f fn,pinned.checked.prog.funcNamed Rows.resolveRestsRow.func=some f→pinned.checked.prog.funcs[f]? = some fn→true=pinned.checked.prog.looks []∧∀(j:Nat) t,fn.params[j]? = some t→pinned.checked.prog.wantsStandIn t=false:=by
 intro f fn r g;obtain rfl:f=3:=χ (ajD.symm.trans r) |>.symm;obtain rfl:fn=f3:=(χ (amU.symm.trans g)).symm;refine⟨ajE,λj t l=>?_⟩;rw[params3]at l;have p:t∈[3,22,24]:=by simpa using e? l
 have:=d_.1 ajC t p;generalize pinned.checked.prog.wantsStandIn t=b at this⊢;cases b with
 |false=>rfl
 |true=>cases this
def resolveRests_holds:Rows.ResolveRestsCardSaid :=
 Claim7.holds_tied_plain_at .later [] [.sentinel,.sentinel] true (true, "8c899fef2e3f938f69f010bec30b8812ea1183c40ab4d919b5199bb500cadb5e") true
  Ca (λ_ h=>by cases h) arf (λ_ h=>by cases h) resolveRests_row_tie rfl ⟨rfl,rfl⟩ amS rfl arg amT
#print axioms resolveRests_holds
