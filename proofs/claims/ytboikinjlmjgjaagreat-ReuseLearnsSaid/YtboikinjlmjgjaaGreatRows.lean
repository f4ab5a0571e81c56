/-
  No cell of these rows narrows 'for every input' (looked for: loops, veiled, ifaces, maps, wideKeys, modest, calm, conditions, laid).
  DERIVED. THE GIVEN ROWS OF THIS SEAT. 3 by the template 'for every input the law returns true; each argument reads behind the call as it read before'; 0 by the template 'total and deterministic' (their statements: YtboikinjlmjgjaaGreatTotals.lean).
  GIVEN WITH THE SEED: the statements are not yours to turn. If you find one false, say at which input.
  Laid BY PROGRAM, IN A SANDBOX (cutbox-rows.mjs): the forced cells as the released guide's own fill.sh prints them over the translation ad2a0f5ea31625d3… (all of the seat's roots in one cut). By AI agents, Wed Nov 11 2026. No macro, syntax, notation, axiom, sorry.
-/
import Derived.Test.YtboikinjlmjgjaaGreatChecked
import GoSem.Claim
import GoSem.ClaimJoined
import GoSem.ClaimMapViews
import Derived.JoinedTies
import Derived.KernelRfl
namespace Go.Proofs.YtboikinjlmjgjaaGreat
/- THE CELL 'sum', in the pinned program and in every row, IS THE sha256 OF THE DUMP (.gsa) THAT YtboikinjlmjgjaaGreatProg.lean LOADS. Nothing in Lean hashes anything: it is a label: what it is worth is what the hold of that sum in a sandbox is worth. -/
noncomputable def Tryz.pinned : Pinned := { name := "ytboikinjlmjgjaagreat", sum := "ad2a0f5ea31625d3055c82d5f11297d161c5b5cd46ae28c52f313da076c9b90c", checked := Tryz.checked }
namespace Rows
def none {H : Type} : Left H := { results := [], args := [] }

/-- 'semvcslaw27.ViewLinear': WHATEVER THE INPUT: true; the input reads as it did. -/
def viewLinearSpec : ChangeSpec := { name := "viewLinear", fn := fun _ => fun
  | [d1, d2] => { results := [.lit (.bool true)], args := [d1, d2] }
  | _ => none }
def viewLinearRow : OpenClaim := { program := "ytboikinjlmjgjaagreat", sum := "ad2a0f5ea31625d3055c82d5f11297d161c5b5cd46ae28c52f313da076c9b90c", func := "semvcs/semvcslaw27.ViewLinear", spec := "viewLinear", unfollowed := true, recurses := true, apart := false }
def ViewLinearSaid : Prop := viewLinearRow.holds Tryz.pinned (OpenSpec.ofChange viewLinearSpec)

/-- ITS FALSE NEIGHBOUR: 'it returns false'. Refute it at one input. -/
def viewLinearWrong : ChangeSpec := { name := "viewLinear", fn := fun _ => fun
  | [d1, d2] => { results := [.lit (.bool false)], args := [d1, d2] }
  | _ => none }
def ViewLinearWrongFalsely : Prop := viewLinearRow.holds Tryz.pinned (OpenSpec.ofChange viewLinearWrong)

/-- 'semvcslaw27.ViewUnlike': WHATEVER THE INPUT: true; the input reads as it did. -/
def viewUnlikeSpec : ChangeSpec := { name := "viewUnlike", fn := fun _ => fun
  | [d1, d2] => { results := [.lit (.bool true)], args := [d1, d2] }
  | _ => none }
def viewUnlikeRow : OpenClaim := { program := "ytboikinjlmjgjaagreat", sum := "ad2a0f5ea31625d3055c82d5f11297d161c5b5cd46ae28c52f313da076c9b90c", func := "semvcs/semvcslaw27.ViewUnlike", spec := "viewUnlike", unfollowed := true, recurses := true, apart := false }
def ViewUnlikeSaid : Prop := viewUnlikeRow.holds Tryz.pinned (OpenSpec.ofChange viewUnlikeSpec)

/-- ITS FALSE NEIGHBOUR: 'it returns false'. Refute it at one input. -/
def viewUnlikeWrong : ChangeSpec := { name := "viewUnlike", fn := fun _ => fun
  | [d1, d2] => { results := [.lit (.bool false)], args := [d1, d2] }
  | _ => none }
def ViewUnlikeWrongFalsely : Prop := viewUnlikeRow.holds Tryz.pinned (OpenSpec.ofChange viewUnlikeWrong)

/-- 'semvcslaw34.ReuseLearns': WHATEVER THE INPUT: true; the input reads as it did. -/
def reuseLearnsSpec : ChangeSpec := { name := "reuseLearns", fn := fun _ => fun
  | [d1, d2] => { results := [.lit (.bool true)], args := [d1, d2] }
  | _ => none }
def reuseLearnsRow : OpenClaim := { program := "ytboikinjlmjgjaagreat", sum := "ad2a0f5ea31625d3055c82d5f11297d161c5b5cd46ae28c52f313da076c9b90c", func := "semvcs/semvcslaw34.ReuseLearns", spec := "reuseLearns", unfollowed := true, recurses := true, apart := false }
def ReuseLearnsSaid : Prop := reuseLearnsRow.holds Tryz.pinned (OpenSpec.ofChange reuseLearnsSpec)

/-- ITS FALSE NEIGHBOUR: 'it returns false'. Refute it at one input. -/
def reuseLearnsWrong : ChangeSpec := { name := "reuseLearns", fn := fun _ => fun
  | [d1, d2] => { results := [.lit (.bool false)], args := [d1, d2] }
  | _ => none }
def ReuseLearnsWrongFalsely : Prop := reuseLearnsRow.holds Tryz.pinned (OpenSpec.ofChange reuseLearnsWrong)

/- THE SECOND FORM. 'bulk': how many values and letters a reading holds, each counted each time it is reached (what is shared counts as often as it is met; a slice's spare places count too). A statement '..UptoSaid' is the law's where the arguments, and the package variables that the reading takes, are together of bulk at most 1048576: NARROWER than '..Said'. Prove '..Said' where nothing that the law and all that it calls make is longer than what came in: it says more and counts as full. Else prove '..UptoSaid'. A law counts once. -/
mutual
def uptoBulk {H : Type} : DataW H → Nat
  | .lit (.string bytes) => bytes.length + 1
  | .lit _ => 1
  | .nil => 1
  | .ptr d => uptoBulk d + 1
  | .slice elems spare => uptoBulkAll elems + uptoBulkAll spare + 1
  | .agg parts => uptoBulkAll parts + 1
  | .iface _ d => uptoBulk d + 1
  | .map entries => uptoBulkEntries entries + 1
  | .held _ => 1
def uptoBulkAll {H : Type} : List (DataW H) → Nat
  | [] => 0
  | d :: r => uptoBulk d + uptoBulkAll r
def uptoBulkEntries {H : Type} : List (Lit × DataW H) → Nat
  | [] => 0
  | x :: r => uptoBulkEntry x + uptoBulkEntries r
def uptoBulkEntry {H : Type} : Lit × DataW H → Nat
  | (.string bytes, d) => bytes.length + uptoBulk d + 1
  | (_, d) => uptoBulk d + 1
 end
def uptoSmall : (H : Type) → List (DataW H) → Bool := fun _ ds => decide (uptoBulkAll ds ≤ 1048576)
def OpenSpec.upto (s : _root_.Go.ChangeSpec) : _root_.Go.OpenSpec := { _root_.Go.OpenSpec.ofChange s with cond := some uptoSmall }

/-- 'semvcslaw27.ViewLinear', WHERE WHAT IT READS IS OF BULK AT MOST 1048576: true; the input reads as it did. -/
def viewLinearUptoRow : OpenClaim := { program := "ytboikinjlmjgjaagreat", sum := "ad2a0f5ea31625d3055c82d5f11297d161c5b5cd46ae28c52f313da076c9b90c", func := "semvcs/semvcslaw27.ViewLinear", spec := "viewLinear", unfollowed := true, recurses := true, apart := false, narrowed := true }
def ViewLinearUptoSaid : Prop := viewLinearUptoRow.holds Tryz.pinned (OpenSpec.upto viewLinearSpec)

/-- 'semvcslaw27.ViewUnlike', WHERE WHAT IT READS IS OF BULK AT MOST 1048576: true; the input reads as it did. -/
def viewUnlikeUptoRow : OpenClaim := { program := "ytboikinjlmjgjaagreat", sum := "ad2a0f5ea31625d3055c82d5f11297d161c5b5cd46ae28c52f313da076c9b90c", func := "semvcs/semvcslaw27.ViewUnlike", spec := "viewUnlike", unfollowed := true, recurses := true, apart := false, narrowed := true }
def ViewUnlikeUptoSaid : Prop := viewUnlikeUptoRow.holds Tryz.pinned (OpenSpec.upto viewUnlikeSpec)

/-- 'semvcslaw34.ReuseLearns', WHERE WHAT IT READS IS OF BULK AT MOST 1048576: true; the input reads as it did. -/
def reuseLearnsUptoRow : OpenClaim := { program := "ytboikinjlmjgjaagreat", sum := "ad2a0f5ea31625d3055c82d5f11297d161c5b5cd46ae28c52f313da076c9b90c", func := "semvcs/semvcslaw34.ReuseLearns", spec := "reuseLearns", unfollowed := true, recurses := true, apart := false, narrowed := true }
def ReuseLearnsUptoSaid : Prop := reuseLearnsUptoRow.holds Tryz.pinned (OpenSpec.upto reuseLearnsSpec)

end Rows
end Go.Proofs.YtboikinjlmjgjaaGreat
