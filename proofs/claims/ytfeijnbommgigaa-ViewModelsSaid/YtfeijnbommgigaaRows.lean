/-
  No cell of these rows narrows 'for every input' (looked for: loops, veiled, ifaces, maps, wideKeys, modest, calm, conditions, laid).
  DERIVED. THE GIVEN ROWS OF THIS SEAT. 5 by the template 'for every input the law returns true; each argument reads behind the call as it read before'; 0 by the template 'total and deterministic' (their statements: YtfeijnbommgigaaTotals.lean).
  GIVEN WITH THE SEED: the statements are not yours to turn. If you find one false, say at which input.
  Laid BY PROGRAM, IN A SANDBOX (cutbox-rows.mjs): the forced cells as the released guide's own fill.sh prints them over the translation e344bff59e5448e2… (all of the seat's roots in one cut). By AI agents, Wed Nov 11 2026. No macro, syntax, notation, axiom, sorry.
-/
import Derived.Test.YtfeijnbommgigaaChecked
import GoSem.Claim
import GoSem.ClaimJoined
import GoSem.ClaimMapViews
import Derived.JoinedTies
import Derived.KernelRfl
namespace Go.Proofs.Ytfeijnbommgigaa
/- THE CELL 'sum', in the pinned program and in every row, IS THE sha256 OF THE DUMP (.gsa) THAT YtfeijnbommgigaaProg.lean LOADS. Nothing in Lean hashes anything: it is a label: what it is worth is what the hold of that sum in a sandbox is worth. -/
noncomputable def Try.pinned : Pinned := { name := "ytfeijnbommgigaa", sum := "e344bff59e5448e20bb7d32b07d39de198aee3c000065933dfc3672c0b5467f2", checked := Try.checked }
namespace Rows
def none {H : Type} : Left H := { results := [], args := [] }

/-- 'semvcslaw27.ViewRegions': WHATEVER THE INPUT: true; the input reads as it did. -/
def viewRegionsSpec : ChangeSpec := { name := "viewRegions", fn := fun _ => fun
  | [d] => { results := [.lit (.bool true)], args := [d] }
  | _ => none }
def viewRegionsRow : OpenClaim := { program := "ytfeijnbommgigaa", sum := "e344bff59e5448e20bb7d32b07d39de198aee3c000065933dfc3672c0b5467f2", func := "semvcs/semvcslaw27.ViewRegions", spec := "viewRegions", unfollowed := true, recurses := true, apart := false }
def ViewRegionsSaid : Prop := viewRegionsRow.holds Try.pinned (OpenSpec.ofChange viewRegionsSpec)

/-- ITS FALSE NEIGHBOUR: 'it returns false'. Refute it at one input. -/
def viewRegionsWrong : ChangeSpec := { name := "viewRegions", fn := fun _ => fun
  | [d] => { results := [.lit (.bool false)], args := [d] }
  | _ => none }
def ViewRegionsWrongFalsely : Prop := viewRegionsRow.holds Try.pinned (OpenSpec.ofChange viewRegionsWrong)

/-- 'semvcslaw27.ViewModels': WHATEVER THE INPUT: true; the input reads as it did. -/
def viewModelsSpec : ChangeSpec := { name := "viewModels", fn := fun _ => fun
  | [d1, d2, d3, d4] => { results := [.lit (.bool true)], args := [d1, d2, d3, d4] }
  | _ => none }
def viewModelsRow : OpenClaim := { program := "ytfeijnbommgigaa", sum := "e344bff59e5448e20bb7d32b07d39de198aee3c000065933dfc3672c0b5467f2", func := "semvcs/semvcslaw27.ViewModels", spec := "viewModels", unfollowed := true, recurses := true, apart := false }
def ViewModelsSaid : Prop := viewModelsRow.holds Try.pinned (OpenSpec.ofChange viewModelsSpec)

/-- ITS FALSE NEIGHBOUR: 'it returns false'. Refute it at one input. -/
def viewModelsWrong : ChangeSpec := { name := "viewModels", fn := fun _ => fun
  | [d1, d2, d3, d4] => { results := [.lit (.bool false)], args := [d1, d2, d3, d4] }
  | _ => none }
def ViewModelsWrongFalsely : Prop := viewModelsRow.holds Try.pinned (OpenSpec.ofChange viewModelsWrong)

/-- 'semvcslaw34.ReuseCompares': WHATEVER THE INPUT: true; the input reads as it did. -/
def reuseComparesSpec : ChangeSpec := { name := "reuseCompares", fn := fun _ => fun
  | [d1, d2, d3] => { results := [.lit (.bool true)], args := [d1, d2, d3] }
  | _ => none }
def reuseComparesRow : OpenClaim := { program := "ytfeijnbommgigaa", sum := "e344bff59e5448e20bb7d32b07d39de198aee3c000065933dfc3672c0b5467f2", func := "semvcs/semvcslaw34.ReuseCompares", spec := "reuseCompares", unfollowed := true, recurses := true, apart := false }
def ReuseComparesSaid : Prop := reuseComparesRow.holds Try.pinned (OpenSpec.ofChange reuseComparesSpec)

/-- ITS FALSE NEIGHBOUR: 'it returns false'. Refute it at one input. -/
def reuseComparesWrong : ChangeSpec := { name := "reuseCompares", fn := fun _ => fun
  | [d1, d2, d3] => { results := [.lit (.bool false)], args := [d1, d2, d3] }
  | _ => none }
def ReuseComparesWrongFalsely : Prop := reuseComparesRow.holds Try.pinned (OpenSpec.ofChange reuseComparesWrong)

/-- 'semvcslaw34.ReuseAdds': WHATEVER THE INPUT: true; the input reads as it did. -/
def reuseAddsSpec : ChangeSpec := { name := "reuseAdds", fn := fun _ => fun
  | [d1, d2, d3] => { results := [.lit (.bool true)], args := [d1, d2, d3] }
  | _ => none }
def reuseAddsRow : OpenClaim := { program := "ytfeijnbommgigaa", sum := "e344bff59e5448e20bb7d32b07d39de198aee3c000065933dfc3672c0b5467f2", func := "semvcs/semvcslaw34.ReuseAdds", spec := "reuseAdds", unfollowed := true, recurses := true, apart := false }
def ReuseAddsSaid : Prop := reuseAddsRow.holds Try.pinned (OpenSpec.ofChange reuseAddsSpec)

/-- ITS FALSE NEIGHBOUR: 'it returns false'. Refute it at one input. -/
def reuseAddsWrong : ChangeSpec := { name := "reuseAdds", fn := fun _ => fun
  | [d1, d2, d3] => { results := [.lit (.bool false)], args := [d1, d2, d3] }
  | _ => none }
def ReuseAddsWrongFalsely : Prop := reuseAddsRow.holds Try.pinned (OpenSpec.ofChange reuseAddsWrong)

/-- 'semvcslaw34.ReuseFinds': WHATEVER THE INPUT: true; the input reads as it did. -/
def reuseFindsSpec : ChangeSpec := { name := "reuseFinds", fn := fun _ => fun
  | [d1, d2, d3, d4, d5, d6] => { results := [.lit (.bool true)], args := [d1, d2, d3, d4, d5, d6] }
  | _ => none }
def reuseFindsRow : OpenClaim := { program := "ytfeijnbommgigaa", sum := "e344bff59e5448e20bb7d32b07d39de198aee3c000065933dfc3672c0b5467f2", func := "semvcs/semvcslaw34.ReuseFinds", spec := "reuseFinds", unfollowed := true, recurses := true, apart := false }
def ReuseFindsSaid : Prop := reuseFindsRow.holds Try.pinned (OpenSpec.ofChange reuseFindsSpec)

/-- ITS FALSE NEIGHBOUR: 'it returns false'. Refute it at one input. -/
def reuseFindsWrong : ChangeSpec := { name := "reuseFinds", fn := fun _ => fun
  | [d1, d2, d3, d4, d5, d6] => { results := [.lit (.bool false)], args := [d1, d2, d3, d4, d5, d6] }
  | _ => none }
def ReuseFindsWrongFalsely : Prop := reuseFindsRow.holds Try.pinned (OpenSpec.ofChange reuseFindsWrong)

/- THE SECOND FORM. 'bulk': how many values and letters a reading holds, each counted each time it is reached (what is shared counts as often as it is met; a slice's spare places count too). A statement '..UptoSaid' is the law's where the arguments, and the package variables that the reading takes, are together of bulk at most 1048576: NARROWER than '..Said'. Prove '..Said' where nothing that the law and all that it calls make is longer than what came in: it says more and counts as full. Else prove '..UptoSaid'. A law counts once. -/
mutual
def uptoBulk {H : Type} : DataW H → Nat
  | .lit (.string bytes) => bytes.length + 1
  | .lit _ => 1
  | .nil => 1
  | .ptr d => uptoBulk d + 1
  | .slice elems spare => uptoBulkAll elems + uptoBulkAll spare + 1
  | .agg parts => uptoBulkAll parts + 1
  | .iface _ d => uptoBulk d + 1
  | .map entries => uptoBulkEntries entries + 1
  | .held _ => 1
def uptoBulkAll {H : Type} : List (DataW H) → Nat
  | [] => 0
  | d :: r => uptoBulk d + uptoBulkAll r
def uptoBulkEntries {H : Type} : List (Lit × DataW H) → Nat
  | [] => 0
  | x :: r => uptoBulkEntry x + uptoBulkEntries r
def uptoBulkEntry {H : Type} : Lit × DataW H → Nat
  | (.string bytes, d) => bytes.length + uptoBulk d + 1
  | (_, d) => uptoBulk d + 1
 end
def uptoSmall : (H : Type) → List (DataW H) → Bool := fun _ ds => decide (uptoBulkAll ds ≤ 1048576)
def OpenSpec.upto (s : _root_.Go.ChangeSpec) : _root_.Go.OpenSpec := { _root_.Go.OpenSpec.ofChange s with cond := some uptoSmall }

/-- 'semvcslaw27.ViewRegions', WHERE WHAT IT READS IS OF BULK AT MOST 1048576: true; the input reads as it did. -/
def viewRegionsUptoRow : OpenClaim := { program := "ytfeijnbommgigaa", sum := "e344bff59e5448e20bb7d32b07d39de198aee3c000065933dfc3672c0b5467f2", func := "semvcs/semvcslaw27.ViewRegions", spec := "viewRegions", unfollowed := true, recurses := true, apart := false, narrowed := true }
def ViewRegionsUptoSaid : Prop := viewRegionsUptoRow.holds Try.pinned (OpenSpec.upto viewRegionsSpec)

/-- 'semvcslaw27.ViewModels', WHERE WHAT IT READS IS OF BULK AT MOST 1048576: true; the input reads as it did. -/
def viewModelsUptoRow : OpenClaim := { program := "ytfeijnbommgigaa", sum := "e344bff59e5448e20bb7d32b07d39de198aee3c000065933dfc3672c0b5467f2", func := "semvcs/semvcslaw27.ViewModels", spec := "viewModels", unfollowed := true, recurses := true, apart := false, narrowed := true }
def ViewModelsUptoSaid : Prop := viewModelsUptoRow.holds Try.pinned (OpenSpec.upto viewModelsSpec)

/-- 'semvcslaw34.ReuseCompares', WHERE WHAT IT READS IS OF BULK AT MOST 1048576: true; the input reads as it did. -/
def reuseComparesUptoRow : OpenClaim := { program := "ytfeijnbommgigaa", sum := "e344bff59e5448e20bb7d32b07d39de198aee3c000065933dfc3672c0b5467f2", func := "semvcs/semvcslaw34.ReuseCompares", spec := "reuseCompares", unfollowed := true, recurses := true, apart := false, narrowed := true }
def ReuseComparesUptoSaid : Prop := reuseComparesUptoRow.holds Try.pinned (OpenSpec.upto reuseComparesSpec)

/-- 'semvcslaw34.ReuseAdds', WHERE WHAT IT READS IS OF BULK AT MOST 1048576: true; the input reads as it did. -/
def reuseAddsUptoRow : OpenClaim := { program := "ytfeijnbommgigaa", sum := "e344bff59e5448e20bb7d32b07d39de198aee3c000065933dfc3672c0b5467f2", func := "semvcs/semvcslaw34.ReuseAdds", spec := "reuseAdds", unfollowed := true, recurses := true, apart := false, narrowed := true }
def ReuseAddsUptoSaid : Prop := reuseAddsUptoRow.holds Try.pinned (OpenSpec.upto reuseAddsSpec)

/-- 'semvcslaw34.ReuseFinds', WHERE WHAT IT READS IS OF BULK AT MOST 1048576: true; the input reads as it did. -/
def reuseFindsUptoRow : OpenClaim := { program := "ytfeijnbommgigaa", sum := "e344bff59e5448e20bb7d32b07d39de198aee3c000065933dfc3672c0b5467f2", func := "semvcs/semvcslaw34.ReuseFinds", spec := "reuseFinds", unfollowed := true, recurses := true, apart := false, narrowed := true }
def ReuseFindsUptoSaid : Prop := reuseFindsUptoRow.holds Try.pinned (OpenSpec.upto reuseFindsSpec)

end Rows
end Go.Proofs.Ytfeijnbommgigaa
