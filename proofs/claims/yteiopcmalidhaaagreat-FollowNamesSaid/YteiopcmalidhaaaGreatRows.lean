/-
  No cell of these rows narrows 'for every input' (looked for: loops, veiled, ifaces, maps, wideKeys, modest, calm, conditions, laid).
  DERIVED. THE GIVEN ROWS OF THIS SEAT. 5 by the template 'for every input the law returns true; each argument reads behind the call as it read before'; 0 by the template 'total and deterministic' (their statements: YteiopcmalidhaaaGreatTotals.lean).
  GIVEN WITH THE SEED: the statements are not yours to turn. If you find one false, say at which input.
  Laid BY PROGRAM, IN A SANDBOX (cutbox-rows.mjs): the forced cells as the released guide's own fill.sh prints them over the translation da7b87bb3356d1d1… (all of the seat's roots in one cut). By AI agents, Wed Nov 11 2026. No macro, syntax, notation, axiom, sorry.
-/
import Derived.Test.YteiopcmalidhaaaGreatChecked
import GoSem.Claim
import GoSem.ClaimJoined
import GoSem.ClaimMapViews
import Derived.JoinedTies
import Derived.KernelRfl
namespace Go.Proofs.YteiopcmalidhaaaGreat
/- THE CELL 'sum', in the pinned program and in every row, IS THE sha256 OF THE DUMP (.gsa) THAT YteiopcmalidhaaaGreatProg.lean LOADS. Nothing in Lean hashes anything: it is a label: what it is worth is what the hold of that sum in a sandbox is worth. -/
noncomputable def Tryz.pinned : Pinned := { name := "yteiopcmalidhaaagreat", sum := "da7b87bb3356d1d1a37bc32ffdb168bbca4d9e872551e35239857f992335cf16", checked := Tryz.checked }
namespace Rows
def none {H : Type} : Left H := { results := [], args := [] }

/-- 'semvcslaw36.FollowNames': WHATEVER THE INPUT: true; the input reads as it did. -/
def followNamesSpec : ChangeSpec := { name := "followNames", fn := fun _ => fun
  | [d1, d2, d3] => { results := [.lit (.bool true)], args := [d1, d2, d3] }
  | _ => none }
def followNamesRow : OpenClaim := { program := "yteiopcmalidhaaagreat", sum := "da7b87bb3356d1d1a37bc32ffdb168bbca4d9e872551e35239857f992335cf16", func := "semvcs/semvcslaw36.FollowNames", spec := "followNames", inPlace := ["slices.overlaps[int]", "internal/bytealg.IndexByteString", "internal/bytealg.IndexString"], unfollowed := true, recurses := true, named := ["internal/bytealg.MaxLen"], plainKeys := false, apart := false }
def FollowNamesSaid : Prop := followNamesRow.holds Tryz.pinned (OpenSpec.ofChange followNamesSpec)

/-- ITS FALSE NEIGHBOUR: 'it returns false'. Refute it at one input. -/
def followNamesWrong : ChangeSpec := { name := "followNames", fn := fun _ => fun
  | [d1, d2, d3] => { results := [.lit (.bool false)], args := [d1, d2, d3] }
  | _ => none }
def FollowNamesWrongFalsely : Prop := followNamesRow.holds Tryz.pinned (OpenSpec.ofChange followNamesWrong)

/-- 'semvcslaw36.FollowTouching': WHATEVER THE INPUT: true; the input reads as it did. -/
def followTouchingSpec : ChangeSpec := { name := "followTouching", fn := fun _ => fun
  | [d1, d2, d3] => { results := [.lit (.bool true)], args := [d1, d2, d3] }
  | _ => none }
def followTouchingRow : OpenClaim := { program := "yteiopcmalidhaaagreat", sum := "da7b87bb3356d1d1a37bc32ffdb168bbca4d9e872551e35239857f992335cf16", func := "semvcs/semvcslaw36.FollowTouching", spec := "followTouching", inPlace := ["slices.overlaps[int]", "internal/bytealg.IndexByteString", "internal/bytealg.IndexString"], unfollowed := true, recurses := true, named := ["internal/bytealg.MaxLen"], plainKeys := false, apart := false }
def FollowTouchingSaid : Prop := followTouchingRow.holds Tryz.pinned (OpenSpec.ofChange followTouchingSpec)

/-- ITS FALSE NEIGHBOUR: 'it returns false'. Refute it at one input. -/
def followTouchingWrong : ChangeSpec := { name := "followTouching", fn := fun _ => fun
  | [d1, d2, d3] => { results := [.lit (.bool false)], args := [d1, d2, d3] }
  | _ => none }
def FollowTouchingWrongFalsely : Prop := followTouchingRow.holds Tryz.pinned (OpenSpec.ofChange followTouchingWrong)

/-- 'semvcslaw36.FollowRenames': WHATEVER THE INPUT: true; the input reads as it did. -/
def followRenamesSpec : ChangeSpec := { name := "followRenames", fn := fun _ => fun
  | [d1, d2, d3] => { results := [.lit (.bool true)], args := [d1, d2, d3] }
  | _ => none }
def followRenamesRow : OpenClaim := { program := "yteiopcmalidhaaagreat", sum := "da7b87bb3356d1d1a37bc32ffdb168bbca4d9e872551e35239857f992335cf16", func := "semvcs/semvcslaw36.FollowRenames", spec := "followRenames", inPlace := ["slices.overlaps[int]", "internal/bytealg.IndexByteString", "internal/bytealg.IndexString"], unfollowed := true, recurses := true, named := ["internal/bytealg.MaxLen"], plainKeys := false, apart := false }
def FollowRenamesSaid : Prop := followRenamesRow.holds Tryz.pinned (OpenSpec.ofChange followRenamesSpec)

/-- ITS FALSE NEIGHBOUR: 'it returns false'. Refute it at one input. -/
def followRenamesWrong : ChangeSpec := { name := "followRenames", fn := fun _ => fun
  | [d1, d2, d3] => { results := [.lit (.bool false)], args := [d1, d2, d3] }
  | _ => none }
def FollowRenamesWrongFalsely : Prop := followRenamesRow.holds Tryz.pinned (OpenSpec.ofChange followRenamesWrong)

/-- 'semvcslaw36.FollowMoves': WHATEVER THE INPUT: true; the input reads as it did. -/
def followMovesSpec : ChangeSpec := { name := "followMoves", fn := fun _ => fun
  | [d1, d2, d3] => { results := [.lit (.bool true)], args := [d1, d2, d3] }
  | _ => none }
def followMovesRow : OpenClaim := { program := "yteiopcmalidhaaagreat", sum := "da7b87bb3356d1d1a37bc32ffdb168bbca4d9e872551e35239857f992335cf16", func := "semvcs/semvcslaw36.FollowMoves", spec := "followMoves", inPlace := ["slices.overlaps[int]", "internal/bytealg.IndexByteString", "internal/bytealg.IndexString"], unfollowed := true, recurses := true, named := ["internal/bytealg.MaxLen"], plainKeys := false, apart := false }
def FollowMovesSaid : Prop := followMovesRow.holds Tryz.pinned (OpenSpec.ofChange followMovesSpec)

/-- ITS FALSE NEIGHBOUR: 'it returns false'. Refute it at one input. -/
def followMovesWrong : ChangeSpec := { name := "followMoves", fn := fun _ => fun
  | [d1, d2, d3] => { results := [.lit (.bool false)], args := [d1, d2, d3] }
  | _ => none }
def FollowMovesWrongFalsely : Prop := followMovesRow.holds Tryz.pinned (OpenSpec.ofChange followMovesWrong)

/-- 'semvcslaw36.FollowPairs': WHATEVER THE INPUT: true; the input reads as it did. -/
def followPairsSpec : ChangeSpec := { name := "followPairs", fn := fun _ => fun
  | [d1, d2, d3] => { results := [.lit (.bool true)], args := [d1, d2, d3] }
  | _ => none }
def followPairsRow : OpenClaim := { program := "yteiopcmalidhaaagreat", sum := "da7b87bb3356d1d1a37bc32ffdb168bbca4d9e872551e35239857f992335cf16", func := "semvcs/semvcslaw36.FollowPairs", spec := "followPairs", inPlace := ["slices.overlaps[int]", "internal/bytealg.IndexByteString", "internal/bytealg.IndexString"], unfollowed := true, recurses := true, named := ["internal/bytealg.MaxLen"], plainKeys := false, apart := false }
def FollowPairsSaid : Prop := followPairsRow.holds Tryz.pinned (OpenSpec.ofChange followPairsSpec)

/-- ITS FALSE NEIGHBOUR: 'it returns false'. Refute it at one input. -/
def followPairsWrong : ChangeSpec := { name := "followPairs", fn := fun _ => fun
  | [d1, d2, d3] => { results := [.lit (.bool false)], args := [d1, d2, d3] }
  | _ => none }
def FollowPairsWrongFalsely : Prop := followPairsRow.holds Tryz.pinned (OpenSpec.ofChange followPairsWrong)

/- THE SECOND FORM. 'bulk': how many values and letters a reading holds, each counted each time it is reached (what is shared counts as often as it is met; a slice's spare places count too). A statement '..UptoSaid' is the law's where the arguments, and the package variables that the reading takes, are together of bulk at most 1048576: NARROWER than '..Said'. Prove '..Said' where nothing that the law and all that it calls make is longer than what came in: it says more and counts as full. Else prove '..UptoSaid'. A law counts once. -/
mutual
def uptoBulk {H : Type} : DataW H → Nat
  | .lit (.string bytes) => bytes.length + 1
  | .lit _ => 1
  | .nil => 1
  | .ptr d => uptoBulk d + 1
  | .slice elems spare => uptoBulkAll elems + uptoBulkAll spare + 1
  | .agg parts => uptoBulkAll parts + 1
  | .iface _ d => uptoBulk d + 1
  | .map entries => uptoBulkEntries entries + 1
  | .held _ => 1
def uptoBulkAll {H : Type} : List (DataW H) → Nat
  | [] => 0
  | d :: r => uptoBulk d + uptoBulkAll r
def uptoBulkEntries {H : Type} : List (Lit × DataW H) → Nat
  | [] => 0
  | x :: r => uptoBulkEntry x + uptoBulkEntries r
def uptoBulkEntry {H : Type} : Lit × DataW H → Nat
  | (.string bytes, d) => bytes.length + uptoBulk d + 1
  | (_, d) => uptoBulk d + 1
 end
def uptoSmall : (H : Type) → List (DataW H) → Bool := fun _ ds => decide (uptoBulkAll ds ≤ 1048576)
def OpenSpec.upto (s : _root_.Go.ChangeSpec) : _root_.Go.OpenSpec := { _root_.Go.OpenSpec.ofChange s with cond := some uptoSmall }

/-- 'semvcslaw36.FollowNames', WHERE WHAT IT READS IS OF BULK AT MOST 1048576: true; the input reads as it did. -/
def followNamesUptoRow : OpenClaim := { program := "yteiopcmalidhaaagreat", sum := "da7b87bb3356d1d1a37bc32ffdb168bbca4d9e872551e35239857f992335cf16", func := "semvcs/semvcslaw36.FollowNames", spec := "followNames", inPlace := ["slices.overlaps[int]", "internal/bytealg.IndexByteString", "internal/bytealg.IndexString"], unfollowed := true, recurses := true, named := ["internal/bytealg.MaxLen"], plainKeys := false, apart := false, narrowed := true }
def FollowNamesUptoSaid : Prop := followNamesUptoRow.holds Tryz.pinned (OpenSpec.upto followNamesSpec)

/-- 'semvcslaw36.FollowTouching', WHERE WHAT IT READS IS OF BULK AT MOST 1048576: true; the input reads as it did. -/
def followTouchingUptoRow : OpenClaim := { program := "yteiopcmalidhaaagreat", sum := "da7b87bb3356d1d1a37bc32ffdb168bbca4d9e872551e35239857f992335cf16", func := "semvcs/semvcslaw36.FollowTouching", spec := "followTouching", inPlace := ["slices.overlaps[int]", "internal/bytealg.IndexByteString", "internal/bytealg.IndexString"], unfollowed := true, recurses := true, named := ["internal/bytealg.MaxLen"], plainKeys := false, apart := false, narrowed := true }
def FollowTouchingUptoSaid : Prop := followTouchingUptoRow.holds Tryz.pinned (OpenSpec.upto followTouchingSpec)

/-- 'semvcslaw36.FollowRenames', WHERE WHAT IT READS IS OF BULK AT MOST 1048576: true; the input reads as it did. -/
def followRenamesUptoRow : OpenClaim := { program := "yteiopcmalidhaaagreat", sum := "da7b87bb3356d1d1a37bc32ffdb168bbca4d9e872551e35239857f992335cf16", func := "semvcs/semvcslaw36.FollowRenames", spec := "followRenames", inPlace := ["slices.overlaps[int]", "internal/bytealg.IndexByteString", "internal/bytealg.IndexString"], unfollowed := true, recurses := true, named := ["internal/bytealg.MaxLen"], plainKeys := false, apart := false, narrowed := true }
def FollowRenamesUptoSaid : Prop := followRenamesUptoRow.holds Tryz.pinned (OpenSpec.upto followRenamesSpec)

/-- 'semvcslaw36.FollowMoves', WHERE WHAT IT READS IS OF BULK AT MOST 1048576: true; the input reads as it did. -/
def followMovesUptoRow : OpenClaim := { program := "yteiopcmalidhaaagreat", sum := "da7b87bb3356d1d1a37bc32ffdb168bbca4d9e872551e35239857f992335cf16", func := "semvcs/semvcslaw36.FollowMoves", spec := "followMoves", inPlace := ["slices.overlaps[int]", "internal/bytealg.IndexByteString", "internal/bytealg.IndexString"], unfollowed := true, recurses := true, named := ["internal/bytealg.MaxLen"], plainKeys := false, apart := false, narrowed := true }
def FollowMovesUptoSaid : Prop := followMovesUptoRow.holds Tryz.pinned (OpenSpec.upto followMovesSpec)

/-- 'semvcslaw36.FollowPairs', WHERE WHAT IT READS IS OF BULK AT MOST 1048576: true; the input reads as it did. -/
def followPairsUptoRow : OpenClaim := { program := "yteiopcmalidhaaagreat", sum := "da7b87bb3356d1d1a37bc32ffdb168bbca4d9e872551e35239857f992335cf16", func := "semvcs/semvcslaw36.FollowPairs", spec := "followPairs", inPlace := ["slices.overlaps[int]", "internal/bytealg.IndexByteString", "internal/bytealg.IndexString"], unfollowed := true, recurses := true, named := ["internal/bytealg.MaxLen"], plainKeys := false, apart := false, narrowed := true }
def FollowPairsUptoSaid : Prop := followPairsUptoRow.holds Tryz.pinned (OpenSpec.upto followPairsSpec)

end Rows
end Go.Proofs.YteiopcmalidhaaaGreat
