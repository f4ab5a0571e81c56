/-
  No cell of these rows narrows 'for every input' (looked for: loops, veiled, ifaces, maps, wideKeys, modest, calm, conditions, laid).
  DERIVED. THE GIVEN ROWS OF THIS SEAT. 4 by the template 'for every input the law returns true; each argument reads behind the call as it read before'; 0 by the template 'total and deterministic' (their statements: YtfgpipfjalmooaaGreatTotals.lean).
  GIVEN WITH THE SEED: the statements are not yours to turn. If you find one false, say at which input.
  Laid BY PROGRAM, IN A SANDBOX (cutbox-rows.mjs): the forced cells as the released guide's own fill.sh prints them over the translation f0df5732728accf7… (all of the seat's roots in one cut). By AI agents, Wed Nov 11 2026. No macro, syntax, notation, axiom, sorry.
-/
import Derived.Test.YtfgpipfjalmooaaGreatChecked
import GoSem.Claim
import GoSem.ClaimJoined
import GoSem.ClaimMapViews
import Derived.JoinedTies
import Derived.KernelRfl
namespace Go.Proofs.YtfgpipfjalmooaaGreat
/- THE CELL 'sum', in the pinned program and in every row, IS THE sha256 OF THE DUMP (.gsa) THAT YtfgpipfjalmooaaGreatProg.lean LOADS. Nothing in Lean hashes anything: it is a label: what it is worth is what the hold of that sum in a sandbox is worth. -/
noncomputable def Tryz.pinned : Pinned := { name := "ytfgpipfjalmooaagreat", sum := "f0df5732728accf71a24844db1b63a1a46b7f8c46a82140e8044fc55a5bea652", checked := Tryz.checked }
namespace Rows
def none {H : Type} : Left H := { results := [], args := [] }

/-- 'semvcslaw44.PartialKeeps': WHATEVER THE INPUT: true; the input reads as it did. -/
def partialKeepsSpec : ChangeSpec := { name := "partialKeeps", fn := fun _ => fun
  | [d1, d2, d3] => { results := [.lit (.bool true)], args := [d1, d2, d3] }
  | _ => none }
def partialKeepsRow : OpenClaim := { program := "ytfgpipfjalmooaagreat", sum := "f0df5732728accf71a24844db1b63a1a46b7f8c46a82140e8044fc55a5bea652", func := "semvcs/semvcslaw44.PartialKeeps", spec := "partialKeeps", inPlace := ["slices.overlaps[int]", "internal/bytealg.IndexByteString", "internal/abi.NoEscape"], unfollowed := true, recurses := true, plainKeys := false, apart := false }
def PartialKeepsSaid : Prop := partialKeepsRow.holds Tryz.pinned (OpenSpec.ofChange partialKeepsSpec)

/-- ITS FALSE NEIGHBOUR: 'it returns false'. Refute it at one input. -/
def partialKeepsWrong : ChangeSpec := { name := "partialKeeps", fn := fun _ => fun
  | [d1, d2, d3] => { results := [.lit (.bool false)], args := [d1, d2, d3] }
  | _ => none }
def PartialKeepsWrongFalsely : Prop := partialKeepsRow.holds Tryz.pinned (OpenSpec.ofChange partialKeepsWrong)

/-- 'semvcslaw44.PartialFills': WHATEVER THE INPUT: true; the input reads as it did. -/
def partialFillsSpec : ChangeSpec := { name := "partialFills", fn := fun _ => fun
  | [d1, d2, d3, d4, d5, d6] => { results := [.lit (.bool true)], args := [d1, d2, d3, d4, d5, d6] }
  | _ => none }
def partialFillsRow : OpenClaim := { program := "ytfgpipfjalmooaagreat", sum := "f0df5732728accf71a24844db1b63a1a46b7f8c46a82140e8044fc55a5bea652", func := "semvcs/semvcslaw44.PartialFills", spec := "partialFills", inPlace := ["slices.overlaps[int]", "internal/bytealg.IndexByteString", "internal/abi.NoEscape"], unfollowed := true, recurses := true, plainKeys := false, apart := false }
def PartialFillsSaid : Prop := partialFillsRow.holds Tryz.pinned (OpenSpec.ofChange partialFillsSpec)

/-- ITS FALSE NEIGHBOUR: 'it returns false'. Refute it at one input. -/
def partialFillsWrong : ChangeSpec := { name := "partialFills", fn := fun _ => fun
  | [d1, d2, d3, d4, d5, d6] => { results := [.lit (.bool false)], args := [d1, d2, d3, d4, d5, d6] }
  | _ => none }
def PartialFillsWrongFalsely : Prop := partialFillsRow.holds Tryz.pinned (OpenSpec.ofChange partialFillsWrong)

/-- 'semvcslaw44.PartialWhole': WHATEVER THE INPUT: true; the input reads as it did. -/
def partialWholeSpec : ChangeSpec := { name := "partialWhole", fn := fun _ => fun
  | [d1, d2, d3, d4] => { results := [.lit (.bool true)], args := [d1, d2, d3, d4] }
  | _ => none }
def partialWholeRow : OpenClaim := { program := "ytfgpipfjalmooaagreat", sum := "f0df5732728accf71a24844db1b63a1a46b7f8c46a82140e8044fc55a5bea652", func := "semvcs/semvcslaw44.PartialWhole", spec := "partialWhole", inPlace := ["slices.overlaps[int]", "internal/bytealg.IndexByteString", "internal/abi.NoEscape"], unfollowed := true, recurses := true, plainKeys := false, apart := false }
def PartialWholeSaid : Prop := partialWholeRow.holds Tryz.pinned (OpenSpec.ofChange partialWholeSpec)

/-- ITS FALSE NEIGHBOUR: 'it returns false'. Refute it at one input. -/
def partialWholeWrong : ChangeSpec := { name := "partialWhole", fn := fun _ => fun
  | [d1, d2, d3, d4] => { results := [.lit (.bool false)], args := [d1, d2, d3, d4] }
  | _ => none }
def PartialWholeWrongFalsely : Prop := partialWholeRow.holds Tryz.pinned (OpenSpec.ofChange partialWholeWrong)

/-- 'semvcslaw44.PartialGrows': WHATEVER THE INPUT: true; the input reads as it did. -/
def partialGrowsSpec : ChangeSpec := { name := "partialGrows", fn := fun _ => fun
  | [d1, d2, d3, d4] => { results := [.lit (.bool true)], args := [d1, d2, d3, d4] }
  | _ => none }
def partialGrowsRow : OpenClaim := { program := "ytfgpipfjalmooaagreat", sum := "f0df5732728accf71a24844db1b63a1a46b7f8c46a82140e8044fc55a5bea652", func := "semvcs/semvcslaw44.PartialGrows", spec := "partialGrows", inPlace := ["slices.overlaps[int]", "internal/bytealg.IndexByteString", "internal/abi.NoEscape"], unfollowed := true, recurses := true, plainKeys := false, apart := false }
def PartialGrowsSaid : Prop := partialGrowsRow.holds Tryz.pinned (OpenSpec.ofChange partialGrowsSpec)

/-- ITS FALSE NEIGHBOUR: 'it returns false'. Refute it at one input. -/
def partialGrowsWrong : ChangeSpec := { name := "partialGrows", fn := fun _ => fun
  | [d1, d2, d3, d4] => { results := [.lit (.bool false)], args := [d1, d2, d3, d4] }
  | _ => none }
def PartialGrowsWrongFalsely : Prop := partialGrowsRow.holds Tryz.pinned (OpenSpec.ofChange partialGrowsWrong)

/- THE SECOND FORM. 'bulk': how many values and letters a reading holds, each counted each time it is reached (what is shared counts as often as it is met; a slice's spare places count too). A statement '..UptoSaid' is the law's where the arguments, and the package variables that the reading takes, are together of bulk at most 1048576: NARROWER than '..Said'. Prove '..Said' where nothing that the law and all that it calls make is longer than what came in: it says more and counts as full. Else prove '..UptoSaid'. A law counts once. -/
mutual
def uptoBulk {H : Type} : DataW H → Nat
  | .lit (.string bytes) => bytes.length + 1
  | .lit _ => 1
  | .nil => 1
  | .ptr d => uptoBulk d + 1
  | .slice elems spare => uptoBulkAll elems + uptoBulkAll spare + 1
  | .agg parts => uptoBulkAll parts + 1
  | .iface _ d => uptoBulk d + 1
  | .map entries => uptoBulkEntries entries + 1
  | .held _ => 1
def uptoBulkAll {H : Type} : List (DataW H) → Nat
  | [] => 0
  | d :: r => uptoBulk d + uptoBulkAll r
def uptoBulkEntries {H : Type} : List (Lit × DataW H) → Nat
  | [] => 0
  | x :: r => uptoBulkEntry x + uptoBulkEntries r
def uptoBulkEntry {H : Type} : Lit × DataW H → Nat
  | (.string bytes, d) => bytes.length + uptoBulk d + 1
  | (_, d) => uptoBulk d + 1
 end
def uptoSmall : (H : Type) → List (DataW H) → Bool := fun _ ds => decide (uptoBulkAll ds ≤ 1048576)
def OpenSpec.upto (s : _root_.Go.ChangeSpec) : _root_.Go.OpenSpec := { _root_.Go.OpenSpec.ofChange s with cond := some uptoSmall }

/-- 'semvcslaw44.PartialKeeps', WHERE WHAT IT READS IS OF BULK AT MOST 1048576: true; the input reads as it did. -/
def partialKeepsUptoRow : OpenClaim := { program := "ytfgpipfjalmooaagreat", sum := "f0df5732728accf71a24844db1b63a1a46b7f8c46a82140e8044fc55a5bea652", func := "semvcs/semvcslaw44.PartialKeeps", spec := "partialKeeps", inPlace := ["slices.overlaps[int]", "internal/bytealg.IndexByteString", "internal/abi.NoEscape"], unfollowed := true, recurses := true, plainKeys := false, apart := false, narrowed := true }
def PartialKeepsUptoSaid : Prop := partialKeepsUptoRow.holds Tryz.pinned (OpenSpec.upto partialKeepsSpec)

/-- 'semvcslaw44.PartialFills', WHERE WHAT IT READS IS OF BULK AT MOST 1048576: true; the input reads as it did. -/
def partialFillsUptoRow : OpenClaim := { program := "ytfgpipfjalmooaagreat", sum := "f0df5732728accf71a24844db1b63a1a46b7f8c46a82140e8044fc55a5bea652", func := "semvcs/semvcslaw44.PartialFills", spec := "partialFills", inPlace := ["slices.overlaps[int]", "internal/bytealg.IndexByteString", "internal/abi.NoEscape"], unfollowed := true, recurses := true, plainKeys := false, apart := false, narrowed := true }
def PartialFillsUptoSaid : Prop := partialFillsUptoRow.holds Tryz.pinned (OpenSpec.upto partialFillsSpec)

/-- 'semvcslaw44.PartialWhole', WHERE WHAT IT READS IS OF BULK AT MOST 1048576: true; the input reads as it did. -/
def partialWholeUptoRow : OpenClaim := { program := "ytfgpipfjalmooaagreat", sum := "f0df5732728accf71a24844db1b63a1a46b7f8c46a82140e8044fc55a5bea652", func := "semvcs/semvcslaw44.PartialWhole", spec := "partialWhole", inPlace := ["slices.overlaps[int]", "internal/bytealg.IndexByteString", "internal/abi.NoEscape"], unfollowed := true, recurses := true, plainKeys := false, apart := false, narrowed := true }
def PartialWholeUptoSaid : Prop := partialWholeUptoRow.holds Tryz.pinned (OpenSpec.upto partialWholeSpec)

/-- 'semvcslaw44.PartialGrows', WHERE WHAT IT READS IS OF BULK AT MOST 1048576: true; the input reads as it did. -/
def partialGrowsUptoRow : OpenClaim := { program := "ytfgpipfjalmooaagreat", sum := "f0df5732728accf71a24844db1b63a1a46b7f8c46a82140e8044fc55a5bea652", func := "semvcs/semvcslaw44.PartialGrows", spec := "partialGrows", inPlace := ["slices.overlaps[int]", "internal/bytealg.IndexByteString", "internal/abi.NoEscape"], unfollowed := true, recurses := true, plainKeys := false, apart := false, narrowed := true }
def PartialGrowsUptoSaid : Prop := partialGrowsUptoRow.holds Tryz.pinned (OpenSpec.upto partialGrowsSpec)

end Rows
end Go.Proofs.YtfgpipfjalmooaaGreat
