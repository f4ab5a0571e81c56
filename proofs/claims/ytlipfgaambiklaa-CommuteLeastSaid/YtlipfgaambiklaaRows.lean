/-
  No cell of these rows narrows 'for every input' (looked for: loops, veiled, ifaces, maps, wideKeys, modest, calm, conditions, laid).
  DERIVED. THE GIVEN ROWS OF THIS SEAT. 6 by the template 'for every input the law returns true; each argument reads behind the call as it read before'; 0 by the template 'total and deterministic' (their statements: YtlipfgaambiklaaTotals.lean).
  GIVEN WITH THE SEED: the statements are not yours to turn. If you find one false, say at which input.
  Laid BY PROGRAM, IN A SANDBOX (cutbox-rows.mjs): the forced cells as the released guide's own fill.sh prints them over the translation e7b8ce1aedfa3786… (all of the seat's roots in one cut). By AI agents, Wed Nov 11 2026. No macro, syntax, notation, axiom, sorry.
-/
import Derived.Test.YtlipfgaambiklaaChecked
import GoSem.Claim
import GoSem.ClaimJoined
import GoSem.ClaimMapViews
import Derived.JoinedTies
import Derived.KernelRfl
namespace Go.Proofs.Ytlipfgaambiklaa
/- THE CELL 'sum', in the pinned program and in every row, IS THE sha256 OF THE DUMP (.gsa) THAT YtlipfgaambiklaaProg.lean LOADS. Nothing in Lean hashes anything: it is a label: what it is worth is what the hold of that sum in a sandbox is worth. -/
noncomputable def Try.pinned : Pinned := { name := "ytlipfgaambiklaa", sum := "e7b8ce1aedfa37869809ac8dfc3550451980a8199a0ce4a1d89a53d2ad22fb2f", checked := Try.checked }
namespace Rows
def none {H : Type} : Left H := { results := [], args := [] }

/-- 'semvcslaw24.CommuteModels': WHATEVER THE INPUT: true; the input reads as it did. -/
def commuteModelsSpec : ChangeSpec := { name := "commuteModels", fn := fun _ => fun
  | [d1, d2] => { results := [.lit (.bool true)], args := [d1, d2] }
  | _ => none }
def commuteModelsRow : OpenClaim := { program := "ytlipfgaambiklaa", sum := "e7b8ce1aedfa37869809ac8dfc3550451980a8199a0ce4a1d89a53d2ad22fb2f", func := "semvcs/semvcslaw24.CommuteModels", spec := "commuteModels", unfollowed := true, recurses := true, apart := false }
def CommuteModelsSaid : Prop := commuteModelsRow.holds Try.pinned (OpenSpec.ofChange commuteModelsSpec)

/-- ITS FALSE NEIGHBOUR: 'it returns false'. Refute it at one input. -/
def commuteModelsWrong : ChangeSpec := { name := "commuteModels", fn := fun _ => fun
  | [d1, d2] => { results := [.lit (.bool false)], args := [d1, d2] }
  | _ => none }
def CommuteModelsWrongFalsely : Prop := commuteModelsRow.holds Try.pinned (OpenSpec.ofChange commuteModelsWrong)

/-- 'semvcslaw24.CommuteWrites': WHATEVER THE INPUT: true; the input reads as it did. -/
def commuteWritesSpec : ChangeSpec := { name := "commuteWrites", fn := fun _ => fun
  | [d1, d2] => { results := [.lit (.bool true)], args := [d1, d2] }
  | _ => none }
def commuteWritesRow : OpenClaim := { program := "ytlipfgaambiklaa", sum := "e7b8ce1aedfa37869809ac8dfc3550451980a8199a0ce4a1d89a53d2ad22fb2f", func := "semvcs/semvcslaw24.CommuteWrites", spec := "commuteWrites", unfollowed := true, recurses := true, apart := false }
def CommuteWritesSaid : Prop := commuteWritesRow.holds Try.pinned (OpenSpec.ofChange commuteWritesSpec)

/-- ITS FALSE NEIGHBOUR: 'it returns false'. Refute it at one input. -/
def commuteWritesWrong : ChangeSpec := { name := "commuteWrites", fn := fun _ => fun
  | [d1, d2] => { results := [.lit (.bool false)], args := [d1, d2] }
  | _ => none }
def CommuteWritesWrongFalsely : Prop := commuteWritesRow.holds Try.pinned (OpenSpec.ofChange commuteWritesWrong)

/-- 'semvcslaw24.CommuteComposes': WHATEVER THE INPUT: true; the input reads as it did. -/
def commuteComposesSpec : ChangeSpec := { name := "commuteComposes", fn := fun _ => fun
  | [d1, d2, d3, d4] => { results := [.lit (.bool true)], args := [d1, d2, d3, d4] }
  | _ => none }
def commuteComposesRow : OpenClaim := { program := "ytlipfgaambiklaa", sum := "e7b8ce1aedfa37869809ac8dfc3550451980a8199a0ce4a1d89a53d2ad22fb2f", func := "semvcs/semvcslaw24.CommuteComposes", spec := "commuteComposes", unfollowed := true, recurses := true, apart := false }
def CommuteComposesSaid : Prop := commuteComposesRow.holds Try.pinned (OpenSpec.ofChange commuteComposesSpec)

/-- ITS FALSE NEIGHBOUR: 'it returns false'. Refute it at one input. -/
def commuteComposesWrong : ChangeSpec := { name := "commuteComposes", fn := fun _ => fun
  | [d1, d2, d3, d4] => { results := [.lit (.bool false)], args := [d1, d2, d3, d4] }
  | _ => none }
def CommuteComposesWrongFalsely : Prop := commuteComposesRow.holds Try.pinned (OpenSpec.ofChange commuteComposesWrong)

/-- 'semvcslaw24.CommuteApart': WHATEVER THE INPUT: true; the input reads as it did. -/
def commuteApartSpec : ChangeSpec := { name := "commuteApart", fn := fun _ => fun
  | [d1, d2, d3] => { results := [.lit (.bool true)], args := [d1, d2, d3] }
  | _ => none }
def commuteApartRow : OpenClaim := { program := "ytlipfgaambiklaa", sum := "e7b8ce1aedfa37869809ac8dfc3550451980a8199a0ce4a1d89a53d2ad22fb2f", func := "semvcs/semvcslaw24.CommuteApart", spec := "commuteApart", unfollowed := true, recurses := true, apart := false }
def CommuteApartSaid : Prop := commuteApartRow.holds Try.pinned (OpenSpec.ofChange commuteApartSpec)

/-- ITS FALSE NEIGHBOUR: 'it returns false'. Refute it at one input. -/
def commuteApartWrong : ChangeSpec := { name := "commuteApart", fn := fun _ => fun
  | [d1, d2, d3] => { results := [.lit (.bool false)], args := [d1, d2, d3] }
  | _ => none }
def CommuteApartWrongFalsely : Prop := commuteApartRow.holds Try.pinned (OpenSpec.ofChange commuteApartWrong)

/-- 'semvcslaw24.CommuteInverts': WHATEVER THE INPUT: true; the input reads as it did. -/
def commuteInvertsSpec : ChangeSpec := { name := "commuteInverts", fn := fun _ => fun
  | [d1, d2] => { results := [.lit (.bool true)], args := [d1, d2] }
  | _ => none }
def commuteInvertsRow : OpenClaim := { program := "ytlipfgaambiklaa", sum := "e7b8ce1aedfa37869809ac8dfc3550451980a8199a0ce4a1d89a53d2ad22fb2f", func := "semvcs/semvcslaw24.CommuteInverts", spec := "commuteInverts", unfollowed := true, recurses := true, apart := false }
def CommuteInvertsSaid : Prop := commuteInvertsRow.holds Try.pinned (OpenSpec.ofChange commuteInvertsSpec)

/-- ITS FALSE NEIGHBOUR: 'it returns false'. Refute it at one input. -/
def commuteInvertsWrong : ChangeSpec := { name := "commuteInverts", fn := fun _ => fun
  | [d1, d2] => { results := [.lit (.bool false)], args := [d1, d2] }
  | _ => none }
def CommuteInvertsWrongFalsely : Prop := commuteInvertsRow.holds Try.pinned (OpenSpec.ofChange commuteInvertsWrong)

/-- 'semvcslaw24.CommuteLeast': WHATEVER THE INPUT: true; the input reads as it did. -/
def commuteLeastSpec : ChangeSpec := { name := "commuteLeast", fn := fun _ => fun
  | [d1, d2, d3] => { results := [.lit (.bool true)], args := [d1, d2, d3] }
  | _ => none }
def commuteLeastRow : OpenClaim := { program := "ytlipfgaambiklaa", sum := "e7b8ce1aedfa37869809ac8dfc3550451980a8199a0ce4a1d89a53d2ad22fb2f", func := "semvcs/semvcslaw24.CommuteLeast", spec := "commuteLeast", unfollowed := true, recurses := true, apart := false }
def CommuteLeastSaid : Prop := commuteLeastRow.holds Try.pinned (OpenSpec.ofChange commuteLeastSpec)

/-- ITS FALSE NEIGHBOUR: 'it returns false'. Refute it at one input. -/
def commuteLeastWrong : ChangeSpec := { name := "commuteLeast", fn := fun _ => fun
  | [d1, d2, d3] => { results := [.lit (.bool false)], args := [d1, d2, d3] }
  | _ => none }
def CommuteLeastWrongFalsely : Prop := commuteLeastRow.holds Try.pinned (OpenSpec.ofChange commuteLeastWrong)

/- THE SECOND FORM. 'bulk': how many values and letters a reading holds, each counted each time it is reached (what is shared counts as often as it is met; a slice's spare places count too). A statement '..UptoSaid' is the law's where the arguments, and the package variables that the reading takes, are together of bulk at most 1048576: NARROWER than '..Said'. Prove '..Said' where nothing that the law and all that it calls make is longer than what came in: it says more and counts as full. Else prove '..UptoSaid'. A law counts once. -/
mutual
def uptoBulk {H : Type} : DataW H → Nat
  | .lit (.string bytes) => bytes.length + 1
  | .lit _ => 1
  | .nil => 1
  | .ptr d => uptoBulk d + 1
  | .slice elems spare => uptoBulkAll elems + uptoBulkAll spare + 1
  | .agg parts => uptoBulkAll parts + 1
  | .iface _ d => uptoBulk d + 1
  | .map entries => uptoBulkEntries entries + 1
  | .held _ => 1
def uptoBulkAll {H : Type} : List (DataW H) → Nat
  | [] => 0
  | d :: r => uptoBulk d + uptoBulkAll r
def uptoBulkEntries {H : Type} : List (Lit × DataW H) → Nat
  | [] => 0
  | x :: r => uptoBulkEntry x + uptoBulkEntries r
def uptoBulkEntry {H : Type} : Lit × DataW H → Nat
  | (.string bytes, d) => bytes.length + uptoBulk d + 1
  | (_, d) => uptoBulk d + 1
 end
def uptoSmall : (H : Type) → List (DataW H) → Bool := fun _ ds => decide (uptoBulkAll ds ≤ 1048576)
def OpenSpec.upto (s : _root_.Go.ChangeSpec) : _root_.Go.OpenSpec := { _root_.Go.OpenSpec.ofChange s with cond := some uptoSmall }

/-- 'semvcslaw24.CommuteModels', WHERE WHAT IT READS IS OF BULK AT MOST 1048576: true; the input reads as it did. -/
def commuteModelsUptoRow : OpenClaim := { program := "ytlipfgaambiklaa", sum := "e7b8ce1aedfa37869809ac8dfc3550451980a8199a0ce4a1d89a53d2ad22fb2f", func := "semvcs/semvcslaw24.CommuteModels", spec := "commuteModels", unfollowed := true, recurses := true, apart := false, narrowed := true }
def CommuteModelsUptoSaid : Prop := commuteModelsUptoRow.holds Try.pinned (OpenSpec.upto commuteModelsSpec)

/-- 'semvcslaw24.CommuteWrites', WHERE WHAT IT READS IS OF BULK AT MOST 1048576: true; the input reads as it did. -/
def commuteWritesUptoRow : OpenClaim := { program := "ytlipfgaambiklaa", sum := "e7b8ce1aedfa37869809ac8dfc3550451980a8199a0ce4a1d89a53d2ad22fb2f", func := "semvcs/semvcslaw24.CommuteWrites", spec := "commuteWrites", unfollowed := true, recurses := true, apart := false, narrowed := true }
def CommuteWritesUptoSaid : Prop := commuteWritesUptoRow.holds Try.pinned (OpenSpec.upto commuteWritesSpec)

/-- 'semvcslaw24.CommuteComposes', WHERE WHAT IT READS IS OF BULK AT MOST 1048576: true; the input reads as it did. -/
def commuteComposesUptoRow : OpenClaim := { program := "ytlipfgaambiklaa", sum := "e7b8ce1aedfa37869809ac8dfc3550451980a8199a0ce4a1d89a53d2ad22fb2f", func := "semvcs/semvcslaw24.CommuteComposes", spec := "commuteComposes", unfollowed := true, recurses := true, apart := false, narrowed := true }
def CommuteComposesUptoSaid : Prop := commuteComposesUptoRow.holds Try.pinned (OpenSpec.upto commuteComposesSpec)

/-- 'semvcslaw24.CommuteApart', WHERE WHAT IT READS IS OF BULK AT MOST 1048576: true; the input reads as it did. -/
def commuteApartUptoRow : OpenClaim := { program := "ytlipfgaambiklaa", sum := "e7b8ce1aedfa37869809ac8dfc3550451980a8199a0ce4a1d89a53d2ad22fb2f", func := "semvcs/semvcslaw24.CommuteApart", spec := "commuteApart", unfollowed := true, recurses := true, apart := false, narrowed := true }
def CommuteApartUptoSaid : Prop := commuteApartUptoRow.holds Try.pinned (OpenSpec.upto commuteApartSpec)

/-- 'semvcslaw24.CommuteInverts', WHERE WHAT IT READS IS OF BULK AT MOST 1048576: true; the input reads as it did. -/
def commuteInvertsUptoRow : OpenClaim := { program := "ytlipfgaambiklaa", sum := "e7b8ce1aedfa37869809ac8dfc3550451980a8199a0ce4a1d89a53d2ad22fb2f", func := "semvcs/semvcslaw24.CommuteInverts", spec := "commuteInverts", unfollowed := true, recurses := true, apart := false, narrowed := true }
def CommuteInvertsUptoSaid : Prop := commuteInvertsUptoRow.holds Try.pinned (OpenSpec.upto commuteInvertsSpec)

/-- 'semvcslaw24.CommuteLeast', WHERE WHAT IT READS IS OF BULK AT MOST 1048576: true; the input reads as it did. -/
def commuteLeastUptoRow : OpenClaim := { program := "ytlipfgaambiklaa", sum := "e7b8ce1aedfa37869809ac8dfc3550451980a8199a0ce4a1d89a53d2ad22fb2f", func := "semvcs/semvcslaw24.CommuteLeast", spec := "commuteLeast", unfollowed := true, recurses := true, apart := false, narrowed := true }
def CommuteLeastUptoSaid : Prop := commuteLeastUptoRow.holds Try.pinned (OpenSpec.upto commuteLeastSpec)

end Rows
end Go.Proofs.Ytlipfgaambiklaa
