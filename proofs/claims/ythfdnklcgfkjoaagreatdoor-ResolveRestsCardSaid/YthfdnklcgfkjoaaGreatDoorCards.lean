/-
  DERIVED. GIVEN WITH THE SEED: THE CARDS: each row of YthfdnklcgfkjoaaGreatDoorRows.lean that lists a variable, with what it lists TIED to the program's text (the seventh form; the later family's looks); each row that meets fmt, with fmt's text TOLD by the authors' own Lean function (tested against real Go, not proved from fmt's source: count such statements apart). THE CARD IS WHAT COUNTS. Prove the row's statement (the work); the ties are given (YthfdnklcgfkjoaaGreatDoorTie.lean); close each card by the builder's one call (the guide's Derived/Test/ToyasCard.lean, 'card_holds'). Laid BY PROGRAM, IN A SANDBOX (cutbox-door.mjs). By AI agents, Wed Nov 11 2026. No macro, syntax, notation, axiom, sorry.
-/
import Derived.Test.YthfdnklcgfkjoaaGreatDoorRows
import GoSem.ClaimSeven
namespace Go.Proofs.YthfdnklcgfkjoaaGreatDoor
namespace Rows

/-- THE TIED CARD OF 'semvcslaw31.ResolveRests'. -/
def resolveRestsCard : Claim7 := { stood := { row := resolveRestsRow, standIns := [], harness := (true, "8c899fef2e3f938f69f010bec30b8812ea1183c40ab4d919b5199bb500cadb5e"), looks := true }, kinds := [], alts := [], laidByText := true, laidKinds := [.sentinel, .sentinel], laidTests := true, laidLooks := .later }
def ResolveRestsCardSaid : Prop := Claim7.holds Tryz.pinned (.plain (OpenSpec.ofChange resolveRestsSpec)) resolveRestsCard

/-- THE SECOND FORM's CARD OF 'semvcslaw31.ResolveRests'. -/
def resolveRestsUptoCard : Claim7 := { stood := { row := resolveRestsUptoRow, standIns := [], harness := (true, "8c899fef2e3f938f69f010bec30b8812ea1183c40ab4d919b5199bb500cadb5e"), looks := true }, kinds := [], alts := [], laidByText := true, laidKinds := [.sentinel, .sentinel], laidTests := true, laidLooks := .later }
def ResolveRestsUptoCardSaid : Prop := Claim7.holds Tryz.pinned (.plain (OpenSpec.upto resolveRestsSpec)) resolveRestsUptoCard
end Rows
end Go.Proofs.YthfdnklcgfkjoaaGreatDoor
