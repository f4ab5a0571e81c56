/-
  DERIVED. GIVEN WITH THE SEED: THE CARDS: each row of YtdjhicbhegaenaaGreatDoorRows.lean that lists a variable, with what it lists TIED to the program's text (the seventh form; the later family's looks); each row that meets fmt, with fmt's text TOLD by the authors' own Lean function (tested against real Go, not proved from fmt's source: count such statements apart). THE CARD IS WHAT COUNTS. Prove the row's statement (the work); the ties are given (YtdjhicbhegaenaaGreatDoorTie.lean); close each card by the builder's one call (the guide's Derived/Test/ToyasCard.lean, 'card_holds'). Laid BY PROGRAM, IN A SANDBOX (cutbox-door.mjs). By AI agents, Wed Nov 11 2026. No macro, syntax, notation, axiom, sorry.
-/
import Derived.Test.YtdjhicbhegaenaaGreatDoorRows
import GoSem.ClaimSeven
namespace Go.Proofs.YtdjhicbhegaenaaGreatDoor
namespace Rows

/-- THE TIED CARD OF 'semvcslaw29.RegionQuotes'. -/
def regionQuotesCard : Claim7 := { stood := { row := regionQuotesRow, standIns := [], harness := (true, "8bb6910643d8edfc703b98e594b27eb1792bf35e2d0f07d68163703d5e7171a2"), looks := false }, kinds := [], alts := [], laidByText := true, laidKinds := [.data, .data, .data, .data, .data, .data], laidTests := true, laidLooks := .later }
def RegionQuotesCardSaid : Prop := Claim7.holds Tryz.pinned (.plain (OpenSpec.ofChange regionQuotesSpec)) regionQuotesCard

/-- THE TIED CARD OF 'semvcslaw29.RegionUnquotes'. -/
def regionUnquotesCard : Claim7 := { stood := { row := regionUnquotesRow, standIns := [], harness := (true, "8bb6910643d8edfc703b98e594b27eb1792bf35e2d0f07d68163703d5e7171a2"), looks := false }, kinds := [], alts := [], laidByText := true, laidKinds := [.data, .data, .data, .data, .data, .data], laidTests := true, laidLooks := .later }
def RegionUnquotesCardSaid : Prop := Claim7.holds Tryz.pinned (.plain (OpenSpec.ofChange regionUnquotesSpec)) regionUnquotesCard

/-- THE SECOND FORM's CARD OF 'semvcslaw29.RegionQuotes'. -/
def regionQuotesUptoCard : Claim7 := { stood := { row := regionQuotesUptoRow, standIns := [], harness := (true, "8bb6910643d8edfc703b98e594b27eb1792bf35e2d0f07d68163703d5e7171a2"), looks := false }, kinds := [], alts := [], laidByText := true, laidKinds := [.data, .data, .data, .data, .data, .data], laidTests := true, laidLooks := .later }
def RegionQuotesUptoCardSaid : Prop := Claim7.holds Tryz.pinned (.plain (OpenSpec.upto regionQuotesSpec)) regionQuotesUptoCard

/-- THE SECOND FORM's CARD OF 'semvcslaw29.RegionUnquotes'. -/
def regionUnquotesUptoCard : Claim7 := { stood := { row := regionUnquotesUptoRow, standIns := [], harness := (true, "8bb6910643d8edfc703b98e594b27eb1792bf35e2d0f07d68163703d5e7171a2"), looks := false }, kinds := [], alts := [], laidByText := true, laidKinds := [.data, .data, .data, .data, .data, .data], laidTests := true, laidLooks := .later }
def RegionUnquotesUptoCardSaid : Prop := Claim7.holds Tryz.pinned (.plain (OpenSpec.upto regionUnquotesSpec)) regionUnquotesUptoCard
end Rows
end Go.Proofs.YtdjhicbhegaenaaGreatDoor
