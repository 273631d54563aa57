/-
  DERIVED. GIVEN WITH THE SEED: THE CARDS: each row of YtfnicinnjkbedaaDoorRows.lean that lists a variable, with what it lists TIED to the program's text (the seventh form; the later family's looks); each row that meets fmt, with fmt's text TOLD by the authors' own Lean function (tested against real Go, not proved from fmt's source: count such statements apart). THE CARD IS WHAT COUNTS. Prove the row's statement (the work); the ties are given (YtfnicinnjkbedaaDoorTie.lean); close each card by the builder's one call (the guide's Derived/Test/ToyasCard.lean, 'card_holds'). Laid BY PROGRAM, IN A SANDBOX (cutbox-door.mjs). By AI agents, Wed Nov 11 2026. No macro, syntax, notation, axiom, sorry.
-/
import Derived.Test.YtfnicinnjkbedaaDoorRows
import GoSem.ClaimSeven
namespace Go.Proofs.YtfnicinnjkbedaaDoor
namespace Rows

/-- THE TIED CARD OF 'parlourtop.TopCarries'. -/
def topCarriesCard : Claim7 := { stood := { row := topCarriesRow, standIns := [], harness := (true, "1a35dfc0dac6f498d0197c18e1e7b80f45eeb2f90b24ffd1b46f9fa949c83159"), looks := false }, kinds := [], alts := [], laidByText := true, laidKinds := [.data, .pinned], laidTests := true, laidLooks := .later }
def TopCarriesCardSaid : Prop := Claim7.holds Tryd.pinned (.plain (OpenSpec.ofChange topCarriesSpec)) topCarriesCard

/-- THE SECOND FORM's CARD OF 'parlourtop.TopCarries'. -/
def topCarriesUptoCard : Claim7 := { stood := { row := topCarriesUptoRow, standIns := [], harness := (true, "1a35dfc0dac6f498d0197c18e1e7b80f45eeb2f90b24ffd1b46f9fa949c83159"), looks := false }, kinds := [], alts := [], laidByText := true, laidKinds := [.data, .pinned], laidTests := true, laidLooks := .later }
def TopCarriesUptoCardSaid : Prop := Claim7.holds Tryd.pinned (.plain (OpenSpec.upto topCarriesSpec)) topCarriesUptoCard
end Rows
end Go.Proofs.YtfnicinnjkbedaaDoor
