/-
  DERIVED. GIVEN WITH THE SEED: THE CARDS: each row of YtfnicinnjkbedaaGreatDoorRows.lean that lists a variable, with what it lists TIED to the program's text (the seventh form; the later family's looks); each row that meets fmt, with fmt's text TOLD by the authors' own Lean function (tested against real Go, not proved from fmt's source: count such statements apart). THE CARD IS WHAT COUNTS. Prove the row's statement (the work); the ties are given (YtfnicinnjkbedaaGreatDoorTie.lean); close each card by the builder's one call (the guide's Derived/Test/ToyasCard.lean, 'card_holds'). Laid BY PROGRAM, IN A SANDBOX (cutbox-door.mjs). By AI agents, Wed Nov 11 2026. No macro, syntax, notation, axiom, sorry.
-/
import Derived.Test.YtfnicinnjkbedaaGreatDoorRows
import GoSem.ClaimSeven
namespace Go.Proofs.YtfnicinnjkbedaaGreatDoor
namespace Rows

/-- THE TIED CARD OF 'parlourtop.TopKilled'. -/
def topKilledCard : Claim7 := { stood := { row := topKilledRow, standIns := [], harness := (true, "bd83930e20fb05ec441bedfe012e320774981933c301375f7efcce12aadc1953"), looks := false }, kinds := [], alts := [], laidByText := true, laidKinds := [.data, .pinned], laidTests := true, laidLooks := .later }
def TopKilledCardSaid : Prop := Claim7.holds Tryz.pinned (.plain (OpenSpec.ofChange topKilledSpec)) topKilledCard

/-- THE TIED CARD OF 'parlourtop.TopTyped'. -/
def topTypedCard : Claim7 := { stood := { row := topTypedRow, standIns := [], harness := (true, "bd83930e20fb05ec441bedfe012e320774981933c301375f7efcce12aadc1953"), looks := false }, kinds := [], alts := [], laidByText := true, laidKinds := [.data, .pinned], laidTests := true, laidLooks := .later }
def TopTypedCardSaid : Prop := Claim7.holds Tryz.pinned (.plain (OpenSpec.ofChange topTypedSpec)) topTypedCard

/-- THE SECOND FORM's CARD OF 'parlourtop.TopKilled'. -/
def topKilledUptoCard : Claim7 := { stood := { row := topKilledUptoRow, standIns := [], harness := (true, "bd83930e20fb05ec441bedfe012e320774981933c301375f7efcce12aadc1953"), looks := false }, kinds := [], alts := [], laidByText := true, laidKinds := [.data, .pinned], laidTests := true, laidLooks := .later }
def TopKilledUptoCardSaid : Prop := Claim7.holds Tryz.pinned (.plain (OpenSpec.upto topKilledSpec)) topKilledUptoCard

/-- THE SECOND FORM's CARD OF 'parlourtop.TopTyped'. -/
def topTypedUptoCard : Claim7 := { stood := { row := topTypedUptoRow, standIns := [], harness := (true, "bd83930e20fb05ec441bedfe012e320774981933c301375f7efcce12aadc1953"), looks := false }, kinds := [], alts := [], laidByText := true, laidKinds := [.data, .pinned], laidTests := true, laidLooks := .later }
def TopTypedUptoCardSaid : Prop := Claim7.holds Tryz.pinned (.plain (OpenSpec.upto topTypedSpec)) topTypedUptoCard
end Rows
end Go.Proofs.YtfnicinnjkbedaaGreatDoor
