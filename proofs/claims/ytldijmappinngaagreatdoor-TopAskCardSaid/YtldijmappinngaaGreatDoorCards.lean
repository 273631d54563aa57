/-
  DERIVED. GIVEN WITH THE SEED: THE CARDS: each row of YtldijmappinngaaGreatDoorRows.lean that lists a variable, with what it lists TIED to the program's text (the seventh form; the later family's looks); each row that meets fmt, with fmt's text TOLD by the authors' own Lean function (tested against real Go, not proved from fmt's source: count such statements apart). THE CARD IS WHAT COUNTS. Prove the row's statement (the work); the ties are given (YtldijmappinngaaGreatDoorTie.lean); close each card by the builder's one call (the guide's Derived/Test/ToyasCard.lean, 'card_holds'). Laid BY PROGRAM, IN A SANDBOX (cutbox-door.mjs). By AI agents, Wed Nov 11 2026. No macro, syntax, notation, axiom, sorry.
-/
import Derived.Test.YtldijmappinngaaGreatDoorRows
import GoSem.ClaimSeven
namespace Go.Proofs.YtldijmappinngaaGreatDoor
namespace Rows

/-- THE TIED CARD OF 'parlourtop.TopFrames'. -/
def topFramesCard : Claim7 := { stood := { row := topFramesRow, standIns := [], harness := (true, "989f8040cd6a9d2e2dab3e25d628d900aa5313d49c665f2158345c13fcbacf67"), looks := false }, kinds := [], alts := [], laidByText := true, laidKinds := [.data, .pinned], laidTests := true, laidLooks := .later }
def TopFramesCardSaid : Prop := Claim7.holds Tryz.pinned (.plain (OpenSpec.ofChange topFramesSpec)) topFramesCard

/-- THE TIED CARD OF 'parlourtop.TopAsk'. -/
def topAskCard : Claim7 := { stood := { row := topAskRow, standIns := [], harness := (true, "989f8040cd6a9d2e2dab3e25d628d900aa5313d49c665f2158345c13fcbacf67"), looks := false }, kinds := [], alts := [], laidByText := true, laidKinds := [.data, .pinned], laidTests := true, laidLooks := .later }
def TopAskCardSaid : Prop := Claim7.holds Tryz.pinned (.plain (OpenSpec.ofChange topAskSpec)) topAskCard

/-- THE SECOND FORM's CARD OF 'parlourtop.TopFrames'. -/
def topFramesUptoCard : Claim7 := { stood := { row := topFramesUptoRow, standIns := [], harness := (true, "989f8040cd6a9d2e2dab3e25d628d900aa5313d49c665f2158345c13fcbacf67"), looks := false }, kinds := [], alts := [], laidByText := true, laidKinds := [.data, .pinned], laidTests := true, laidLooks := .later }
def TopFramesUptoCardSaid : Prop := Claim7.holds Tryz.pinned (.plain (OpenSpec.upto topFramesSpec)) topFramesUptoCard

/-- THE SECOND FORM's CARD OF 'parlourtop.TopAsk'. -/
def topAskUptoCard : Claim7 := { stood := { row := topAskUptoRow, standIns := [], harness := (true, "989f8040cd6a9d2e2dab3e25d628d900aa5313d49c665f2158345c13fcbacf67"), looks := false }, kinds := [], alts := [], laidByText := true, laidKinds := [.data, .pinned], laidTests := true, laidLooks := .later }
def TopAskUptoCardSaid : Prop := Claim7.holds Tryz.pinned (.plain (OpenSpec.upto topAskSpec)) topAskUptoCard
end Rows
end Go.Proofs.YtldijmappinngaaGreatDoor
