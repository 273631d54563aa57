/-
  DERIVED. GIVEN WITH THE SEED: THE CARDS: each row of YtmmhcllibpmfnaaGreatDoorRows.lean that lists a variable, with what it lists TIED to the program's text (the seventh form; the later family's looks); each row that meets fmt, with fmt's text TOLD by the authors' own Lean function (tested against real Go, not proved from fmt's source: count such statements apart). THE CARD IS WHAT COUNTS. Prove the row's statement (the work); the ties are given (YtmmhcllibpmfnaaGreatDoorTie.lean); close each card by the builder's one call (the guide's Derived/Test/ToyasCard.lean, 'card_holds'). Laid BY PROGRAM, IN A SANDBOX (cutbox-door.mjs). By AI agents, Wed Nov 11 2026. No macro, syntax, notation, axiom, sorry.
-/
import Derived.Test.YtmmhcllibpmfnaaGreatDoorRows
import GoSem.ClaimSeven
namespace Go.Proofs.YtmmhcllibpmfnaaGreatDoor
namespace Rows

/-- THE TIED CARD OF 'parlourtop.TopReplies'. -/
def topRepliesCard : Claim7 := { stood := { row := topRepliesRow, standIns := [], harness := (true, "40ac50f3907dee4a9f3fac4225377f406ab203e8bb385930be531b0d8083beda"), looks := false }, kinds := [], alts := [], laidByText := true, laidKinds := [.data, .pinned], laidTests := true, laidLooks := .later }
def TopRepliesCardSaid : Prop := Claim7.holds Tryz.pinned (.plain (OpenSpec.ofChange topRepliesSpec)) topRepliesCard

/-- THE TIED CARD OF 'parlourtop.TopLimits'. -/
def topLimitsCard : Claim7 := { stood := { row := topLimitsRow, standIns := [], harness := (true, "40ac50f3907dee4a9f3fac4225377f406ab203e8bb385930be531b0d8083beda"), looks := false }, kinds := [], alts := [], laidByText := true, laidKinds := [.data, .pinned], laidTests := true, laidLooks := .later }
def TopLimitsCardSaid : Prop := Claim7.holds Tryz.pinned (.plain (OpenSpec.ofChange topLimitsSpec)) topLimitsCard

/-- THE SECOND FORM's CARD OF 'parlourtop.TopReplies'. -/
def topRepliesUptoCard : Claim7 := { stood := { row := topRepliesUptoRow, standIns := [], harness := (true, "40ac50f3907dee4a9f3fac4225377f406ab203e8bb385930be531b0d8083beda"), looks := false }, kinds := [], alts := [], laidByText := true, laidKinds := [.data, .pinned], laidTests := true, laidLooks := .later }
def TopRepliesUptoCardSaid : Prop := Claim7.holds Tryz.pinned (.plain (OpenSpec.upto topRepliesSpec)) topRepliesUptoCard

/-- THE SECOND FORM's CARD OF 'parlourtop.TopLimits'. -/
def topLimitsUptoCard : Claim7 := { stood := { row := topLimitsUptoRow, standIns := [], harness := (true, "40ac50f3907dee4a9f3fac4225377f406ab203e8bb385930be531b0d8083beda"), looks := false }, kinds := [], alts := [], laidByText := true, laidKinds := [.data, .pinned], laidTests := true, laidLooks := .later }
def TopLimitsUptoCardSaid : Prop := Claim7.holds Tryz.pinned (.plain (OpenSpec.upto topLimitsSpec)) topLimitsUptoCard
end Rows
end Go.Proofs.YtmmhcllibpmfnaaGreatDoor
