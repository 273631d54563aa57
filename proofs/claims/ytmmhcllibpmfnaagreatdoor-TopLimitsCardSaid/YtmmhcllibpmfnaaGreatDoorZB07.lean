/- Parts QV28. No condition. -/
import Derived.Test.YtmmhcllibpmfnaaGreatDoorZB06
import Derived.SevenTiedAt
import Derived.Test.YtmmhcllibpmfnaaGreatDoorCards
namespace Go.Proofs.YtmmhcllibpmfnaaGreatDoor
open Go.RowKit
set_option maxRecDepth 100000
theorem topLimits_name : Tryz.prog.funcNamed "parlour/parlourtop.TopLimits" = some 4 := by kernel_rfl
theorem topLimits_wft : Rows.topLimitsRow.wfByText (OpenSpec.ofChange Rows.topLimitsSpec) = true := by kernel_rfl
theorem topLimits_main : Tryz.pinned.checked.prog.mainIs = some (Rows.topLimitsCard.stood.harness.1, Rows.topLimitsCard.stood.harness.2.toList) := by kernel_rfl
theorem topLimits_looks : false = Tryz.pinned.checked.prog.looks [] := by kernel_rfl
theorem topLimits_goes : false = Rows.topLimitsRow.goesBy Tryz.pinned.checked.prog := by kernel_rfl
theorem topLimits_wrap : Tryz.f4.isWrapper Tryz.pinned.checked.prog Rows.topLimitsRow.wrapper Rows.topLimitsRow.mainSum := by
 unfold Func.isWrapper
 first | (rw [if_pos (by decide +kernel)]; kernel_rfl) | (rw [if_neg (by decide +kernel)]; exact ⟨rfl, rfl⟩)
end Go.Proofs.YtmmhcllibpmfnaaGreatDoor
