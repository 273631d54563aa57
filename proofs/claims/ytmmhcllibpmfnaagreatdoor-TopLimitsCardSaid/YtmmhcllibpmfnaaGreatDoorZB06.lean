/- Parts QU28. No condition. -/
import Derived.JoinedOf
import Derived.ProofKit
import Derived.Test.YtmmhcllibpmfnaaGreatDoorChecked
import Derived.Test.YtmmhcllibpmfnaaGreatDoorRows
namespace Go.Proofs.YtmmhcllibpmfnaaGreatDoor
open Go.RowKit
set_option maxRecDepth 100000
theorem topLimits_fact1 : (Rows.topLimitsRow.wf (OpenSpec.ofChange Rows.topLimitsSpec)) = true := by kernel_rfl
theorem topLimits_fact2 : (laidOutB Tryz.prog) = true := by kernel_rfl
theorem topLimits_fact3 : (mapsRowed Tryz.prog) = true := by kernel_rfl
theorem topLimits_fact4 : (Tryz.f4.params.all (Tryz.prog.readableRec ·)) = true := by kernel_rfl
theorem topLimits_fact5 : (namedTie Tryz.prog Rows.topLimitsRow.named Rows.topLimitsSpec.vars) = true := by kernel_rfl
theorem topLimits_fact6 : ((Rows.topLimitsRow.stops == [])) = true := by kernel_rfl
theorem topLimits_fact7 : ((Tryz.prog.stops == [])) = true := by kernel_rfl
theorem topLimits_fact8 : ((Rows.topLimitsRow.knobs == [])) = true := by kernel_rfl
theorem topLimits_fact9 : ((Tryz.prog.stopKnobs == [])) = true := by kernel_rfl
theorem topLimits_fact10 : ((Rows.topLimitsRow.inPlace == Tryz.prog.inPlace 4)) = true := by kernel_rfl
theorem topLimits_fact11 : ((Rows.topLimitsRow.unfollowed == Tryz.prog.unfollowed 4)) = true := by kernel_rfl
theorem topLimits_fact12 : ((Rows.topLimitsRow.recurses == Tryz.prog.recurses 4)) = true := by kernel_rfl
theorem topLimits_fact13 : ((Rows.topLimitsRow.named == Tryz.prog.varsNamed 4)) = true := by kernel_rfl
theorem topLimits_fact14 : ((Rows.topLimitsRow.maps == (Tryz.f4.params.toList ++ Rows.topLimitsSpec.plain.varTypes Tryz.prog).any (Tryz.prog.mapsRec ·))) = true := by kernel_rfl
theorem topLimits_fact15 : ((Rows.topLimitsRow.ifaces == (Tryz.f4.params.toList ++ Rows.topLimitsSpec.plain.varTypes Tryz.prog).any (Tryz.prog.ifacesRec ·))) = true := by kernel_rfl
theorem topLimits_fact16 : ((Rows.topLimitsRow.mapsOut == Tryz.prog.mapsAmong Tryz.f4.resultTypes.toList)) = true := by kernel_rfl
theorem topLimits_fact17 : ((Rows.topLimitsRow.loops == (Tryz.f4.params.toList ++ Rows.topLimitsSpec.plain.varTypes Tryz.prog).any (Tryz.prog.loopsFrom ·))) = true := by kernel_rfl
theorem topLimits_fact18 : ((Rows.topLimitsRow.wideKeys == (Tryz.f4.params.toList ++ Rows.topLimitsSpec.plain.varTypes Tryz.prog ++ Tryz.f4.resultTypes.toList).any (Tryz.prog.wideKeysFrom ·))) = true := by kernel_rfl
theorem topLimits_fact19 : (Rows.topLimitsSpec.vars.all (Tryz.prog.varReadable ·)) = true := by kernel_rfl
theorem topLimits_fact20 : (Tryz.f4.resultTypes.all (fun t => Tryz.prog.readableRec t && decide (t < Tryz.prog.types.size))) = true := by kernel_rfl
theorem topLimits_fact21 : ((Rows.topLimitsRow.ifacesOut == Tryz.f4.resultTypes.toList.any (Tryz.prog.ifacesRec ·))) = true := by kernel_rfl
theorem topLimits_fact22 : ((Rows.topLimitsRow.loopsOut == Tryz.f4.resultTypes.toList.any (Tryz.prog.loopsFrom ·))) = true := by kernel_rfl
theorem topLimits_fact23 : ((Rows.topLimitsRow.plainKeys == Tryz.prog.plainKeys)) = true := by kernel_rfl
theorem topLimits_fact24 : (Rows.topLimitsRow.shortTexts.isNone) = true := by kernel_rfl
theorem topLimits_fact25 : (Tryz.prog.stopsHeard) = true := by kernel_rfl
theorem topLimits_fact26 : (Tryz.prog.mayEnter) = true := by kernel_rfl
theorem topLimits_fact27 : ((Rows.topLimitsRow.lifted == Tryz.prog.liftsFinal)) = true := by kernel_rfl
theorem topLimits_fact28 : ((Tryz.prog.make == some Rows.topLimitsRow.make)) = true := by kernel_rfl
theorem topLimits_fact29 : ((Rows.topLimitsRow.kinds == (if Rows.topLimitsRow.domain.isEmpty then [] else Tryz.f4.params.toList.map fun t => match Tryz.prog.underlying t with | some (.int k) => some k | _ => none))) = true := by kernel_rfl
theorem topLimits_fact30 : ((Rows.topLimitsRow.pinned == Rows.topLimitsRow.pinnedBy)) = true := by kernel_rfl
theorem topLimits_fact31 : ((Rows.topLimitsRow.veiled == (Tryz.f4.params.toList ++ Rows.topLimitsSpec.plain.varTypes Tryz.prog ++ Tryz.f4.resultTypes.toList).any (Tryz.prog.veiledRec ·))) = true := by kernel_rfl
theorem topLimits_fact32 : (Rows.topLimitsRow.veiledFits Tryz.prog Tryz.f4.params.toList (Tryz.f4.params.toList ++ Rows.topLimitsSpec.plain.varTypes Tryz.prog ++ Tryz.f4.resultTypes.toList)) = true := by kernel_rfl
theorem and_t {a b : Bool} (h : a = true) (h2 : b = true) : (a && b) = true := by rw [h, h2]; rfl
theorem topLimits_facts : joinedFacts Tryz.prog 4 Tryz.f4 Rows.topLimitsSpec Rows.topLimitsRow = true := and_t (and_t (and_t (and_t (and_t (and_t (and_t (and_t (and_t (and_t (and_t (and_t (and_t (and_t (and_t (and_t (and_t (and_t (and_t (and_t (and_t (and_t (and_t (and_t (and_t (and_t (and_t (and_t (and_t (and_t (and_t topLimits_fact1 topLimits_fact2) topLimits_fact3) topLimits_fact4) topLimits_fact5) topLimits_fact6) topLimits_fact7) topLimits_fact8) topLimits_fact9) topLimits_fact10) topLimits_fact11) topLimits_fact12) topLimits_fact13) topLimits_fact14) topLimits_fact15) topLimits_fact16) topLimits_fact17) topLimits_fact18) topLimits_fact19) topLimits_fact20) topLimits_fact21) topLimits_fact22) topLimits_fact23) topLimits_fact24) topLimits_fact25) topLimits_fact26) topLimits_fact27) topLimits_fact28) topLimits_fact29) topLimits_fact30) topLimits_fact31) topLimits_fact32
end Go.Proofs.YtmmhcllibpmfnaaGreatDoor
