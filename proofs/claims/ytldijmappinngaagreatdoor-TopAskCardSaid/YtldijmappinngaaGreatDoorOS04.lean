/- parlourref03.Great and Same of messages, by contract. Conditions: few bytes. -/
import Derived.Test.YtldijmappinngaaGreatDoorOR04
namespace Go.Proofs.YtldijmappinngaaGreatDoor
open Go.RowKit Go.Kb
set_option maxRecDepth 100000

/-- what Great answers -/
def GrP (m : Mg) (w : World) (e : Ending) (w' : World) : Prop :=
  ∃ q : Bool, e = .returned (.bool q) ∧ (q = false → m.da.length ≤ 100000 ∧ m.nm.size ≤ 10000 ∧ m.la.size ≤ 10000) ∧ Ext w w'
set_option maxHeartbeats 3000000 in
theorem mgreat_any (m : Mg) (Av : Option Addr) (cv : Nat) (w : World) : Calls Tryz.prog 6 #[.agg (mgA m (.slice Av m.da.length cv))] w (GrP m w) := by
  obtain ⟨k, ch, se, wi, pk, co, nm, la, wa, da⟩ := m
  dsimp only
  obtain ⟨L, hL⟩ : ∃ L, da.length = L := ⟨_, rfl⟩
  have HL := Lib.hid hL
  rw [hL]
  clear hL
  by_cases h1 : (100000 : Int) < L
  · go_enter Tryz.func6, Tryz.ntmps6
    go_wp2
    go_ret
    exact ⟨true, rfl, (fun h => by cases h), (by repeat (first | with_reducible exact Ext.refl _ | refine Ext.drewN ?_ _ | refine Ext.drew ?_ | refine Ext.alloc ?_ _ | assumption | (refine Below.trans ?_ (by assumption)) | (refine Ext.trans ?_ (by assumption)) | (refine Below.trans ?_ (Below.mono (by assumption) (by omega)))))⟩
  · go_enter Tryz.func6, Tryz.ntmps6
    go_wp2
    all_goals first
      | (go_ret; exact ⟨true, rfl, (fun h => by cases h), (by repeat (first | with_reducible exact Ext.refl _ | refine Ext.drewN ?_ _ | refine Ext.drew ?_ | refine Ext.alloc ?_ _ | assumption | (refine Below.trans ?_ (by assumption)) | (refine Ext.trans ?_ (by assumption)) | (refine Below.trans ?_ (Below.mono (by assumption) (by omega)))))⟩)
      | (go_ret; refine ⟨_, rfl, fun h => ?_, (by repeat (first | with_reducible exact Ext.refl _ | refine Ext.drewN ?_ _ | refine Ext.drew ?_ | refine Ext.alloc ?_ _ | assumption | (refine Below.trans ?_ (by assumption)) | (refine Ext.trans ?_ (by assumption)) | (refine Below.trans ?_ (Below.mono (by assumption) (by omega)))))⟩; simp only [Bool.or_eq_false_iff, decide_eq_false_iff_not] at h; have := HL.out; exact ⟨by dsimp only; omega, by dsimp only; omega, by dsimp only; omega⟩)
set_option maxHeartbeats 3000000 in
theorem msame_any (m : Mg) (v1 v2 : Value) (w : World) (h1 : RI .u8 w v1 m.da) (h2 : RI .u8 w v2 m.da) : Calls Tryz.prog 12 #[.agg (mgA m v1), .agg (mgA m v2)] w fun e w' => e = .returned (.bool true) ∧ Ext w w' := by
  obtain ⟨k, ch, se, wi, pk, co, nm, la, wa, da⟩ := m
  dsimp only at h1 h2 ⊢
  obtain ⟨A1, c1, rfl, -, -⟩ := h1.shape
  obtain ⟨A2, c2, rfl, -, -⟩ := h2.shape
  have H1 := Lib.hid h1
  have H2 := Lib.hid h2
  obtain ⟨L, hL⟩ : ∃ L, da.length = L := ⟨_, rfl⟩
  have HS := Lib.hid (fun w' (E : Ext w w') => Fr.bytes_any _ _ da da w' (H1.out.ext E) (H2.out.ext E))
  rw [show decide (da = da) = true by simp] at HS
  rw [hL] at HS ⊢
  clear h1 h2 hL H1 H2
  go_enter Tryz.func12, Tryz.ntmps12
  go_wp2_with fail
  refine (HS.out _ (by repeat (first | with_reducible exact Ext.refl _ | refine Ext.drewN ?_ _ | refine Ext.drew ?_ | refine Ext.alloc ?_ _ | assumption | (refine Below.trans ?_ (by assumption)) | (refine Ext.trans ?_ (by assumption)) | (refine Below.trans ?_ (Below.mono (by assumption) (by omega)))))).mono ?_
  rintro e w2 ⟨rfl, E2⟩
  go_wp2
  go_ret
  exact ⟨rfl, (by repeat (first | with_reducible exact Ext.refl _ | refine Ext.drewN ?_ _ | refine Ext.drew ?_ | refine Ext.alloc ?_ _ | assumption | (refine Below.trans ?_ (by assumption)) | (refine Ext.trans ?_ (by assumption)) | (refine Below.trans ?_ (Below.mono (by assumption) (by omega)))))⟩
end Go.Proofs.YtldijmappinngaaGreatDoor
