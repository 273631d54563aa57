/- message.fits, by contract. Conditions: names are at most a million bytes. -/
import Derived.Test.YtldijmappinngaaGreatDoorOI04
namespace Go.Proofs.YtldijmappinngaaGreatDoor
open Go.RowKit Go.Kb
set_option maxRecDepth 100000

/-- the name and the language that a kind has may be -/
def FitP (m : Mg) : Prop := if m.k = 80 ∨ m.k = 90 ∨ m.k = 98 then WordP m.nm 1 else if m.k = 1 ∨ m.k = 92 then WordP m.la 0 else True
def FitPost (m : Mg) (w : World) (e : Ending) (w' : World) : Prop := ∃ q : Bool, e = .returned (.bool q) ∧ (q = true ↔ FitP m) ∧ Ext w w'
set_option maxHeartbeats 800000 in
theorem fitsm_any (m : Mg) (v : Value) (w : World) (h1 : m.nm.size ≤ 1000000) (h2 : m.la.size ≤ 1000000) : Calls Tryz.prog 21 #[.agg (mgA m v)] w (FitPost m w) := by
  have HN := Lib.hid (fun w' => printable_any m.nm 1 w' h1)
  have HL := Lib.hid (fun w' => printable_any m.la 0 w' h2)
  obtain ⟨k, ch, se, wi, pk, co, nm, la, wa, da⟩ := m
  dsimp only at HN HL h1 h2
  by_cases hk : k = 80 ∨ k = 90 ∨ k = 98 ∨ k = 1 ∨ k = 92
  · rcases hk with rfl | rfl | rfl | rfl | rfl
    · go_enter Tryz.func21, Tryz.ntmps21
      go_wp2_with fail
      refine (HN.out _).mono ?_
      rintro e w1 ⟨q, rfl, hq, E1⟩
      have HQ := Lib.hid hq
      have E01 : Ext w w1 := (by repeat (first | with_reducible exact Ext.refl _ | refine Ext.drewN ?_ _ | refine Ext.drew ?_ | refine Ext.alloc ?_ _ | assumption | (refine Below.trans ?_ (by assumption)) | (refine Ext.trans ?_ (by assumption)) | (refine Below.trans ?_ (Below.mono (by assumption) (by omega)))))
      clear hq
      go_wp2
      go_ret
      exact ⟨q, rfl, by rw [HQ.out]; simp [FitP], E01⟩
    · go_enter Tryz.func21, Tryz.ntmps21
      go_wp2_with fail
      refine (HN.out _).mono ?_
      rintro e w1 ⟨q, rfl, hq, E1⟩
      have HQ := Lib.hid hq
      have E01 : Ext w w1 := (by repeat (first | with_reducible exact Ext.refl _ | refine Ext.drewN ?_ _ | refine Ext.drew ?_ | refine Ext.alloc ?_ _ | assumption | (refine Below.trans ?_ (by assumption)) | (refine Ext.trans ?_ (by assumption)) | (refine Below.trans ?_ (Below.mono (by assumption) (by omega)))))
      clear hq
      go_wp2
      go_ret
      exact ⟨q, rfl, by rw [HQ.out]; simp [FitP], E01⟩
    · go_enter Tryz.func21, Tryz.ntmps21
      go_wp2_with fail
      refine (HN.out _).mono ?_
      rintro e w1 ⟨q, rfl, hq, E1⟩
      have HQ := Lib.hid hq
      have E01 : Ext w w1 := (by repeat (first | with_reducible exact Ext.refl _ | refine Ext.drewN ?_ _ | refine Ext.drew ?_ | refine Ext.alloc ?_ _ | assumption | (refine Below.trans ?_ (by assumption)) | (refine Ext.trans ?_ (by assumption)) | (refine Below.trans ?_ (Below.mono (by assumption) (by omega)))))
      clear hq
      go_wp2
      go_ret
      exact ⟨q, rfl, by rw [HQ.out]; simp [FitP], E01⟩
    · go_enter Tryz.func21, Tryz.ntmps21
      go_wp2_with fail
      refine (HL.out _).mono ?_
      rintro e w1 ⟨q, rfl, hq, E1⟩
      have HQ := Lib.hid hq
      have E01 : Ext w w1 := (by repeat (first | with_reducible exact Ext.refl _ | refine Ext.drewN ?_ _ | refine Ext.drew ?_ | refine Ext.alloc ?_ _ | assumption | (refine Below.trans ?_ (by assumption)) | (refine Ext.trans ?_ (by assumption)) | (refine Below.trans ?_ (Below.mono (by assumption) (by omega)))))
      clear hq
      go_wp2
      go_ret
      exact ⟨q, rfl, by rw [HQ.out]; simp [FitP], E01⟩
    · go_enter Tryz.func21, Tryz.ntmps21
      go_wp2_with fail
      refine (HL.out _).mono ?_
      rintro e w1 ⟨q, rfl, hq, E1⟩
      have HQ := Lib.hid hq
      have E01 : Ext w w1 := (by repeat (first | with_reducible exact Ext.refl _ | refine Ext.drewN ?_ _ | refine Ext.drew ?_ | refine Ext.alloc ?_ _ | assumption | (refine Below.trans ?_ (by assumption)) | (refine Ext.trans ?_ (by assumption)) | (refine Below.trans ?_ (Below.mono (by assumption) (by omega)))))
      clear hq
      go_wp2
      go_ret
      exact ⟨q, rfl, by rw [HQ.out]; simp [FitP], E01⟩
  · simp only [not_or] at hk
    obtain ⟨h80, h90, h98, h01, h92⟩ := hk
    have i80 : (k == 80) = false := by simpa using h80
    have i90 : (k == 90) = false := by simpa using h90
    have i98 : (k == 98) = false := by simpa using h98
    have i1 : (k == 1) = false := by simpa using h01
    have i92 : (k == 92) = false := by simpa using h92
    go_enter Tryz.func21, Tryz.ntmps21
    go_wp2
    go_ret
    exact ⟨true, rfl, by simp [FitP, h80, h90, h98, h01, h92], (by repeat (first | with_reducible exact Ext.refl _ | refine Ext.drewN ?_ _ | refine Ext.drew ?_ | refine Ext.alloc ?_ _ | assumption | (refine Below.trans ?_ (by assumption)) | (refine Ext.trans ?_ (by assumption)) | (refine Below.trans ?_ (Below.mono (by assumption) (by omega)))))⟩
end Go.Proofs.YtldijmappinngaaGreatDoor
