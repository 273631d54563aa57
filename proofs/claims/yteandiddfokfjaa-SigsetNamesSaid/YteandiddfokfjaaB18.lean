/- A name's number, by contract. Conditions: none. -/
import Derived.Test.YteandiddfokfjaaA18
namespace Go.Proofs.Yteandiddfokfjaa
open Go.RowKit Go.Kb Go.Kb.Bits

def sameB (x y : ByteArray) : Bool := x.toList == y.toList
def idxO (name : ByteArray) : Option Nat := (List.range 29).find? fun k => sameB name (nameB k)
def idxL (name : ByteArray) : Int := match idxO name with | some k => (k : Int) | none => -1
theorem idx_some {name : ByteArray} {k : Nat} (hk : k < 29) (h : sameB name (nameB k) = true) (hn : ∀ j : Nat, j < k → sameB name (nameB j) = false) : idxL name = (k : Int) := by
  have : idxO name = some k := by
    unfold idxO
    rw [List.find?_range_eq_some]
    exact ⟨h, by simpa using hk, fun j hj => by simp [hn j hj]⟩
  unfold idxL
  rw [this]
theorem idx_none {name : ByteArray} (hn : ∀ j : Nat, j < 29 → sameB name (nameB j) = false) : idxL name = -1 := by
  have : idxO name = none := by
    unfold idxO
    rw [List.find?_range_eq_none]
    exact fun j hj => by simp [hn j hj]
  unfold idxL
  rw [this]
theorem names_at (k : Nat) (hk : k < 29) : namesA[k]? = some (.string (nameB k)) := by
  unfold namesA nameB
  have hl : k < namesB.length := hk
  simp [hl]
set_option maxHeartbeats 800000 in
theorem index_any (b : Nat) (name : ByteArray) (w : World) (hb : Blk w b 68 namesA) : Calls Try.prog 43 #[.slice (some ⟨b, 0, none⟩) 29 29, .string name] w fun e w' => e = .returned (.int .i64 (idxL name)) ∧ Ext w w' := by
  have HS := Lib.hid fun k hk h hn => idx_some (name := name) (k := k) hk h hn
  have HN := Lib.hid fun hn => idx_none (name := name) hn
  generalize idxL name = r at *
  go_enter Try.func43, Try.ntmps43
  go_wp2
  go_loopw [8] (fun i wr => ∃ k : Nat, k ≤ 29 ∧ i = .int .i64 k ∧ Hid (∀ j : Nat, j < k → sameB name (nameB j) = false) ∧ Ext w wr) (fun i _ => 29 - (intOf i).toNat)
  case atStart => exact ⟨0, by omega, rfl, Lib.hid fun j hj => by omega, (by repeat (first | with_reducible exact Ext.refl _ | refine Ext.drewN ?_ _ | refine Ext.drew ?_ | refine Ext.alloc ?_ _ | assumption | (refine Below.trans ?_ (by assumption)) | (refine Ext.trans ?_ (by assumption)) | (refine Below.trans ?_ (Below.mono (by assumption) (by omega)))))⟩
  case round =>
    obtain ⟨k, hk, rfl, hj, hE⟩ := hrel
    by_cases hlt : k < 29
    · have k1 : (k : Int) < 29 := by omega
      have k2 : (0 : Int) ≤ (k : Int) := by omega
      have hc : w.cell? ⟨b, k, none⟩ = some (.string (nameB k)) := by rw [hb.cell]; exact names_at k hlt
      have hc := cell_ext hE hc
      have HSk := Lib.hid (HS.out k hlt)
      have HJk := Lib.hid fun (h : sameB name (nameB k) = false) (j : Nat) (hjk : j < k + 1) => show sameB name (nameB j) = false by
        rcases Nat.lt_succ_iff_lt_or_eq.1 hjk with h1 | h1
        · exact hj.out j h1
        · rw [h1]; exact h
      have hq0 : ∃ q, sameB name (nameB k) = q := ⟨_, rfl⟩
      obtain ⟨q, hq⟩ := hq0
      have HQ := Lib.hid hq
      have hq1 : (name.toList == (nameB k).toList) = q := hq
      clear hq
      cases q
      · go_wp2
        go_roundw
        case rel => exact ⟨k + 1, by omega, by simp, Lib.hid (HJk.out HQ.out), hE⟩
        case measure => first | (simp [intOf]; omega) | (show 29 - _ < _; simp [intOf]; omega)
      · go_wp2
        go_ret
        exact ⟨by rw [HSk.out HQ.out hj.out]; rfl, hE⟩
    · obtain rfl : k = 29 := by omega
      have hr := HN.out hj.out
      go_wp2
      go_ret
      exact ⟨by rw [hr]; rfl, hE⟩
end Go.Proofs.Yteandiddfokfjaa
