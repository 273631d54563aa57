/- message: which names and languages may be, by contract. Conditions: they are at most a million bytes. -/
import Derived.Test.YtldijmappinngaaGreatDoorOH04
namespace Go.Proofs.YtldijmappinngaaGreatDoor
open Go.RowKit Go.Kb
set_option maxRecDepth 100000

theorem str_ix (s : ByteArray) (j : Nat) (h : j < s.size) : ∃ c : Int, Hid ((bsL s)[j]? = some c) ∧ ∀ w, (Instr.index 9 (.string s) (.int .i64 j)).run Tryz.prog w = .ok (.int .u8 c) w := by
  refine ⟨((s[j]).toNat : Int), Lib.hid ?_, fun w => ?_⟩
  · have h1 : s.data.toList[j]? = some s[j] := by
      rw [Array.getElem?_toList]
      exact Array.getElem?_eq_getElem h
    simp [bsL, h1]
  · rw [run_index_string w _ s .i64 j Tryz.underlying9, dif_pos ⟨by omega, by omega⟩]
    simp
/-- a word of so many signs at least -/
def WordP (s : ByteArray) (least : Int) : Prop := least ≤ s.size ∧ s.size ≤ 64 ∧ ∀ c ∈ bsL s, 33 ≤ c ∧ c ≤ 126
def PrP (s : ByteArray) (least : Int) (w : World) (e : Ending) (w' : World) : Prop := ∃ q : Bool, e = .returned (.bool q) ∧ (q = true ↔ WordP s least) ∧ Ext w w'
set_option maxHeartbeats 800000 in
theorem printable_any (s : ByteArray) (least : Int) (w : World) (hs : s.size ≤ 1000000) : Calls Tryz.prog 42 #[.string s, .int .i64 least] w (PrP s least w) := by
  have HL := Lib.hid (bsL_len s)
  have HIX := Lib.hid (str_ix s)
  obtain ⟨N, hN⟩ : ∃ N, s.size = N := ⟨_, rfl⟩
  have HN := Lib.hid hN
  have hg : goInt (s.size : Int) = .int .i64 (N : Int) := by rw [hN]; rfl
  by_cases h1 : (N : Int) < least
  · go_enter Tryz.func42, Tryz.ntmps42
    go_wp2
    go_ret
    exact ⟨false, rfl, by simp [WordP, hN]; omega, (by repeat (first | with_reducible exact Ext.refl _ | refine Ext.drewN ?_ _ | refine Ext.drew ?_ | refine Ext.alloc ?_ _ | assumption | (refine Below.trans ?_ (by assumption)) | (refine Ext.trans ?_ (by assumption)) | (refine Below.trans ?_ (Below.mono (by assumption) (by omega)))))⟩
  · by_cases h2 : 64 < N
    · have h3 : (64 : Int) < N := by omega
      go_enter Tryz.func42, Tryz.ntmps42
      go_wp2
      go_ret
      exact ⟨false, rfl, by simp [WordP, hN]; omega, (by repeat (first | with_reducible exact Ext.refl _ | refine Ext.drewN ?_ _ | refine Ext.drew ?_ | refine Ext.alloc ?_ _ | assumption | (refine Below.trans ?_ (by assumption)) | (refine Ext.trans ?_ (by assumption)) | (refine Below.trans ?_ (Below.mono (by assumption) (by omega)))))⟩
    · have h3 : ¬ (64 : Int) < N := by omega
      go_enter Tryz.func42, Tryz.ntmps42
      go_wp2
      go_loopw [17] (fun i wr => ∃ m : Nat, m ≤ N ∧ i = .int .i64 m ∧ Hid (∀ c ∈ (bsL s).take m, 33 ≤ c ∧ c ≤ 126) ∧ Hid (Ext w wr)) (fun i _ => N - (intOf i).toNat)
      case atStart => exact ⟨0, Nat.zero_le _, rfl, Lib.hid (by simp), Lib.hid (Ext.refl _)⟩
      case round =>
        obtain ⟨m, hm, rfl, HC, hE⟩ := hrel
        by_cases hmn : m < N
        · obtain ⟨c, hc, hix⟩ := HIX.out m (by rw [hN]; exact hmn)
          by_cases c1 : c < 33
          · go_wp2
            go_ret
            refine ⟨false, rfl, ?_, hE.out⟩
            simp only [Bool.false_eq_true, false_iff]
            intro hh
            have := (hh.2.2 c (List.mem_of_getElem? hc.out)).1
            omega
          · by_cases c2 : 126 < c
            · go_wp2
              go_ret
              refine ⟨false, rfl, ?_, hE.out⟩
              simp only [Bool.false_eq_true, false_iff]
              intro hh
              have := (hh.2.2 c (List.mem_of_getElem? hc.out)).2
              omega
            · go_wp2
              go_roundw
              case rel => exact ⟨m + 1, by omega, by go_num, Lib.hid (by
                rw [List.take_add_one, hc.out]
                intro x hx
                rcases List.mem_append.1 hx with h | h
                · exact HC.out x h
                · simp at h; rw [h]; omega), hE⟩
              case measure => simp [intOf]; omega
        · obtain rfl : m = N := by omega
          go_wp2
          go_ret
          refine ⟨true, rfl, ?_, hE.out⟩
          simp only [true_iff]
          refine ⟨by rw [hN]; omega, by rw [hN]; omega, ?_⟩
          have h9 := HC.out
          rw [← HN.out, ← HL.out, List.take_length] at h9
          exact h9
end Go.Proofs.YtldijmappinngaaGreatDoor
