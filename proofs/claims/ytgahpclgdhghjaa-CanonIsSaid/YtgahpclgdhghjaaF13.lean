/- The lines that were typed: whether two are the same; the document's examples. Conditions: lengths within the reach. -/
import Derived.Test.YtgahpclgdhghjaaE13
namespace Go.Proofs.Ytgahpclgdhghjaa
open Go.RowKit Go.Kb

theorem lists_all {ls ms : List (List Int × Bool)} {k : Nat} (hk : k ≤ ls.length) (hn : ¬ k < ls.length) (hl : ls.length = ms.length) (ht : ls.take k = ms.take k) : ls = ms := by
  have : k = ls.length := by omega
  subst this
  rw [List.take_of_length_le (Nat.le_refl _), List.take_of_length_le (by omega)] at ht
  exact ht
set_option maxHeartbeats 800000 in
theorem same_q {A B : Nat → Prop} (va vb : Value) (xs ys : List (List Int × Bool)) (w : World) (ha : RdY Ln A w va xs) (hb : RdY Ln B w vb ys) :
    Calls Try.prog 11 #[va, vb] w fun e w' => e = .returned (.bool (decide (xs = ys))) ∧ Qt w w' := by
  obtain ⟨Ad, c, rfl, hc1, hc2⟩ := ha.shape
  obtain ⟨Ad2, c2, rfl, hc3, hc4⟩ := hb.shape
  have H1 := Lib.hid ha
  have H2 := Lib.hid hb
  clear ha hb
  by_cases hl : xs.length = ys.length
  · have HL := Lib.hid hl
    have hq2 : ((xs.length : Int) == (ys.length : Int)) = true := by simp [hl]
    have hq3 : ((xs.length : Int) != (ys.length : Int)) = false := by simp [hl]
    clear hl
    go_enter Try.func11, Try.ntmps11
    go_wp2
    clear hq2 hq3
    go_loopw [13] (fun i wr => ∃ k : Nat, k ≤ xs.length ∧ i = .int .i64 k ∧ xs.take k = ys.take k ∧ Qt w wr) (fun i _ => xs.length - (intOf i).toNat)
    case atStart => exact ⟨0, Nat.zero_le _, rfl, by simp, Qt.refl _⟩
    case round =>
      obtain ⟨k, hk, rfl, ht, hq⟩ := hrel
      have HT := Lib.hid ht
      clear ht
      by_cases hlt : k < xs.length
      · have hlt2 : k < ys.length := by have := HL.out; omega
        obtain ⟨b, off, A1, l, f, c1, rfl, hx1, hy1, hd1, hr1, _, _⟩ := ln_at (H1.out.ext hq.ext) hlt
        obtain ⟨b2, off2, A2, m, f2, c2, rfl, hx2, hy2, hd2, hr2, _, _⟩ := ln_at (H2.out.ext hq.ext) hlt2
        have HT2 : Hid (xs.take (k + 1) = ys.take (k + 1) ↔ (l, f) = (m, f2)) := Lib.hid (by
          rw [List.take_add_one, List.take_add_one, HT.out, hd1.out, hd2.out]
          simp)
        have HM : Hid ((l, f) ≠ (m, f2) → xs ≠ ys) := Lib.hid (by
          rintro hne rfl
          have h := hd1.out
          rw [hd2.out] at h
          exact hne (Option.some.inj h).symm)
        clear hd1 hd2
        by_cases hf : f = f2
        · subst hf
          have hb1 : (f != f) = false := by simp
          have hb2 : (f == f) = true := by simp
          by_cases he : l = m
          · have HE := Lib.hid (decide_eq_true he)
            have HEE := Lib.hid he
            clear he
            go_wp2
            go_quiet ((go_at_call 14; exact Qt.calls (by rw [HE.out]) (bytes_q _ _ l m _ hr1.out.ri hr2.out.ri)))
            go_wp2
            go_roundw
            case rel => exact ⟨k + 1, by omega, by go_num, HT2.out.2 (by rw [HEE.out]), (by repeat (first | with_reducible exact Qt.refl _ | refine Qt.drewN ?_ _ | assumption | refine Qt.trans ?_ (by assumption)))⟩
            case measure => simp [intOf]; omega
          · have HE := Lib.hid (decide_eq_false he)
            have HEE := Lib.hid he
            clear he
            go_wp2
            go_quiet ((go_at_call 14; exact Qt.calls (by rw [HE.out]) (bytes_q _ _ l m _ hr1.out.ri hr2.out.ri)))
            go_wp2
            go_ret
            exact ⟨by simp [HM.out (fun h => HEE.out (Prod.mk.inj h).1)], (by repeat (first | with_reducible exact Qt.refl _ | refine Qt.drewN ?_ _ | assumption | refine Qt.trans ?_ (by assumption)))⟩
        · have hb1 : (f != f2) = true := by simp [hf]
          have hb2 : (f == f2) = false := by simp [hf]
          have HF := Lib.hid hf
          clear hf
          go_wp2
          go_quiet (fail)
          go_wp2
          go_ret
          exact ⟨by simp [HM.out (fun h => HF.out (Prod.mk.inj h).2)], (by repeat (first | with_reducible exact Qt.refl _ | refine Qt.drewN ?_ _ | assumption | refine Qt.trans ?_ (by assumption)))⟩
      · go_wp2
        go_ret
        exact ⟨by simp [lists_all hk hlt HL.out HT.out], (by repeat (first | with_reducible exact Qt.refl _ | refine Qt.drewN ?_ _ | assumption | refine Qt.trans ?_ (by assumption)))⟩
  · have hq2 : ((xs.length : Int) == (ys.length : Int)) = false := by simp; omega
    have hq3 : ((xs.length : Int) != (ys.length : Int)) = true := by simp; omega
    have hne : xs ≠ ys := fun h => hl (by rw [h])
    have HN := Lib.hid hne
    clear hne hl
    go_enter Try.func11, Try.ntmps11
    go_wp2
    go_ret
    exact ⟨by simp [HN.out], Qt.refl _⟩
theorem same_any {A B : Nat → Prop} (va vb : Value) (xs ys : List (List Int × Bool)) (w : World) (ha : RdY Ln A w va xs) (hb : RdY Ln B w vb ys) :
    Calls Try.prog 11 #[va, vb] w fun e w' => e = .returned (.bool (decide (xs = ys))) ∧ Ext w w' :=
  (same_q va vb xs ys w ha hb).mono fun _ _ ⟨he, hq⟩ => ⟨he, hq.ext⟩
end Go.Proofs.Ytgahpclgdhghjaa
