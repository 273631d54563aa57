/- A terminal's flags as bits, and the document's way of setting one, by contract. Conditions: the setting is one. -/
import Derived.Test.YtilmkghopeoipaaMoD
namespace Go.Proofs.Ytilmkghopeoipaa
open Go.RowKit Go.Kb

theorem onL_bit (X : Nat) (op : Int) : onL (X : Int) op = X.testBit (op - 30).toNat := by
  rw [Nat.testBit_eq_decide_div_mod_eq]
  unfold onL
  rw [pw_nat]
  generalize 2 ^ (op - 30).toNat = P
  have e : ((X : Int) / (P : Int) % 2) = ((X / P % 2 : Nat) : Int) := by simp
  rw [e, Bool.eq_iff_iff]
  simp only [decide_eq_true_eq]
  omega
theorem onL_fset {f op q : Int} (on : Bool) (hf : 0 ≤ f ∧ f < 18446744073709551616) (ho : 30 ≤ op ∧ op ≤ 93) (hq : 30 ≤ q ∧ q ≤ 93) : onL (fset f op on) q = if q = op then on else onL f q := by
  have h := pw_bd ho
  have h1 := or_pw hf ho
  have h2 := andNot_pw hf ho
  rw [u64_or f (pw op) hf.1 hf.2 (by omega) (by omega)] at h1
  rw [u64_andNot f (pw op) hf.1 hf.2 (by omega) (by omega)] at h2
  obtain ⟨X, rfl⟩ := Int.eq_ofNat_of_zero_le hf.1
  have hp : (pw op).toNat = 2 ^ (op - 30).toNat := by rw [pw_nat, Int.toNat_natCast]
  rw [hp, Int.toNat_natCast] at h1 h2
  have hi : (op - 30).toNat < 64 := by omega
  have hj : (q - 30).toNat < 64 := by omega
  have hpl : 2 ^ (op - 30).toNat < 2 ^ 64 := Nat.pow_lt_pow_right (by decide) hi
  have hqo : ((op - 30).toNat = (q - 30).toNat) ↔ (q = op) := by omega
  cases on
  · have e : fset (X : Int) op false = if onL (X : Int) op then (X : Int) - pw op else (X : Int) := rfl
    rw [e, ← h2, onL_bit, onL_bit, Nat.testBit_and]
    have e2 : (18446744073709551615 - 2 ^ (op - 30).toNat) = 2 ^ 64 - (2 ^ (op - 30).toNat + 1) := by omega
    rw [e2, Nat.testBit_two_pow_sub_succ hpl, Nat.testBit_two_pow]
    by_cases hx : q = op
    · have := hqo.2 hx
      simp [hx]
    · have : ¬ ((op - 30).toNat = (q - 30).toNat) := fun h => hx (hqo.1 h)
      simp [this, hx, hj]
  · have e : fset (X : Int) op true = if onL (X : Int) op then (X : Int) else (X : Int) + pw op := rfl
    rw [e, ← h1, onL_bit, onL_bit, Nat.testBit_or, Nat.testBit_two_pow]
    by_cases hx : q = op
    · simp [hx]
    · have : ¬ ((op - 30).toNat = (q - 30).toNat) := fun h => hx (hqo.1 h)
      simp [this, hx]
theorem hasL_setL {t : Tm} (h : t.Ok) (op q : Int) (on : Bool) : hasL (setL t op on) q = if flagL op = true ∧ q = op then on else hasL t q := by
  unfold setL hasL
  by_cases hf : flagL op = true
  · rw [if_pos hf]
    by_cases hq : flagL q = true
    · rw [hq, Bool.true_and, Bool.true_and]
      show onL (fset t.f op on) q = _
      rw [onL_fset on h.f (flag_bd hf) (flag_bd hq)]
      simp [hf]
    · have : ¬ q = op := fun e => hq (e ▸ hf)
      simp [hq, this]
  · rw [if_neg hf]
    simp [hf]
theorem hasL_flag {t : Tm} {op : Int} (h : hasL t op = true) : flagL op = true := by
  unfold hasL at h
  simp at h
  exact h.1
theorem setL_same {t : Tm} {op : Int} {on : Bool} (h : hasL t op = on) : setL t op on = t := by
  unfold setL
  by_cases hf : flagL op = true
  · rw [if_pos hf]
    unfold hasL at h
    rw [hf, Bool.true_and] at h
    have : fset t.f op on = t.f := by
      unfold fset
      rw [h]
      cases on <;> simp
    rw [this]
  · rw [if_neg hf]
end Go.Proofs.Ytilmkghopeoipaa
