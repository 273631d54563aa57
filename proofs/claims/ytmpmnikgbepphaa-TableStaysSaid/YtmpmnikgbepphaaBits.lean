/- Bits of a number of 64 bits: set, unset, asked; as sums. Conditions: the number has 64 bits, the place is one. -/
import Derived.Test.YtmpmnikgbepphaaBase
import Derived.Laws.BitsAllLaws
import Derived.IntWalk
namespace Go.Kb.Bits
open Go.RowKit Go.Kb
def pw (op : Int) : Int := 2 ^ op.toNat
theorem pw_bd {op : Int} (h : 0 ≤ op ∧ op ≤ 63) : 1 ≤ pw op ∧ pw op ≤ 9223372036854775808 := by
  unfold pw
  have h1 : 2 ^ op.toNat ≤ 2 ^ 63 := Nat.pow_le_pow_right (by decide) (by omega)
  have h2 : 0 < 2 ^ op.toNat := Nat.two_pow_pos _
  have h3 : (2 : Int) ^ op.toNat = ((2 ^ op.toNat : Nat) : Int) := by simp
  rw [h3]
  omega
theorem or_and_nat : ∀ (n x y : Nat), x < 2 ^ n → (x ||| y) + (x &&& y) = x + y := by
  intro n
  induction n with
  | zero => intro x y h; obtain rfl : x = 0 := by omega
            simp
  | succ n ih =>
    intro x y h
    have h1 := ih (x / 2) (y / 2) (by rw [Nat.pow_succ] at h; omega)
    have h2 := Nat.or_div_two (a := x) (b := y)
    have h3 := Nat.and_div_two (a := x) (b := y)
    have h4 := Nat.or_mod_two_eq_one (a := x) (b := y)
    have h5 := Nat.and_mod_two_eq_one (a := x) (b := y)
    omega
theorem andNot_nat : ∀ (n x y : Nat), x < 2 ^ n → y < 2 ^ n → (x &&& (2 ^ n - 1 - y)) + (x &&& y) = x := by
  intro n
  induction n with
  | zero => intro x y h h2; obtain rfl : x = 0 := by omega
            simp
  | succ n ih =>
    intro x y h hy
    rw [Nat.pow_succ] at *
    have h1 := ih (x / 2) (y / 2) (by omega) (by omega)
    have h0 : (2 ^ n * 2 - 1 - y) / 2 = 2 ^ n - 1 - y / 2 := by omega
    have h2 := Nat.and_div_two (a := x) (b := 2 ^ n * 2 - 1 - y)
    have h3 := Nat.and_div_two (a := x) (b := y)
    have h4 := Nat.and_mod_two_eq_one (a := x) (b := 2 ^ n * 2 - 1 - y)
    have h5 := Nat.and_mod_two_eq_one (a := x) (b := y)
    rw [h0] at h2
    omega
def onL (f op : Int) : Bool := decide (f / pw op % 2 = 1)
theorem pw_nat {op : Int} : pw op = ((2 ^ op.toNat : Nat) : Int) := by simp [pw]
theorem and_pw {f op : Int} (hf : 0 ≤ f ∧ f < 18446744073709551616) (ho : 0 ≤ op ∧ op ≤ 63) : bits .and .u64 f (pw op) = if onL f op then pw op else 0 := by
  have h := pw_bd ho
  rw [u64_and f (pw op) hf.1 hf.2 (by omega) (by omega)]
  obtain ⟨X, rfl⟩ := Int.eq_ofNat_of_zero_le hf.1
  unfold onL
  rw [pw_nat, Int.toNat_natCast, Int.toNat_natCast, nat_bit]
  generalize hP : 2 ^ op.toNat = P
  have e : ((X : Int) / (P : Int) % 2) = ((X / P % 2 : Nat) : Int) := by simp
  rw [e]
  have h2 : X / P % 2 = 0 ∨ X / P % 2 = 1 := by omega
  rcases h2 with h2 | h2 <;> simp [h2]
theorem or_pw {f op : Int} (hf : 0 ≤ f ∧ f < 18446744073709551616) (ho : 0 ≤ op ∧ op ≤ 63) : bits .or .u64 f (pw op) = if onL f op then f else f + pw op := by
  have h := pw_bd ho
  have ha := and_pw hf ho
  rw [u64_and f (pw op) hf.1 hf.2 (by omega) (by omega)] at ha
  rw [u64_or f (pw op) hf.1 hf.2 (by omega) (by omega)]
  have h1 := or_and_nat 64 f.toNat (pw op).toNat (by omega)
  by_cases hx : onL f op = true
  · rw [if_pos hx] at ha ⊢; omega
  · rw [if_neg hx] at ha ⊢; omega
theorem andNot_pw {f op : Int} (hf : 0 ≤ f ∧ f < 18446744073709551616) (ho : 0 ≤ op ∧ op ≤ 63) : bits .andNot .u64 f (pw op) = if onL f op then f - pw op else f := by
  have h := pw_bd ho
  have ha := and_pw hf ho
  rw [u64_and f (pw op) hf.1 hf.2 (by omega) (by omega)] at ha
  rw [u64_andNot f (pw op) hf.1 hf.2 (by omega) (by omega)]
  have h1 := andNot_nat 64 f.toNat (pw op).toNat (by omega) (by omega)
  have h2 : (2 : Nat) ^ 64 - 1 = 18446744073709551615 := by decide
  rw [h2] at h1
  by_cases hx : onL f op = true
  · rw [if_pos hx] at ha ⊢; omega
  · rw [if_neg hx] at ha ⊢; omega
theorem div_pw {f op : Int} (hf : 0 ≤ f ∧ f < 18446744073709551616) (ho : 0 ≤ op ∧ op ≤ 63) : IntKind.u64.wrap (f.tdiv (pw op)) = f / pw op ∧ 0 ≤ f / pw op ∧ (f / pw op).tmod 2 = f / pw op % 2 ∧ IntKind.u64.wrap (f / pw op % 2) = f / pw op % 2 := by
  have h := pw_bd ho
  have h1 : 0 ≤ f / pw op := Int.ediv_nonneg hf.1 (by omega)
  have h2 : f / pw op ≤ f := Int.ediv_le_self _ hf.1
  have h3 : f.tdiv (pw op) = f / pw op := Int.tdiv_eq_ediv_of_nonneg hf.1
  refine ⟨?_, h1, Int.tmod_eq_emod_of_nonneg h1, ?_⟩
  · rw [h3, IntKind.wrap_u64]; omega
  · rw [IntKind.wrap_u64]; omega
def fset (f op : Int) (on : Bool) : Int := if on then (if onL f op then f else f + pw op) else if onL f op then f - pw op else f
theorem fset_bd {f op : Int} (on : Bool) (hf : 0 ≤ f ∧ f < 18446744073709551616) (ho : 0 ≤ op ∧ op ≤ 63) : 0 ≤ fset f op on ∧ fset f op on < 18446744073709551616 := by
  have h := pw_bd ho
  have h1 := or_pw hf ho
  have h2 := andNot_pw hf ho
  have w1 : 0 ≤ bits .or .u64 f (pw op) ∧ bits .or .u64 f (pw op) < 18446744073709551616 := by
    have : bits .or .u64 f (pw op) = IntKind.u64.wrap (bits .or .u64 f (pw op)) := by
      rw [u64_or f (pw op) hf.1 hf.2 (by omega) (by omega), IntKind.wrap_u64]
      have := Nat.or_lt_two_pow (x := f.toNat) (y := (pw op).toNat) (n := 64) (by omega) (by omega)
      omega
    rw [this, IntKind.wrap_u64]
    omega
  have w2 : 0 ≤ bits .andNot .u64 f (pw op) ∧ bits .andNot .u64 f (pw op) < 18446744073709551616 := by
    rw [u64_andNot f (pw op) hf.1 hf.2 (by omega) (by omega)]
    have := Nat.and_le_left (n := f.toNat) (m := 18446744073709551615 - (pw op).toNat)
    omega
  unfold fset
  cases on
  · rw [← h2] at *
    simpa using w2
  · rw [← h1] at *
    simpa using w1
theorem onL_bit (X : Nat) (op : Int) : onL (X : Int) op = X.testBit op.toNat := by
  rw [Nat.testBit_eq_decide_div_mod_eq]
  unfold onL
  rw [pw_nat]
  generalize 2 ^ op.toNat = P
  have e : ((X : Int) / (P : Int) % 2) = ((X / P % 2 : Nat) : Int) := by simp
  rw [e, Bool.eq_iff_iff]
  simp only [decide_eq_true_eq]
  omega
theorem onL_fset {f op q : Int} (on : Bool) (hf : 0 ≤ f ∧ f < 18446744073709551616) (ho : 0 ≤ op ∧ op ≤ 63) (hq : 0 ≤ q ∧ q ≤ 63) : onL (fset f op on) q = if q = op then on else onL f q := by
  have h := pw_bd ho
  have h1 := or_pw hf ho
  have h2 := andNot_pw hf ho
  rw [u64_or f (pw op) hf.1 hf.2 (by omega) (by omega)] at h1
  rw [u64_andNot f (pw op) hf.1 hf.2 (by omega) (by omega)] at h2
  obtain ⟨X, rfl⟩ := Int.eq_ofNat_of_zero_le hf.1
  have hp : (pw op).toNat = 2 ^ op.toNat := by rw [pw_nat, Int.toNat_natCast]
  rw [hp, Int.toNat_natCast] at h1 h2
  have hi : op.toNat < 64 := by omega
  have hj : q.toNat < 64 := by omega
  have hpl : 2 ^ op.toNat < 2 ^ 64 := Nat.pow_lt_pow_right (by decide) hi
  have hqo : (op.toNat = q.toNat) ↔ (q = op) := by omega
  cases on
  · have e : fset (X : Int) op false = if onL (X : Int) op then (X : Int) - pw op else (X : Int) := rfl
    rw [e, ← h2, onL_bit, onL_bit, Nat.testBit_and]
    have e2 : (18446744073709551615 - 2 ^ op.toNat) = 2 ^ 64 - (2 ^ op.toNat + 1) := by omega
    rw [e2, Nat.testBit_two_pow_sub_succ hpl, Nat.testBit_two_pow]
    by_cases hx : q = op
    · have := hqo.2 hx
      simp [hx]
    · have : ¬ (op.toNat = q.toNat) := fun h => hx (hqo.1 h)
      simp [this, hx, hj]
  · have e : fset (X : Int) op true = if onL (X : Int) op then (X : Int) else (X : Int) + pw op := rfl
    rw [e, ← h1, onL_bit, onL_bit, Nat.testBit_or, Nat.testBit_two_pow]
    by_cases hx : q = op
    · simp [hx]
    · have : ¬ (op.toNat = q.toNat) := fun h => hx (hqo.1 h)
      simp [this, hx]
theorem fset_fset {f op : Int} (hf : 0 ≤ f ∧ f < 18446744073709551616) (ho : 0 ≤ op ∧ op ≤ 63) (a b : Bool) : fset (fset f op a) op b = fset f op b := by
  have h1 := onL_fset a hf ho ho
  rw [if_pos rfl] at h1
  have e : fset (fset f op a) op b = if b then (if onL (fset f op a) op then fset f op a else fset f op a + pw op) else if onL (fset f op a) op then fset f op a - pw op else fset f op a := rfl
  rw [e, h1]
  unfold fset
  cases a <;> cases b <;> by_cases h : onL f op = true <;> simp [h]
theorem fset_own {f op : Int} {b : Bool} (h : onL f op = b) : fset f op b = f := by
  unfold fset
  rw [h]
  cases b <;> simp
theorem fset_delta (g c : Int) (z : Bool) : fset g c z = g + (if z then (if onL g c then 0 else pw c) else if onL g c then - pw c else 0) := by
  unfold fset
  cases z <;> by_cases h : onL g c = true <;> simp [h]
  omega
theorem fset_comm {f a b : Int} (x y : Bool) (hf : 0 ≤ f ∧ f < 18446744073709551616) (ha : 0 ≤ a ∧ a ≤ 63) (hb : 0 ≤ b ∧ b ≤ 63) (hab : a ≠ b) : fset (fset f a x) b y = fset (fset f b y) a x := by
  have e1 := onL_fset x hf ha hb
  rw [if_neg (fun h => hab h.symm)] at e1
  have e2 := onL_fset y hf hb ha
  rw [if_neg hab] at e2
  rw [fset_delta (fset f a x) b y, e1, fset_delta f a x, fset_delta (fset f b y) a x, e2, fset_delta f b y]
  omega
theorem onL_ext {f g : Int} (hf : 0 ≤ f ∧ f < 18446744073709551616) (hg : 0 ≤ g ∧ g < 18446744073709551616) (h : ∀ q : Int, 0 ≤ q ∧ q ≤ 63 → onL f q = onL g q) : f = g := by
  obtain ⟨X, rfl⟩ := Int.eq_ofNat_of_zero_le hf.1
  obtain ⟨Y, rfl⟩ := Int.eq_ofNat_of_zero_le hg.1
  congr 1
  apply Nat.eq_of_testBit_eq
  intro i
  by_cases hi : i < 64
  · have := h (i : Int) (by omega)
    rw [onL_bit, onL_bit] at this
    rw [show ((i : Int)).toNat = i by omega] at this
    exact this
  · have h64 : (2 : Nat) ^ 64 ≤ 2 ^ i := Nat.pow_le_pow_right (by decide) (by omega)
    rw [Nat.testBit_lt_two_pow (by omega), Nat.testBit_lt_two_pow (by omega)]
end Go.Kb.Bits
