/- Written by chain.py of MoC[-rhas_any] MoD[-set_any] MoS. No condition. -/
import Derived.Test.YtfnicinnjkbedaaGreatDoorMA17
import Derived.Laws.BitsAllLaws
namespace Go.Proofs.YtfnicinnjkbedaaGreatDoor
open Go.RowKit Go.Kb
set_option maxRecDepth 100000

theorem or_and_nat : ∀ (n x y : Nat), x < 2 ^ n → (x ||| y) + (x &&& y) = x + y := by
  intro n
  induction n with
  | zero => intro x y h; obtain rfl : x = 0 := by omega
            simp
  | succ n ih =>
    intro x y h
    have h1 := ih (x / 2) (y / 2) (by rw [Nat.pow_succ] at h; omega)
    have h2 := Nat.or_div_two (a := x) (b := y)
    have h3 := Nat.and_div_two (a := x) (b := y)
    have h4 := Nat.or_mod_two_eq_one (a := x) (b := y)
    have h5 := Nat.and_mod_two_eq_one (a := x) (b := y)
    omega
theorem andNot_nat : ∀ (n x y : Nat), x < 2 ^ n → y < 2 ^ n → (x &&& (2 ^ n - 1 - y)) + (x &&& y) = x := by
  intro n
  induction n with
  | zero => intro x y h h2; obtain rfl : x = 0 := by omega
            simp
  | succ n ih =>
    intro x y h hy
    rw [Nat.pow_succ] at *
    have h1 := ih (x / 2) (y / 2) (by omega) (by omega)
    have h0 : (2 ^ n * 2 - 1 - y) / 2 = 2 ^ n - 1 - y / 2 := by omega
    have h2 := Nat.and_div_two (a := x) (b := 2 ^ n * 2 - 1 - y)
    have h3 := Nat.and_div_two (a := x) (b := y)
    have h4 := Nat.and_mod_two_eq_one (a := x) (b := 2 ^ n * 2 - 1 - y)
    have h5 := Nat.and_mod_two_eq_one (a := x) (b := y)
    rw [h0] at h2
    omega
/-- is a flag's bit set? -/
def onL (f op : Int) : Bool := decide (f / pw op % 2 = 1)
theorem pw_nat {op : Int} : pw op = ((2 ^ (op - 30).toNat : Nat) : Int) := by simp [pw]
theorem and_pw {f op : Int} (hf : 0 ≤ f ∧ f < 18446744073709551616) (ho : 30 ≤ op ∧ op ≤ 93) : bits .and .u64 f (pw op) = if onL f op then pw op else 0 := by
  have h := pw_bd ho
  rw [u64_and f (pw op) hf.1 hf.2 (by omega) (by omega)]
  obtain ⟨X, rfl⟩ := Int.eq_ofNat_of_zero_le hf.1
  unfold onL
  rw [pw_nat, Int.toNat_natCast, Int.toNat_natCast, nat_bit]
  generalize hP : 2 ^ (op - 30).toNat = P
  have e : ((X : Int) / (P : Int) % 2) = ((X / P % 2 : Nat) : Int) := by simp
  rw [e]
  have h2 : X / P % 2 = 0 ∨ X / P % 2 = 1 := by omega
  rcases h2 with h2 | h2 <;> simp [h2]
theorem or_pw {f op : Int} (hf : 0 ≤ f ∧ f < 18446744073709551616) (ho : 30 ≤ op ∧ op ≤ 93) : bits .or .u64 f (pw op) = if onL f op then f else f + pw op := by
  have h := pw_bd ho
  have ha := and_pw hf ho
  rw [u64_and f (pw op) hf.1 hf.2 (by omega) (by omega)] at ha
  rw [u64_or f (pw op) hf.1 hf.2 (by omega) (by omega)]
  have h1 := or_and_nat 64 f.toNat (pw op).toNat (by omega)
  by_cases hx : onL f op = true
  · rw [if_pos hx] at ha ⊢; omega
  · rw [if_neg hx] at ha ⊢; omega
theorem andNot_pw {f op : Int} (hf : 0 ≤ f ∧ f < 18446744073709551616) (ho : 30 ≤ op ∧ op ≤ 93) : bits .andNot .u64 f (pw op) = if onL f op then f - pw op else f := by
  have h := pw_bd ho
  have ha := and_pw hf ho
  rw [u64_and f (pw op) hf.1 hf.2 (by omega) (by omega)] at ha
  rw [u64_andNot f (pw op) hf.1 hf.2 (by omega) (by omega)]
  have h1 := andNot_nat 64 f.toNat (pw op).toNat (by omega) (by omega)
  have h2 : (2 : Nat) ^ 64 - 1 = 18446744073709551615 := by decide
  rw [h2] at h1
  by_cases hx : onL f op = true
  · rw [if_pos hx] at ha ⊢; omega
  · rw [if_neg hx] at ha ⊢; omega
def hasL (t : Tm) (op : Int) : Bool := flagL op && onL t.f op
theorem flag_bd {op : Int} (h : flagL op = true) : 30 ≤ op ∧ op ≤ 93 := by
  simp [flagL] at h; omega

set_option maxHeartbeats 800000 in
theorem has_any (t : Tm) (op : Int) (w : World) (h : t.Ok) : Calls Tryz.prog 84 #[.agg t.arr, .int .i64 op] w fun e w' => e = .returned (.bool (hasL t op)) ∧ Ext w w' := by
  have hn := t.size h
  have hat := Tm.at19 h
  have hf := h.f
  unfold hasL
  generalize t.arr = cs at hn hat ⊢
  have hb : ∀ o, ((w.alloc (.cells cs 26)).alloc o).cell? ⟨w.heap.size, 19, none⟩ = some (.int .u64 t.f) := fun o => by rw [((Blk.new w 26 cs).alloc o).cell, hat]
  have hb0 : (w.alloc (.cells cs 26)).cell? ⟨w.heap.size, 19, none⟩ = some (.int .u64 t.f) := by rw [(Blk.new w 26 cs).cell, hat]
  generalize t.f = f at *
  clear h hat
  by_cases hg : flagL op = true
  · have hp := and_pw hf (flag_bd hg)
    have hO := flag_bd hg
    have hne : ¬ pw op = 0 := by have := pw_bd hO; omega
    rw [hg, Bool.true_and]
    go_enter Tryz.func84, Tryz.ntmps84
    go_wp2
    go_region_law (go_simp; first
      | ((go_at_call 27; (with_reducible refine (isFlag_any op _).mono ?_); rintro e w1 ⟨rfl, E1⟩); rw [hg]; have hc1 := Bc E1; have hf1 := Bf E1; have hz1 := Below.size E1; (try simp at hz1); have hd1 := fun o => hc1 w.heap.size o (by (try simp) <;> omega))
      | ((go_at_call 28; (with_reducible refine (bit_any op _ hO).mono ?_); rintro e w2 ⟨rfl, E2⟩); have hc2 := Bc E2; have hf2 := Bf E2; have hz2 := Below.size E2; (try simp at hz2); have hd2 := fun o => hc2 w.heap.size o (by (try simp) <;> omega)))
    all_goals go_wp2
    all_goals go_ret
    all_goals refine ⟨?_, (by repeat (first | with_reducible exact Ext.refl _ | refine Ext.drewN ?_ _ | refine Ext.drew ?_ | refine Ext.alloc ?_ _ | assumption | (refine Below.trans ?_ (by assumption)) | (refine Ext.trans ?_ (by assumption)) | (refine Below.trans ?_ (Below.mono (by assumption) (by omega)))))⟩
    all_goals show Ending.returned (Value.bool _) = _
    all_goals by_cases hx : onL f op = true
    all_goals simp [hne]
  · have hg' : flagL op = false := by simpa using hg
    rw [hg', Bool.false_and]
    go_enter Tryz.func84, Tryz.ntmps84
    go_wp2
    first | go_region_law (go_simp; (go_at_call 27; (with_reducible refine (isFlag_any op _).mono ?_); rintro e w1 ⟨rfl, E1⟩); rw [hg']; have hc1 := Bc E1; have hf1 := Bf E1; have hz1 := Below.size E1; (try simp at hz1); have hd1 := fun o => hc1 w.heap.size o (by (try simp) <;> omega)) | fail "region"
    all_goals go_wp2
    all_goals go_ret
    all_goals exact ⟨rfl, (by repeat (first | with_reducible exact Ext.refl _ | refine Ext.drewN ?_ _ | refine Ext.drew ?_ | refine Ext.alloc ?_ _ | assumption | (refine Below.trans ?_ (by assumption)) | (refine Ext.trans ?_ (by assumption)) | (refine Below.trans ?_ (Below.mono (by assumption) (by omega)))))⟩
theorem div_pw {f op : Int} (hf : 0 ≤ f ∧ f < 18446744073709551616) (ho : 30 ≤ op ∧ op ≤ 93) : IntKind.u64.wrap (f.tdiv (pw op)) = f / pw op ∧ 0 ≤ f / pw op ∧ (f / pw op).tmod 2 = f / pw op % 2 ∧ IntKind.u64.wrap (f / pw op % 2) = f / pw op % 2 := by
  have h := pw_bd ho
  have h1 : 0 ≤ f / pw op := Int.ediv_nonneg hf.1 (by omega)
  have h2 : f / pw op ≤ f := Int.ediv_le_self _ hf.1
  have h3 : f.tdiv (pw op) = f / pw op := Int.tdiv_eq_ediv_of_nonneg hf.1
  refine ⟨?_, h1, Int.tmod_eq_emod_of_nonneg h1, ?_⟩
  · rw [h3, IntKind.wrap_u64]; omega
  · rw [IntKind.wrap_u64]; omega
end Go.Proofs.YtfnicinnjkbedaaGreatDoor
namespace Go.Proofs.YtfnicinnjkbedaaGreatDoor
open Go.RowKit Go.Kb

theorem below_setRow {B g : Nat} {a w : World} (h : Below B a w) (hp : B ≤ g) (cs : Array Value) : Below B a (w.setRow g cs) :=
  h.trans ⟨rfl, rfl, rfl, by simp, fun k hk => setRow_other w g k cs (by omega)⟩
theorem Blk.setRow {w : World} {g : Nat} {t : TypeId} {cs : Array Value} (h : Blk w g t cs) (cs' : Array Value) : Blk (w.setRow g cs') g t cs' := setRow_heap w g cs cs' t (0, 0) h
theorem Tm.one (t : Tm) : t.arr.all (·.oneCell') = true := by
  simp only [Tm.arr, Tm.cells, List.all_toArray, List.all_append, List.all_map, Bool.and_eq_true]
  refine ⟨?_, rfl⟩
  rw [List.all_eq_true]
  intro x _
  rfl
def fset (f op : Int) (on : Bool) : Int := if on then (if onL f op then f else f + pw op) else if onL f op then f - pw op else f
def setL (t : Tm) (op : Int) (on : Bool) : Tm := if flagL op then { t with f := fset t.f op on } else t
theorem Tm.set19 {t : Tm} (h : t.Ok) (f : Int) : t.arr.setIfInBounds 19 (.int .u64 f) = ({ t with f := f } : Tm).arr := by
  obtain ⟨c, f0, i, o, m, tt⟩ := t
  have hc : c.length = 19 := h.c
  simp only [Tm.arr, Tm.cells]
  apply Array.ext'
  simp [hc]
theorem onL_nat {f op : Int} : onL f op = decide (f / pw op % 2 = 1) := rfl
theorem fset_bd {f op : Int} (on : Bool) (hf : 0 ≤ f ∧ f < 18446744073709551616) (ho : 30 ≤ op ∧ op ≤ 93) : 0 ≤ fset f op on ∧ fset f op on < 18446744073709551616 := by
  have h := pw_bd ho
  have h1 := or_pw hf ho
  have h2 := andNot_pw hf ho
  have w1 : 0 ≤ bits .or .u64 f (pw op) ∧ bits .or .u64 f (pw op) < 18446744073709551616 := by
    have : bits .or .u64 f (pw op) = IntKind.u64.wrap (bits .or .u64 f (pw op)) := by
      rw [u64_or f (pw op) hf.1 hf.2 (by omega) (by omega), IntKind.wrap_u64]
      have := Nat.or_lt_two_pow (x := f.toNat) (y := (pw op).toNat) (n := 64) (by omega) (by omega)
      omega
    rw [this, IntKind.wrap_u64]
    omega
  have w2 : 0 ≤ bits .andNot .u64 f (pw op) ∧ bits .andNot .u64 f (pw op) < 18446744073709551616 := by
    rw [u64_andNot f (pw op) hf.1 hf.2 (by omega) (by omega)]
    have := Nat.and_le_left (n := f.toNat) (m := 18446744073709551615 - (pw op).toNat)
    omega
  unfold fset
  cases on
  · rw [← h2] at *
    simpa using w2
  · rw [← h1] at *
    simpa using w1
theorem setL_ok {t : Tm} (h : t.Ok) (op : Int) (on : Bool) : (setL t op on).Ok := by
  unfold setL
  by_cases hf : flagL op = true
  · rw [if_pos hf]
    exact ⟨h.c, h.b, fset_bd on h.f (flag_bd hf), h.i, h.o, h.m, h.t⟩
  · rw [if_neg hf]; exact h
end Go.Proofs.YtfnicinnjkbedaaGreatDoor
namespace Go.Proofs.YtfnicinnjkbedaaGreatDoor
open Go.RowKit Go.Kb

theorem onL_bit (X : Nat) (op : Int) : onL (X : Int) op = X.testBit (op - 30).toNat := by
  rw [Nat.testBit_eq_decide_div_mod_eq]
  unfold onL
  rw [pw_nat]
  generalize 2 ^ (op - 30).toNat = P
  have e : ((X : Int) / (P : Int) % 2) = ((X / P % 2 : Nat) : Int) := by simp
  rw [e, Bool.eq_iff_iff]
  simp only [decide_eq_true_eq]
  omega
theorem onL_fset {f op q : Int} (on : Bool) (hf : 0 ≤ f ∧ f < 18446744073709551616) (ho : 30 ≤ op ∧ op ≤ 93) (hq : 30 ≤ q ∧ q ≤ 93) : onL (fset f op on) q = if q = op then on else onL f q := by
  have h := pw_bd ho
  have h1 := or_pw hf ho
  have h2 := andNot_pw hf ho
  rw [u64_or f (pw op) hf.1 hf.2 (by omega) (by omega)] at h1
  rw [u64_andNot f (pw op) hf.1 hf.2 (by omega) (by omega)] at h2
  obtain ⟨X, rfl⟩ := Int.eq_ofNat_of_zero_le hf.1
  have hp : (pw op).toNat = 2 ^ (op - 30).toNat := by rw [pw_nat, Int.toNat_natCast]
  rw [hp, Int.toNat_natCast] at h1 h2
  have hi : (op - 30).toNat < 64 := by omega
  have hj : (q - 30).toNat < 64 := by omega
  have hpl : 2 ^ (op - 30).toNat < 2 ^ 64 := Nat.pow_lt_pow_right (by decide) hi
  have hqo : ((op - 30).toNat = (q - 30).toNat) ↔ (q = op) := by omega
  cases on
  · have e : fset (X : Int) op false = if onL (X : Int) op then (X : Int) - pw op else (X : Int) := rfl
    rw [e, ← h2, onL_bit, onL_bit, Nat.testBit_and]
    have e2 : (18446744073709551615 - 2 ^ (op - 30).toNat) = 2 ^ 64 - (2 ^ (op - 30).toNat + 1) := by omega
    rw [e2, Nat.testBit_two_pow_sub_succ hpl, Nat.testBit_two_pow]
    by_cases hx : q = op
    · have := hqo.2 hx
      simp [hx]
    · have : ¬ ((op - 30).toNat = (q - 30).toNat) := fun h => hx (hqo.1 h)
      simp [this, hx, hj]
  · have e : fset (X : Int) op true = if onL (X : Int) op then (X : Int) else (X : Int) + pw op := rfl
    rw [e, ← h1, onL_bit, onL_bit, Nat.testBit_or, Nat.testBit_two_pow]
    by_cases hx : q = op
    · simp [hx]
    · have : ¬ ((op - 30).toNat = (q - 30).toNat) := fun h => hx (hqo.1 h)
      simp [this, hx]
theorem hasL_setL {t : Tm} (h : t.Ok) (op q : Int) (on : Bool) : hasL (setL t op on) q = if flagL op = true ∧ q = op then on else hasL t q := by
  unfold setL hasL
  by_cases hf : flagL op = true
  · rw [if_pos hf]
    by_cases hq : flagL q = true
    · rw [hq, Bool.true_and, Bool.true_and]
      show onL (fset t.f op on) q = _
      rw [onL_fset on h.f (flag_bd hf) (flag_bd hq)]
      simp [hf]
    · have : ¬ q = op := fun e => hq (e ▸ hf)
      simp [hq, this]
  · rw [if_neg hf]
    simp [hf]
theorem hasL_flag {t : Tm} {op : Int} (h : hasL t op = true) : flagL op = true := by
  unfold hasL at h
  simp at h
  exact h.1
theorem setL_same {t : Tm} {op : Int} {on : Bool} (h : hasL t op = on) : setL t op on = t := by
  unfold setL
  by_cases hf : flagL op = true
  · rw [if_pos hf]
    unfold hasL at h
    rw [hf, Bool.true_and] at h
    have : fset t.f op on = t.f := by
      unfold fset
      rw [h]
      cases on <;> simp
    rw [this]
  · rw [if_neg hf]
end Go.Proofs.YtfnicinnjkbedaaGreatDoor
