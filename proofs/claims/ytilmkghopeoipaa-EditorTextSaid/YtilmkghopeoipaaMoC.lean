/- A terminal's flags, looked at, by contract. Conditions: the setting is one. -/
import Derived.Test.YtilmkghopeoipaaMoA
import Derived.Laws.BitsAllLaws
namespace Go.Proofs.Ytilmkghopeoipaa
open Go.RowKit Go.Kb

theorem or_and_nat : ∀ (n x y : Nat), x < 2 ^ n → (x ||| y) + (x &&& y) = x + y := by
  intro n
  induction n with
  | zero => intro x y h; obtain rfl : x = 0 := by omega
            simp
  | succ n ih =>
    intro x y h
    have h1 := ih (x / 2) (y / 2) (by rw [Nat.pow_succ] at h; omega)
    have h2 := Nat.or_div_two (a := x) (b := y)
    have h3 := Nat.and_div_two (a := x) (b := y)
    have h4 := Nat.or_mod_two_eq_one (a := x) (b := y)
    have h5 := Nat.and_mod_two_eq_one (a := x) (b := y)
    omega
theorem andNot_nat : ∀ (n x y : Nat), x < 2 ^ n → y < 2 ^ n → (x &&& (2 ^ n - 1 - y)) + (x &&& y) = x := by
  intro n
  induction n with
  | zero => intro x y h h2; obtain rfl : x = 0 := by omega
            simp
  | succ n ih =>
    intro x y h hy
    rw [Nat.pow_succ] at *
    have h1 := ih (x / 2) (y / 2) (by omega) (by omega)
    have h0 : (2 ^ n * 2 - 1 - y) / 2 = 2 ^ n - 1 - y / 2 := by omega
    have h2 := Nat.and_div_two (a := x) (b := 2 ^ n * 2 - 1 - y)
    have h3 := Nat.and_div_two (a := x) (b := y)
    have h4 := Nat.and_mod_two_eq_one (a := x) (b := 2 ^ n * 2 - 1 - y)
    have h5 := Nat.and_mod_two_eq_one (a := x) (b := y)
    rw [h0] at h2
    omega
/-- is a flag's bit set? -/
def onL (f op : Int) : Bool := decide (f / pw op % 2 = 1)
theorem pw_nat {op : Int} : pw op = ((2 ^ (op - 30).toNat : Nat) : Int) := by simp [pw]
theorem and_pw {f op : Int} (hf : 0 ≤ f ∧ f < 18446744073709551616) (ho : 30 ≤ op ∧ op ≤ 93) : bits .and .u64 f (pw op) = if onL f op then pw op else 0 := by
  have h := pw_bd ho
  rw [u64_and f (pw op) hf.1 hf.2 (by omega) (by omega)]
  obtain ⟨X, rfl⟩ := Int.eq_ofNat_of_zero_le hf.1
  unfold onL
  rw [pw_nat, Int.toNat_natCast, Int.toNat_natCast, nat_bit]
  generalize hP : 2 ^ (op - 30).toNat = P
  have e : ((X : Int) / (P : Int) % 2) = ((X / P % 2 : Nat) : Int) := by simp
  rw [e]
  have h2 : X / P % 2 = 0 ∨ X / P % 2 = 1 := by omega
  rcases h2 with h2 | h2 <;> simp [h2]
theorem or_pw {f op : Int} (hf : 0 ≤ f ∧ f < 18446744073709551616) (ho : 30 ≤ op ∧ op ≤ 93) : bits .or .u64 f (pw op) = if onL f op then f else f + pw op := by
  have h := pw_bd ho
  have ha := and_pw hf ho
  rw [u64_and f (pw op) hf.1 hf.2 (by omega) (by omega)] at ha
  rw [u64_or f (pw op) hf.1 hf.2 (by omega) (by omega)]
  have h1 := or_and_nat 64 f.toNat (pw op).toNat (by omega)
  by_cases hx : onL f op = true
  · rw [if_pos hx] at ha ⊢; omega
  · rw [if_neg hx] at ha ⊢; omega
theorem andNot_pw {f op : Int} (hf : 0 ≤ f ∧ f < 18446744073709551616) (ho : 30 ≤ op ∧ op ≤ 93) : bits .andNot .u64 f (pw op) = if onL f op then f - pw op else f := by
  have h := pw_bd ho
  have ha := and_pw hf ho
  rw [u64_and f (pw op) hf.1 hf.2 (by omega) (by omega)] at ha
  rw [u64_andNot f (pw op) hf.1 hf.2 (by omega) (by omega)]
  have h1 := andNot_nat 64 f.toNat (pw op).toNat (by omega) (by omega)
  have h2 : (2 : Nat) ^ 64 - 1 = 18446744073709551615 := by decide
  rw [h2] at h1
  by_cases hx : onL f op = true
  · rw [if_pos hx] at ha ⊢; omega
  · rw [if_neg hx] at ha ⊢; omega
def hasL (t : Tm) (op : Int) : Bool := flagL op && onL t.f op
theorem flag_bd {op : Int} (h : flagL op = true) : 30 ≤ op ∧ op ≤ 93 := by
  simp [flagL] at h; omega

set_option maxHeartbeats 800000 in
theorem has_any (t : Tm) (op : Int) (w : World) (h : t.Ok) : Calls Try.prog 12 #[.agg t.arr, .int .i64 op] w fun e w' => e = .returned (.bool (hasL t op)) ∧ Ext w w' := by
  have hn := t.size h
  have hat := Tm.at19 h
  have hf := h.f
  unfold hasL
  generalize t.arr = cs at hn hat ⊢
  have hb : ∀ o, ((w.alloc (.cells cs 26)).alloc o).cell? ⟨w.heap.size, 19, none⟩ = some (.int .u64 t.f) := fun o => by rw [((Blk.new w 26 cs).alloc o).cell, hat]
  have hb0 : (w.alloc (.cells cs 26)).cell? ⟨w.heap.size, 19, none⟩ = some (.int .u64 t.f) := by rw [(Blk.new w 26 cs).cell, hat]
  generalize t.f = f at *
  clear h hat
  by_cases hg : flagL op = true
  · have hp := and_pw hf (flag_bd hg)
    have hO := flag_bd hg
    have hne : ¬ pw op = 0 := by have := pw_bd hO; omega
    rw [hg, Bool.true_and]
    go_enter Try.func12, Try.ntmps12
    go_wp2
    go_region_law (go_simp; first
      | ((go_at_call 25; (with_reducible refine (isFlag_any op _).mono ?_); rintro e w1 ⟨rfl, E1⟩); rw [hg]; have hc1 := Bc E1; have hf1 := Bf E1; have hz1 := Below.size E1; (try simp at hz1); have hd1 := fun o => hc1 w.heap.size o (by (try simp) <;> omega))
      | ((go_at_call 26; (with_reducible refine (bit_any op _ hO).mono ?_); rintro e w2 ⟨rfl, E2⟩); have hc2 := Bc E2; have hf2 := Bf E2; have hz2 := Below.size E2; (try simp at hz2); have hd2 := fun o => hc2 w.heap.size o (by (try simp) <;> omega)))
    all_goals go_wp2
    all_goals go_ret
    all_goals refine ⟨?_, (by repeat (first | with_reducible exact Ext.refl _ | refine Ext.drewN ?_ _ | refine Ext.drew ?_ | refine Ext.alloc ?_ _ | assumption | (refine Below.trans ?_ (by assumption)) | (refine Ext.trans ?_ (by assumption)) | (refine Below.trans ?_ (Below.mono (by assumption) (by omega)))))⟩
    all_goals show Ending.returned (Value.bool _) = _
    all_goals by_cases hx : onL f op = true
    all_goals simp [hne]
  · have hg' : flagL op = false := by simpa using hg
    rw [hg', Bool.false_and]
    go_enter Try.func12, Try.ntmps12
    go_wp2
    first | go_region_law (go_simp; (go_at_call 25; (with_reducible refine (isFlag_any op _).mono ?_); rintro e w1 ⟨rfl, E1⟩); rw [hg']; have hc1 := Bc E1; have hf1 := Bf E1; have hz1 := Below.size E1; (try simp at hz1); have hd1 := fun o => hc1 w.heap.size o (by (try simp) <;> omega)) | fail "region"
    all_goals go_wp2
    all_goals go_ret
    all_goals exact ⟨rfl, (by repeat (first | with_reducible exact Ext.refl _ | refine Ext.drewN ?_ _ | refine Ext.drew ?_ | refine Ext.alloc ?_ _ | assumption | (refine Below.trans ?_ (by assumption)) | (refine Ext.trans ?_ (by assumption)) | (refine Below.trans ?_ (Below.mono (by assumption) (by omega)))))⟩
theorem div_pw {f op : Int} (hf : 0 ≤ f ∧ f < 18446744073709551616) (ho : 30 ≤ op ∧ op ≤ 93) : IntKind.u64.wrap (f.tdiv (pw op)) = f / pw op ∧ 0 ≤ f / pw op ∧ (f / pw op).tmod 2 = f / pw op % 2 ∧ IntKind.u64.wrap (f / pw op % 2) = f / pw op % 2 := by
  have h := pw_bd ho
  have h1 : 0 ≤ f / pw op := Int.ediv_nonneg hf.1 (by omega)
  have h2 : f / pw op ≤ f := Int.ediv_le_self _ hf.1
  have h3 : f.tdiv (pw op) = f / pw op := Int.tdiv_eq_ediv_of_nonneg hf.1
  refine ⟨?_, h1, Int.tmod_eq_emod_of_nonneg h1, ?_⟩
  · rw [h3, IntKind.wrap_u64]; omega
  · rw [IntKind.wrap_u64]; omega
set_option maxHeartbeats 800000 in
theorem rhas_any (t : Tm) (op : Int) (w : World) (h : t.Ok) : Calls Try.prog 34 #[.agg t.arr, .int .i64 op] w fun e w' => e = .returned (.bool (hasL t op)) ∧ Ext w w' := by
  have hn := t.size h
  have hat := Tm.at19 h
  have hf := h.f
  unfold hasL
  generalize t.arr = cs at hn hat ⊢
  have hb : ∀ o, ((w.alloc (.cells cs 26)).alloc o).cell? ⟨w.heap.size, 19, none⟩ = some (.int .u64 t.f) := fun o => by rw [((Blk.new w 26 cs).alloc o).cell, hat]
  have hb0 : (w.alloc (.cells cs 26)).cell? ⟨w.heap.size, 19, none⟩ = some (.int .u64 t.f) := by rw [(Blk.new w 26 cs).cell, hat]
  generalize t.f = f at *
  clear h hat
  by_cases hg : flagL op = true
  · have hO := flag_bd hg
    have hne : ¬ pw op = 0 := by have := pw_bd hO; omega
    have hd := div_pw hf hO
    rw [hg, Bool.true_and]
    go_enter Try.func34, Try.ntmps34
    go_wp2
    go_region_law (go_simp; first
      | ((go_at_call 35; (with_reducible refine (flag_any op _).mono ?_); rintro e w1 ⟨rfl, E1⟩); rw [hg]; have hc1 := Bc E1; have hf1 := Bf E1; have hz1 := Below.size E1; (try simp at hz1); have hd1 := fun o => hc1 w.heap.size o (by (try simp) <;> omega))
      | ((go_at_call 36; (with_reducible refine (rbit_any op _ hO).mono ?_); rintro e w2 ⟨rfl, E2⟩); have hc2 := Bc E2; have hf2 := Bf E2; have hz2 := Below.size E2; (try simp at hz2); have hd2 := fun o => hc2 w.heap.size o (by (try simp) <;> omega)))
    all_goals go_wp2
    all_goals go_ret
    all_goals refine ⟨?_, (by repeat (first | with_reducible exact Ext.refl _ | refine Ext.drewN ?_ _ | refine Ext.drew ?_ | refine Ext.alloc ?_ _ | assumption | (refine Below.trans ?_ (by assumption)) | (refine Ext.trans ?_ (by assumption)) | (refine Below.trans ?_ (Below.mono (by assumption) (by omega)))))⟩
    all_goals show Ending.returned (Value.bool _) = _
    all_goals exact congrArg (fun b => Ending.returned (Value.bool b)) (show (f / pw op % 2 == 1) = decide (f / pw op % 2 = 1) by rw [Bool.eq_iff_iff]; simp)
  · have hg' : flagL op = false := by simpa using hg
    rw [hg', Bool.false_and]
    go_enter Try.func34, Try.ntmps34
    go_wp2
    first | go_region_law (go_simp; (go_at_call 35; (with_reducible refine (flag_any op _).mono ?_); rintro e w1 ⟨rfl, E1⟩); rw [hg']; have hc1 := Bc E1; have hf1 := Bf E1; have hz1 := Below.size E1; (try simp at hz1); have hd1 := fun o => hc1 w.heap.size o (by (try simp) <;> omega)) | fail "region"
    all_goals go_wp2
    all_goals go_ret
    all_goals exact ⟨rfl, (by repeat (first | with_reducible exact Ext.refl _ | refine Ext.drewN ?_ _ | refine Ext.drew ?_ | refine Ext.alloc ?_ _ | assumption | (refine Below.trans ?_ (by assumption)) | (refine Ext.trans ?_ (by assumption)) | (refine Below.trans ?_ (Below.mono (by assumption) (by omega)))))⟩
end Go.Proofs.Ytilmkghopeoipaa
