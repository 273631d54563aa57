/- Sets of signals: asked, with one, without one; by contract. Conditions: the set has 64 bits. -/
import Derived.Test.YteandiddfokfjaaE18
import Derived.Laws.ShiftsVarLaws
import Derived.Laws.Shifts
namespace Go.Proofs.Yteandiddfokfjaa
open Go.RowKit Go.Kb Go.Kb.Bits

abbrev U64 (s : Int) : Prop := 0 ≤ s ∧ s < 18446744073709551616
def bitL (sig : Int) : Int := if isL sig then pw sig else 0
def hasL (s sig : Int) : Bool := isL sig && onL s sig
def addL (s sig : Int) : Int := if isL sig then fset s sig true else s
def delL (s sig : Int) : Int := if isL sig then fset s sig false else s
theorem sig_bd {sig : Int} (h : isL sig = true) : 0 ≤ sig ∧ sig ≤ 63 := by have := isL_bd h; omega
theorem addL_bd {s : Int} (h : U64 s) (sig : Int) : U64 (addL s sig) := by
  unfold addL
  by_cases hs : isL sig = true
  · rw [if_pos hs]; exact fset_bd true h (sig_bd hs)
  · rw [if_neg hs]; exact h
theorem delL_bd {s : Int} (h : U64 s) (sig : Int) : U64 (delL s sig) := by
  unfold delL
  by_cases hs : isL sig = true
  · rw [if_pos hs]; exact fset_bd false h (sig_bd hs)
  · rw [if_neg hs]; exact h
theorem bit_zero {s : Int} (h : U64 s) : bits .and .u64 s 0 = 0 ∧ bits .or .u64 s 0 = s ∧ bits .andNot .u64 s 0 = s := by
  obtain ⟨h0, h1⟩ := h
  rw [u64_and s 0 h0 h1 (by omega) (by omega), u64_or s 0 h0 h1 (by omega) (by omega), u64_andNot s 0 h0 h1 (by omega) (by omega)]
  obtain ⟨X, rfl⟩ := Int.eq_ofNat_of_zero_le h0
  have hx : X < 2 ^ 64 := by omega
  have e := andNot_nat 64 X 0 hx (by decide)
  simp only [Nat.and_zero, Nat.add_zero, Nat.sub_zero] at e
  have e2 : (18446744073709551615 : Nat) = 2 ^ 64 - 1 := by decide
  refine ⟨by simp, by simp, ?_⟩
  simp only [Int.toNat_natCast, Int.toNat_zero, Nat.sub_zero]
  rw [e2, e]
theorem and_bit {s : Int} (h : U64 s) (sig : Int) : (!(bits .and .u64 s (bitL sig) == 0)) = hasL s sig := by
  unfold bitL hasL
  cases hs : isL sig
  · simp [(bit_zero h).1]
  · have hb := pw_bd (sig_bd hs)
    rw [if_pos rfl, and_pw h (sig_bd hs), Bool.true_and]
    cases onL s sig
    · rfl
    · have : (pw sig == 0) = false := by rw [beq_eq_false_iff_ne]; omega
      simp [this]
theorem or_bit {s : Int} (h : U64 s) (sig : Int) : bits .or .u64 s (bitL sig) = addL s sig := by
  unfold bitL addL
  cases hs : isL sig
  · simp [(bit_zero h).2.1]
  · rw [if_pos rfl, if_pos rfl, or_pw h (sig_bd hs)]; rfl
theorem andNot_bit {s : Int} (h : U64 s) (sig : Int) : bits .andNot .u64 s (bitL sig) = delL s sig := by
  unfold bitL delL
  cases hs : isL sig
  · simp [(bit_zero h).2.2]
  · rw [if_pos rfl, if_pos rfl, andNot_pw h (sig_bd hs)]; rfl
theorem bit_any (sig : Int) (w : World) : Calls Try.prog 34 #[.int .i64 sig] w fun e w' => e = .returned (.int .u64 (bitL sig)) ∧ Ext w w' := by
  have HI := Lib.hid fun w' => is_any sig w'
  unfold bitL
  cases hs : isL sig
  · rw [hs] at HI
    go_enter Try.func34, Try.ntmps34
    go_wp2_with ((go_at_call 39; (with_reducible refine (HI.out _).mono ?_); rintro e w1 ⟨rfl, E1⟩))
    go_ret
    exact ⟨rfl, (by repeat (first | with_reducible exact Ext.refl _ | refine Ext.drewN ?_ _ | refine Ext.drew ?_ | refine Ext.alloc ?_ _ | assumption | (refine Below.trans ?_ (by assumption)) | (refine Ext.trans ?_ (by assumption)) | (refine Below.trans ?_ (Below.mono (by assumption) (by omega)))))⟩
  · rw [hs] at HI
    obtain ⟨h1, h2⟩ := isL_bd hs
    have h4 : min sig.toNat 64 = sig.toNat := by omega
    have h5 : IntKind.u64.wrap (2 ^ sig.toNat) = pw sig := by
      have := pw_bd (sig_bd hs)
      unfold pw at *
      simp only [IntKind.wrap, IntKind.bits, IntKind.signed]
      simp
      omega
    go_enter Try.func34, Try.ntmps34
    go_wp2_with ((go_at_call 39; (with_reducible refine (HI.out _).mono ?_); rintro e w1 ⟨rfl, E1⟩))
    go_ret
    exact ⟨by simp, (by repeat (first | with_reducible exact Ext.refl _ | refine Ext.drewN ?_ _ | refine Ext.drew ?_ | refine Ext.alloc ?_ _ | assumption | (refine Below.trans ?_ (by assumption)) | (refine Ext.trans ?_ (by assumption)) | (refine Below.trans ?_ (Below.mono (by assumption) (by omega)))))⟩
set_option maxHeartbeats 800000 in
theorem has_any (s sig : Int) (w : World) (h : U64 s) : Calls Try.prog 9 #[.int .u64 s, .int .i64 sig] w fun e w' => e = .returned (.bool (hasL s sig)) ∧ Ext w w' := by
  have HB := Lib.hid fun w' => bit_any sig w'
  have hv := and_bit h sig
  generalize hr : hasL s sig = r at *
  generalize bitL sig = b at *
  clear hr h
  go_enter Try.func9, Try.ntmps9
  go_wp2_with ((go_at_call 34; (with_reducible refine (HB.out _).mono ?_); rintro e w1 ⟨rfl, E1⟩))
  go_ret
  refine ⟨?_, (by repeat (first | with_reducible exact Ext.refl _ | refine Ext.drewN ?_ _ | refine Ext.drew ?_ | refine Ext.alloc ?_ _ | assumption | (refine Below.trans ?_ (by assumption)) | (refine Ext.trans ?_ (by assumption)) | (refine Below.trans ?_ (Below.mono (by assumption) (by omega)))))⟩
  rw [← hv]
  rfl
set_option maxHeartbeats 800000 in
theorem add_any (s sig : Int) (w : World) (h : U64 s) : Calls Try.prog 11 #[.int .u64 s, .int .i64 sig] w fun e w' => e = .returned (.int .u64 (addL s sig)) ∧ Ext w w' := by
  have HB := Lib.hid fun w' => bit_any sig w'
  have hv := or_bit h sig
  generalize hr : addL s sig = r at *
  generalize bitL sig = b at *
  clear hr h
  go_enter Try.func11, Try.ntmps11
  go_wp2_with ((go_at_call 34; (with_reducible refine (HB.out _).mono ?_); rintro e w1 ⟨rfl, E1⟩))
  go_ret
  refine ⟨?_, (by repeat (first | with_reducible exact Ext.refl _ | refine Ext.drewN ?_ _ | refine Ext.drew ?_ | refine Ext.alloc ?_ _ | assumption | (refine Below.trans ?_ (by assumption)) | (refine Ext.trans ?_ (by assumption)) | (refine Below.trans ?_ (Below.mono (by assumption) (by omega)))))⟩
  rw [← hv]
  rfl
set_option maxHeartbeats 800000 in
theorem del_any (s sig : Int) (w : World) (h : U64 s) : Calls Try.prog 13 #[.int .u64 s, .int .i64 sig] w fun e w' => e = .returned (.int .u64 (delL s sig)) ∧ Ext w w' := by
  have HB := Lib.hid fun w' => bit_any sig w'
  have hv := andNot_bit h sig
  generalize hr : delL s sig = r at *
  generalize bitL sig = b at *
  clear hr h
  go_enter Try.func13, Try.ntmps13
  go_wp2_with ((go_at_call 34; (with_reducible refine (HB.out _).mono ?_); rintro e w1 ⟨rfl, E1⟩))
  go_ret
  refine ⟨?_, (by repeat (first | with_reducible exact Ext.refl _ | refine Ext.drewN ?_ _ | refine Ext.drew ?_ | refine Ext.alloc ?_ _ | assumption | (refine Below.trans ?_ (by assumption)) | (refine Ext.trans ?_ (by assumption)) | (refine Below.trans ?_ (Below.mono (by assumption) (by omega)))))⟩
  rw [← hv]
  rfl
end Go.Proofs.Yteandiddfokfjaa
