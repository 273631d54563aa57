/- Written by chain.py of +Base +Rep MoA[-flag_any,-rbit_any]. No condition. -/
import Derived.Test.YtfnicinnjkbedaaGreatDoorBase
import Derived.Test.YtfnicinnjkbedaaGreatDoorRep
import Derived.Test.YtfnicinnjkbedaaGreatDoorRows
import Derived.Laws.ShiftsVarLaws
import Derived.Laws.Shifts
import Derived.IntWalk
namespace Go.Proofs.YtfnicinnjkbedaaGreatDoor
open Go.RowKit Go.Kb
set_option maxRecDepth 100000

/-- a setting: characters, flags, speeds, two numbers -/
structure Tm where
  c : List Int
  f : Int
  i : Int
  o : Int
  m : Int
  t : Int
deriving DecidableEq
def Tm.cells (t : Tm) : List Value := t.c.map (.int .u8) ++ [.int .u64 t.f, .int .u32 t.i, .int .u32 t.o, .int .i64 t.m, .int .i64 t.t]
def Tm.arr (t : Tm) : Array Value := t.cells.toArray
structure Tm.Ok (t : Tm) : Prop where
  c : t.c.length = 19
  b : ∀ x ∈ t.c, 0 ≤ x ∧ x ≤ 255
  f : 0 ≤ t.f ∧ t.f < 18446744073709551616
  i : 0 ≤ t.i ∧ t.i < 4294967296
  o : 0 ≤ t.o ∧ t.o < 4294967296
  m : -9223372036854775808 ≤ t.m ∧ t.m ≤ 9223372036854775807
  t : -9223372036854775808 ≤ t.t ∧ t.t ≤ 9223372036854775807
theorem Tm.len {t : Tm} (h : t.Ok) : t.cells.length = 24 := by simp [Tm.cells, h.c]
theorem Tm.size {t : Tm} (h : t.Ok) : t.arr.size = 24 := by simp [Tm.arr, Tm.len h]
theorem Tm.at_ {t : Tm} (h : t.Ok) {k : Nat} (hk : k < 19) : t.arr[k]? = some (.int .u8 (t.c.getD k 0)) := by
  have hc := h.c
  have h1 : t.c[k]? = some (t.c.getD k 0) := by rw [List.getD_eq_getElem?_getD, List.getElem?_eq_getElem (by omega)]; simp
  simp only [Tm.arr, Tm.cells, List.getElem?_toArray]
  rw [List.getElem?_append_left (by simp; omega), List.getElem?_map, h1]
  rfl
theorem Tm.at19 {t : Tm} (h : t.Ok) : t.arr[19]? = some (.int .u64 t.f) := by
  have hc := h.c
  simp only [Tm.arr, Tm.cells, List.getElem?_toArray]
  rw [List.getElem?_append_right (by simp; omega)]
  simp [hc]

theorem arr24 {cs : Array Value} (h : cs.size = 24) : #[cs[0]'(by omega), cs[1]'(by omega), cs[2]'(by omega), cs[3]'(by omega), cs[4]'(by omega), cs[5]'(by omega), cs[6]'(by omega), cs[7]'(by omega), cs[8]'(by omega), cs[9]'(by omega), cs[10]'(by omega), cs[11]'(by omega), cs[12]'(by omega), cs[13]'(by omega), cs[14]'(by omega), cs[15]'(by omega), cs[16]'(by omega), cs[17]'(by omega), cs[18]'(by omega), cs[19]'(by omega), cs[20]'(by omega), cs[21]'(by omega), cs[22]'(by omega), cs[23]'(by omega)] = cs := by
  apply Array.ext
  · simp [h]
  · intro i h1 h2
    have : i < 24 := by omega
    rcases i with _ | _ | _ | _ | _ | _ | _ | _ | _ | _ | _ | _ | _ | _ | _ | _ | _ | _ | _ | _ | _ | _ | _ | _ | i
    all_goals first | rfl | omega
def flagL (op : Int) : Bool := decide (30 ≤ op ∧ op ≤ 42 ∨ 50 ≤ op ∧ op ≤ 62 ∨ 70 ≤ op ∧ op ≤ 75 ∨ 90 ≤ op ∧ op ≤ 93)
def pw (op : Int) : Int := 2 ^ (op - 30).toNat
def charL (t : Tm) (op : Int) : Int × Bool := if 1 ≤ op ∧ op ≤ 18 ∧ t.c.getD op.toNat 0 ≠ 255 then (t.c.getD op.toNat 0, true) else (0, false)
theorem pw_bd {op : Int} (h : 30 ≤ op ∧ op ≤ 93) : 1 ≤ pw op ∧ pw op ≤ 9223372036854775808 := by
  unfold pw
  have h1 : 2 ^ (op - 30).toNat ≤ 2 ^ 63 := Nat.pow_le_pow_right (by decide) (by omega)
  have h2 : 0 < 2 ^ (op - 30).toNat := Nat.two_pow_pos _
  have h3 : (2 : Int) ^ (op - 30).toNat = ((2 ^ (op - 30).toNat : Nat) : Int) := by simp
  rw [h3]
  omega

set_option maxHeartbeats 400000 in
theorem groups_any (w : World) : Calls Tryz.prog 54 #[] w fun e w' => e = .returned (.agg #[.int .i64 30, .int .i64 42, .int .i64 50, .int .i64 62, .int .i64 70, .int .i64 75, .int .i64 90, .int .i64 93]) ∧ Ext w w' := by
  go_enter Tryz.func54, Tryz.ntmps54
  go_wp2
  refine bodyPost_ret (v := .agg #[.int .i64 30, .int .i64 42, .int .i64 50, .int .i64 62, .int .i64 70, .int .i64 75, .int .i64 90, .int .i64 93]) (by simp [results, Tryz.results54, go_sem]) rfl ?_
  exact ⟨rfl, (by repeat (first | with_reducible exact Ext.refl _ | refine Ext.drewN ?_ _ | refine Ext.drew ?_ | refine Ext.alloc ?_ _ | assumption | (refine Below.trans ?_ (by assumption)) | (refine Ext.trans ?_ (by assumption)) | (refine Below.trans ?_ (Below.mono (by assumption) (by omega)))))⟩
theorem bit_any (op : Int) (w : World) (h : 30 ≤ op ∧ op ≤ 93) : Calls Tryz.prog 28 #[.int .i64 op] w fun e w' => e = .returned (.int .u64 (pw op)) ∧ Ext w w' := by
  obtain ⟨h1, h2⟩ := h
  have h3 : IntKind.i64.wrap (op - 30) = op - 30 := IntWalk.i64_in _ (by omega)
  have h4 : min (op - 30).toNat 64 = (op - 30).toNat := by omega
  have h5 : IntKind.u64.wrap (2 ^ (op - 30).toNat) = pw op := by
    have := pw_bd ⟨h1, h2⟩
    unfold pw at *
    simp only [IntKind.wrap, IntKind.bits, IntKind.signed]
    simp
    omega
  go_enter Tryz.func28, Tryz.ntmps28
  go_wp2
  go_ret
  exact ⟨by simp, (by repeat (first | with_reducible exact Ext.refl _ | refine Ext.drewN ?_ _ | refine Ext.drew ?_ | refine Ext.alloc ?_ _ | assumption | (refine Below.trans ?_ (by assumption)) | (refine Ext.trans ?_ (by assumption)) | (refine Below.trans ?_ (Below.mono (by assumption) (by omega)))))⟩
theorem pw_succ {op : Int} (h : 30 ≤ op) : pw (op + 1) = 2 * pw op := by
  unfold pw
  rw [show (op + 1 - 30).toNat = (op - 30).toNat + 1 by omega, Int.pow_succ, Int.mul_comm]
theorem isFlag_any (op : Int) (w : World) : Calls Tryz.prog 27 #[.int .i64 op] w fun e w' => e = .returned (.bool (flagL op)) ∧ Ext w w' := by
  have i0 : ∀ w, (Instr.index 125 (.agg #[.int .i64 30, .int .i64 42, .int .i64 50, .int .i64 62, .int .i64 70, .int .i64 75, .int .i64 90, .int .i64 93]) (.int .i64 0)).run Tryz.prog w = .ok (.agg #[.int .i64 30, .int .i64 42]) w := fun _ => by kernel_rfl
  have i1 : ∀ w, (Instr.index 125 (.agg #[.int .i64 30, .int .i64 42, .int .i64 50, .int .i64 62, .int .i64 70, .int .i64 75, .int .i64 90, .int .i64 93]) (.int .i64 1)).run Tryz.prog w = .ok (.agg #[.int .i64 50, .int .i64 62]) w := fun _ => by kernel_rfl
  have i2 : ∀ w, (Instr.index 125 (.agg #[.int .i64 30, .int .i64 42, .int .i64 50, .int .i64 62, .int .i64 70, .int .i64 75, .int .i64 90, .int .i64 93]) (.int .i64 2)).run Tryz.prog w = .ok (.agg #[.int .i64 70, .int .i64 75]) w := fun _ => by kernel_rfl
  have i3 : ∀ w, (Instr.index 125 (.agg #[.int .i64 30, .int .i64 42, .int .i64 50, .int .i64 62, .int .i64 70, .int .i64 75, .int .i64 90, .int .i64 93]) (.int .i64 3)).run Tryz.prog w = .ok (.agg #[.int .i64 90, .int .i64 93]) w := fun _ => by kernel_rfl
  go_enter Tryz.func27, Tryz.ntmps27
  go_wp2_with ((go_at_call 54; refine (groups_any _).mono ?_; rintro e w1 ⟨rfl, E1⟩))
  go_loopw [4, 6] (fun _ i wr => ∃ k : Int, 0 ≤ k ∧ k ≤ 4 ∧ i = .int .i64 k ∧ (0 < k → ¬ (30 ≤ op ∧ op ≤ 42)) ∧ (1 < k → ¬ (50 ≤ op ∧ op ≤ 62)) ∧ (2 < k → ¬ (70 ≤ op ∧ op ≤ 75)) ∧ (3 < k → ¬ (90 ≤ op ∧ op ≤ 93)) ∧ Ext w wr) (fun _ i _ => (4 - intOf i).toNat)
  case atStart => exact ⟨0, by omega, by omega, rfl, by omega, by omega, by omega, by omega, E1⟩
  case round =>
    obtain ⟨k, hk0, hk, rfl, g0, g1, g2, g3, hE⟩ := hrel
    have hk' : k = 0 ∨ k = 1 ∨ k = 2 ∨ k = 3 ∨ k = 4 := by omega
    rcases hk' with rfl | rfl | rfl | rfl | rfl
    all_goals go_wp2
    all_goals first
      | (go_ret
         refine ⟨?_, (by repeat (first | with_reducible exact Ext.refl _ | refine Ext.drewN ?_ _ | refine Ext.drew ?_ | refine Ext.alloc ?_ _ | assumption | (refine Below.trans ?_ (by assumption)) | (refine Ext.trans ?_ (by assumption)) | (refine Below.trans ?_ (Below.mono (by assumption) (by omega)))))⟩
         show Ending.returned (Value.bool _) = _
         congr 2
         rw [Bool.eq_iff_iff]
         simp [flagL]
         omega)
      | (go_roundw
         case rel => exact ⟨_, by omega, by omega, rfl, by omega, by omega, by omega, by omega, (by repeat (first | with_reducible exact Ext.refl _ | refine Ext.drewN ?_ _ | refine Ext.drew ?_ | refine Ext.alloc ?_ _ | assumption | (refine Below.trans ?_ (by assumption)) | (refine Ext.trans ?_ (by assumption)) | (refine Below.trans ?_ (Below.mono (by assumption) (by omega)))))⟩
         case measure => simp [intOf])
end Go.Proofs.YtfnicinnjkbedaaGreatDoor
