/- The settings that the tops type at, and which texts mean nothing in them, by contract. Condition: the setting is one. -/
import Derived.Test.YtfnicinnjkbedaaGreatDoorQN17
namespace Go.Proofs.YtfnicinnjkbedaaGreatDoor
open Go.RowKit Go.Kb
set_option maxRecDepth 100000

def plOps : List Int := [33, 37, 31, 34, 35, 39]
def plK (t : Tm) (k : Nat) : Tm := (plOps.take k).foldl (fun s op => setL s op false) (setL t 51 true)
def plT (t : Tm) : Tm := plK t 6
theorem plK_succ (t : Tm) {k : Nat} {op : Int} (h : plOps[k]? = some op) : plK t (k + 1) = setL (plK t k) op false := by
  unfold plK
  rw [List.take_add_one, h]
  simp
theorem plK_ok {t : Tm} (h : t.Ok) : ∀ k, (plK t k).Ok := by
  intro k
  unfold plK
  generalize plOps.take k = l
  have h0 : (setL t 51 true).Ok := setL_ok h _ _
  generalize setL t 51 true = s at h0
  induction l generalizing s with
  | nil => exact h0
  | cons x r ih => exact ih _ (setL_ok h0 _ _)
theorem plT_has {t : Tm} (h : t.Ok) (q : Int) : hasL (plT t) q = if q = 39 ∨ q = 35 ∨ q = 34 ∨ q = 31 ∨ q = 37 ∨ q = 33 then false else if q = 51 then true else hasL t q := by
  have o0 := setL_ok h 51 true
  have o1 := setL_ok o0 33 false
  have o2 := setL_ok o1 37 false
  have o3 := setL_ok o2 31 false
  have o4 := setL_ok o3 34 false
  have o5 := setL_ok o4 35 false
  show hasL (setL (setL (setL (setL (setL (setL (setL t 51 true) 33 false) 37 false) 31 false) 34 false) 35 false) 39 false) q = _
  rw [hasL_setL o5, hasL_setL o4, hasL_setL o3, hasL_setL o2, hasL_setL o1, hasL_setL o0, hasL_setL h]
  have f : ∀ op : Int, op = 39 ∨ op = 35 ∨ op = 34 ∨ op = 31 ∨ op = 37 ∨ op = 33 ∨ op = 51 → flagL op = true := by
    rintro op (rfl | rfl | rfl | rfl | rfl | rfl | rfl) <;> decide
  rw [f 39 (by omega), f 35 (by omega), f 34 (by omega), f 31 (by omega), f 37 (by omega), f 33 (by omega), f 51 (by omega)]
  simp only [true_and]
  repeat' split
  all_goals first | rfl | omega
theorem isL_setL (t : Tm) (op : Int) (on : Bool) (q c : Int) : isL (setL t op on) q c = isL t q c := by
  unfold setL
  split <;> rfl
theorem plT_pl {t : Tm} (h : t.Ok) : PlT (plT t) :=
  ⟨plK_ok h 6, by rw [plT_has h]; simp, by rw [plT_has h]; simp, by rw [plT_has h]; simp, by rw [plT_has h]; simp, by rw [plT_has h]; simp, by rw [plT_has h]; simp, by rw [plT_has h]; simp⟩
theorem pl_i (k : Nat) (hk : k < 6) : ∃ op, plOps[k]? = some op ∧ ∀ w, (Instr.index 60 (.agg #[.int .i64 33, .int .i64 37, .int .i64 31, .int .i64 34, .int .i64 35, .int .i64 39]) (.int .i64 k)).run Tryz.prog w = .ok (.int .i64 op) w := by
  match k, hk with
  | 0, _ => exact ⟨33, rfl, fun w => show (Instr.index 60 (.agg #[.int .i64 33, .int .i64 37, .int .i64 31, .int .i64 34, .int .i64 35, .int .i64 39]) (.int .i64 0)).run Tryz.prog w = .ok (.int .i64 33) w by kernel_rfl⟩
  | 1, _ => exact ⟨37, rfl, fun w => show (Instr.index 60 (.agg #[.int .i64 33, .int .i64 37, .int .i64 31, .int .i64 34, .int .i64 35, .int .i64 39]) (.int .i64 1)).run Tryz.prog w = .ok (.int .i64 37) w by kernel_rfl⟩
  | 2, _ => exact ⟨31, rfl, fun w => show (Instr.index 60 (.agg #[.int .i64 33, .int .i64 37, .int .i64 31, .int .i64 34, .int .i64 35, .int .i64 39]) (.int .i64 2)).run Tryz.prog w = .ok (.int .i64 31) w by kernel_rfl⟩
  | 3, _ => exact ⟨34, rfl, fun w => show (Instr.index 60 (.agg #[.int .i64 33, .int .i64 37, .int .i64 31, .int .i64 34, .int .i64 35, .int .i64 39]) (.int .i64 3)).run Tryz.prog w = .ok (.int .i64 34) w by kernel_rfl⟩
  | 4, _ => exact ⟨35, rfl, fun w => show (Instr.index 60 (.agg #[.int .i64 33, .int .i64 37, .int .i64 31, .int .i64 34, .int .i64 35, .int .i64 39]) (.int .i64 4)).run Tryz.prog w = .ok (.int .i64 35) w by kernel_rfl⟩
  | 5, _ => exact ⟨39, rfl, fun w => show (Instr.index 60 (.agg #[.int .i64 33, .int .i64 37, .int .i64 31, .int .i64 34, .int .i64 35, .int .i64 39]) (.int .i64 5)).run Tryz.prog w = .ok (.int .i64 39) w by kernel_rfl⟩
theorem info_tm {t : Tm} (h : t.Ok) : (Tryz.prog.info? 26).map (·.size) = some t.arr.size := by rw [Tm.size h]; kernel_rfl
set_option maxHeartbeats 800000 in
theorem plainSet_any (t : Tm) (w : World) (ht : t.Ok) : Calls Tryz.prog 6 #[.agg t.arr] w fun e w' => e = .returned (.agg (plT t).arr) ∧ Ext w w' := by
  have hi := info_tm ht
  have hS0 := Lib.hid (fun w' => set_any t 51 true w' ht)
  have hoK := Lib.hid (plK_ok ht)
  have B0 := Lib.hid (((Blk.new w 26 t.arr).alloc (.cells #[.int .u8 0, .int .u8 0, .int .u8 0, .int .u8 0, .int .u8 0, .int .u8 0, .int .u8 0, .int .u8 0, .int .u8 0, .int .u8 0, .int .u8 0, .int .u8 0, .int .u8 0, .int .u8 0, .int .u8 0, .int .u8 0, .int .u8 0, .int .u8 0, .int .u8 0, .int .u64 0, .int .u32 0, .int .u32 0, .int .i64 0, .int .i64 0] 26)))
  have hz : t.arr.size = 24 := Tm.size ht
  go_enter Tryz.func6, Tryz.ntmps6
  go_wp2_with (refine wpList_load_row rfl 26 _ rfl w.heap.size rfl 26 t.arr _ _ B0.out Tryz.underlying26 rfl hi ?_)
  refine (hS0.out _).mono ?_
  rintro e w1 ⟨rfl, E1⟩
  have C0 := Lib.hid (B0.out.ext E1)
  have C1 := Lib.hid ((Blk.at_ (w := w.alloc (.cells t.arr 26)) (B := w.heap.size + 1) 26 #[.int .u8 0, .int .u8 0, .int .u8 0, .int .u8 0, .int .u8 0, .int .u8 0, .int .u8 0, .int .u8 0, .int .u8 0, .int .u8 0, .int .u8 0, .int .u8 0, .int .u8 0, .int .u8 0, .int .u8 0, .int .u8 0, .int .u8 0, .int .u8 0, .int .u8 0, .int .u64 0, .int .u32 0, .int .u32 0, .int .i64 0, .int .i64 0] (by simp)).ext E1)
  have hsz : ∀ k, (plK t k).arr.size = 24 := fun k => Tm.size (hoK.out k)
  have HSZ := Lib.hid hsz
  have E01 : Ext w w1 := (by repeat (first | with_reducible exact Ext.refl _ | refine Ext.drewN ?_ _ | refine Ext.drew ?_ | refine Ext.alloc ?_ _ | assumption | (refine Below.trans ?_ (by assumption)) | (refine Ext.trans ?_ (by assumption)) | (refine Below.trans ?_ (Below.mono (by assumption) (by omega)))))
  clear hS0 E1 hsz
  go_wp2_with (refine Go.Kb.wpList_store_AF rfl 26 _ _ rfl w.heap.size (plK t 0).arr rfl rfl 26 t.arr C0.out (info_tm (hoK.out 0)) (by rw [HSZ.out 0]; exact hz) (Tm.one _) ?_; intro w2 H2 F2 E2)
  have C1 := Lib.hid (F2 _ _ _ (by omega) C1.out)
  have E02 : Ext w w2 := E2 w.heap.size w E01 (Nat.le_refl _)
  have C0 := Lib.hid H2
  clear H2 F2 E2 E01
  go_loopw [8] (fun i wr => ∃ k : Nat, k ≤ 6 ∧ i = .int .i64 k ∧ Hid (Blk wr w.heap.size 26 (plK t k).arr) ∧ Hid (Blk wr (w.heap.size + 1) 26 #[.int .u8 0, .int .u8 0, .int .u8 0, .int .u8 0, .int .u8 0, .int .u8 0, .int .u8 0, .int .u8 0, .int .u8 0, .int .u8 0, .int .u8 0, .int .u8 0, .int .u8 0, .int .u8 0, .int .u8 0, .int .u8 0, .int .u8 0, .int .u8 0, .int .u8 0, .int .u64 0, .int .u32 0, .int .u32 0, .int .i64 0, .int .i64 0]) ∧ Ext w wr) (fun i _ => 6 - (intOf i).toNat)
  case atStart => exact ⟨0, by omega, rfl, C0, C1, E02⟩
  case round =>
    obtain ⟨k, hk, rfl, D0, D1, hE⟩ := hrel
    by_cases hlt : k < 6
    · obtain ⟨op, hop, hx⟩ := pl_i k hlt
      have HOP := Lib.hid (plK_succ t hop)
      have HST := Lib.hid (fun w' => set_any (plK t k) op false w' (hoK.out k))
      rw [← HOP.out] at HST
      have hik := info_tm (hoK.out k)
      have hik1 := info_tm (hoK.out (k + 1))
      clear hop
      go_wp2_with (refine wpList_load_row rfl 26 _ rfl w.heap.size rfl 26 (plK t k).arr _ _ D0.out Tryz.underlying26 rfl hik ?_)
      refine (HST.out _).mono ?_
      rintro e w3 ⟨rfl, E3⟩
      have D0 := Lib.hid (D0.out.ext E3)
      have D1 := Lib.hid (D1.out.ext E3)
      have E03 : Ext w w3 := hE.trans E3
      clear E3
      go_wp2_with (refine Go.Kb.wpList_store_AF rfl 26 _ _ rfl w.heap.size (plK t (k + 1)).arr rfl rfl 26 (plK t k).arr D0.out hik1 (by rw [HSZ.out, HSZ.out]) (Tm.one _) ?_; intro w4 H4 F4 E4)
      have D1 := Lib.hid (F4 _ _ _ (by omega) D1.out)
      have E04 : Ext w w4 := E4 w.heap.size w E03 (Nat.le_refl _)
      have D0 := Lib.hid H4
      clear H4 F4 E4 E03
      go_roundw
      case rel => exact ⟨k + 1, by omega, by go_num, D0, D1, E04⟩
      case measure => simp [intOf]; omega
    · obtain rfl : k = 6 := by omega
      have hi6 := info_tm (hoK.out 6)
      go_wp2_with (first
        | (refine wpList_load_row rfl 26 _ rfl w.heap.size rfl 26 (plK t 6).arr _ _ D0.out Tryz.underlying26 rfl hi6 ?_)
        | (refine Go.Kb.wpList_store_AF rfl 26 _ _ rfl (w.heap.size + 1) (plK t 6).arr rfl rfl 26 _ D1.out hi6 (by rw [HSZ.out]; rfl) (Tm.one _) ?_; intro w4 H4 F4 E4))
      refine bodyPost_ret_by (results_cell_row Tryz.results6 _ _ (w.heap.size + 1) 26 _ _ _ rfl H4 Tryz.underlying26 rfl hi6) rfl ?_
      exact ⟨rfl, E4 w.heap.size w hE (Nat.le_succ _)⟩
end Go.Proofs.YtfnicinnjkbedaaGreatDoor
