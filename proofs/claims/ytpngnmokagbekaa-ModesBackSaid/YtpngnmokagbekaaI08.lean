/- The document's word on how a terminal is set at first, by contract. No condition. -/
import Derived.Test.YtpngnmokagbekaaH08
namespace Go.Proofs.Ytpngnmokagbekaa
open Go.RowKit Go.Kb

def d1 (k : Nat) : Tm := ⟨(List.range 19).map fun j => if 1 ≤ j ∧ j < k then 255 else 0, 0, 38400, 38400, 1, 0⟩
def tab0 : List (Int × Int) := [(1, 3), (2, 28), (3, 127), (4, 21), (5, 4), (8, 17), (9, 19), (10, 26), (12, 18), (13, 23), (14, 22), (18, 15)]
def d2 (j : Nat) : Tm := ⟨(tab0.take j).foldl (fun c p => c.set p.1.toNat p.2) (d1 19).c, 0, 38400, 38400, 1, 0⟩
def d3 (k : Nat) : Tm := (ops0.take k).foldl (fun t op => setL t op true) (d2 12)
theorem d1_ok (k : Nat) : (d1 k).Ok := by
  refine ⟨by simp [d1], ?_, ⟨by simp [d1], by simp [d1]⟩, ⟨by simp [d1], by simp [d1]⟩, ⟨by simp [d1], by simp [d1]⟩, ⟨by simp [d1], by simp [d1]⟩, ⟨by simp [d1], by simp [d1]⟩⟩
  intro x hx
  simp only [d1, List.mem_map, List.mem_range] at hx
  obtain ⟨j, hj, rfl⟩ := hx
  show 0 ≤ ite _ _ _ ∧ ite _ _ _ ≤ (255 : Int)
  split <;> omega
theorem d1_succ {k : Nat} (h1 : 1 ≤ k) (h : k < 19) : (d1 k).arr.setIfInBounds k (.int .u8 255) = (d1 (k + 1)).arr := by
  rw [Tm.setC (d1_ok k) h]
  have : ∀ k : Nat, k < 19 → 1 ≤ k → (d1 k).c.set k 255 = (d1 (k + 1)).c := by decide
  have e := this k h h1
  show (⟨(d1 k).c.set k 255, 0, 38400, 38400, 1, 0⟩ : Tm).arr = (⟨(d1 (k + 1)).c, 0, 38400, 38400, 1, 0⟩ : Tm).arr
  rw [e]
theorem tab_step (j : Nat) (hj : j < 12) : ∃ (q : Nat) (b : Int), (∀ w, (Instr.index 63 (.agg #[.int .u8 1, .int .u8 3, .int .u8 2, .int .u8 28, .int .u8 3, .int .u8 127, .int .u8 4, .int .u8 21, .int .u8 5, .int .u8 4, .int .u8 8, .int .u8 17, .int .u8 9, .int .u8 19, .int .u8 10, .int .u8 26, .int .u8 12, .int .u8 18, .int .u8 13, .int .u8 23, .int .u8 14, .int .u8 22, .int .u8 18, .int .u8 15]) (.int .i64 (j : Int))).run Try.prog w = .ok (.agg #[.int .u8 (q : Int), .int .u8 b]) w) ∧ q < 19 ∧ (d2 j).arr.setIfInBounds q (.int .u8 b) = (d2 (j + 1)).arr := by
  rcases j with _ | _ | _ | _ | _ | _ | _ | _ | _ | _ | _ | _ | j
  · exact ⟨1, 3, fun w => by kernel_rfl, by decide, by kernel_rfl⟩
  · exact ⟨2, 28, fun w => by kernel_rfl, by decide, by kernel_rfl⟩
  · exact ⟨3, 127, fun w => by kernel_rfl, by decide, by kernel_rfl⟩
  · exact ⟨4, 21, fun w => by kernel_rfl, by decide, by kernel_rfl⟩
  · exact ⟨5, 4, fun w => by kernel_rfl, by decide, by kernel_rfl⟩
  · exact ⟨8, 17, fun w => by kernel_rfl, by decide, by kernel_rfl⟩
  · exact ⟨9, 19, fun w => by kernel_rfl, by decide, by kernel_rfl⟩
  · exact ⟨10, 26, fun w => by kernel_rfl, by decide, by kernel_rfl⟩
  · exact ⟨12, 18, fun w => by kernel_rfl, by decide, by kernel_rfl⟩
  · exact ⟨13, 23, fun w => by kernel_rfl, by decide, by kernel_rfl⟩
  · exact ⟨14, 22, fun w => by kernel_rfl, by decide, by kernel_rfl⟩
  · exact ⟨18, 15, fun w => by kernel_rfl, by decide, by kernel_rfl⟩
  · omega
theorem d2_size (j : Nat) (hj : j ≤ 12) : (d2 j).arr.size = 24 := by
  have : ∀ j : Nat, j ≤ 12 → (d2 j).arr.size = 24 := by decide +kernel
  exact this j hj
theorem d2_ok : (d2 12).Ok := ⟨by decide +kernel, by decide +kernel, ⟨by decide, by decide⟩, ⟨by decide, by decide⟩, ⟨by decide, by decide⟩, ⟨by decide, by decide⟩, ⟨by decide, by decide⟩⟩
theorem fold_ok : ∀ (l : List Int) (t : Tm), t.Ok → (l.foldl (fun t op => setL t op true) t).Ok
  | [], _, h => h
  | op :: l, _, h => fold_ok l _ (setL_ok h op true)
theorem d3_ok (k : Nat) : (d3 k).Ok := fold_ok _ _ d2_ok
theorem d3_succ {k : Nat} (h : k < 14) : setL (d3 k) (ops0.getD k 0) true = d3 (k + 1) := by
  have : ∀ k : Nat, k < 14 → setL (d3 k) (ops0.getD k 0) true = d3 (k + 1) := by decide +kernel
  exact this k h
theorem d3_all : d3 14 = defT := by decide +kernel
set_option maxRecDepth 100000 in
set_option maxHeartbeats 800000 in
theorem rdefault_any (w : World) : Calls Try.prog 24 #[] w fun e w' => e = .returned (.agg defT.arr) ∧ Ext w w' := by
  have hb0 : Try.prog.built 27 [(2, .int .u32 38400), (3, .int .u32 38400), (4, .int .i64 1)] = some (d1 0).arr := by kernel_rfl
  have hn := Tm.size (d1_ok 0)
  have h1 := Lib.hid (d1 0).one
  have h01 := Lib.hid (show (d1 0).arr = (d1 1).arr by rfl)
  generalize hcs : (d1 0).arr = cs at *
  clear hcs
  have hi : (Try.prog.info? 27).map (·.size) = some cs.size := by rw [hn]; kernel_rfl
  have hn24 := Lib.hid hn
  go_enter Try.func24, Try.ntmps24
  go_wp2_with (first
    | (refine wpList_build_eq rfl 27 _ rfl (L := cs) (by simp [go_sem]; exact hb0) ?_)
    | (refine wpList_store_AF rfl 27 _ _ rfl (w.heap.size + 1) _ rfl rfl 27 _ (Blk.at_ (B := w.heap.size + 1) 27 _ (by simp)) hi (by rw [hn24.out]; rfl) h1.out ?_; intro w2 H2 F2 E2; have H2 := Lib.hid H2; have G2 := Lib.hid (F2 _ _ _ (by simp) ((Blk.new w 27 _).alloc _)); have E2 : Ext w w2 := E2 w.heap.size w (by repeat (first | with_reducible exact Ext.refl _ | refine Ext.drewN ?_ _ | refine Ext.drew ?_ | refine Ext.alloc ?_ _ | assumption | (refine Below.trans ?_ (by assumption)) | (refine Ext.trans ?_ (by assumption)) | (refine Below.trans ?_ (Below.mono (by assumption) (by omega))))) (Nat.le_succ _); clear F2))
  go_loopw [2] (fun i wr => ∃ k : Nat, 1 ≤ k ∧ k ≤ 19 ∧ i = .int .i64 k ∧ Hid (Blk wr w.heap.size 27 #[.int .u8 0, .int .u8 0, .int .u8 0, .int .u8 0, .int .u8 0, .int .u8 0, .int .u8 0, .int .u8 0, .int .u8 0, .int .u8 0, .int .u8 0, .int .u8 0, .int .u8 0, .int .u8 0, .int .u8 0, .int .u8 0, .int .u8 0, .int .u8 0, .int .u8 0, .int .u64 0, .int .u32 0, .int .u32 0, .int .i64 0, .int .i64 0]) ∧ Hid (Blk wr (w.heap.size + 1) 27 (d1 k).arr) ∧ Ext w wr) (fun i _ => 19 - (intOf i).toNat)
  case atStart => exact ⟨1, by omega, by omega, rfl, G2, Lib.hid (by rw [← h01.out]; exact H2.out), E2⟩
  case round =>
    clear E2 H2 G2
    obtain ⟨k, hk1, hk, rfl, HG, HH, hE⟩ := hrel
    by_cases hlt : k < 19
    · have hk19 : (k : Int) < 19 := by omega
      have hk0 : (0 : Int) ≤ (k : Int) := by omega
      have hnk := Tm.size (d1_ok k)
      have hks : k < (d1 k).arr.size := by omega
      have HS := Lib.hid (d1_succ hk1 hlt)
      generalize (d1 k).arr = ck at *
      generalize hcl : (d1 (k + 1)).arr = cl at *
      have HCL := Lib.hid hcl
      clear hcl
      go_wp2_with (refine wpList_store_B rfl 5 _ _ rfl (w.heap.size + 1) k rfl _ rfl rfl rfl 27 _ HH.out hks (by kernel_rfl) ?_; intro w5 H5 F5 E5; have H5 := Lib.hid (Blk.cast H5 HS.out); have G5 := Lib.hid (F5 _ _ _ (by simp) HG.out); have E5 : Ext w w5 := E5 w.heap.size w hE (Nat.le_succ _); clear F5)
      try simp only [Act.put]
      go_roundw
      case rel => exact ⟨k + 1, by omega, by omega, by first | go_num | (congr 1; omega) | (simp; omega), G5, Lib.hid (by rw [HCL.out]; exact H5.out), E5⟩
      case measure => first | (simp [intOf]; omega) | (show 19 - _ < _; simp [intOf]; omega)
    · obtain rfl : k = 19 := by omega
      have HH := Lib.hid (Blk.cast HH.out (show (d1 19).arr = (d2 0).arr by rfl))
      clear hk hk1
      go_wp2
      go_loopw [4, 28] (fun _ i wr => ∃ k : Nat, k ≤ 12 ∧ i = .int .i64 k ∧ Hid (Blk wr w.heap.size 27 #[.int .u8 0, .int .u8 0, .int .u8 0, .int .u8 0, .int .u8 0, .int .u8 0, .int .u8 0, .int .u8 0, .int .u8 0, .int .u8 0, .int .u8 0, .int .u8 0, .int .u8 0, .int .u8 0, .int .u8 0, .int .u8 0, .int .u8 0, .int .u8 0, .int .u8 0, .int .u64 0, .int .u32 0, .int .u32 0, .int .i64 0, .int .i64 0]) ∧ Hid (Blk wr (w.heap.size + 1) 27 (d2 k).arr) ∧ Ext w wr) (fun _ i _ => 12 - (intOf i).toNat)
      case atStart => exact ⟨0, by omega, rfl, HG, HH, hE⟩
      case round =>
        clear hE HG HH
        obtain ⟨k, hk, rfl, HG, HH, hE⟩ := hrel
        by_cases hlt : k < 12
        · obtain ⟨q, b, hix, hq, hst⟩ := tab_step k hlt
          have hq19 : (q : Int) < 19 := by omega
          have hq0 : (0 : Int) ≤ (q : Int) := by omega
          have hnk := d2_size k hk
          have hks : q < (d2 k).arr.size := by omega
          have HS := Lib.hid hst
          generalize (d2 k).arr = ck at *
          generalize hcl : (d2 (k + 1)).arr = cl at *
          have HCL := Lib.hid hcl
          clear hcl hst
          go_wp2_with (refine wpList_store_B rfl 5 _ _ rfl (w.heap.size + 1) q rfl _ rfl rfl rfl 27 _ (HH.out.ext (show Ext wr _ from (by repeat (first | with_reducible exact Ext.refl _ | refine Ext.drewN ?_ _ | refine Ext.drew ?_ | refine Ext.alloc ?_ _ | assumption | (refine Below.trans ?_ (by assumption)) | (refine Ext.trans ?_ (by assumption)) | (refine Below.trans ?_ (Below.mono (by assumption) (by omega))))))) hks (by kernel_rfl) ?_; intro w5 H5 F5 E5; have H5 := Lib.hid (Blk.cast H5 HS.out); have G5 := Lib.hid (F5 _ _ _ (by simp) (HG.out.ext (show Ext wr _ from (by repeat (first | with_reducible exact Ext.refl _ | refine Ext.drewN ?_ _ | refine Ext.drew ?_ | refine Ext.alloc ?_ _ | assumption | (refine Below.trans ?_ (by assumption)) | (refine Ext.trans ?_ (by assumption)) | (refine Below.trans ?_ (Below.mono (by assumption) (by omega)))))))); have E5 : Ext w w5 := E5 w.heap.size w (hE.trans (by repeat (first | with_reducible exact Ext.refl _ | refine Ext.drewN ?_ _ | refine Ext.drew ?_ | refine Ext.alloc ?_ _ | assumption | (refine Below.trans ?_ (by assumption)) | (refine Ext.trans ?_ (by assumption)) | (refine Below.trans ?_ (Below.mono (by assumption) (by omega)))))) (Nat.le_succ _); clear F5)
          try simp only [Act.put]
          go_roundw
          case rel => first | exact ⟨k + 1, by omega, by first | go_num | (congr 1; omega) | (simp; omega), G5, Lib.hid (by rw [HCL.out]; exact H5.out), E5⟩ | ((repeat apply Exists.intro); exact ⟨⟨k + 1, by omega, by go_num, G5, Lib.hid (by rw [HCL.out]; exact H5.out), E5⟩, rfl⟩)
          case measure => first | (simp [intOf]; omega) | (show 12 - _ < _; simp [intOf]; omega)
        · obtain rfl : k = 12 := by omega
          have HH := Lib.hid (Blk.cast HH.out (show (d2 12).arr = (d3 0).arr by rfl))
          clear hk
          go_wp2
          go_loopw [6, 39] (fun _ i wr => ∃ k : Nat, k ≤ 14 ∧ i = .int .i64 k ∧ Hid (Blk wr w.heap.size 27 #[.int .u8 0, .int .u8 0, .int .u8 0, .int .u8 0, .int .u8 0, .int .u8 0, .int .u8 0, .int .u8 0, .int .u8 0, .int .u8 0, .int .u8 0, .int .u8 0, .int .u8 0, .int .u8 0, .int .u8 0, .int .u8 0, .int .u8 0, .int .u8 0, .int .u8 0, .int .u64 0, .int .u32 0, .int .u32 0, .int .i64 0, .int .i64 0]) ∧ Hid (Blk wr (w.heap.size + 1) 27 (d3 k).arr) ∧ Ext w wr) (fun _ i _ => 14 - (intOf i).toNat)
          case atStart => exact ⟨0, by omega, rfl, HG, HH, hE⟩
          case round =>
            clear hE HG HH
            obtain ⟨k, hk, rfl, HG, HH, hE⟩ := hrel
            by_cases hlt : k < 14
            · have hix := index_ops k hlt
              have hS := fun w' => rset_any (d3 k) (ops0.getD k 0) true w' (d3_ok k)
              rw [d3_succ hlt] at hS
              have HS := Lib.hid hS
              have hnk := (d3 k).size (d3_ok k)
              have hnl := (d3 (k + 1)).size (d3_ok (k + 1))
              have h1l := Lib.hid (d3 (k + 1)).one
              clear hS
              generalize ops0.getD k 0 = op at *
              generalize (d3 k).arr = ck at *
              generalize hcl : (d3 (k + 1)).arr = cl at *
              have HCL := Lib.hid hcl
              clear hcl
              have hik : (Try.prog.info? 27).map (·.size) = some ck.size := by rw [hnk]; kernel_rfl
              have hil : (Try.prog.info? 27).map (·.size) = some cl.size := by rw [hnl]; kernel_rfl
              have hkl : ck.size = cl.size := by rw [hnk, hnl]
              go_wp2_with ((refine wpList_load_row rfl 27 _ rfl _ rfl 27 _ _ _ HH.out Try.underlying27 rfl hik ?_))
              (with_reducible refine (HS.out _).mono ?_); rintro e w3 ⟨rfl, E3⟩
              go_wp2_with (refine wpList_store_AF rfl 27 _ _ rfl (w.heap.size + 1) _ rfl rfl 27 _ (HH.out.ext E3) hil hkl h1l.out ?_; intro w5 H5 F5 E5; have H5 := Lib.hid H5; have G5 := Lib.hid (F5 _ _ _ (by simp) (HG.out.ext E3)); have E5 : Ext w w5 := E5 w.heap.size w (hE.trans E3) (Nat.le_succ _); clear F5)
              try simp only [Act.put]
              go_roundw
              case rel => first | exact ⟨k + 1, by omega, by first | go_num | (congr 1; omega) | (simp; omega), G5, Lib.hid (by rw [HCL.out]; exact H5.out), E5⟩ | ((repeat apply Exists.intro); exact ⟨⟨k + 1, by omega, by go_num, G5, Lib.hid (by rw [HCL.out]; exact H5.out), E5⟩, rfl⟩)
              case measure => first | (simp [intOf]; omega) | (show 14 - _ < _; simp [intOf]; omega)
            · obtain rfl : k = 14 := by omega
              have HH := Lib.hid (Blk.cast HH.out (show (d3 14).arr = defT.arr by rw [d3_all]))
              have hnd := Tm.size defT_ok
              have h1d := Lib.hid defT.one
              generalize hcd : defT.arr = cd at *
              have HCD := Lib.hid hcd
              clear hcd
              have hid' : (Try.prog.info? 27).map (·.size) = some cd.size := by rw [hnd]; kernel_rfl
              have hzd : (#[.int .u8 0, .int .u8 0, .int .u8 0, .int .u8 0, .int .u8 0, .int .u8 0, .int .u8 0, .int .u8 0, .int .u8 0, .int .u8 0, .int .u8 0, .int .u8 0, .int .u8 0, .int .u8 0, .int .u8 0, .int .u8 0, .int .u8 0, .int .u8 0, .int .u8 0, .int .u64 0, .int .u32 0, .int .u32 0, .int .i64 0, .int .i64 0] : Array Value).size = cd.size := by rw [hnd]; rfl
              go_wp2_with (first
                | (refine wpList_load_row rfl 27 _ rfl _ rfl 27 _ _ _ HH.out Try.underlying27 rfl hid' ?_)
                | (refine wpList_store_A rfl 27 _ _ rfl w.heap.size _ rfl rfl 27 _ HG.out hid' hzd h1d.out ?_; intro w3 H3 E3; have E3 := E3 w.heap.size w hE (Nat.le_refl _); have H3 := Lib.hid H3))
              refine bodyPost_ret_by (results_cell_row Try.results24 _ _ w.heap.size 27 _ _ _ rfl H3.out Try.underlying27 rfl hid') rfl ?_
              exact ⟨by rw [HCD.out], E3⟩
end Go.Proofs.Ytpngnmokagbekaa
