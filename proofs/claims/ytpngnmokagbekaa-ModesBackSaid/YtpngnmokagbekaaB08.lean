/- One mode of a setting; the number behind an opcode; by contract. Conditions: the setting is one, the opcode is one, bytes are bytes. -/
import Derived.Test.YtpngnmokagbekaaA08
import Derived.Test.YtpngnmokagbekaaMoT
namespace Go.Proofs.Ytpngnmokagbekaa
open Go.RowKit Go.Kb

theorem u32_join (x y : Int) (i : Nat) (hx0 : 0 ≤ x) (hx1 : x < 4294967296) (hy0 : 0 ≤ y) (hy1 : y < 4294967296) (hx : x.toNat % 2 ^ i = 0) (hy : y.toNat < 2 ^ i) : bits .or .u32 x y = x + y := by
  obtain ⟨a, rfl⟩ := Int.eq_ofNat_of_zero_le hx0
  obtain ⟨b, rfl⟩ := Int.eq_ofNat_of_zero_le hy0
  rw [u32_or_nat a b (by omega) (by omega), nat_join i a b (by simpa using hx) (by simpa using hy)]
  simp
theorem four_join32 (a b c d : Int) (ba : 0 ≤ a ∧ a ≤ 255) (bb : 0 ≤ b ∧ b ≤ 255) (bc : 0 ≤ c ∧ c ≤ 255) (bd : 0 ≤ d ∧ d ≤ 255) :
    bits .or .u32 (bits .or .u32 (bits .or .u32 (a * 16777216) (b * 65536)) (c * 256)) d = a * 16777216 + b * 65536 + c * 256 + d := by
  rw [u32_join (a * 16777216) (b * 65536) 24 (by omega) (by omega) (by omega) (by omega) (by omega) (by omega)]
  rw [u32_join _ (c * 256) 16 (by omega) (by omega) (by omega) (by omega) (by omega) (by omega)]
  rw [u32_join _ d 8 (by omega) (by omega) (by omega) (by omega) (by omega) (by omega)]
theorem four_cells {w : World} {v : Value} {a b c d : Int} {r : List Int} (h : RI .u8 w v (a :: b :: c :: d :: r)) :
    ∃ B off n cap, v = .slice (some ⟨B, off, none⟩) n cap ∧ 4 ≤ n ∧ n ≤ maxLen ∧ w.cell? ⟨B, off, none⟩ = some (.int .u8 a) ∧ w.cell? ⟨B, off + 1, none⟩ = some (.int .u8 b) ∧ w.cell? ⟨B, off + 2, none⟩ = some (.int .u8 c) ∧ w.cell? ⟨B, off + 3, none⟩ = some (.int .u8 d) := by
  obtain ⟨B, off, cap, hv, h1, h2, hc⟩ := h.form (by simp)
  exact ⟨B, off, _, cap, hv, by simp, by simpa using Nat.le_trans h1 h2, hc 0 _ rfl, hc 1 _ rfl, hc 2 _ rfl, hc 3 _ rfl⟩
set_option maxHeartbeats 400000 in
theorem argument_any (v : Value) (l : List Int) (w : World) (hl : RI .u8 w v l) (hb : Bs l) (h4 : 4 ≤ l.length) :
    Calls Try.prog 28 #[v] w fun e w' => e = .returned (.int .u32 (hd4 l)) ∧ Ext w w' := by
  obtain ⟨a, b, c, d, r, rfl⟩ := four_of h4
  have h := hl
  have hB := hb
  clear hl hb h4
  obtain ⟨B, off, n, cap, rfl, h4, hm, c0, c1, c2, c3⟩ := four_cells h
  unfold maxLen at hm
  have ba := hB a (by simp)
  have bb := hB b (by simp)
  have bc := hB c (by simp)
  have bd := hB d (by simp)
  have i0 : (0 : Int) < (n : Int) := by omega
  have i1 : (1 : Int) < (n : Int) := by omega
  have i2 : (2 : Int) < (n : Int) := by omega
  have i3 : (3 : Int) < (n : Int) := by omega
  clear h hB
  go_enter Try.func28, Try.ntmps28
  go_wp2
  go_quiet (fail)
  go_wp2
  go_ret
  exact ⟨ret_int (by rw [four_join32 a b c d ba bb bc bd]; simp [hd4]), (by repeat (first | with_reducible exact Ext.refl _ | refine Ext.drewN ?_ _ | refine Ext.drew ?_ | refine Ext.alloc ?_ _ | assumption | (refine Below.trans ?_ (by assumption)) | (refine Ext.trans ?_ (by assumption)) | (refine Below.trans ?_ (Below.mono (by assumption) (by omega)))))⟩
set_option maxHeartbeats 400000 in
theorem number_any (v : Value) (l : List Int) (w : World) (hl : RI .u8 w v l) (hb : Bs l) (h4 : 4 ≤ l.length) :
    Calls Try.prog 29 #[v] w fun e w' => e = .returned (.int .u32 (hd4 l)) ∧ Ext w w' := by
  obtain ⟨a, b, c, d, r, rfl⟩ := four_of h4
  have h := hl
  have hB := hb
  clear hl hb h4
  obtain ⟨B, off, n, cap, rfl, h4, hm, c0, c1, c2, c3⟩ := four_cells h
  unfold maxLen at hm
  have ba := hB a (by simp)
  have bb := hB b (by simp)
  have bc := hB c (by simp)
  have bd := hB d (by simp)
  have i0 : (0 : Int) < (n : Int) := by omega
  have i1 : (1 : Int) < (n : Int) := by omega
  have i2 : (2 : Int) < (n : Int) := by omega
  have i3 : (3 : Int) < (n : Int) := by omega
  clear h hB
  go_enter Try.func29, Try.ntmps29
  go_wp2
  go_quiet (fail)
  go_wp2
  go_ret
  exact ⟨ret_int (by simp [hd4]), (by repeat (first | with_reducible exact Ext.refl _ | refine Ext.drewN ?_ _ | refine Ext.drew ?_ | refine Ext.alloc ?_ _ | assumption | (refine Below.trans ?_ (by assumption)) | (refine Ext.trans ?_ (by assumption)) | (refine Below.trans ?_ (Below.mono (by assumption) (by omega)))))⟩
theorem wpList_store_AF {P : Program} {ops : Array Oper} {rest : List Oper} {o : Oper} {a : Act} {w : World} {Q : Exit → Act → World → Prop} (hgd : o.guard = none) (ty : TypeId) (x y : Operand) (ho : o.op = .store ty x y)
    (g : Nat) (cells : Array Value) (hx : a.eval x = .pointer (some ⟨g, 0, none⟩)) (hy : a.eval y = .agg cells)
    (t : TypeId) (old : Array Value) (hg : Blk w g t old) (hi : (P.info? ty).map (·.size) = some cells.size)
    (hold : old.size = cells.size) (h1 : cells.all (·.oneCell') = true)
    (h : ∀ w', Blk w' g t cells → (∀ (g' : Nat) (t' : TypeId) (c' : Array Value), g' ≠ g → Blk w g' t' c' → Blk w' g' t' c') → (∀ (B : Nat) (a : World), Below B a w → B ≤ g → Below B a w') → wpList P ops Q rest (a.put o.dst undef) w') : wpList P ops Q (o :: rest) a w :=
  wpList_store_row hgd ty x y ho g cells hx hy t old hg hi hold h1 (h _ (Blk.setRow hg _) (fun g' t' c' hne hb => by unfold Blk; rw [setRow_other w g g' cells hne]; exact hb) fun _ _ hb hB => below_setRow hb hB _)
def zeroT : Tm := ⟨List.replicate 19 0, 0, 0, 0, 0, 0⟩
theorem zeroT_arr : zeroT.arr = #[.int .u8 0, .int .u8 0, .int .u8 0, .int .u8 0, .int .u8 0, .int .u8 0, .int .u8 0, .int .u8 0, .int .u8 0, .int .u8 0, .int .u8 0, .int .u8 0, .int .u8 0, .int .u8 0, .int .u8 0, .int .u8 0, .int .u8 0, .int .u8 0, .int .u8 0, .int .u64 0, .int .u32 0, .int .u32 0, .int .i64 0, .int .i64 0] := rfl
theorem zeroT_ok : zeroT.Ok := ⟨rfl, by decide, by decide, by decide, by decide, by decide, by decide⟩
def modeL (t : Tm) (op n : Int) : Tm × Int :=
  if op ≤ 18 then if 255 < n then (zeroT, 5) else ({ t with c := t.c.set op.toNat n }, 0)
  else if op = 128 then ({ t with i := n }, 0) else if op = 129 then ({ t with o := n }, 0) else (setL t op (n != 0), 0)
theorem modeL_ok {t : Tm} (h : t.Ok) {op n : Int} (hn : 0 ≤ n ∧ n < 4294967296) : (modeL t op n).1.Ok := by
  unfold modeL
  repeat' split
  · exact zeroT_ok
  · refine ⟨by simp [h.c], fun x hx => ?_, h.f, h.i, h.o, h.m, h.t⟩
    rcases List.mem_or_eq_of_mem_set hx with hx | rfl
    · exact h.b x hx
    · omega
  · exact ⟨h.c, h.b, h.f, hn, h.o, h.m, h.t⟩
  · exact ⟨h.c, h.b, h.f, h.i, hn, h.m, h.t⟩
  · exact setL_ok h _ _
theorem Tm.setC {t : Tm} (h : t.Ok) {k : Nat} (hk : k < 19) (x : Int) : t.arr.setIfInBounds k (.int .u8 x) = ({ t with c := t.c.set k x } : Tm).arr := by
  have hc := h.c
  simp only [Tm.arr, Tm.cells]
  apply Array.ext'
  simp only [Array.toList_setIfInBounds, List.set_append, List.length_map, hc, hk, if_true, List.map_set]
theorem Tm.set20 {t : Tm} (h : t.Ok) (x : Int) : t.arr.setIfInBounds 20 (.int .u32 x) = ({ t with i := x } : Tm).arr := by
  have hc := h.c
  simp only [Tm.arr, Tm.cells]
  apply Array.ext'
  simp [hc]
theorem Tm.set21 {t : Tm} (h : t.Ok) (x : Int) : t.arr.setIfInBounds 21 (.int .u32 x) = ({ t with o := x } : Tm).arr := by
  have hc := h.c
  simp only [Tm.arr, Tm.cells]
  apply Array.ext'
  simp [hc]
theorem zero_built : Try.prog.built 27 [] = some #[.int .u8 0, .int .u8 0, .int .u8 0, .int .u8 0, .int .u8 0, .int .u8 0, .int .u8 0, .int .u8 0, .int .u8 0, .int .u8 0, .int .u8 0, .int .u8 0, .int .u8 0, .int .u8 0, .int .u8 0, .int .u8 0, .int .u8 0, .int .u8 0, .int .u8 0, .int .u64 0, .int .u32 0, .int .u32 0, .int .i64 0, .int .i64 0] := by kernel_rfl
set_option maxHeartbeats 800000 in
theorem mode_any (t : Tm) (op n : Int) (w : World) (ht : t.Ok) (hop : 1 ≤ op ∧ op ≤ 159) (hnb : 0 ≤ n ∧ n < 4294967296) :
    Calls Try.prog 27 #[.agg t.arr, .int .i64 op, .int .u32 n] w fun e w' => e = .returned (.tuple #[.agg (modeL t op n).1.arr, .int .i64 (modeL t op n).2]) ∧ Ext w w' := by
  have hn := t.size ht
  have hok := modeL_ok ht (op := op) hnb
  have hn' := Tm.size hok
  have h1' := Lib.hid (modeL t op n).1.one
  have hz := zeroT_arr
  obtain ⟨o1, o2⟩ := hop
  obtain ⟨n1, n2⟩ := hnb
  have hzs : (#[.int .u8 0, .int .u8 0, .int .u8 0, .int .u8 0, .int .u8 0, .int .u8 0, .int .u8 0, .int .u8 0, .int .u8 0, .int .u8 0, .int .u8 0, .int .u8 0, .int .u8 0, .int .u8 0, .int .u8 0, .int .u8 0, .int .u8 0, .int .u8 0, .int .u8 0, .int .u64 0, .int .u32 0, .int .u32 0, .int .i64 0, .int .i64 0] : Array Value).size = 24 := rfl
  by_cases a1 : op ≤ 18
  · obtain ⟨k, rfl⟩ := Int.eq_ofNat_of_zero_le (show 0 ≤ op by omega)
    by_cases a2 : 255 < n
    · have hm : modeL t k n = (zeroT, 5) := by unfold modeL; rw [if_pos a1, if_pos a2]
      rw [hm] at h1' hn' ⊢
      simp only [hz] at h1' hn' ⊢
      generalize t.arr = cs at *
      have hi : (Try.prog.info? 27).map (·.size) = some (#[.int .u8 0, .int .u8 0, .int .u8 0, .int .u8 0, .int .u8 0, .int .u8 0, .int .u8 0, .int .u8 0, .int .u8 0, .int .u8 0, .int .u8 0, .int .u8 0, .int .u8 0, .int .u8 0, .int .u8 0, .int .u8 0, .int .u8 0, .int .u8 0, .int .u8 0, .int .u64 0, .int .u32 0, .int .u32 0, .int .i64 0, .int .i64 0] : Array Value).size := by rw [hzs]; kernel_rfl
      clear hm hok ht
      go_enter Try.func27, Try.ntmps27
      go_wp2_with (first
        | (refine wpList_build_eq rfl 27 _ rfl (L := #[.int .u8 0, .int .u8 0, .int .u8 0, .int .u8 0, .int .u8 0, .int .u8 0, .int .u8 0, .int .u8 0, .int .u8 0, .int .u8 0, .int .u8 0, .int .u8 0, .int .u8 0, .int .u8 0, .int .u8 0, .int .u8 0, .int .u8 0, .int .u8 0, .int .u8 0, .int .u64 0, .int .u32 0, .int .u32 0, .int .i64 0, .int .i64 0]) (by simp [go_sem]; exact zero_built) ?_)
        | (refine wpList_store_A rfl 27 _ _ rfl (w.heap.size + 1) _ rfl rfl 27 _ (Blk.at_ (w := w.alloc (.cells cs 27)) (B := w.heap.size + 1) 27 _ (by simp)) hi rfl h1'.out ?_; intro w3 H3 E3; have E3 := E3 w.heap.size w (by repeat (first | with_reducible exact Ext.refl _ | refine Ext.drewN ?_ _ | refine Ext.drew ?_ | refine Ext.alloc ?_ _ | assumption | (refine Below.trans ?_ (by assumption)) | (refine Ext.trans ?_ (by assumption)) | (refine Below.trans ?_ (Below.mono (by assumption) (by omega))))) (Nat.le_succ _); have H3 := Lib.hid H3))
      refine bodyPost_ret_by (results_cell_tmp Try.results27 _ _ (w.heap.size + 1) 27 _ _ _ rfl _ rfl H3.out Try.underlying27 rfl hi) rfl ?_
      exact ⟨rfl, E3⟩
    · have hm : modeL t k n = ({ t with c := t.c.set k n }, 0) := by unfold modeL; rw [if_pos a1, if_neg a2]; simp
      have hST := Lib.hid (Tm.setC ht (k := k) (by omega) n)
      rw [hm] at h1' hn' ⊢
      simp only at h1' hn' ⊢
      generalize ({ t with c := t.c.set k n } : Tm).arr = ct at *
      generalize t.arr = cs at *
      have hk : k < cs.size := by omega
      have hk1 : (k : Int) < 19 := by omega
      have hwn : IntKind.u8.wrap n = n := by rw [IntKind.wrap_u8]; omega
      have hi : (Try.prog.info? 27).map (·.size) = some ct.size := by rw [hn']; kernel_rfl
      have hzt : (#[.int .u8 0, .int .u8 0, .int .u8 0, .int .u8 0, .int .u8 0, .int .u8 0, .int .u8 0, .int .u8 0, .int .u8 0, .int .u8 0, .int .u8 0, .int .u8 0, .int .u8 0, .int .u8 0, .int .u8 0, .int .u8 0, .int .u8 0, .int .u8 0, .int .u8 0, .int .u64 0, .int .u32 0, .int .u32 0, .int .i64 0, .int .i64 0] : Array Value).size = ct.size := by rw [hn']; rfl
      clear hm hok ht hz
      go_enter Try.func27, Try.ntmps27
      go_wp2_with (first
        | (refine wpList_store_B rfl 5 _ _ rfl w.heap.size k rfl _ rfl rfl rfl 27 _ ((Blk.new w 27 cs).alloc _) hk (by kernel_rfl) ?_; intro w2 H2 F2 E2; have H2 := Lib.hid (Blk.cast H2 hST.out); have hB2 := Lib.hid (F2 _ _ _ (by simp) (Blk.at_ (w := w.alloc (.cells cs 27)) (B := w.heap.size + 1) 27 _ (by simp))); have E2 := E2 w.heap.size w (by repeat (first | with_reducible exact Ext.refl _ | refine Ext.drewN ?_ _ | refine Ext.drew ?_ | refine Ext.alloc ?_ _ | assumption | (refine Below.trans ?_ (by assumption)) | (refine Ext.trans ?_ (by assumption)) | (refine Below.trans ?_ (Below.mono (by assumption) (by omega))))) (Nat.le_refl _))
        | (refine wpList_load_row rfl 27 _ rfl _ rfl 27 _ _ _ H2.out Try.underlying27 rfl hi ?_)
        | (refine wpList_store_A rfl 27 _ _ rfl (w.heap.size + 1) _ rfl rfl 27 _ hB2.out hi hzt h1'.out ?_; intro w3 H3 E3; have E3 := E3 w.heap.size w E2 (Nat.le_succ _); have H3 := Lib.hid H3))
      refine bodyPost_ret_by (results_cell_tmp Try.results27 _ _ (w.heap.size + 1) 27 _ _ _ rfl _ rfl H3.out Try.underlying27 rfl hi) rfl ?_
      exact ⟨rfl, E3⟩
  · by_cases a2 : op = 128
    · subst a2
      have hm : modeL t 128 n = ({ t with i := n }, 0) := by unfold modeL; rw [if_neg (by omega), if_pos rfl]
      have hST := Lib.hid (Tm.set20 ht n)
      rw [hm] at h1' hn' ⊢
      simp only at h1' hn' ⊢
      generalize ({ t with i := n } : Tm).arr = ct at *
      generalize t.arr = cs at *
      have hk : 20 < cs.size := by omega
      have hi : (Try.prog.info? 27).map (·.size) = some ct.size := by rw [hn']; kernel_rfl
      have hzt : (#[.int .u8 0, .int .u8 0, .int .u8 0, .int .u8 0, .int .u8 0, .int .u8 0, .int .u8 0, .int .u8 0, .int .u8 0, .int .u8 0, .int .u8 0, .int .u8 0, .int .u8 0, .int .u8 0, .int .u8 0, .int .u8 0, .int .u8 0, .int .u8 0, .int .u8 0, .int .u64 0, .int .u32 0, .int .u32 0, .int .i64 0, .int .i64 0] : Array Value).size = ct.size := by rw [hn']; rfl
      clear hm hok ht hz
      go_enter Try.func27, Try.ntmps27
      go_wp2_with (first
        | (refine wpList_store_B rfl 25 _ _ rfl w.heap.size 20 rfl _ rfl rfl rfl 27 _ ((Blk.new w 27 cs).alloc _) hk (by kernel_rfl) ?_; intro w2 H2 F2 E2; have H2 := Lib.hid (Blk.cast H2 hST.out); have hB2 := Lib.hid (F2 _ _ _ (by simp) (Blk.at_ (w := w.alloc (.cells cs 27)) (B := w.heap.size + 1) 27 _ (by simp))); have E2 := E2 w.heap.size w (by repeat (first | with_reducible exact Ext.refl _ | refine Ext.drewN ?_ _ | refine Ext.drew ?_ | refine Ext.alloc ?_ _ | assumption | (refine Below.trans ?_ (by assumption)) | (refine Ext.trans ?_ (by assumption)) | (refine Below.trans ?_ (Below.mono (by assumption) (by omega))))) (Nat.le_refl _))
        | (refine wpList_load_row rfl 27 _ rfl _ rfl 27 _ _ _ H2.out Try.underlying27 rfl hi ?_)
        | (refine wpList_store_A rfl 27 _ _ rfl (w.heap.size + 1) _ rfl rfl 27 _ hB2.out hi hzt h1'.out ?_; intro w3 H3 E3; have E3 := E3 w.heap.size w E2 (Nat.le_succ _); have H3 := Lib.hid H3))
      refine bodyPost_ret_by (results_cell_tmp Try.results27 _ _ (w.heap.size + 1) 27 _ _ _ rfl _ rfl H3.out Try.underlying27 rfl hi) rfl ?_
      exact ⟨rfl, E3⟩
    · by_cases a3 : op = 129
      · subst a3
        have hm : modeL t 129 n = ({ t with o := n }, 0) := by unfold modeL; rw [if_neg (by omega), if_neg (by omega), if_pos rfl]
        have hST := Lib.hid (Tm.set21 ht n)
        rw [hm] at h1' hn' ⊢
        simp only at h1' hn' ⊢
        generalize ({ t with o := n } : Tm).arr = ct at *
        generalize t.arr = cs at *
        have hk : 21 < cs.size := by omega
        have hi : (Try.prog.info? 27).map (·.size) = some ct.size := by rw [hn']; kernel_rfl
        have hzt : (#[.int .u8 0, .int .u8 0, .int .u8 0, .int .u8 0, .int .u8 0, .int .u8 0, .int .u8 0, .int .u8 0, .int .u8 0, .int .u8 0, .int .u8 0, .int .u8 0, .int .u8 0, .int .u8 0, .int .u8 0, .int .u8 0, .int .u8 0, .int .u8 0, .int .u8 0, .int .u64 0, .int .u32 0, .int .u32 0, .int .i64 0, .int .i64 0] : Array Value).size = ct.size := by rw [hn']; rfl
        clear hm hok ht hz
        go_enter Try.func27, Try.ntmps27
        go_wp2_with (first
          | (refine wpList_store_B rfl 25 _ _ rfl w.heap.size 21 rfl _ rfl rfl rfl 27 _ ((Blk.new w 27 cs).alloc _) hk (by kernel_rfl) ?_; intro w2 H2 F2 E2; have H2 := Lib.hid (Blk.cast H2 hST.out); have hB2 := Lib.hid (F2 _ _ _ (by simp) (Blk.at_ (w := w.alloc (.cells cs 27)) (B := w.heap.size + 1) 27 _ (by simp))); have E2 := E2 w.heap.size w (by repeat (first | with_reducible exact Ext.refl _ | refine Ext.drewN ?_ _ | refine Ext.drew ?_ | refine Ext.alloc ?_ _ | assumption | (refine Below.trans ?_ (by assumption)) | (refine Ext.trans ?_ (by assumption)) | (refine Below.trans ?_ (Below.mono (by assumption) (by omega))))) (Nat.le_refl _))
          | (refine wpList_load_row rfl 27 _ rfl _ rfl 27 _ _ _ H2.out Try.underlying27 rfl hi ?_)
          | (refine wpList_store_A rfl 27 _ _ rfl (w.heap.size + 1) _ rfl rfl 27 _ hB2.out hi hzt h1'.out ?_; intro w3 H3 E3; have E3 := E3 w.heap.size w E2 (Nat.le_succ _); have H3 := Lib.hid H3))
        refine bodyPost_ret_by (results_cell_tmp Try.results27 _ _ (w.heap.size + 1) 27 _ _ _ rfl _ rfl H3.out Try.underlying27 rfl hi) rfl ?_
        exact ⟨rfl, E3⟩
      · have hm : modeL t op n = (setL t op (n != 0), 0) := by unfold modeL; rw [if_neg a1, if_neg a2, if_neg a3]
        have hS := Lib.hid fun w' => set_any t op (n != 0) w' ht
        rw [hm] at h1' hn' ⊢
        simp only at h1' hn' ⊢
        generalize (setL t op (n != 0)).arr = ct at *
        generalize t.arr = cs at *
        have hi : (Try.prog.info? 27).map (·.size) = some ct.size := by rw [hn']; kernel_rfl
        have hi0 : (Try.prog.info? 27).map (·.size) = some cs.size := by rw [hn]; kernel_rfl
        have hss : cs.size = ct.size := by rw [hn, hn']
        have hzt : (#[.int .u8 0, .int .u8 0, .int .u8 0, .int .u8 0, .int .u8 0, .int .u8 0, .int .u8 0, .int .u8 0, .int .u8 0, .int .u8 0, .int .u8 0, .int .u8 0, .int .u8 0, .int .u8 0, .int .u8 0, .int .u8 0, .int .u8 0, .int .u8 0, .int .u8 0, .int .u64 0, .int .u32 0, .int .u32 0, .int .i64 0, .int .i64 0] : Array Value).size = ct.size := by rw [hn']; rfl
        have b1 : (op == 128) = false := by simpa using a2
        have b2 : (op == 129) = false := by simpa using a3
        clear hm hok ht hz
        go_enter Try.func27, Try.ntmps27
        go_wp2_with ((refine wpList_load_row rfl 27 _ rfl _ rfl 27 _ _ _ ((Blk.new w 27 cs).alloc _) Try.underlying27 rfl hi0 ?_))
        (with_reducible refine (hS.out _).mono ?_); rintro e w2 ⟨rfl, E2⟩
        have hA2 := Lib.hid (((Blk.new w 27 cs).alloc _).ext E2)
        have hB2 := Lib.hid ((Blk.at_ (w := w.alloc (.cells cs 27)) (B := w.heap.size + 1) 27 _ (by simp)).ext E2)
        have E02 : Ext w w2 := (by repeat (first | with_reducible exact Ext.refl _ | refine Ext.drewN ?_ _ | refine Ext.drew ?_ | refine Ext.alloc ?_ _ | assumption | (refine Below.trans ?_ (by assumption)) | (refine Ext.trans ?_ (by assumption)) | (refine Below.trans ?_ (Below.mono (by assumption) (by omega)))))
        clear E2
        go_wp2_with (first
          | (refine wpList_store_AF rfl 27 _ _ rfl w.heap.size _ rfl rfl 27 _ hA2.out hi hss h1'.out ?_; intro w3 H3 F3 E3; have H3 := Lib.hid H3; have hB3 := Lib.hid (F3 _ _ _ (by simp) hB2.out); have E3 := E3 w.heap.size w E02 (Nat.le_refl _))
          | (refine wpList_load_row rfl 27 _ rfl _ rfl 27 _ _ _ H3.out Try.underlying27 rfl hi ?_)
          | (refine wpList_store_A rfl 27 _ _ rfl (w.heap.size + 1) _ rfl rfl 27 _ hB3.out hi hzt h1'.out ?_; intro w4 H4 E4; have E4 := E4 w.heap.size w E3 (Nat.le_succ _); have H4 := Lib.hid H4))
        refine bodyPost_ret_by (results_cell_tmp Try.results27 _ _ (w.heap.size + 1) 27 _ _ _ rfl _ rfl H4.out Try.underlying27 rfl hi) rfl ?_
        exact ⟨rfl, E4⟩
end Go.Proofs.Ytpngnmokagbekaa
