/- A stream of modes decoded, by contract. Conditions: the setting is one, bytes are bytes. -/
import Derived.Test.YtpngnmokagbekaaB08
namespace Go.Proofs.Ytpngnmokagbekaa
open Go.RowKit Go.Kb

theorem wp_store_AF {P : Program} {o : Oper} {a : Act} {w : World} {K : Act → World → Prop} {Q : Exit → Act → World → Prop} (ty : TypeId) (x y : Operand) (ho : o.op = .store ty x y)
    (g : Nat) (cells : Array Value) (hx : a.eval x = .pointer (some ⟨g, 0, none⟩)) (hy : a.eval y = .agg cells)
    (t : TypeId) (old : Array Value) (hg : Blk w g t old) (hi : (P.info? ty).map (·.size) = some cells.size)
    (hold : old.size = cells.size) (h1 : cells.all (·.oneCell') = true)
    (h : ∀ w', Blk w' g t cells → (∀ (g' : Nat) (t' : TypeId) (c' : Array Value), g' ≠ g → Blk w g' t' c' → Blk w' g' t' c') → (∀ (B : Nat) (a : World), Below B a w → B ≤ g → Below B a w') → K (a.put o.dst undef) w') : o.wp P a w K Q :=
  wp_store_row ty x y ho g cells hx hy t old hg hi hold h1 (h _ (Blk.setRow hg _) (fun g' t' c' hne hb => by unfold Blk; rw [setRow_other w g g' cells hne]; exact hb) fun _ _ hb hB => below_setRow hb hB _)
/-- what a stream of modes makes of a setting, or an error's number -/
def decL : List Int → Tm → Tm × Int
  | op :: a :: b :: c :: d :: r, t => if op = 0 ∨ 160 ≤ op then (t, 0) else if (modeL t op (hd4 [a, b, c, d])).2 = 0 then decL r (modeL t op (hd4 [a, b, c, d])).1 else (zeroT, (modeL t op (hd4 [a, b, c, d])).2)
  | [], t => (t, 0)
  | op :: _, t => if op = 0 ∨ 160 ≤ op then (t, 0) else (zeroT, 3)
theorem decL_end {op : Int} {r : List Int} {t : Tm} (h : op = 0 ∨ 160 ≤ op) : decL (op :: r) t = (t, 0) := by
  rcases r with _ | ⟨a, _ | ⟨b, _ | ⟨c, _ | ⟨d, r⟩⟩⟩⟩ <;> simp only [decL, if_pos h]
theorem decL_short {op : Int} {r : List Int} {t : Tm} (h : ¬ (op = 0 ∨ 160 ≤ op)) (hr : r.length < 4) : decL (op :: r) t = (zeroT, 3) := by
  rcases r with _ | ⟨a, _ | ⟨b, _ | ⟨c, _ | ⟨d, r⟩⟩⟩⟩
  all_goals first | (exfalso; simp at hr; omega) | simp only [decL, if_neg h]
theorem decL_go {op : Int} {r : List Int} {t : Tm} (h : ¬ (op = 0 ∨ 160 ≤ op)) (hr : 4 ≤ r.length) (he : (modeL t op (hd4 r)).2 = 0) : decL (op :: r) t = decL (r.drop 4) (modeL t op (hd4 r)).1 := by
  obtain ⟨a, b, c, d, r, rfl⟩ := four_of hr
  have e1 : hd4 (a :: b :: c :: d :: r) = hd4 [a, b, c, d] := rfl
  rw [e1] at he ⊢
  simp only [decL, if_neg h, if_pos he, List.drop_succ_cons, List.drop_zero]
theorem decL_err {op : Int} {r : List Int} {t : Tm} (h : ¬ (op = 0 ∨ 160 ≤ op)) (hr : 4 ≤ r.length) (he : ¬ (modeL t op (hd4 r)).2 = 0) : decL (op :: r) t = (zeroT, (modeL t op (hd4 r)).2) := by
  obtain ⟨a, b, c, d, r, rfl⟩ := four_of hr
  have e1 : hd4 (a :: b :: c :: d :: r) = hd4 [a, b, c, d] := rfl
  rw [e1] at he ⊢
  simp only [decL, if_neg h, if_neg he]
theorem Bs.drop4 {l : List Int} (h : Bs l) (k : Nat) : Bs (l.drop k) := fun x hx => h x (List.mem_of_mem_drop hx)
theorem decL_ok : ∀ (k : Nat) (l : List Int) (t : Tm), l.length ≤ k → t.Ok → Bs l → (decL l t).1.Ok
  | _, [], t, _, h, _ => h
  | 0, _ :: _, _, hk, _, _ => by simp at hk
  | k + 1, op :: r, t, hk, h, hB => by
    by_cases h0 : op = 0 ∨ 160 ≤ op
    · rw [decL_end h0]; exact h
    · by_cases h4 : 4 ≤ r.length
      · have hr : Bs r := fun x hx => hB x (List.mem_cons_of_mem _ hx)
        by_cases he : (modeL t op (hd4 r)).2 = 0
        · rw [decL_go h0 h4 he]
          exact decL_ok k _ _ (by simp at hk ⊢; omega) (modeL_ok h (hd4_bd hr)) (Bs.drop4 hr 4)
        · rw [decL_err h0 h4 he]; exact zeroT_ok
      · rw [decL_short h0 (by omega)]; exact zeroT_ok
set_option maxRecDepth 100000 in
set_option maxHeartbeats 800000 in
theorem decode_any (t : Tm) (v : Value) (l : List Int) (w : World) (ht : t.Ok) (hl : RI .u8 w v l) (hB : Bs l) :
    Calls Try.prog 10 #[v, .agg t.arr] w fun e w' => e = .returned (.tuple #[.agg (decL l t).1.arr, .int .i64 (decL l t).2]) ∧ Ext w w' := by
  have hD0 := Lib.hid (rfl : decL l t = decL l t)
  revert hD0
  generalize hD : decL l t = D
  intro _
  obtain ⟨Ad, c, rfl, hc1, hc2⟩ := hl.shape
  have HR0 := Lib.hid hl
  have HB0 := Lib.hid hB
  have HO0 := Lib.hid ht
  have HD0 := Lib.hid hD
  clear hl hB ht hD
  have hzs : (#[.int .u8 0, .int .u8 0, .int .u8 0, .int .u8 0, .int .u8 0, .int .u8 0, .int .u8 0, .int .u8 0, .int .u8 0, .int .u8 0, .int .u8 0, .int .u8 0, .int .u8 0, .int .u8 0, .int .u8 0, .int .u8 0, .int .u8 0, .int .u8 0, .int .u8 0, .int .u64 0, .int .u32 0, .int .u32 0, .int .i64 0, .int .i64 0] : Array Value).size = 24 := rfl
  have hiz : (Try.prog.info? 27).map (·.size) = some (#[.int .u8 0, .int .u8 0, .int .u8 0, .int .u8 0, .int .u8 0, .int .u8 0, .int .u8 0, .int .u8 0, .int .u8 0, .int .u8 0, .int .u8 0, .int .u8 0, .int .u8 0, .int .u8 0, .int .u8 0, .int .u8 0, .int .u8 0, .int .u8 0, .int .u8 0, .int .u64 0, .int .u32 0, .int .u32 0, .int .i64 0, .int .i64 0] : Array Value).size := by rw [hzs]; kernel_rfl
  have h1z : Hid ((#[.int .u8 0, .int .u8 0, .int .u8 0, .int .u8 0, .int .u8 0, .int .u8 0, .int .u8 0, .int .u8 0, .int .u8 0, .int .u8 0, .int .u8 0, .int .u8 0, .int .u8 0, .int .u8 0, .int .u8 0, .int .u8 0, .int .u8 0, .int .u8 0, .int .u8 0, .int .u64 0, .int .u32 0, .int .u32 0, .int .i64 0, .int .i64 0] : Array Value).all (·.oneCell') = true) := Lib.hid (by rw [← zeroT_arr]; exact zeroT.one)
  have hn0 := t.size HO0.out
  go_enter Try.func10, Try.ntmps10
  go_wp2
  go_loopw [0] (fun v wr => ∃ (A : Option Addr) (n c : Nat) (xs : List Int) (t' : Tm), v = .slice A n c ∧ Hid (xs.length = n) ∧ Hid (RI .u8 w (.slice A n c) xs) ∧ Hid (Bs xs) ∧ Hid t'.Ok ∧ Hid (Blk wr w.heap.size 27 t'.arr) ∧ Hid (Blk wr (w.heap.size + 1) 27 #[.int .u8 0, .int .u8 0, .int .u8 0, .int .u8 0, .int .u8 0, .int .u8 0, .int .u8 0, .int .u8 0, .int .u8 0, .int .u8 0, .int .u8 0, .int .u8 0, .int .u8 0, .int .u8 0, .int .u8 0, .int .u8 0, .int .u8 0, .int .u8 0, .int .u8 0, .int .u64 0, .int .u32 0, .int .u32 0, .int .i64 0, .int .i64 0]) ∧ Hid (decL xs t' = D) ∧ Ext w wr) (fun v _ => lenOfV v)
  case atStart => exact ⟨Ad, l.length, c, l, t, rfl, Lib.hid rfl, HR0, HB0, HO0, Lib.hid ((Blk.new w 27 t.arr).alloc _), Lib.hid (Blk.at_ (w := w.alloc (.cells t.arr 27)) (B := w.heap.size + 1) 27 _ (by simp)), HD0, (by repeat (first | with_reducible exact Ext.refl _ | refine Ext.drewN ?_ _ | refine Ext.drew ?_ | refine Ext.alloc ?_ _ | assumption | (refine Below.trans ?_ (by assumption)) | (refine Ext.trans ?_ (by assumption)) | (refine Below.trans ?_ (Below.mono (by assumption) (by omega)))))⟩
  case round =>
    obtain ⟨A, n, c', xs, t', rfl, HN, HR, HB, HO, HA, HZ, HD, hE⟩ := hrel
    clear HR0 HB0 HO0 HD0 hn0 hc1 hc2
    have hn24 := t'.size HO.out
    have h1 := Lib.hid t'.one
    rcases xs with _ | ⟨x, r⟩
    · obtain rfl : 0 = n := HN.out
      have HDE := Lib.hid (show t'.arr = D.1.arr ∧ (0 : Int) = D.2 by rw [← HD.out]; exact ⟨rfl, rfl⟩)
      clear HD HO
      generalize t'.arr = cs at *
      have hi : (Try.prog.info? 27).map (·.size) = some cs.size := by rw [hn24]; kernel_rfl
      have hzt : (#[.int .u8 0, .int .u8 0, .int .u8 0, .int .u8 0, .int .u8 0, .int .u8 0, .int .u8 0, .int .u8 0, .int .u8 0, .int .u8 0, .int .u8 0, .int .u8 0, .int .u8 0, .int .u8 0, .int .u8 0, .int .u8 0, .int .u8 0, .int .u8 0, .int .u8 0, .int .u64 0, .int .u32 0, .int .u32 0, .int .i64 0, .int .i64 0] : Array Value).size = cs.size := by rw [hn24]; rfl
      go_wp2_with (first
        | (refine wpList_load_row rfl 27 _ rfl _ rfl 27 _ _ _ HA.out Try.underlying27 rfl hi ?_)
        | (refine wpList_store_A rfl 27 _ _ rfl (w.heap.size + 1) _ rfl rfl 27 _ HZ.out hi hzt h1.out ?_; intro w3 H3 E3; have E3 := E3 w.heap.size w hE (Nat.le_succ _); have H3 := Lib.hid H3))
      refine bodyPost_ret_by (results_cell_tmp Try.results10 _ _ (w.heap.size + 1) 27 _ _ _ rfl (.int .i64 0) rfl H3.out Try.underlying27 rfl hi) rfl ?_
      exact ⟨by rw [← HDE.out.1, ← HDE.out.2], E3⟩
    · have hnr : r.length + 1 = n := HN.out
      have hx := HB.out x (by simp)
      have HBr := Lib.hid (show Bs r from fun y hy => HB.out y (List.mem_cons_of_mem _ hy))
      obtain ⟨B, off, c2, hv, q1, q2, hc⟩ := HR.out.form (by simp)
      simp only [Value.slice.injEq] at hv
      obtain ⟨rfl, hv2, rfl⟩ := hv
      simp only [List.length_cons] at q1
      unfold maxLen at q2
      have hn63 : n ≤ 9223372036854775807 := by omega
      clear hv2
      have HC := Lib.hid fun w' (h : Ext w w') => cell_ext h (show w.cell? ⟨B, off, none⟩ = some (.int .u8 x) from hc 0 _ rfl)
      have k1 := HC.out wr hE
      have i0 : (0 : Int) < (n : Int) := by omega
      have hwx : IntKind.i64.wrap x = x := IntWalk.i64_in _ (by omega)
      clear hc
      by_cases hend : x = 0 ∨ 160 ≤ x
      · have HDE := Lib.hid (show t'.arr = D.1.arr ∧ (0 : Int) = D.2 by rw [← HD.out, decL_end hend]; exact ⟨rfl, rfl⟩)
        clear HD HO
        generalize t'.arr = cs at *
        rcases hend with rfl | hge
        ·
          have hi : (Try.prog.info? 27).map (·.size) = some cs.size := by rw [hn24]; kernel_rfl
          have hzt : (#[.int .u8 0, .int .u8 0, .int .u8 0, .int .u8 0, .int .u8 0, .int .u8 0, .int .u8 0, .int .u8 0, .int .u8 0, .int .u8 0, .int .u8 0, .int .u8 0, .int .u8 0, .int .u8 0, .int .u8 0, .int .u8 0, .int .u8 0, .int .u8 0, .int .u8 0, .int .u64 0, .int .u32 0, .int .u32 0, .int .i64 0, .int .i64 0] : Array Value).size = cs.size := by rw [hn24]; rfl
          go_wp2_with (first
            | (refine wpList_load_row rfl 27 _ rfl _ rfl 27 _ _ _ HA.out Try.underlying27 rfl hi ?_)
            | (refine wpList_store_A rfl 27 _ _ rfl (w.heap.size + 1) _ rfl rfl 27 _ HZ.out hi hzt h1.out ?_; intro w3 H3 E3; have E3 := E3 w.heap.size w hE (Nat.le_succ _); have H3 := Lib.hid H3))
          refine bodyPost_ret_by (results_cell_tmp Try.results10 _ _ (w.heap.size + 1) 27 _ _ _ rfl (.int .i64 0) rfl H3.out Try.underlying27 rfl hi) rfl ?_
          exact ⟨by rw [← HDE.out.1, ← HDE.out.2], E3⟩
        · have b0 : (x == 0) = false := by rw [beq_eq_false_iff_ne]; omega
          have hi : (Try.prog.info? 27).map (·.size) = some cs.size := by rw [hn24]; kernel_rfl
          have hzt : (#[.int .u8 0, .int .u8 0, .int .u8 0, .int .u8 0, .int .u8 0, .int .u8 0, .int .u8 0, .int .u8 0, .int .u8 0, .int .u8 0, .int .u8 0, .int .u8 0, .int .u8 0, .int .u8 0, .int .u8 0, .int .u8 0, .int .u8 0, .int .u8 0, .int .u8 0, .int .u64 0, .int .u32 0, .int .u32 0, .int .i64 0, .int .i64 0] : Array Value).size = cs.size := by rw [hn24]; rfl
          go_wp2_with (first
            | (refine wpList_load_row rfl 27 _ rfl _ rfl 27 _ _ _ HA.out Try.underlying27 rfl hi ?_)
            | (refine wpList_store_A rfl 27 _ _ rfl (w.heap.size + 1) _ rfl rfl 27 _ HZ.out hi hzt h1.out ?_; intro w3 H3 E3; have E3 := E3 w.heap.size w hE (Nat.le_succ _); have H3 := Lib.hid H3))
          refine bodyPost_ret_by (results_cell_tmp Try.results10 _ _ (w.heap.size + 1) 27 _ _ _ rfl (.int .i64 0) rfl H3.out Try.underlying27 rfl hi) rfl ?_
          exact ⟨by rw [← HDE.out.1, ← HDE.out.2], E3⟩
      · have b0 : (x == 0) = false := by rw [beq_eq_false_iff_ne]; omega
        have b1 : x < 160 := by omega
        have b2 : 1 ≤ x := by omega
        by_cases h5 : n < 5
        · have HDE := Lib.hid (show zeroT.arr = D.1.arr ∧ (3 : Int) = D.2 by rw [← HD.out, decL_short hend (by omega)]; exact ⟨rfl, rfl⟩)
          clear HD HO
          go_wp2_with (first
            | (refine wpList_build_eq rfl 27 _ rfl (L := #[.int .u8 0, .int .u8 0, .int .u8 0, .int .u8 0, .int .u8 0, .int .u8 0, .int .u8 0, .int .u8 0, .int .u8 0, .int .u8 0, .int .u8 0, .int .u8 0, .int .u8 0, .int .u8 0, .int .u8 0, .int .u8 0, .int .u8 0, .int .u8 0, .int .u8 0, .int .u64 0, .int .u32 0, .int .u32 0, .int .i64 0, .int .i64 0]) (by simp [go_sem]; exact zero_built) ?_)
            | (refine wpList_store_A rfl 27 _ _ rfl (w.heap.size + 1) _ rfl rfl 27 _ HZ.out hiz rfl h1z.out ?_; intro w3 H3 E3; have E3 := E3 w.heap.size w hE (Nat.le_succ _); have H3 := Lib.hid H3))
          refine bodyPost_ret_by (results_cell_tmp Try.results10 _ _ (w.heap.size + 1) 27 _ _ _ rfl (.int .i64 3) rfl H3.out Try.underlying27 rfl hiz) rfl ?_
          exact ⟨by rw [← HDE.out.1, ← HDE.out.2, zeroT_arr], E3⟩
        · have h4 : 4 ≤ r.length := by omega
          have hc1 : ¬ c' = 1 := by omega
          have HR1 := Lib.hid fun w' (h : Ext w w') => RI.from_ (RdN.ext HR.out h) (show 1 ≤ n by omega)
          have HR5 := Lib.hid (RI.from_ HR.out (show 5 ≤ n by omega))
          simp only [List.drop_succ_cons, List.drop_zero, hc1, if_false] at HR1 HR5
          have hM := fun w' => mode_any t' x (hd4 r) w' HO.out ⟨b2, by omega⟩ (hd4_bd HBr.out)
          have HA4 := Lib.hid fun v w' h => argument_any v r w' h HBr.out h4
          have hMO := modeL_ok (op := x) HO.out (hd4_bd HBr.out)
          have hgo := fun he => @decL_go x r t' hend h4 he
          have herr := fun he => @decL_err x r t' hend h4 he
          clear HO HB
          generalize modeL t' x (hd4 r) = U at hM hMO hgo herr
          obtain ⟨u, e⟩ := U
          simp only at hM hMO hgo herr
          have hnu := u.size hMO
          have h1u := Lib.hid u.one
          have HMO := Lib.hid hMO
          have HM := Lib.hid hM
          have HGO := Lib.hid hgo
          have HER := Lib.hid herr
          clear hM hMO hgo herr
          obtain ⟨cs, hcs⟩ : ∃ cs, t'.arr = cs := ⟨_, rfl⟩
          obtain ⟨cu, hcu⟩ : ∃ cu, u.arr = cu := ⟨_, rfl⟩
          rw [hcs] at hn24 h1 HA HM
          rw [hcu] at hnu h1u HM
          have HCU := Lib.hid hcu
          have hi : (Try.prog.info? 27).map (·.size) = some cs.size := by rw [hn24]; kernel_rfl
          have hiu : (Try.prog.info? 27).map (·.size) = some cu.size := by rw [hnu]; kernel_rfl
          have hsz : cs.size = cu.size := by rw [hn24, hnu]
          have hzu : (#[.int .u8 0, .int .u8 0, .int .u8 0, .int .u8 0, .int .u8 0, .int .u8 0, .int .u8 0, .int .u8 0, .int .u8 0, .int .u8 0, .int .u8 0, .int .u8 0, .int .u8 0, .int .u8 0, .int .u8 0, .int .u8 0, .int .u8 0, .int .u8 0, .int .u8 0, .int .u64 0, .int .u32 0, .int .u32 0, .int .i64 0, .int .i64 0] : Array Value).size = cu.size := by rw [hnu]; rfl
          have j1 : (1 : Int) ≤ (n : Int) := by omega
          have j2 : (5 : Int) ≤ (n : Int) := by omega
          have j3 : (n : Int) ≤ (c' : Int) := by omega
          have j4 : (1 : Int) ≤ (c' : Int) := by omega
          have j5 : (5 : Int) ≤ (c' : Int) := by omega
          have j6 : ¬ (n : Int) < 5 := by omega
          clear hcs hcu hend h5
          generalize hd4 r = m at *
          go_wp2
          refine wp_region_held_drew (S := fun w' => Ext w w') (by kernel_rfl) (by repeat (first | with_reducible exact Ext.refl _ | refine Ext.drewN ?_ _ | refine Ext.drew ?_ | refine Ext.alloc ?_ _ | assumption | (refine Below.trans ?_ (by assumption)) | (refine Ext.trans ?_ (by assumption)) | (refine Below.trans ?_ (Below.mono (by assumption) (by omega))))) (fun hHeld => ?_)
          (refine wpAnyH_take (i := 1) (v := ?_) rfl (by kernel_rfl) (by kernel_rfl) (by kernel_rfl) (fun _ _ _ h => h) (Or.inl ⟨by rfl, ?_⟩) (by assumption) ?_; rotate_left; (focus (intro w' hSw; go_simp; try with_reducible rfl)); (try simp only [List.getElem_toArray]); (try simp only [List.getElem_cons_succ]); (try simp only [List.getElem_cons_zero]); (try simp only [Act.put]); (try simp only [List.setIfInBounds_toArray]); (try simp only [List.set_cons_succ]); (try simp only [List.set_cons_zero]))
          (refine wpAnyH_take (i := 2) (v := ?_) rfl (by kernel_rfl) (by kernel_rfl) (by kernel_rfl) (fun _ _ _ h => h) (Or.inl ⟨by rfl, ?_⟩) (by assumption) ?_; rotate_left; (focus (intro w' hSw; go_simp; try with_reducible rfl)); (try simp only [List.getElem_toArray]); (try simp only [List.getElem_cons_succ]); (try simp only [List.getElem_cons_zero]); (try simp only [Act.put]); (try simp only [List.setIfInBounds_toArray]); (try simp only [List.set_cons_succ]); (try simp only [List.set_cons_zero]))
          (refine wpAnyH_take (i := 3) (v := ?_) rfl (by kernel_rfl) (by kernel_rfl) (by kernel_rfl) (fun _ _ _ h => h) (Or.inl ⟨by rfl, ?_⟩) (by assumption) ?_; rotate_left; (focus (intro w' hSw; go_simp; try with_reducible rfl)); (try simp only [List.getElem_toArray]); (try simp only [List.getElem_cons_succ]); (try simp only [List.getElem_cons_zero]); (try simp only [Act.put]); (try simp only [List.setIfInBounds_toArray]); (try simp only [List.set_cons_succ]); (try simp only [List.set_cons_zero]))
          refine wpAnyH_ready (rs := [0, 4]) (by kernel_rfl) (by simp) ?_
          refine AllReadyH.cons rfl (fun K hK => ?_) (AllReadyH.cons rfl (fun K hK => ?_) AllReadyH.nil)
          · rw [if_pos (by rfl)]
            refine wp_load_row 27 _ rfl w.heap.size rfl 27 cs _ _ (Blk.ext HA.out (show Ext wr wr.drew from (by repeat (first | with_reducible exact Ext.refl _ | refine Ext.drewN ?_ _ | refine Ext.drew ?_ | refine Ext.alloc ?_ _ | assumption | (refine Below.trans ?_ (by assumption)) | (refine Ext.trans ?_ (by assumption)) | (refine Below.trans ?_ (Below.mono (by assumption) (by omega))))))) Try.underlying27 rfl hi ?_
            refine hK.out _ _ (by repeat (first | with_reducible exact Ext.refl _ | refine Ext.drewN ?_ _ | refine Ext.drew ?_ | refine Ext.alloc ?_ _ | assumption | (refine Below.trans ?_ (by assumption)) | (refine Ext.trans ?_ (by assumption)) | (refine Below.trans ?_ (Below.mono (by assumption) (by omega))))) (fun hHeld => ?_)
            clear hK K
            (try simp only [List.getElem_toArray]); (try simp only [List.getElem_cons_succ]); (try simp only [List.getElem_cons_zero]); (try simp only [Act.put]); (try simp only [List.setIfInBounds_toArray]); (try simp only [List.set_cons_succ]); (try simp only [List.set_cons_zero])
            (refine wpAnyH_ready (rs := [4]) (by kernel_rfl) (by simp) ?_; refine AllReadyH.cons rfl (fun K hK => ?_) AllReadyH.nil; go_simp; go_at_call 28; refine (HA4.out _ _ (HR1.out _ (by repeat (first | with_reducible exact Ext.refl _ | refine Ext.drewN ?_ _ | refine Ext.drew ?_ | refine Ext.alloc ?_ _ | assumption | (refine Below.trans ?_ (by assumption)) | (refine Ext.trans ?_ (by assumption)) | (refine Below.trans ?_ (Below.mono (by assumption) (by omega))))))).mono ?_; rintro e w3 ⟨rfl, E3⟩; (try dsimp only); refine hK.out _ _ (by repeat (first | with_reducible exact Ext.refl _ | refine Ext.drewN ?_ _ | refine Ext.drew ?_ | refine Ext.alloc ?_ _ | assumption | (refine Below.trans ?_ (by assumption)) | (refine Ext.trans ?_ (by assumption)) | (refine Below.trans ?_ (Below.mono (by assumption) (by omega))))) (fun hHeld => ?_); clear hK K; (try simp only [Act.put]); (try simp only [List.getElem_toArray]); (try simp only [List.getElem_cons_succ]); (try simp only [List.getElem_cons_zero]); (try simp only [List.setIfInBounds_toArray]); (try simp only [List.set_cons_succ]); (try simp only [List.set_cons_zero]))
            have E3 : Ext wr w3 := (by repeat (first | with_reducible exact Ext.refl _ | refine Ext.drewN ?_ _ | refine Ext.drew ?_ | refine Ext.alloc ?_ _ | assumption | (refine Below.trans ?_ (by assumption)) | (refine Ext.trans ?_ (by assumption)) | (refine Below.trans ?_ (Below.mono (by assumption) (by omega)))))
            (refine wpAnyH_ready (rs := [5]) (by kernel_rfl) (by simp) ?_; refine AllReadyH.cons rfl (fun K hK => ?_) AllReadyH.nil; go_simp; go_at_call 27; refine (HM.out _).mono ?_; rintro e w4 ⟨rfl, E4⟩; (try dsimp only); refine hK.out _ _ (by repeat (first | with_reducible exact Ext.refl _ | refine Ext.drewN ?_ _ | refine Ext.drew ?_ | refine Ext.alloc ?_ _ | assumption | (refine Below.trans ?_ (by assumption)) | (refine Ext.trans ?_ (by assumption)) | (refine Below.trans ?_ (Below.mono (by assumption) (by omega))))) (fun hHeld => ?_); clear hK K; (try simp only [Act.put]); (try simp only [List.getElem_toArray]); (try simp only [List.getElem_cons_succ]); (try simp only [List.getElem_cons_zero]); (try simp only [List.setIfInBounds_toArray]); (try simp only [List.set_cons_succ]); (try simp only [List.set_cons_zero]))
            have E4 : Ext wr w4 := E3.trans E4
            (refine wpAnyH_take (i := 6) (v := ?_) rfl (by kernel_rfl) (by kernel_rfl) (by kernel_rfl) (fun _ _ _ h => h) (Or.inl ⟨by rfl, ?_⟩) (by assumption) ?_; rotate_left; (focus (intro w' hSw; go_simp; try with_reducible rfl)); (try simp only [List.getElem_toArray]); (try simp only [List.getElem_cons_succ]); (try simp only [List.getElem_cons_zero]); (try simp only [Act.put]); (try simp only [List.setIfInBounds_toArray]); (try simp only [List.set_cons_succ]); (try simp only [List.set_cons_zero]))
            (refine wpAnyH_take (i := 7) (v := ?_) rfl (by kernel_rfl) (by kernel_rfl) (by kernel_rfl) (fun _ _ _ h => h) (Or.inl ⟨by rfl, ?_⟩) (by assumption) ?_; rotate_left; (focus (intro w' hSw; go_simp; try with_reducible rfl)); (try simp only [List.getElem_toArray]); (try simp only [List.getElem_cons_succ]); (try simp only [List.getElem_cons_zero]); (try simp only [Act.put]); (try simp only [List.setIfInBounds_toArray]); (try simp only [List.set_cons_succ]); (try simp only [List.set_cons_zero]))
            (refine wpAnyH_take (i := 8) (v := ?_) rfl (by kernel_rfl) (by kernel_rfl) (by kernel_rfl) (fun _ _ _ h => h) (Or.inl ⟨by rfl, ?_⟩) (by assumption) ?_; rotate_left; (focus (intro w' hSw; go_simp; try with_reducible rfl)); (try simp only [List.getElem_toArray]); (try simp only [List.getElem_cons_succ]); (try simp only [List.getElem_cons_zero]); (try simp only [Act.put]); (try simp only [List.setIfInBounds_toArray]); (try simp only [List.set_cons_succ]); (try simp only [List.set_cons_zero]))
            refine wpAnyH_ready (rs := [9]) (by kernel_rfl) (by simp) ?_
            refine AllReadyH.cons rfl (fun K hK => ?_) AllReadyH.nil
            rw [if_pos (by rfl)]
            refine wp_store_AF 27 _ _ rfl w.heap.size _ rfl rfl 27 _ (Blk.ext HA.out E4) hiu hsz h1u.out ?_
            intro w5 H5 F5 E5
            have E5 : Ext w w5 := E5 w.heap.size w (hE.trans E4) (Nat.le_refl _)
            have H5 := Lib.hid H5
            have HZ := Lib.hid (F5 _ _ _ (by simp) (Blk.ext HZ.out E4))
            refine hK.out _ _ E5 (fun hHeld => ?_)
            clear hK K F5
            (try simp only [List.getElem_toArray]); (try simp only [List.getElem_cons_succ]); (try simp only [List.getElem_cons_zero]); (try simp only [Act.put]); (try simp only [List.setIfInBounds_toArray]); (try simp only [List.set_cons_succ]); (try simp only [List.set_cons_zero])
            (refine wpAnyH_take (i := 10) (v := ?_) rfl (by kernel_rfl) (by kernel_rfl) (by kernel_rfl) (fun _ _ _ h => h) (Or.inl ⟨by rfl, ?_⟩) (by assumption) ?_; rotate_left; (focus (intro w' hSw; go_simp; try with_reducible rfl)); (try simp only [List.getElem_toArray]); (try simp only [List.getElem_cons_succ]); (try simp only [List.getElem_cons_zero]); (try simp only [Act.put]); (try simp only [List.setIfInBounds_toArray]); (try simp only [List.set_cons_succ]); (try simp only [List.set_cons_zero]))
            refine wpAnyH_done (by kernel_rfl) ?_ _
            clear E3 E4
            by_cases he : e = 0
            · have HD2 := Lib.hid ((HGO.out he).symm.trans HD.out)
              have HB2 := Lib.hid (Bs.drop4 HBr.out 4)
              have HL2 := Lib.hid (show (r.drop 4).length = n - 5 by rw [List.length_drop]; omega)
              subst he
              clear HGO HER
              go_wp2
              go_roundw
              case rel => exact ⟨_, n - 5, c' - 5, r.drop 4, u, rfl, HL2, Lib.hid HR5.out, HB2, HMO, Lib.hid (by rw [HCU.out]; exact H5.out), HZ, HD2, E5⟩
              case measure => simp [lenOfV]; omega
            · have HDE := Lib.hid (show zeroT.arr = D.1.arr ∧ e = D.2 by rw [← HD.out, HER.out he]; exact ⟨rfl, rfl⟩)
              have e0 : (e == 0) = false := by simpa using he
              have e1 : (e != 0) = true := by simpa using he
              clear HGO HER
              go_wp2_with (first
                | (refine wpList_build_eq rfl 27 _ rfl (L := #[.int .u8 0, .int .u8 0, .int .u8 0, .int .u8 0, .int .u8 0, .int .u8 0, .int .u8 0, .int .u8 0, .int .u8 0, .int .u8 0, .int .u8 0, .int .u8 0, .int .u8 0, .int .u8 0, .int .u8 0, .int .u8 0, .int .u8 0, .int .u8 0, .int .u8 0, .int .u64 0, .int .u32 0, .int .u32 0, .int .i64 0, .int .i64 0]) (by simp [go_sem]; exact zero_built) ?_)
                | (refine wpList_store_A rfl 27 _ _ rfl (w.heap.size + 1) _ rfl rfl 27 _ HZ.out hiz rfl h1z.out ?_; intro w3 H3 E3; have E3 := E3 w.heap.size w E5 (Nat.le_succ _); have H3 := Lib.hid H3))
              refine bodyPost_ret_by (results_cell_tmp Try.results10 _ _ (w.heap.size + 1) 27 _ _ _ rfl (.int .i64 e) rfl H3.out Try.underlying27 rfl hiz) rfl ?_
              exact ⟨by rw [← HDE.out.1, ← HDE.out.2, zeroT_arr], E3⟩
          · go_simp
            go_at_call 28
            refine (HA4.out _ _ (HR1.out _ (by repeat (first | with_reducible exact Ext.refl _ | refine Ext.drewN ?_ _ | refine Ext.drew ?_ | refine Ext.alloc ?_ _ | assumption | (refine Below.trans ?_ (by assumption)) | (refine Ext.trans ?_ (by assumption)) | (refine Below.trans ?_ (Below.mono (by assumption) (by omega))))))).mono ?_
            rintro e2 w3 ⟨rfl, E3⟩
            (try dsimp only)
            refine hK.out _ _ (by repeat (first | with_reducible exact Ext.refl _ | refine Ext.drewN ?_ _ | refine Ext.drew ?_ | refine Ext.alloc ?_ _ | assumption | (refine Below.trans ?_ (by assumption)) | (refine Ext.trans ?_ (by assumption)) | (refine Below.trans ?_ (Below.mono (by assumption) (by omega))))) (fun hHeld => ?_)
            clear hK K
            (try simp only [Act.put]); (try simp only [List.getElem_toArray]); (try simp only [List.getElem_cons_succ]); (try simp only [List.getElem_cons_zero]); (try simp only [List.setIfInBounds_toArray]); (try simp only [List.set_cons_succ]); (try simp only [List.set_cons_zero])
            have E3 : Ext wr w3 := (by repeat (first | with_reducible exact Ext.refl _ | refine Ext.drewN ?_ _ | refine Ext.drew ?_ | refine Ext.alloc ?_ _ | assumption | (refine Below.trans ?_ (by assumption)) | (refine Ext.trans ?_ (by assumption)) | (refine Below.trans ?_ (Below.mono (by assumption) (by omega)))))
            refine wpAnyH_ready (rs := [0]) (by kernel_rfl) (by simp) ?_
            refine AllReadyH.cons rfl (fun K hK => ?_) AllReadyH.nil
            rw [if_pos (by rfl)]
            refine wp_load_row 27 _ rfl w.heap.size rfl 27 cs _ _ (Blk.ext HA.out E3) Try.underlying27 rfl hi ?_
            refine hK.out _ _ (hE.trans E3) (fun hHeld => ?_)
            clear hK K
            (try simp only [List.getElem_toArray]); (try simp only [List.getElem_cons_succ]); (try simp only [List.getElem_cons_zero]); (try simp only [Act.put]); (try simp only [List.setIfInBounds_toArray]); (try simp only [List.set_cons_succ]); (try simp only [List.set_cons_zero])
            (refine wpAnyH_ready (rs := [5]) (by kernel_rfl) (by simp) ?_; refine AllReadyH.cons rfl (fun K hK => ?_) AllReadyH.nil; go_simp; go_at_call 27; refine (HM.out _).mono ?_; rintro e w4 ⟨rfl, E4⟩; (try dsimp only); refine hK.out _ _ (by repeat (first | with_reducible exact Ext.refl _ | refine Ext.drewN ?_ _ | refine Ext.drew ?_ | refine Ext.alloc ?_ _ | assumption | (refine Below.trans ?_ (by assumption)) | (refine Ext.trans ?_ (by assumption)) | (refine Below.trans ?_ (Below.mono (by assumption) (by omega))))) (fun hHeld => ?_); clear hK K; (try simp only [Act.put]); (try simp only [List.getElem_toArray]); (try simp only [List.getElem_cons_succ]); (try simp only [List.getElem_cons_zero]); (try simp only [List.setIfInBounds_toArray]); (try simp only [List.set_cons_succ]); (try simp only [List.set_cons_zero]))
            have E4 : Ext wr w4 := E3.trans E4
            (refine wpAnyH_take (i := 6) (v := ?_) rfl (by kernel_rfl) (by kernel_rfl) (by kernel_rfl) (fun _ _ _ h => h) (Or.inl ⟨by rfl, ?_⟩) (by assumption) ?_; rotate_left; (focus (intro w' hSw; go_simp; try with_reducible rfl)); (try simp only [List.getElem_toArray]); (try simp only [List.getElem_cons_succ]); (try simp only [List.getElem_cons_zero]); (try simp only [Act.put]); (try simp only [List.setIfInBounds_toArray]); (try simp only [List.set_cons_succ]); (try simp only [List.set_cons_zero]))
            (refine wpAnyH_take (i := 7) (v := ?_) rfl (by kernel_rfl) (by kernel_rfl) (by kernel_rfl) (fun _ _ _ h => h) (Or.inl ⟨by rfl, ?_⟩) (by assumption) ?_; rotate_left; (focus (intro w' hSw; go_simp; try with_reducible rfl)); (try simp only [List.getElem_toArray]); (try simp only [List.getElem_cons_succ]); (try simp only [List.getElem_cons_zero]); (try simp only [Act.put]); (try simp only [List.setIfInBounds_toArray]); (try simp only [List.set_cons_succ]); (try simp only [List.set_cons_zero]))
            (refine wpAnyH_take (i := 8) (v := ?_) rfl (by kernel_rfl) (by kernel_rfl) (by kernel_rfl) (fun _ _ _ h => h) (Or.inl ⟨by rfl, ?_⟩) (by assumption) ?_; rotate_left; (focus (intro w' hSw; go_simp; try with_reducible rfl)); (try simp only [List.getElem_toArray]); (try simp only [List.getElem_cons_succ]); (try simp only [List.getElem_cons_zero]); (try simp only [Act.put]); (try simp only [List.setIfInBounds_toArray]); (try simp only [List.set_cons_succ]); (try simp only [List.set_cons_zero]))
            refine wpAnyH_ready (rs := [9]) (by kernel_rfl) (by simp) ?_
            refine AllReadyH.cons rfl (fun K hK => ?_) AllReadyH.nil
            rw [if_pos (by rfl)]
            refine wp_store_AF 27 _ _ rfl w.heap.size _ rfl rfl 27 _ (Blk.ext HA.out E4) hiu hsz h1u.out ?_
            intro w5 H5 F5 E5
            have E5 : Ext w w5 := E5 w.heap.size w (hE.trans E4) (Nat.le_refl _)
            have H5 := Lib.hid H5
            have HZ := Lib.hid (F5 _ _ _ (by simp) (Blk.ext HZ.out E4))
            refine hK.out _ _ E5 (fun hHeld => ?_)
            clear hK K F5
            (try simp only [List.getElem_toArray]); (try simp only [List.getElem_cons_succ]); (try simp only [List.getElem_cons_zero]); (try simp only [Act.put]); (try simp only [List.setIfInBounds_toArray]); (try simp only [List.set_cons_succ]); (try simp only [List.set_cons_zero])
            (refine wpAnyH_take (i := 10) (v := ?_) rfl (by kernel_rfl) (by kernel_rfl) (by kernel_rfl) (fun _ _ _ h => h) (Or.inl ⟨by rfl, ?_⟩) (by assumption) ?_; rotate_left; (focus (intro w' hSw; go_simp; try with_reducible rfl)); (try simp only [List.getElem_toArray]); (try simp only [List.getElem_cons_succ]); (try simp only [List.getElem_cons_zero]); (try simp only [Act.put]); (try simp only [List.setIfInBounds_toArray]); (try simp only [List.set_cons_succ]); (try simp only [List.set_cons_zero]))
            refine wpAnyH_done (by kernel_rfl) ?_ _
            clear E3 E4
            by_cases he : e = 0
            · have HD2 := Lib.hid ((HGO.out he).symm.trans HD.out)
              have HB2 := Lib.hid (Bs.drop4 HBr.out 4)
              have HL2 := Lib.hid (show (r.drop 4).length = n - 5 by rw [List.length_drop]; omega)
              subst he
              clear HGO HER
              go_wp2
              go_roundw
              case rel => exact ⟨_, n - 5, c' - 5, r.drop 4, u, rfl, HL2, Lib.hid HR5.out, HB2, HMO, Lib.hid (by rw [HCU.out]; exact H5.out), HZ, HD2, E5⟩
              case measure => simp [lenOfV]; omega
            · have HDE := Lib.hid (show zeroT.arr = D.1.arr ∧ e = D.2 by rw [← HD.out, HER.out he]; exact ⟨rfl, rfl⟩)
              have e0 : (e == 0) = false := by simpa using he
              have e1 : (e != 0) = true := by simpa using he
              clear HGO HER
              go_wp2_with (first
                | (refine wpList_build_eq rfl 27 _ rfl (L := #[.int .u8 0, .int .u8 0, .int .u8 0, .int .u8 0, .int .u8 0, .int .u8 0, .int .u8 0, .int .u8 0, .int .u8 0, .int .u8 0, .int .u8 0, .int .u8 0, .int .u8 0, .int .u8 0, .int .u8 0, .int .u8 0, .int .u8 0, .int .u8 0, .int .u8 0, .int .u64 0, .int .u32 0, .int .u32 0, .int .i64 0, .int .i64 0]) (by simp [go_sem]; exact zero_built) ?_)
                | (refine wpList_store_A rfl 27 _ _ rfl (w.heap.size + 1) _ rfl rfl 27 _ HZ.out hiz rfl h1z.out ?_; intro w3 H3 E3; have E3 := E3 w.heap.size w E5 (Nat.le_succ _); have H3 := Lib.hid H3))
              refine bodyPost_ret_by (results_cell_tmp Try.results10 _ _ (w.heap.size + 1) 27 _ _ _ rfl (.int .i64 e) rfl H3.out Try.underlying27 rfl hiz) rfl ?_
              exact ⟨by rw [← HDE.out.1, ← HDE.out.2, zeroT_arr], E3⟩
end Go.Proofs.Ytpngnmokagbekaa
