/- The document's way of decoding a stream of modes, by contract. Conditions: the setting is one, bytes are bytes. -/
import Derived.Test.YtpngnmokagbekaaC08
namespace Go.Proofs.Ytpngnmokagbekaa
open Go.RowKit Go.Kb

set_option maxRecDepth 100000 in
set_option maxHeartbeats 800000 in
theorem rdecode_any (t : Tm) (v : Value) (l : List Int) (w : World) (ht : t.Ok) (hl : RI .u8 w v l) (hB : Bs l) :
    Calls Try.prog 11 #[v, .agg t.arr] w fun e w' => e = .returned (.tuple #[.agg (decL l t).1.arr, .int .i64 (decL l t).2]) ∧ Ext w w' := by
  have hD0 := Lib.hid (rfl : decL l t = decL l t)
  revert hD0
  generalize hD : decL l t = D
  intro _
  obtain ⟨Ad, c, rfl, hc1, hc2⟩ := hl.shape
  have HR0 := Lib.hid hl
  have HB0 := Lib.hid hB
  have HO0 := Lib.hid ht
  have HD0 := Lib.hid hD
  clear hl hB ht hD
  have hzs : (#[.int .u8 0, .int .u8 0, .int .u8 0, .int .u8 0, .int .u8 0, .int .u8 0, .int .u8 0, .int .u8 0, .int .u8 0, .int .u8 0, .int .u8 0, .int .u8 0, .int .u8 0, .int .u8 0, .int .u8 0, .int .u8 0, .int .u8 0, .int .u8 0, .int .u8 0, .int .u64 0, .int .u32 0, .int .u32 0, .int .i64 0, .int .i64 0] : Array Value).size = 24 := rfl
  have hiz : (Try.prog.info? 27).map (·.size) = some (#[.int .u8 0, .int .u8 0, .int .u8 0, .int .u8 0, .int .u8 0, .int .u8 0, .int .u8 0, .int .u8 0, .int .u8 0, .int .u8 0, .int .u8 0, .int .u8 0, .int .u8 0, .int .u8 0, .int .u8 0, .int .u8 0, .int .u8 0, .int .u8 0, .int .u8 0, .int .u64 0, .int .u32 0, .int .u32 0, .int .i64 0, .int .i64 0] : Array Value).size := by rw [hzs]; kernel_rfl
  have h1z : Hid ((#[.int .u8 0, .int .u8 0, .int .u8 0, .int .u8 0, .int .u8 0, .int .u8 0, .int .u8 0, .int .u8 0, .int .u8 0, .int .u8 0, .int .u8 0, .int .u8 0, .int .u8 0, .int .u8 0, .int .u8 0, .int .u8 0, .int .u8 0, .int .u8 0, .int .u8 0, .int .u64 0, .int .u32 0, .int .u32 0, .int .i64 0, .int .i64 0] : Array Value).all (·.oneCell') = true) := Lib.hid (by rw [← zeroT_arr]; exact zeroT.one)
  have hn0 := t.size HO0.out
  go_enter Try.func11, Try.ntmps11
  go_wp2
  go_loopw [0] (fun v wr => ∃ (A : Option Addr) (n c : Nat) (xs : List Int) (t' : Tm), v = .slice A n c ∧ Hid (xs.length = n) ∧ Hid (RI .u8 w (.slice A n c) xs) ∧ Hid (Bs xs) ∧ Hid t'.Ok ∧ Hid (Blk wr w.heap.size 27 t'.arr) ∧ Hid (Blk wr (w.heap.size + 1) 27 #[.int .u8 0, .int .u8 0, .int .u8 0, .int .u8 0, .int .u8 0, .int .u8 0, .int .u8 0, .int .u8 0, .int .u8 0, .int .u8 0, .int .u8 0, .int .u8 0, .int .u8 0, .int .u8 0, .int .u8 0, .int .u8 0, .int .u8 0, .int .u8 0, .int .u8 0, .int .u64 0, .int .u32 0, .int .u32 0, .int .i64 0, .int .i64 0]) ∧ Hid (decL xs t' = D) ∧ Ext w wr) (fun v _ => lenOfV v)
  case atStart => exact ⟨Ad, l.length, c, l, t, rfl, Lib.hid rfl, HR0, HB0, HO0, Lib.hid ((Blk.new w 27 t.arr).alloc _), Lib.hid (Blk.at_ (w := w.alloc (.cells t.arr 27)) (B := w.heap.size + 1) 27 _ (by simp)), HD0, (by repeat (first | with_reducible exact Ext.refl _ | refine Ext.drewN ?_ _ | refine Ext.drew ?_ | refine Ext.alloc ?_ _ | assumption | (refine Below.trans ?_ (by assumption)) | (refine Ext.trans ?_ (by assumption)) | (refine Below.trans ?_ (Below.mono (by assumption) (by omega)))))⟩
  case round =>
    obtain ⟨A, n, c', xs, t', rfl, HN, HR, HB, HO, HA, HZ, HD, hE⟩ := hrel
    clear HR0 HB0 HO0 HD0 hn0 hc1 hc2
    have hn24 := t'.size HO.out
    have h1 := Lib.hid t'.one
    rcases xs with _ | ⟨x, r⟩
    · obtain rfl : 0 = n := HN.out
      have HDE := Lib.hid (show t'.arr = D.1.arr ∧ (0 : Int) = D.2 by rw [← HD.out]; exact ⟨rfl, rfl⟩)
      clear HD HO
      generalize t'.arr = cs at *
      have hi : (Try.prog.info? 27).map (·.size) = some cs.size := by rw [hn24]; kernel_rfl
      have hzt : (#[.int .u8 0, .int .u8 0, .int .u8 0, .int .u8 0, .int .u8 0, .int .u8 0, .int .u8 0, .int .u8 0, .int .u8 0, .int .u8 0, .int .u8 0, .int .u8 0, .int .u8 0, .int .u8 0, .int .u8 0, .int .u8 0, .int .u8 0, .int .u8 0, .int .u8 0, .int .u64 0, .int .u32 0, .int .u32 0, .int .i64 0, .int .i64 0] : Array Value).size = cs.size := by rw [hn24]; rfl
      go_wp2_with (first
        | (refine wpList_load_row rfl 27 _ rfl _ rfl 27 _ _ _ HA.out Try.underlying27 rfl hi ?_)
        | (refine wpList_store_A rfl 27 _ _ rfl (w.heap.size + 1) _ rfl rfl 27 _ HZ.out hi hzt h1.out ?_; intro w3 H3 E3; have E3 := E3 w.heap.size w hE (Nat.le_succ _); have H3 := Lib.hid H3))
      refine bodyPost_ret_by (results_cell_tmp Try.results11 _ _ (w.heap.size + 1) 27 _ _ _ rfl (.int .i64 0) rfl H3.out Try.underlying27 rfl hi) rfl ?_
      exact ⟨by rw [← HDE.out.1, ← HDE.out.2], E3⟩
    · have hnr : r.length + 1 = n := HN.out
      have hx := HB.out x (by simp)
      have HBr := Lib.hid (show Bs r from fun y hy => HB.out y (List.mem_cons_of_mem _ hy))
      obtain ⟨B, off, c2, hv, q1, q2, hc⟩ := HR.out.form (by simp)
      simp only [Value.slice.injEq] at hv
      obtain ⟨rfl, hv2, rfl⟩ := hv
      simp only [List.length_cons] at q1
      unfold maxLen at q2
      have hn63 : n ≤ 9223372036854775807 := by omega
      clear hv2
      have HC := Lib.hid fun w' (h : Ext w w') => cell_ext h (show w.cell? ⟨B, off, none⟩ = some (.int .u8 x) from hc 0 _ rfl)
      have k1 := HC.out wr hE
      have i0 : (0 : Int) < (n : Int) := by omega
      have hwx : IntKind.i64.wrap x = x := IntWalk.i64_in _ (by omega)
      clear hc
      by_cases hend : x = 0 ∨ 160 ≤ x
      · have HDE := Lib.hid (show t'.arr = D.1.arr ∧ (0 : Int) = D.2 by rw [← HD.out, decL_end hend]; exact ⟨rfl, rfl⟩)
        clear HD HO
        generalize t'.arr = cs at *
        rcases hend with rfl | hge
        ·
          have hi : (Try.prog.info? 27).map (·.size) = some cs.size := by rw [hn24]; kernel_rfl
          have hzt : (#[.int .u8 0, .int .u8 0, .int .u8 0, .int .u8 0, .int .u8 0, .int .u8 0, .int .u8 0, .int .u8 0, .int .u8 0, .int .u8 0, .int .u8 0, .int .u8 0, .int .u8 0, .int .u8 0, .int .u8 0, .int .u8 0, .int .u8 0, .int .u8 0, .int .u8 0, .int .u64 0, .int .u32 0, .int .u32 0, .int .i64 0, .int .i64 0] : Array Value).size = cs.size := by rw [hn24]; rfl
          go_wp2_with (first
            | (refine wpList_load_row rfl 27 _ rfl _ rfl 27 _ _ _ HA.out Try.underlying27 rfl hi ?_)
            | (refine wpList_store_A rfl 27 _ _ rfl (w.heap.size + 1) _ rfl rfl 27 _ HZ.out hi hzt h1.out ?_; intro w3 H3 E3; have E3 := E3 w.heap.size w hE (Nat.le_succ _); have H3 := Lib.hid H3))
          refine bodyPost_ret_by (results_cell_tmp Try.results11 _ _ (w.heap.size + 1) 27 _ _ _ rfl (.int .i64 0) rfl H3.out Try.underlying27 rfl hi) rfl ?_
          exact ⟨by rw [← HDE.out.1, ← HDE.out.2], E3⟩
        · have b0 : (x == 0) = false := by rw [beq_eq_false_iff_ne]; omega
          have b1 : ¬ x < 160 := by omega
          have hi : (Try.prog.info? 27).map (·.size) = some cs.size := by rw [hn24]; kernel_rfl
          have hzt : (#[.int .u8 0, .int .u8 0, .int .u8 0, .int .u8 0, .int .u8 0, .int .u8 0, .int .u8 0, .int .u8 0, .int .u8 0, .int .u8 0, .int .u8 0, .int .u8 0, .int .u8 0, .int .u8 0, .int .u8 0, .int .u8 0, .int .u8 0, .int .u8 0, .int .u8 0, .int .u64 0, .int .u32 0, .int .u32 0, .int .i64 0, .int .i64 0] : Array Value).size = cs.size := by rw [hn24]; rfl
          go_wp2_with (first
            | (refine wpList_load_row rfl 27 _ rfl _ rfl 27 _ _ _ HA.out Try.underlying27 rfl hi ?_)
            | (refine wpList_store_A rfl 27 _ _ rfl (w.heap.size + 1) _ rfl rfl 27 _ HZ.out hi hzt h1.out ?_; intro w3 H3 E3; have E3 := E3 w.heap.size w hE (Nat.le_succ _); have H3 := Lib.hid H3))
          refine bodyPost_ret_by (results_cell_tmp Try.results11 _ _ (w.heap.size + 1) 27 _ _ _ rfl (.int .i64 0) rfl H3.out Try.underlying27 rfl hi) rfl ?_
          exact ⟨by rw [← HDE.out.1, ← HDE.out.2], E3⟩
      · have b0 : (x == 0) = false := by rw [beq_eq_false_iff_ne]; omega
        have b0' : (x != 0) = true := by rw [bne_iff_ne]; omega
        have b1 : x < 160 := by omega
        have b2 : 1 ≤ x := by omega
        by_cases h5 : n < 5
        · have HDE := Lib.hid (show zeroT.arr = D.1.arr ∧ (3 : Int) = D.2 by rw [← HD.out, decL_short hend (by omega)]; exact ⟨rfl, rfl⟩)
          clear HD HO
          go_wp2_with (first
            | (refine wpList_build_eq rfl 27 _ rfl (L := #[.int .u8 0, .int .u8 0, .int .u8 0, .int .u8 0, .int .u8 0, .int .u8 0, .int .u8 0, .int .u8 0, .int .u8 0, .int .u8 0, .int .u8 0, .int .u8 0, .int .u8 0, .int .u8 0, .int .u8 0, .int .u8 0, .int .u8 0, .int .u8 0, .int .u8 0, .int .u64 0, .int .u32 0, .int .u32 0, .int .i64 0, .int .i64 0]) (by simp [go_sem]; exact zero_built) ?_)
            | (refine wpList_store_A rfl 27 _ _ rfl (w.heap.size + 1) _ rfl rfl 27 _ HZ.out hiz rfl h1z.out ?_; intro w3 H3 E3; have E3 := E3 w.heap.size w hE (Nat.le_succ _); have H3 := Lib.hid H3))
          refine bodyPost_ret_by (results_cell_tmp Try.results11 _ _ (w.heap.size + 1) 27 _ _ _ rfl (.int .i64 3) rfl H3.out Try.underlying27 rfl hiz) rfl ?_
          exact ⟨by rw [← HDE.out.1, ← HDE.out.2, zeroT_arr], E3⟩
        · have h4 : 4 ≤ r.length := by omega
          have hc1 : ¬ c' = 1 := by omega
          have HR1 := Lib.hid fun w' (h : Ext w w') => RI.from_ (RdN.ext HR.out h) (show 1 ≤ n by omega)
          have HR5 := Lib.hid (RI.from_ HR.out (show 5 ≤ n by omega))
          simp only [List.drop_succ_cons, List.drop_zero, hc1, if_false] at HR1 HR5
          obtain ⟨A5, hA5⟩ : ∃ A5, (if c' = 5 then some (⟨B, off, none⟩ : Addr) else some ⟨B, off + 5, none⟩) = A5 := ⟨_, rfl⟩
          rw [hA5] at HR5
          have HA4 := Lib.hid fun v w' h => number_any v r w' h HBr.out h4
          have hmb := hd4_bd HBr.out
          have HMO := Lib.hid (modeL_ok (op := x) HO.out hmb)
          have HGO := Lib.hid fun he => @decL_go x r t' hend h4 he
          have HER := Lib.hid fun he => @decL_err x r t' hend h4 he
          have HB2 := Lib.hid (Bs.drop4 HBr.out 4)
          have HL2 := Lib.hid (show (r.drop 4).length = n - 5 by rw [List.length_drop]; omega)
          have j1 : (1 : Int) ≤ (n : Int) := by omega
          have j2 : (5 : Int) ≤ (n : Int) := by omega
          have j3 : (n : Int) ≤ (c' : Int) := by omega
          have j4 : (1 : Int) ≤ (c' : Int) := by omega
          have j5 : (5 : Int) ≤ (c' : Int) := by omega
          have j6 : ¬ (n : Int) < 5 := by omega
          clear hend h5
          generalize hd4 r = m at *
          go_wp2
          refine wp_region_held_drew (S := fun w' => Ext wr w') (by kernel_rfl) (by repeat (first | with_reducible exact Ext.refl _ | refine Ext.drewN ?_ _ | refine Ext.drew ?_ | refine Ext.alloc ?_ _ | assumption | (refine Below.trans ?_ (by assumption)) | (refine Ext.trans ?_ (by assumption)) | (refine Below.trans ?_ (Below.mono (by assumption) (by omega))))) (fun hHeld => ?_)
          (refine wpAnyH_take (i := 0) (v := ?_) rfl (by kernel_rfl) (by kernel_rfl) (by kernel_rfl) (fun _ _ _ h => h) (Or.inl ⟨by rfl, ?_⟩) (by assumption) ?_; rotate_left; (focus (intro w' hSw; go_simp; try with_reducible rfl)); (try simp only [List.getElem_toArray]); (try simp only [List.getElem_cons_succ]); (try simp only [List.getElem_cons_zero]); (try simp only [Act.put]); (try simp only [List.setIfInBounds_toArray]); (try simp only [List.set_cons_succ]); (try simp only [List.set_cons_zero]))
          (refine wpAnyH_take (i := 1) (v := ?_) rfl (by kernel_rfl) (by kernel_rfl) (by kernel_rfl) (fun _ _ _ h => h) (Or.inl ⟨by rfl, ?_⟩) (by assumption) ?_; rotate_left; (focus (intro w' hSw; go_simp; try with_reducible rfl)); (try simp only [List.getElem_toArray]); (try simp only [List.getElem_cons_succ]); (try simp only [List.getElem_cons_zero]); (try simp only [Act.put]); (try simp only [List.setIfInBounds_toArray]); (try simp only [List.set_cons_succ]); (try simp only [List.set_cons_zero]))
          (refine wpAnyH_take (i := 2) (v := ?_) rfl (by kernel_rfl) (by kernel_rfl) (by kernel_rfl) (fun _ _ _ h => h) (Or.inl ⟨by rfl, ?_⟩) (by assumption) ?_; rotate_left; (focus (intro w' hSw; have kc := cell_ext hSw k1; go_simp; try with_reducible rfl)); (try simp only [List.getElem_toArray]); (try simp only [List.getElem_cons_succ]); (try simp only [List.getElem_cons_zero]); (try simp only [Act.put]); (try simp only [List.setIfInBounds_toArray]); (try simp only [List.set_cons_succ]); (try simp only [List.set_cons_zero]))
          (refine wpAnyH_take (i := 3) (v := ?_) rfl (by kernel_rfl) (by kernel_rfl) (by kernel_rfl) (fun _ _ _ h => h) (Or.inl ⟨by rfl, ?_⟩) (by assumption) ?_; rotate_left; (focus (intro w' hSw; go_simp; try with_reducible rfl)); (try simp only [List.getElem_toArray]); (try simp only [List.getElem_cons_succ]); (try simp only [List.getElem_cons_zero]); (try simp only [Act.put]); (try simp only [List.setIfInBounds_toArray]); (try simp only [List.set_cons_succ]); (try simp only [List.set_cons_zero]))
          (refine wpAnyH_take (i := 4) (v := ?_) rfl (by kernel_rfl) (by kernel_rfl) (by kernel_rfl) (fun _ _ _ h => h) (Or.inl ⟨by rfl, ?_⟩) (by assumption) ?_; rotate_left; (focus (intro w' hSw; go_simp; try with_reducible rfl)); (try simp only [List.getElem_toArray]); (try simp only [List.getElem_cons_succ]); (try simp only [List.getElem_cons_zero]); (try simp only [Act.put]); (try simp only [List.setIfInBounds_toArray]); (try simp only [List.set_cons_succ]); (try simp only [List.set_cons_zero]))
          (refine wpAnyH_take (i := 5) (v := ?_) rfl (by kernel_rfl) (by kernel_rfl) (by kernel_rfl) (fun _ _ _ h => h) (Or.inl ⟨by rfl, ?_⟩) (by assumption) ?_; rotate_left; (focus (intro w' hSw; go_simp; try with_reducible rfl)); (try simp only [List.getElem_toArray]); (try simp only [List.getElem_cons_succ]); (try simp only [List.getElem_cons_zero]); (try simp only [Act.put]); (try simp only [List.setIfInBounds_toArray]); (try simp only [List.set_cons_succ]); (try simp only [List.set_cons_zero]))
          (refine wpAnyH_ready (rs := [6]) (by kernel_rfl) (by simp) ?_; refine AllReadyH.cons rfl (fun K hK => ?_) AllReadyH.nil; go_simp; go_at_call 29; refine (HA4.out _ _ (HR1.out _ (hE.trans (by repeat (first | with_reducible exact Ext.refl _ | refine Ext.drewN ?_ _ | refine Ext.drew ?_ | refine Ext.alloc ?_ _ | assumption | (refine Below.trans ?_ (by assumption)) | (refine Ext.trans ?_ (by assumption)) | (refine Below.trans ?_ (Below.mono (by assumption) (by omega)))))))).mono ?_; rintro e w3 ⟨rfl, E3⟩; (try dsimp only); refine hK.out _ _ (by repeat (first | with_reducible exact Ext.refl _ | refine Ext.drewN ?_ _ | refine Ext.drew ?_ | refine Ext.alloc ?_ _ | assumption | (refine Below.trans ?_ (by assumption)) | (refine Ext.trans ?_ (by assumption)) | (refine Below.trans ?_ (Below.mono (by assumption) (by omega))))) (fun hHeld => ?_); clear hK K; (try simp only [Act.put]); (try simp only [List.getElem_toArray]); (try simp only [List.getElem_cons_succ]); (try simp only [List.getElem_cons_zero]); (try simp only [List.setIfInBounds_toArray]); (try simp only [List.set_cons_succ]); (try simp only [List.set_cons_zero]))
          (refine wpAnyH_take (i := 7) (v := ?_) rfl (by kernel_rfl) (by kernel_rfl) (by kernel_rfl) (fun _ _ _ h => h) (Or.inl ⟨by rfl, ?_⟩) (by assumption) ?_; rotate_left; (focus (intro w' hSw; go_simp; try with_reducible rfl)); (try simp only [List.getElem_toArray]); (try simp only [List.getElem_cons_succ]); (try simp only [List.getElem_cons_zero]); (try simp only [Act.put]); (try simp only [List.setIfInBounds_toArray]); (try simp only [List.set_cons_succ]); (try simp only [List.set_cons_zero]))
          (refine wpAnyH_take (i := 8) (v := ?_) rfl (by kernel_rfl) (by kernel_rfl) (by kernel_rfl) (fun _ _ _ h => h) (Or.inl ⟨by rfl, ?_⟩) (by assumption) ?_; rotate_left; (focus (intro w' hSw; go_simp; try with_reducible rfl)); (try simp only [List.getElem_toArray]); (try simp only [List.getElem_cons_succ]); (try simp only [List.getElem_cons_zero]); (try simp only [Act.put]); (try simp only [List.setIfInBounds_toArray]); (try simp only [List.set_cons_succ]); (try simp only [List.set_cons_zero]))
          refine wpAnyH_done (by kernel_rfl) ?_ _
          have E3 : Ext wr w3 := hHeld
          clear k1 HC HA4 HR1
          by_cases a1 : x ≤ 18
          · obtain ⟨k, rfl⟩ := Int.eq_ofNat_of_zero_le (show 0 ≤ x by omega)
            by_cases a2 : 255 < m
            · have hm : modeL t' k m = (zeroT, 5) := by unfold modeL; rw [if_pos a1, if_pos a2]
              rw [hm] at HER
              have HDE := Lib.hid (show zeroT.arr = D.1.arr ∧ (5 : Int) = D.2 by rw [← HD.out, HER.out (by decide)]; exact ⟨rfl, rfl⟩)
              have HZ := Lib.hid (HZ.out.ext E3)
              have E5 := hE.trans E3
              clear HGO HER HMO hm
              go_wp2_with (first
                | (refine wpList_build_eq rfl 27 _ rfl (L := #[.int .u8 0, .int .u8 0, .int .u8 0, .int .u8 0, .int .u8 0, .int .u8 0, .int .u8 0, .int .u8 0, .int .u8 0, .int .u8 0, .int .u8 0, .int .u8 0, .int .u8 0, .int .u8 0, .int .u8 0, .int .u8 0, .int .u8 0, .int .u8 0, .int .u8 0, .int .u64 0, .int .u32 0, .int .u32 0, .int .i64 0, .int .i64 0]) (by simp [go_sem]; exact zero_built) ?_)
                | (refine wpList_store_A rfl 27 _ _ rfl (w.heap.size + 1) _ rfl rfl 27 _ HZ.out hiz rfl h1z.out ?_; intro w3 H3 E3; have E3 := E3 w.heap.size w E5 (Nat.le_succ _); have H3 := Lib.hid H3))
              refine bodyPost_ret_by (results_cell_tmp Try.results11 _ _ (w.heap.size + 1) 27 _ _ _ rfl (.int .i64 5) rfl H3.out Try.underlying27 rfl hiz) rfl ?_
              exact ⟨by rw [← HDE.out.1, ← HDE.out.2, zeroT_arr], E3⟩
            · have hm : modeL t' k m = ({ t' with c := t'.c.set k m }, 0) := by unfold modeL; rw [if_pos a1, if_neg a2]; simp
              have hST := Lib.hid (Tm.setC HO.out (k := k) (by omega) m)
              rw [hm] at HMO HGO
              simp only at HMO HGO
              have hk1 : (k : Int) < 19 := by omega
              have hwn : IntKind.u8.wrap m = m := by rw [IntKind.wrap_u8]; omega
              clear hm
              have hm1 := Lib.hid (HMO.out : (({ t' with c := t'.c.set k m } : Tm)).Ok)
              have HD2 : Hid (decL (r.drop 4) (({ t' with c := t'.c.set k m } : Tm)) = D) := Lib.hid (by rw [← HD.out, HGO.out (by trivial)])
              clear HGO HER
              generalize hcs : t'.arr = cs at *
              generalize hct : (({ t' with c := t'.c.set k m } : Tm)).arr = ct at *
              have hk : k < cs.size := by omega
              go_wp2_with (refine wpList_store_B rfl 5 _ _ rfl w.heap.size k rfl _ rfl rfl rfl 27 _ (HA.out.ext E3) hk (by kernel_rfl) ?_; intro w5 H5 F5 E5; have H5 := Lib.hid (Blk.cast H5 hST.out); have HZ5 := Lib.hid (F5 _ _ _ (by simp) (HZ.out.ext E3)); have E5 : Ext w w5 := E5 w.heap.size w (hE.trans E3) (Nat.le_refl _); clear F5)
              go_roundw
              case rel => first | exact ⟨_, n - 5, c' - 5, r.drop 4, ({ t' with c := t'.c.set k m } : Tm), rfl, HL2, Lib.hid HR5.out, HB2, hm1, Lib.hid (by rw [hct]; exact H5.out), HZ5, HD2, E5⟩ | exact ⟨A5, n - 5, c' - 5, ⟨rfl, rfl, rfl⟩, r.drop 4, HL2, Lib.hid HR5.out, HB2, ({ t' with c := t'.c.set k m } : Tm), hm1, Lib.hid (by rw [hct]; exact H5.out), HD2⟩
              case measure => first | (simp [lenOfV]; omega) | (show n - 5 < n; omega)
          · by_cases a2 : x = 128
            · subst a2
              have hm : modeL t' 128 m = ({ t' with i := m }, 0) := by unfold modeL; rw [if_neg (by omega), if_pos rfl]
              have hST := Lib.hid (Tm.set20 HO.out m)
              rw [hm] at HMO HGO
              simp only at HMO HGO
              clear hm
              have hm1 := Lib.hid (HMO.out : (({ t' with i := m } : Tm)).Ok)
              have HD2 : Hid (decL (r.drop 4) (({ t' with i := m } : Tm)) = D) := Lib.hid (by rw [← HD.out, HGO.out (by trivial)])
              clear HGO HER
              generalize hcs : t'.arr = cs at *
              generalize hct : (({ t' with i := m } : Tm)).arr = ct at *
              have hk : 20 < cs.size := by omega
              go_wp2_with (refine wpList_store_B rfl 25 _ _ rfl w.heap.size 20 rfl _ rfl rfl rfl 27 _ (HA.out.ext E3) hk (by kernel_rfl) ?_; intro w5 H5 F5 E5; have H5 := Lib.hid (Blk.cast H5 hST.out); have HZ5 := Lib.hid (F5 _ _ _ (by simp) (HZ.out.ext E3)); have E5 : Ext w w5 := E5 w.heap.size w (hE.trans E3) (Nat.le_refl _); clear F5)
              go_roundw
              case rel => first | exact ⟨_, n - 5, c' - 5, r.drop 4, ({ t' with i := m } : Tm), rfl, HL2, Lib.hid HR5.out, HB2, hm1, Lib.hid (by rw [hct]; exact H5.out), HZ5, HD2, E5⟩ | exact ⟨A5, n - 5, c' - 5, ⟨rfl, rfl, rfl⟩, r.drop 4, HL2, Lib.hid HR5.out, HB2, ({ t' with i := m } : Tm), hm1, Lib.hid (by rw [hct]; exact H5.out), HD2⟩
              case measure => first | (simp [lenOfV]; omega) | (show n - 5 < n; omega)
            · by_cases a3 : x = 129
              · subst a3
                have hm : modeL t' 129 m = ({ t' with o := m }, 0) := by unfold modeL; rw [if_neg (by omega), if_neg (by omega), if_pos rfl]
                have hST := Lib.hid (Tm.set21 HO.out m)
                rw [hm] at HMO HGO
                simp only at HMO HGO
                clear hm
                have hm1 := Lib.hid (HMO.out : (({ t' with o := m } : Tm)).Ok)
                have HD2 : Hid (decL (r.drop 4) (({ t' with o := m } : Tm)) = D) := Lib.hid (by rw [← HD.out, HGO.out (by trivial)])
                clear HGO HER
                generalize hcs : t'.arr = cs at *
                generalize hct : (({ t' with o := m } : Tm)).arr = ct at *
                have hk : 21 < cs.size := by omega
                go_wp2_with (refine wpList_store_B rfl 25 _ _ rfl w.heap.size 21 rfl _ rfl rfl rfl 27 _ (HA.out.ext E3) hk (by kernel_rfl) ?_; intro w5 H5 F5 E5; have H5 := Lib.hid (Blk.cast H5 hST.out); have HZ5 := Lib.hid (F5 _ _ _ (by simp) (HZ.out.ext E3)); have E5 : Ext w w5 := E5 w.heap.size w (hE.trans E3) (Nat.le_refl _); clear F5)
                go_roundw
                case rel => first | exact ⟨_, n - 5, c' - 5, r.drop 4, ({ t' with o := m } : Tm), rfl, HL2, Lib.hid HR5.out, HB2, hm1, Lib.hid (by rw [hct]; exact H5.out), HZ5, HD2, E5⟩ | exact ⟨A5, n - 5, c' - 5, ⟨rfl, rfl, rfl⟩, r.drop 4, HL2, Lib.hid HR5.out, HB2, ({ t' with o := m } : Tm), hm1, Lib.hid (by rw [hct]; exact H5.out), HD2⟩
                case measure => first | (simp [lenOfV]; omega) | (show n - 5 < n; omega)
              · have hm : modeL t' x m = (setL t' x (m != 0), 0) := by unfold modeL; rw [if_neg a1, if_neg a2, if_neg a3]
                rw [hm] at HMO HGO
                simp only at HMO HGO
                have hS := Lib.hid fun w' => rset_any t' x (m != 0) w' HO.out
                have HD2 : Hid (decL (r.drop 4) (setL t' x (m != 0)) = D) := Lib.hid (by rw [← HD.out, HGO.out (by trivial)])
                have hnu := Tm.size HMO.out
                have h1u := Lib.hid (setL t' x (m != 0)).one
                have b3 : (x == 128) = false := by simpa using a2
                have b4 : (x == 129) = false := by simpa using a3
                clear HGO HER hm a2 a3
                generalize hcs : t'.arr = cs at *
                generalize hct : (setL t' x (m != 0)).arr = ct at *
                have hi : (Try.prog.info? 27).map (·.size) = some cs.size := by rw [hn24]; kernel_rfl
                have hiu : (Try.prog.info? 27).map (·.size) = some ct.size := by rw [hnu]; kernel_rfl
                have hss : cs.size = ct.size := by rw [hn24, hnu]
                have HCT := Lib.hid hct
                clear hcs hct
                go_wp2_with ((refine wpList_load_row rfl 27 _ rfl _ rfl 27 _ _ _ (HA.out.ext E3) Try.underlying27 rfl hi ?_))
                (with_reducible refine (hS.out _).mono ?_); rintro e w4 ⟨rfl, E4⟩
                have E4 : Ext wr w4 := E3.trans (by repeat (first | with_reducible exact Ext.refl _ | refine Ext.drewN ?_ _ | refine Ext.drew ?_ | refine Ext.alloc ?_ _ | assumption | (refine Below.trans ?_ (by assumption)) | (refine Ext.trans ?_ (by assumption)) | (refine Below.trans ?_ (Below.mono (by assumption) (by omega)))))
                go_wp2_with (refine wpList_store_AF rfl 27 _ _ rfl w.heap.size _ rfl rfl 27 _ (HA.out.ext E4) hiu hss h1u.out ?_; intro w5 H5 F5 E5; have H5 := Lib.hid H5; have HZ5 := Lib.hid (F5 _ _ _ (by simp) (HZ.out.ext E4)); have E5 : Ext w w5 := E5 w.heap.size w (hE.trans E4) (Nat.le_refl _); clear F5)
                try simp only [Act.put]
                go_roundw
                case rel => first | exact ⟨_, n - 5, c' - 5, r.drop 4, setL t' x (m != 0), rfl, HL2, Lib.hid HR5.out, HB2, HMO, Lib.hid (by rw [HCT.out]; exact H5.out), HZ5, HD2, E5⟩ | exact ⟨A5, n - 5, c' - 5, ⟨rfl, rfl, rfl⟩, r.drop 4, HL2, Lib.hid HR5.out, HB2, setL t' x (m != 0), HMO, Lib.hid (by rw [HCT.out]; exact H5.out), HD2⟩ | ((repeat apply Exists.intro); exact ⟨⟨_, n - 5, c' - 5, r.drop 4, setL t' x (m != 0), rfl, HL2, Lib.hid HR5.out, HB2, HMO, Lib.hid (by rw [HCT.out]; exact H5.out), HZ5, HD2, E5⟩, rfl⟩)
                case measure => first | (simp [lenOfV]; omega) | (show n - 5 < n; omega)
end Go.Proofs.Ytpngnmokagbekaa
