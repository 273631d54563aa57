/- octet.Write of any fields (none of them Names), by contract: what it answers is OK just if no field has a fault and all fits. Conditions: their kinds may stand in a row; there are at most 8. -/
import Derived.Test.YtldijmappinngaaGreatDoorOC04
namespace Go.Proofs.YtldijmappinngaaGreatDoor
open Go.RowKit Go.Kb
set_option maxRecDepth 100000

/-- fields in bytes -/
def encL (fs : List Fd) : List Int := (fs.map (fun f => encF f.k f.n f.t)).flatten
theorem encL_snoc (fs : List Fd) (f : Fd) : encL (fs ++ [f]) = encL fs ++ encF f.k f.n f.t := by simp [encL]
theorem encL_take {fs : List Fd} {m : Nat} {f : Fd} (h : fs[m]? = some f) : encL (fs.take (m + 1)) = encL (fs.take m) ++ encF f.k f.n f.t := by
  rw [List.take_add_one, h]
  exact encL_snoc _ _
/-- a field that is none of Names -/
structure FdOk (f : Fd) : Prop where
  k : f.k = 1 ∨ f.k = 2 ∨ f.k = 3 ∨ f.k = 4 ∨ f.k = 6
  n : 0 ≤ f.n ∧ f.n ≤ 4294967295
theorem mk_ints (n : Nat) (h : n ≤ 8) (w : World) : (Instr.makeSlice 80 (.int .i64 n) (.int .i64 n)).run Tryz.prog w = .ok (.slice (some ⟨w.heap.size, 0, none⟩) n n) (w.alloc (.cells (Array.replicate n (.int .i64 0)) 3)) :=
  match n, h with
  | 0, _ => show (Instr.makeSlice 80 (.int .i64 0) (.int .i64 0)).run Tryz.prog w = .ok (.slice (some ⟨w.heap.size, 0, none⟩) 0 0) (w.alloc (.cells (Array.replicate 0 (.int .i64 0)) 3)) by kernel_rfl
  | 1, _ => show (Instr.makeSlice 80 (.int .i64 1) (.int .i64 1)).run Tryz.prog w = .ok (.slice (some ⟨w.heap.size, 0, none⟩) 1 1) (w.alloc (.cells (Array.replicate 1 (.int .i64 0)) 3)) by kernel_rfl
  | 2, _ => show (Instr.makeSlice 80 (.int .i64 2) (.int .i64 2)).run Tryz.prog w = .ok (.slice (some ⟨w.heap.size, 0, none⟩) 2 2) (w.alloc (.cells (Array.replicate 2 (.int .i64 0)) 3)) by kernel_rfl
  | 3, _ => show (Instr.makeSlice 80 (.int .i64 3) (.int .i64 3)).run Tryz.prog w = .ok (.slice (some ⟨w.heap.size, 0, none⟩) 3 3) (w.alloc (.cells (Array.replicate 3 (.int .i64 0)) 3)) by kernel_rfl
  | 4, _ => show (Instr.makeSlice 80 (.int .i64 4) (.int .i64 4)).run Tryz.prog w = .ok (.slice (some ⟨w.heap.size, 0, none⟩) 4 4) (w.alloc (.cells (Array.replicate 4 (.int .i64 0)) 3)) by kernel_rfl
  | 5, _ => show (Instr.makeSlice 80 (.int .i64 5) (.int .i64 5)).run Tryz.prog w = .ok (.slice (some ⟨w.heap.size, 0, none⟩) 5 5) (w.alloc (.cells (Array.replicate 5 (.int .i64 0)) 3)) by kernel_rfl
  | 6, _ => show (Instr.makeSlice 80 (.int .i64 6) (.int .i64 6)).run Tryz.prog w = .ok (.slice (some ⟨w.heap.size, 0, none⟩) 6 6) (w.alloc (.cells (Array.replicate 6 (.int .i64 0)) 3)) by kernel_rfl
  | 7, _ => show (Instr.makeSlice 80 (.int .i64 7) (.int .i64 7)).run Tryz.prog w = .ok (.slice (some ⟨w.heap.size, 0, none⟩) 7 7) (w.alloc (.cells (Array.replicate 7 (.int .i64 0)) 3)) by kernel_rfl
  | 8, _ => show (Instr.makeSlice 80 (.int .i64 8) (.int .i64 8)).run Tryz.prog w = .ok (.slice (some ⟨w.heap.size, 0, none⟩) 8 8) (w.alloc (.cells (Array.replicate 8 (.int .i64 0)) 3)) by kernel_rfl
  | n + 9, h => by omega
/-- the kinds' row behind some rounds -/
def kA (fs : List Fd) (m : Nat) : List Int := (fs.map (·.k)).take m ++ List.replicate (fs.length - m) 0
theorem kA_len (fs : List Fd) (m : Nat) (h : m ≤ fs.length) : (kA fs m).length = fs.length := by simp [kA]; omega
theorem kA_set {fs : List Fd} {m : Nat} {f : Fd} (h : fs[m]? = some f) : (kA fs m).set m f.k = kA fs (m + 1) := by
  have hm := (List.getElem?_eq_some_iff.1 h).1
  have hl : ((fs.map (·.k)).take m).length = m := by simp; omega
  unfold kA
  rw [List.set_append_right _ _ (by omega), hl, Nat.sub_self, show fs.length - m = (fs.length - (m + 1)) + 1 by omega, List.replicate_succ, List.set_cons_zero, List.take_add_one]
  simp [h]
theorem kA_end (fs : List Fd) : kA fs fs.length = fs.map (·.k) := by
  unfold kA
  rw [Nat.sub_self, List.replicate_zero, List.append_nil, List.take_of_length_le (by simp)]
theorem kA_setB {fs : List Fd} {m : Nat} {f : Fd} {w : World} {g : Nat} (h : fs[m]? = some f) (hb : Blk w g 3 ((kA fs m).map (Value.int .i64)).toArray) : Blk (w.setCell ⟨g, m, none⟩ (.int .i64 f.k)) g 3 ((kA fs (m + 1)).map (Value.int .i64)).toArray := by
  have e : ((kA fs m).map (Value.int .i64)).toArray.setIfInBounds m (.int .i64 f.k) = ((kA fs (m + 1)).map (Value.int .i64)).toArray := by
    rw [← kA_set h]
    simp [List.map_set]
  rw [← e]
  exact hb.set_ m (.int .i64 f.k)
theorem blk_ri {w : World} {g : Nat} {ks : List Int} {t : TypeId} (h : Blk w g t (ks.map (Value.int .i64)).toArray) (hl : ks.length ≤ 1000000) : RI .i64 w (.slice (some ⟨g, 0, none⟩) ks.length ks.length) ks := by
  refine ⟨by simp, _, _, rfl, Nat.le_refl _, by unfold maxLen; omega, .inr ⟨g, 0, rfl, fun j u hu => ?_⟩⟩
  rw [h.cell (0 + j), Nat.zero_add]
  simpa using hu
theorem encL_take_le (fs : List Fd) (j : Nat) : (encL (fs.take j)).length ≤ (encL fs).length := by
  have h : encL fs = encL (fs.take j) ++ encL (fs.drop j) := by
    unfold encL
    rw [← List.flatten_append, ← List.map_append, List.take_append_drop]
  rw [h, List.length_append]
  exact Nat.le_add_right _ _
/-- what octet.Write answers -/
def WrP (fs : List Fd) (w : World) (e : Ending) (w' : World) : Prop :=
  ∃ (v : Value) (q : Int), e = .returned (.tuple #[v, .int .i64 q]) ∧ Ext w w' ∧ (q = 0 → (∀ f ∈ fs, fltF f.k f.n f.t = 0) ∧ (encL fs).length ≤ 33792 ∧ OwnS Ub8 5 w.heap.size (fun _ => False) w' v (encL fs)) ∧ (q ≠ 0 → v = .slice none 0 0) ∧ ((∀ f ∈ fs, fltF f.k f.n f.t = 0) → (encL fs).length ≤ 33792 → q = 0)
set_option maxHeartbeats 3000000 in
theorem owrite_any (v : Value) (fs : List Fd) (w : World) (h : RdY FdR (fun _ => True) w v fs) (hN : fs.length ≤ 8) (hr : RowOk (fs.map (·.k))) (hf : ∀ f ∈ fs, FdOk f) : Calls Tryz.prog 18 #[v] w (WrP fs w) := by
  obtain ⟨A, c, rfl, hc1, hc2⟩ := h.shape
  have H := Lib.hid h.lt
  have HR := Lib.hid hr
  have HF := Lib.hid hf
  have mk := mk_ints fs.length hN
  have hi21 : (Tryz.prog.info? 101).map (·.size) = some 21 := by kernel_rfl
  have hone : sortsV.all (·.oneCell') = true := by simp [sortsV, fnV, Value.oneCell']
  have HK0 := Lib.hid (show ((kA fs 0).map (Value.int .i64)).toArray = Array.replicate fs.length (Value.int .i64 0) by simp [kA])
  obtain ⟨N, hNN⟩ : ∃ N, fs.length = N := ⟨_, rfl⟩
  have HN := Lib.hid hNN
  have H := Lib.hid (show RdY FdR (fun k => True ∧ k < w.heap.size) w (.slice A N c) fs by rw [← hNN]; exact H.out)
  rw [hNN] at mk hN HK0 hc1 ⊢
  clear h hr hf hNN
  go_enter Tryz.func18, Tryz.ntmps18
  go_upto_region 2 with fail
  obtain ⟨W1, hW1⟩ : ∃ W1, W1 = w.alloc (.cells (Array.replicate N (.int .i64 0)) 3) := ⟨_, rfl⟩
  have B1 := Lib.hid (show Blk W1 w.heap.size 3 ((kA fs 0).map (Value.int .i64)).toArray by rw [hW1, HK0.out]; exact Blk.new w _ _)
  have E01 : Ext w W1 := by rw [hW1]; exact (Ext.refl _).alloc _
  rw [← hW1]
  clear hW1 mk
  go_wp2
  go_loopw [17] (fun i wr => ∃ m : Nat, m ≤ N ∧ i = .int .i64 m ∧ Hid (Blk wr w.heap.size 3 ((kA fs m).map (Value.int .i64)).toArray) ∧ Hid (Ext w wr)) (fun i _ => N - (intOf i).toNat)
  case atStart => exact ⟨0, Nat.zero_le _, rfl, B1, Lib.hid E01⟩
  case round =>
    clear B1 E01
    obtain ⟨m, hm, rfl, BK, hE⟩ := hrel
    by_cases hmn : m < N
    · obtain ⟨b, off, At, ct, f, rfl, k0, k1, k2, k3, hd, ht⟩ := fd_at (H.out.ext hE.out) hmn
      clear ht
      go_upto_region 5 with fail
      obtain ⟨W5, hW5⟩ : ∃ W5, W5 = wr.alloc (.cells #[.int .i64 f.k, .int .u32 f.n, .slice At f.t.length ct, .slice none 0 0] 59) := ⟨_, rfl⟩
      have E5 : Ext wr W5 := by rw [hW5]; exact (Ext.refl _).alloc _
      have P5 : Blk W5 wr.heap.size 59 #[.int .i64 f.k, .int .u32 f.n, .slice At f.t.length ct, .slice none 0 0] := by rw [hW5]; exact Blk.new wr _ _
      rw [← hW5]
      clear hW5
      have kp0 := P5.cell 0
      have BK5 := BK.out.ext E5
      have fb := BK5.frozen m
      have kb : ∃ u, W5.cell? ⟨w.heap.size, m, none⟩ = some u := by
        rw [BK5.cell]
        exact ⟨_, Array.getElem?_eq_getElem (by simp; rw [kA_len fs m (by rw [HN.out]; omega), HN.out]; omega)⟩
      obtain ⟨u0, kb⟩ := kb
      have BK2 := Lib.hid (kA_setB hd.out BK5)
      have M2 : Mod (fun k => k = w.heap.size) W5 _ := (Mod.refl _ _).set1 (.int .i64 f.k) (o := m)
      have hE2 := Lib.hid (Mod.toExt (hE.out.trans E5) M2 (by intro k hk he; omega))
      clear M2 k0 k1 k2 k3 BK hE E5 P5 BK5
      go_wp2
      go_roundw
      case rel => exact ⟨m + 1, by omega, by go_num, BK2, hE2⟩
      case measure => simp [intOf]; omega
    · obtain rfl : m = N := by omega
      have HKK := Lib.hid (show RI .i64 wr (.slice (some ⟨w.heap.size, 0, none⟩) m m) (fs.map (·.k)) by
        have h9 := BK.out
        rw [show kA fs m = fs.map (·.k) by rw [← HN.out]; exact kA_end fs] at h9
        have h8 := blk_ri h9 (by rw [List.length_map, HN.out]; omega)
        rw [List.length_map, HN.out] at h8
        exact h8)
      clear BK
      go_wp2_with fail
      refine (row_any _ _ _ HKK.out HR.out).mono ?_
      rintro e w2 ⟨rfl, E2⟩
      have E02 := hE.out.trans E2
      go_wp2_with fail
      refine (sorts_any _).mono ?_
      rintro e w3 ⟨rfl, E3⟩
      have E03 := Lib.hid (E02.trans E3)
      clear E02 E2 E3 hE HKK
      go_upto_region 10 with (refine wpList_store_A rfl 101 _ _ rfl w3.heap.size sortsV rfl rfl 101 _ (show Blk _ _ _ _ from Blk.at_ _ _ rfl) hi21 rfl hone ?_; intro w4 HB4 E4; have E4 : Ext w3 w4 := E4 w3.heap.size w3 ((Ext.refl w3).alloc _) (by omega))
      have E04 := Lib.hid (E03.out.trans E4)
      have B7 := Lib.hid HB4
      obtain ⟨n7, hn7⟩ : ∃ n7, w3.heap.size = n7 := ⟨_, rfl⟩
      rw [hn7] at B7 ⊢
      have HN7 := Lib.hid (show w.heap.size ≤ n7 by rw [← hn7]; exact E03.out.size)
      clear E4 E03 HB4 hn7
      go_upto_region 11 with fail
      obtain ⟨W8, hW8⟩ : ∃ W8, W8 = w4.alloc (.cells #[.slice none 0 0] 105) := ⟨_, rfl⟩
      have E48 : Ext w4 W8 := by rw [hW8]; exact (Ext.refl _).alloc _
      have B8 := Lib.hid (show Blk W8 w4.heap.size 105 #[.slice none 0 0] by rw [hW8]; exact Blk.new w4 _ _)
      obtain ⟨n8, hn8⟩ : ∃ n8, w4.heap.size = n8 := ⟨_, rfl⟩
      have HN8 := Lib.hid (show n7 < n8 by rw [← hn8]; exact B7.out.lt)
      rw [← hW8]
      rw [hn8] at B8 ⊢
      have E08 := Lib.hid (E04.out.trans E48)
      have B7 := Lib.hid (B7.out.ext E48)
      have HW8 := Lib.hid (show Wr w.heap.size n8 W8 (.slice none 0 0) (encL (fs.take 0)) from ⟨B8.out, OwnS.nil _ _ _ _ _⟩)
      clear hW8 E04 E48 hn8 B8
      go_wp2
      go_loopw [36] (fun i wr => ∃ (q : Nat) (u : Value), q ≤ m ∧ i = .int .i64 q ∧ Hid (Wr w.heap.size n8 wr u (encL (fs.take q))) ∧ Hid (∀ f ∈ fs.take q, fltF f.k f.n f.t = 0) ∧ Hid ((encL (fs.take q)).length ≤ 33792) ∧ Hid (Blk wr n7 101 sortsV) ∧ Hid (Ext w wr)) (fun i _ => m - (intOf i).toNat)
      case atStart => exact ⟨0, _, Nat.zero_le _, rfl, HW8, Lib.hid (by simp), Lib.hid (by simp [encL]), B7, E08⟩
      case round =>
        clear B7 E08 HW8
        obtain ⟨q, u, hq, rfl, HW, HFT, HLE, B7, hE⟩ := hrel
        by_cases hqn : q < m
        · obtain ⟨b, off, At, ct, f, rfl, k0, k1, k2, k3, hd, ht⟩ := fd_at H.out hqn
          have k0 := cell_ext hE.out k0
          have k1 := cell_ext hE.out k1
          have k2 := cell_ext hE.out k2
          have k3 := cell_ext hE.out k3
          obtain ⟨hk, hn0, hn1⟩ := HF.out f (List.mem_of_getElem? hd.out)
          obtain ⟨k, n, t⟩ := f
          dsimp only at hk hn0 hn1 k0 k1 k2 k3 ht
          go_upto_region 14 with fail
          obtain ⟨W10, hW10⟩ : ∃ W10, W10 = wr.alloc (.cells #[.int .i64 k, .int .u32 n, .slice At t.length ct, .slice none 0 0] 59) := ⟨_, rfl⟩
          have E10 : Ext wr W10 := by rw [hW10]; exact (Ext.refl _).alloc _
          have P10 := Lib.hid (show Blk W10 wr.heap.size 59 #[.int .i64 k, .int .u32 n, .slice At t.length ct, .slice none 0 0] by rw [hW10]; exact Blk.new wr _ _)
          rw [← hW10]
          clear hW10
          have HNB := Lib.hid (show ¬ wS n8 u wr.heap.size from fun hh => Nat.lt_irrefl _ (HW.out.lt _ hh))
          obtain ⟨n10, hn10⟩ : ∃ n10, wr.heap.size = n10 := ⟨_, rfl⟩
          rw [hn10] at P10 HNB ⊢
          have HTO := Lib.hid (show 0 < t.length → ∀ j, (Value.slice At t.length ct).ownBlock = some j → ¬ wS n8 u j from fun h0 j hj => by
            have h9 := (ht.out.2 h0 j hj).2
            rintro (h8 | h8)
            · have := HN7.out; have := HN8.out; omega
            · have := (HW.out.own.row j h8).1; omega)
          have HTX := Lib.hid (show RI .u8 w (.slice At t.length ct) t from RdS.ri ht.out)
          clear k0 k1 k2 k3 ht hn10
          rcases hk with rfl | rfl | rfl | rfl | rfl
          · skip
            have hs6 : sortsV[3]? = some (.func (.func 67) #[] #[]) := by rfl
            have hs7 : sortsV[4]? = some (.func (.func 68) #[] #[]) := by rfl
            have S6 := Lib.hid (show W10.cell? ⟨n7, 3, none⟩ = some (.func (.func 67) #[] #[]) by rw [(B7.out.ext E10).cell, hs6])
            have HS7 := Lib.hid hs7
            have B7 := Lib.hid (B7.out.ext E10)
            have HW := Lib.hid (HW.out.ext E10)
            have E010 := Lib.hid (hE.out.trans E10)
            obtain ⟨z, hz⟩ : ∃ z : Int, (if 255 < n then (5 : Int) else 0) = z := ⟨_, rfl⟩
            have HFC := Lib.hid (fun w' => foctet_any 1 n (.slice At t.length ct) (.slice none 0 0) w')
            rw [hz] at HFC
            have HZV := Lib.hid hz
            have HFZ := Lib.hid (show fltF 1 n t = z by rw [← hz]; simp [fltF])
            have HEN := Lib.hid (show encF 1 n t = [n] by simp [encF])
            clear hs6 hs7 E10 hE hz
            refine wp_region_held_drew (S := fun w' => Ext W10 w') (by kernel_rfl) (Ext.drew (Ext.refl _)) (fun hHeld => ?_)
            (refine wpAnyH_take (i := 0) (v := ?_) rfl (by kernel_rfl) (by kernel_rfl) (by kernel_rfl) (fun _ _ _ h => h) (Or.inl ⟨by rfl, ?_⟩) (by assumption) ?_; rotate_left; (focus (intro w' hSw; skip; go_simp; try with_reducible rfl)); (try simp only [List.getElem_toArray]); (try simp only [List.getElem_cons_succ]); (try simp only [List.getElem_cons_zero]); (try simp only [Act.put]); (try simp only [List.setIfInBounds_toArray]); (try simp only [List.set_cons_succ]); (try simp only [List.set_cons_zero]))
            (refine wpAnyH_take (i := 1) (v := ?_) rfl (by kernel_rfl) (by kernel_rfl) (by kernel_rfl) (fun _ _ _ h => h) (Or.inl ⟨by rfl, ?_⟩) (by assumption) ?_; rotate_left; (focus (intro w' hSw; have kc := (P10.out.ext hSw).cell 0; go_simp; try with_reducible rfl)); (try simp only [List.getElem_toArray]); (try simp only [List.getElem_cons_succ]); (try simp only [List.getElem_cons_zero]); (try simp only [Act.put]); (try simp only [List.setIfInBounds_toArray]); (try simp only [List.set_cons_succ]); (try simp only [List.set_cons_zero]))
            (refine wpAnyH_take (i := 2) (v := ?_) rfl (by kernel_rfl) (by kernel_rfl) (by kernel_rfl) (fun _ _ _ h => h) (Or.inl ⟨by rfl, ?_⟩) (by assumption) ?_; rotate_left; (focus (intro w' hSw; go_simp; try with_reducible rfl)); (try simp only [List.getElem_toArray]); (try simp only [List.getElem_cons_succ]); (try simp only [List.getElem_cons_zero]); (try simp only [Act.put]); (try simp only [List.setIfInBounds_toArray]); (try simp only [List.set_cons_succ]); (try simp only [List.set_cons_zero]))
            (refine wpAnyH_take (i := 3) (v := ?_) rfl (by kernel_rfl) (by kernel_rfl) (by kernel_rfl) (fun _ _ _ h => h) (Or.inl ⟨by rfl, ?_⟩) (by assumption) ?_; rotate_left; (focus (intro w' hSw; go_simp; try with_reducible rfl)); (try simp only [List.getElem_toArray]); (try simp only [List.getElem_cons_succ]); (try simp only [List.getElem_cons_zero]); (try simp only [Act.put]); (try simp only [List.setIfInBounds_toArray]); (try simp only [List.set_cons_succ]); (try simp only [List.set_cons_zero]))
            (refine wpAnyH_take (i := 4) (v := ?_) rfl (by kernel_rfl) (by kernel_rfl) (by kernel_rfl) (fun _ _ _ h => h) (Or.inl ⟨by rfl, ?_⟩) (by assumption) ?_; rotate_left; (focus (intro w' hSw; have kc := cell_ext hSw S6.out; go_simp; try with_reducible rfl)); (try simp only [List.getElem_toArray]); (try simp only [List.getElem_cons_succ]); (try simp only [List.getElem_cons_zero]); (try simp only [Act.put]); (try simp only [List.setIfInBounds_toArray]); (try simp only [List.set_cons_succ]); (try simp only [List.set_cons_zero]))
            (refine wpAnyH_take (i := 5) (v := ?_) rfl (by kernel_rfl) (by kernel_rfl) (by kernel_rfl) (fun _ _ _ h => h) (Or.inl ⟨by rfl, ?_⟩) (by assumption) ?_; rotate_left; (focus (intro w' hSw; have c0 := (P10.out.ext hSw).cell 0; have c1 := (P10.out.ext hSw).cell 1; have c2 := (P10.out.ext hSw).cell 2; have c3 := (P10.out.ext hSw).cell 3; go_simp; try with_reducible rfl)); (try simp only [List.getElem_toArray]); (try simp only [List.getElem_cons_succ]); (try simp only [List.getElem_cons_zero]); (try simp only [Act.put]); (try simp only [List.setIfInBounds_toArray]); (try simp only [List.set_cons_succ]); (try simp only [List.set_cons_zero]))
            (refine wpAnyH_ready (rs := [6]) (by kernel_rfl) (by simp) ?_; refine AllReadyH.cons rfl (fun K hK => ?_) AllReadyH.nil; go_simp; go_at_call 67; refine (HFC.out _).mono ?_; rintro e w11 ⟨rfl, E11⟩; (try dsimp only); refine hK.out _ _ (by repeat (first | with_reducible exact Ext.refl _ | refine Ext.drewN ?_ _ | refine Ext.drew ?_ | refine Ext.alloc ?_ _ | assumption | (refine Below.trans ?_ (by assumption)) | (refine Ext.trans ?_ (by assumption)) | (refine Below.trans ?_ (Below.mono (by assumption) (by omega))))) (fun hHeld => ?_); clear hK K; (try simp only [Act.put]); (try simp only [List.getElem_toArray]); (try simp only [List.getElem_cons_succ]); (try simp only [List.getElem_cons_zero]); (try simp only [List.setIfInBounds_toArray]); (try simp only [List.set_cons_succ]); (try simp only [List.set_cons_zero]))
            (refine wpAnyH_take (i := 7) (v := ?_) rfl (by kernel_rfl) (by kernel_rfl) (by kernel_rfl) (fun _ _ _ h => h) (Or.inl ⟨by rfl, ?_⟩) (by assumption) ?_; rotate_left; (focus (intro w' hSw; go_simp; try with_reducible rfl)); (try simp only [List.getElem_toArray]); (try simp only [List.getElem_cons_succ]); (try simp only [List.getElem_cons_zero]); (try simp only [Act.put]); (try simp only [List.setIfInBounds_toArray]); (try simp only [List.set_cons_succ]); (try simp only [List.set_cons_zero]))
            refine wpAnyH_done (by kernel_rfl) ?_ _
            have B7 := Lib.hid (B7.out.ext hHeld)
            have HW := Lib.hid (HW.out.ext hHeld)
            have P10 := Lib.hid (P10.out.ext hHeld)
            have E011 := Lib.hid (E010.out.trans hHeld)
            clear hHeld E11 E010 S6 HFC
            by_cases hz0 : z = 0
            · subst hz0
              go_upto_region 17 with fail
              have hbs : w.heap.size ≤ w11.heap.size := E011.out.size
              have HN7B := Lib.hid (show ¬ wS n8 u n7 from by
                rintro (h9 | h9)
                · have := HN8.out; omega
                · obtain ⟨us, ho, _⟩ := HW.out.own
                  exact own_blk_ne ho B7.out (by decide) h9)
              have hle := HLE.out
              refine wp_region_held_drew (S := fun w' => Mod (wS n8 u) w11 w') (by kernel_rfl) (Mod.of_ext (Ext.drew (Ext.refl _))) (fun hHeld => ?_)
              obtain ⟨D, hD⟩ : ∃ D, D = w11.drew := ⟨_, rfl⟩
              have ED : Ext w11 D := by rw [hD]; exact (Ext.refl _).drew
              rw [← hD] at hHeld ⊢
              clear hD
              (refine wpAnyH_take (i := 0) (v := ?_) rfl (by kernel_rfl) (by kernel_rfl) (by kernel_rfl) (fun _ _ _ h => h) (Or.inl ⟨by rfl, ?_⟩) (by assumption) ?_; rotate_left; (focus (intro w' hSw; go_simp; try with_reducible rfl)); (try simp only [List.getElem_toArray]); (try simp only [List.getElem_cons_succ]); (try simp only [List.getElem_cons_zero]); (try simp only [Act.put]); (try simp only [List.setIfInBounds_toArray]); (try simp only [List.set_cons_succ]); (try simp only [List.set_cons_zero]))
              (refine wpAnyH_take (i := 1) (v := ?_) rfl (by kernel_rfl) (by kernel_rfl) (by kernel_rfl) (fun _ _ _ h => h) (Or.inl ⟨by rfl, ?_⟩) (by assumption) ?_; rotate_left; (focus (intro w' hSw; have kc := (P10.out.mod hSw HNB.out).cell 0; go_simp; try with_reducible rfl)); (try simp only [List.getElem_toArray]); (try simp only [List.getElem_cons_succ]); (try simp only [List.getElem_cons_zero]); (try simp only [Act.put]); (try simp only [List.setIfInBounds_toArray]); (try simp only [List.set_cons_succ]); (try simp only [List.set_cons_zero]))
              (refine wpAnyH_take (i := 2) (v := ?_) rfl (by kernel_rfl) (by kernel_rfl) (by kernel_rfl) (fun _ _ _ h => h) (Or.inl ⟨by rfl, ?_⟩) (by assumption) ?_; rotate_left; (focus (intro w' hSw; go_simp; try with_reducible rfl)); (try simp only [List.getElem_toArray]); (try simp only [List.getElem_cons_succ]); (try simp only [List.getElem_cons_zero]); (try simp only [Act.put]); (try simp only [List.setIfInBounds_toArray]); (try simp only [List.set_cons_succ]); (try simp only [List.set_cons_zero]))
              (refine wpAnyH_take (i := 3) (v := ?_) rfl (by kernel_rfl) (by kernel_rfl) (by kernel_rfl) (fun _ _ _ h => h) (Or.inl ⟨by rfl, ?_⟩) (by assumption) ?_; rotate_left; (focus (intro w' hSw; go_simp; try with_reducible rfl)); (try simp only [List.getElem_toArray]); (try simp only [List.getElem_cons_succ]); (try simp only [List.getElem_cons_zero]); (try simp only [Act.put]); (try simp only [List.setIfInBounds_toArray]); (try simp only [List.set_cons_succ]); (try simp only [List.set_cons_zero]))
              (refine wpAnyH_take (i := 4) (v := ?_) rfl (by kernel_rfl) (by kernel_rfl) (by kernel_rfl) (fun _ _ _ h => h) (Or.inl ⟨by rfl, ?_⟩) (by assumption) ?_; rotate_left; (focus (intro w' hSw; have kc := (B7.out.mod hSw HN7B.out).cell 4; rw [HS7.out] at kc; go_simp; try with_reducible rfl)); (try simp only [List.getElem_toArray]); (try simp only [List.getElem_cons_succ]); (try simp only [List.getElem_cons_zero]); (try simp only [Act.put]); (try simp only [List.setIfInBounds_toArray]); (try simp only [List.set_cons_succ]); (try simp only [List.set_cons_zero]))
              (refine wpAnyH_take (i := 5) (v := ?_) rfl (by kernel_rfl) (by kernel_rfl) (by kernel_rfl) (fun _ _ _ h => h) (Or.inl ⟨by rfl, ?_⟩) (by assumption) ?_; rotate_left; (focus (intro w' hSw; go_simp; try with_reducible rfl)); (try simp only [List.getElem_toArray]); (try simp only [List.getElem_cons_succ]); (try simp only [List.getElem_cons_zero]); (try simp only [Act.put]); (try simp only [List.setIfInBounds_toArray]); (try simp only [List.set_cons_succ]); (try simp only [List.set_cons_zero]))
              (refine wpAnyH_take (i := 6) (v := ?_) rfl (by kernel_rfl) (by kernel_rfl) (by kernel_rfl) (fun _ _ _ h => h) (Or.inl ⟨by rfl, ?_⟩) (by assumption) ?_; rotate_left; (focus (intro w' hSw; have c0 := (P10.out.mod hSw HNB.out).cell 0; have c1 := (P10.out.mod hSw HNB.out).cell 1; have c2 := (P10.out.mod hSw HNB.out).cell 2; have c3 := (P10.out.mod hSw HNB.out).cell 3; go_simp; try with_reducible rfl)); (try simp only [List.getElem_toArray]); (try simp only [List.getElem_cons_succ]); (try simp only [List.getElem_cons_zero]); (try simp only [Act.put]); (try simp only [List.setIfInBounds_toArray]); (try simp only [List.set_cons_succ]); (try simp only [List.set_cons_zero]))
              (refine wpAnyH_ready (rs := [7]) (by kernel_rfl) (by simp) ?_; refine AllReadyH.cons rfl (fun K hK => ?_) AllReadyH.nil; go_simp; go_at_call 68; refine (woct_any w.heap.size n8 u _ 1 n (.slice At t.length ct) (.slice none 0 0) _ (HW.out.ext ED) (Nat.le_trans hbs ED.size) (by have h9 := HZV.out; split at h9 <;> omega) (by omega)).mono ?_; rintro e w12 ⟨rfl, v12, R12, M12, X12⟩; (try dsimp only); refine hK.out _ _ ((Mod.of_ext ED).trans M12) (fun hHeld => ?_); clear hK K; (try simp only [Act.put]); (try simp only [List.getElem_toArray]); (try simp only [List.getElem_cons_succ]); (try simp only [List.getElem_cons_zero]); (try simp only [List.setIfInBounds_toArray]); (try simp only [List.set_cons_succ]); (try simp only [List.set_cons_zero]))
              refine wpAnyH_done (by kernel_rfl) ?_ _
              have B7 := Lib.hid (B7.out.mod hHeld HN7B.out)
              have hE12 := Lib.hid (Mod.toExt E011.out hHeld (by
                rintro k hk (h9 | h9)
                · have := HN7.out; have := HN8.out; omega
                · have := (HW.out.own.row k h9).1; omega))
              have R12 : Wr w.heap.size n8 w12 v12 (encL (fs.take (q + 1))) := by rw [encL_take hd.out, HEN.out]; exact R12
              have HFT := Lib.hid (show ∀ f ∈ fs.take (q + 1), fltF f.k f.n f.t = 0 by
                rw [List.take_add_one, hd.out]
                intro f hf
                rcases List.mem_append.1 hf with h | h
                · exact HFT.out f h
                · simp at h; rw [h]; exact HFZ.out)
              obtain ⟨A12, c12, rfl, -, -⟩ := R12.own.shape
              have kb := R12.blk.cell 0
              have HR12 := Lib.hid R12
              obtain ⟨L12, hL12⟩ : ∃ L, (encL (fs.take (q + 1))).length = L := ⟨_, rfl⟩
              have HL12 := Lib.hid hL12
              rw [hL12] at kb
              clear hHeld R12 M12 X12 ED hL12 hle
              by_cases hbig : 33792 < L12
              · go_wp2
                go_ret2
                exact ⟨_, 6, rfl, hE12.out, fun h => absurd h (by decide), fun _ => rfl, fun _ hl9 => by have := encL_take_le fs (q + 1); have := HL12.out; omega⟩
              · have hbig2 : ¬ (33792 < (L12 : Int)) := by omega
                go_wp2
                go_roundw
                case rel => exact ⟨q + 1, _, by omega, by go_num, HR12, HFT, Lib.hid (by rw [HL12.out]; omega), B7, hE12⟩
                case measure => simp [intOf]; omega
            · have hz1 : (z == 0) = false := by simpa using hz0
              go_wp2
              go_ret2
              exact ⟨_, z, rfl, E011.out, fun h => absurd h hz0, fun _ => rfl, fun ha9 _ => absurd (HFZ.out.symm.trans (ha9 _ (List.mem_of_getElem? hd.out))) hz0⟩
          · skip
            have hs6 : sortsV[6]? = some (.func (.func 70) #[] #[]) := by rfl
            have hs7 : sortsV[7]? = some (.func (.func 68) #[] #[]) := by rfl
            have S6 := Lib.hid (show W10.cell? ⟨n7, 6, none⟩ = some (.func (.func 70) #[] #[]) by rw [(B7.out.ext E10).cell, hs6])
            have HS7 := Lib.hid hs7
            have B7 := Lib.hid (B7.out.ext E10)
            have HW := Lib.hid (HW.out.ext E10)
            have E010 := Lib.hid (hE.out.trans E10)
            obtain ⟨z, hz⟩ : ∃ z : Int, (if 1 < n then (5 : Int) else 0) = z := ⟨_, rfl⟩
            have HFC := Lib.hid (fun w' => fflag_any 2 n (.slice At t.length ct) (.slice none 0 0) w')
            rw [hz] at HFC
            have HZV := Lib.hid hz
            have HFZ := Lib.hid (show fltF 2 n t = z by rw [← hz]; simp [fltF])
            have HEN := Lib.hid (show encF 2 n t = [n] by simp [encF])
            clear hs6 hs7 E10 hE hz
            refine wp_region_held_drew (S := fun w' => Ext W10 w') (by kernel_rfl) (Ext.drew (Ext.refl _)) (fun hHeld => ?_)
            (refine wpAnyH_take (i := 0) (v := ?_) rfl (by kernel_rfl) (by kernel_rfl) (by kernel_rfl) (fun _ _ _ h => h) (Or.inl ⟨by rfl, ?_⟩) (by assumption) ?_; rotate_left; (focus (intro w' hSw; skip; go_simp; try with_reducible rfl)); (try simp only [List.getElem_toArray]); (try simp only [List.getElem_cons_succ]); (try simp only [List.getElem_cons_zero]); (try simp only [Act.put]); (try simp only [List.setIfInBounds_toArray]); (try simp only [List.set_cons_succ]); (try simp only [List.set_cons_zero]))
            (refine wpAnyH_take (i := 1) (v := ?_) rfl (by kernel_rfl) (by kernel_rfl) (by kernel_rfl) (fun _ _ _ h => h) (Or.inl ⟨by rfl, ?_⟩) (by assumption) ?_; rotate_left; (focus (intro w' hSw; have kc := (P10.out.ext hSw).cell 0; go_simp; try with_reducible rfl)); (try simp only [List.getElem_toArray]); (try simp only [List.getElem_cons_succ]); (try simp only [List.getElem_cons_zero]); (try simp only [Act.put]); (try simp only [List.setIfInBounds_toArray]); (try simp only [List.set_cons_succ]); (try simp only [List.set_cons_zero]))
            (refine wpAnyH_take (i := 2) (v := ?_) rfl (by kernel_rfl) (by kernel_rfl) (by kernel_rfl) (fun _ _ _ h => h) (Or.inl ⟨by rfl, ?_⟩) (by assumption) ?_; rotate_left; (focus (intro w' hSw; go_simp; try with_reducible rfl)); (try simp only [List.getElem_toArray]); (try simp only [List.getElem_cons_succ]); (try simp only [List.getElem_cons_zero]); (try simp only [Act.put]); (try simp only [List.setIfInBounds_toArray]); (try simp only [List.set_cons_succ]); (try simp only [List.set_cons_zero]))
            (refine wpAnyH_take (i := 3) (v := ?_) rfl (by kernel_rfl) (by kernel_rfl) (by kernel_rfl) (fun _ _ _ h => h) (Or.inl ⟨by rfl, ?_⟩) (by assumption) ?_; rotate_left; (focus (intro w' hSw; go_simp; try with_reducible rfl)); (try simp only [List.getElem_toArray]); (try simp only [List.getElem_cons_succ]); (try simp only [List.getElem_cons_zero]); (try simp only [Act.put]); (try simp only [List.setIfInBounds_toArray]); (try simp only [List.set_cons_succ]); (try simp only [List.set_cons_zero]))
            (refine wpAnyH_take (i := 4) (v := ?_) rfl (by kernel_rfl) (by kernel_rfl) (by kernel_rfl) (fun _ _ _ h => h) (Or.inl ⟨by rfl, ?_⟩) (by assumption) ?_; rotate_left; (focus (intro w' hSw; have kc := cell_ext hSw S6.out; go_simp; try with_reducible rfl)); (try simp only [List.getElem_toArray]); (try simp only [List.getElem_cons_succ]); (try simp only [List.getElem_cons_zero]); (try simp only [Act.put]); (try simp only [List.setIfInBounds_toArray]); (try simp only [List.set_cons_succ]); (try simp only [List.set_cons_zero]))
            (refine wpAnyH_take (i := 5) (v := ?_) rfl (by kernel_rfl) (by kernel_rfl) (by kernel_rfl) (fun _ _ _ h => h) (Or.inl ⟨by rfl, ?_⟩) (by assumption) ?_; rotate_left; (focus (intro w' hSw; have c0 := (P10.out.ext hSw).cell 0; have c1 := (P10.out.ext hSw).cell 1; have c2 := (P10.out.ext hSw).cell 2; have c3 := (P10.out.ext hSw).cell 3; go_simp; try with_reducible rfl)); (try simp only [List.getElem_toArray]); (try simp only [List.getElem_cons_succ]); (try simp only [List.getElem_cons_zero]); (try simp only [Act.put]); (try simp only [List.setIfInBounds_toArray]); (try simp only [List.set_cons_succ]); (try simp only [List.set_cons_zero]))
            (refine wpAnyH_ready (rs := [6]) (by kernel_rfl) (by simp) ?_; refine AllReadyH.cons rfl (fun K hK => ?_) AllReadyH.nil; go_simp; go_at_call 70; refine (HFC.out _).mono ?_; rintro e w11 ⟨rfl, E11⟩; (try dsimp only); refine hK.out _ _ (by repeat (first | with_reducible exact Ext.refl _ | refine Ext.drewN ?_ _ | refine Ext.drew ?_ | refine Ext.alloc ?_ _ | assumption | (refine Below.trans ?_ (by assumption)) | (refine Ext.trans ?_ (by assumption)) | (refine Below.trans ?_ (Below.mono (by assumption) (by omega))))) (fun hHeld => ?_); clear hK K; (try simp only [Act.put]); (try simp only [List.getElem_toArray]); (try simp only [List.getElem_cons_succ]); (try simp only [List.getElem_cons_zero]); (try simp only [List.setIfInBounds_toArray]); (try simp only [List.set_cons_succ]); (try simp only [List.set_cons_zero]))
            (refine wpAnyH_take (i := 7) (v := ?_) rfl (by kernel_rfl) (by kernel_rfl) (by kernel_rfl) (fun _ _ _ h => h) (Or.inl ⟨by rfl, ?_⟩) (by assumption) ?_; rotate_left; (focus (intro w' hSw; go_simp; try with_reducible rfl)); (try simp only [List.getElem_toArray]); (try simp only [List.getElem_cons_succ]); (try simp only [List.getElem_cons_zero]); (try simp only [Act.put]); (try simp only [List.setIfInBounds_toArray]); (try simp only [List.set_cons_succ]); (try simp only [List.set_cons_zero]))
            refine wpAnyH_done (by kernel_rfl) ?_ _
            have B7 := Lib.hid (B7.out.ext hHeld)
            have HW := Lib.hid (HW.out.ext hHeld)
            have P10 := Lib.hid (P10.out.ext hHeld)
            have E011 := Lib.hid (E010.out.trans hHeld)
            clear hHeld E11 E010 S6 HFC
            by_cases hz0 : z = 0
            · subst hz0
              go_upto_region 17 with fail
              have hbs : w.heap.size ≤ w11.heap.size := E011.out.size
              have HN7B := Lib.hid (show ¬ wS n8 u n7 from by
                rintro (h9 | h9)
                · have := HN8.out; omega
                · obtain ⟨us, ho, _⟩ := HW.out.own
                  exact own_blk_ne ho B7.out (by decide) h9)
              have hle := HLE.out
              refine wp_region_held_drew (S := fun w' => Mod (wS n8 u) w11 w') (by kernel_rfl) (Mod.of_ext (Ext.drew (Ext.refl _))) (fun hHeld => ?_)
              obtain ⟨D, hD⟩ : ∃ D, D = w11.drew := ⟨_, rfl⟩
              have ED : Ext w11 D := by rw [hD]; exact (Ext.refl _).drew
              rw [← hD] at hHeld ⊢
              clear hD
              (refine wpAnyH_take (i := 0) (v := ?_) rfl (by kernel_rfl) (by kernel_rfl) (by kernel_rfl) (fun _ _ _ h => h) (Or.inl ⟨by rfl, ?_⟩) (by assumption) ?_; rotate_left; (focus (intro w' hSw; go_simp; try with_reducible rfl)); (try simp only [List.getElem_toArray]); (try simp only [List.getElem_cons_succ]); (try simp only [List.getElem_cons_zero]); (try simp only [Act.put]); (try simp only [List.setIfInBounds_toArray]); (try simp only [List.set_cons_succ]); (try simp only [List.set_cons_zero]))
              (refine wpAnyH_take (i := 1) (v := ?_) rfl (by kernel_rfl) (by kernel_rfl) (by kernel_rfl) (fun _ _ _ h => h) (Or.inl ⟨by rfl, ?_⟩) (by assumption) ?_; rotate_left; (focus (intro w' hSw; have kc := (P10.out.mod hSw HNB.out).cell 0; go_simp; try with_reducible rfl)); (try simp only [List.getElem_toArray]); (try simp only [List.getElem_cons_succ]); (try simp only [List.getElem_cons_zero]); (try simp only [Act.put]); (try simp only [List.setIfInBounds_toArray]); (try simp only [List.set_cons_succ]); (try simp only [List.set_cons_zero]))
              (refine wpAnyH_take (i := 2) (v := ?_) rfl (by kernel_rfl) (by kernel_rfl) (by kernel_rfl) (fun _ _ _ h => h) (Or.inl ⟨by rfl, ?_⟩) (by assumption) ?_; rotate_left; (focus (intro w' hSw; go_simp; try with_reducible rfl)); (try simp only [List.getElem_toArray]); (try simp only [List.getElem_cons_succ]); (try simp only [List.getElem_cons_zero]); (try simp only [Act.put]); (try simp only [List.setIfInBounds_toArray]); (try simp only [List.set_cons_succ]); (try simp only [List.set_cons_zero]))
              (refine wpAnyH_take (i := 3) (v := ?_) rfl (by kernel_rfl) (by kernel_rfl) (by kernel_rfl) (fun _ _ _ h => h) (Or.inl ⟨by rfl, ?_⟩) (by assumption) ?_; rotate_left; (focus (intro w' hSw; go_simp; try with_reducible rfl)); (try simp only [List.getElem_toArray]); (try simp only [List.getElem_cons_succ]); (try simp only [List.getElem_cons_zero]); (try simp only [Act.put]); (try simp only [List.setIfInBounds_toArray]); (try simp only [List.set_cons_succ]); (try simp only [List.set_cons_zero]))
              (refine wpAnyH_take (i := 4) (v := ?_) rfl (by kernel_rfl) (by kernel_rfl) (by kernel_rfl) (fun _ _ _ h => h) (Or.inl ⟨by rfl, ?_⟩) (by assumption) ?_; rotate_left; (focus (intro w' hSw; have kc := (B7.out.mod hSw HN7B.out).cell 7; rw [HS7.out] at kc; go_simp; try with_reducible rfl)); (try simp only [List.getElem_toArray]); (try simp only [List.getElem_cons_succ]); (try simp only [List.getElem_cons_zero]); (try simp only [Act.put]); (try simp only [List.setIfInBounds_toArray]); (try simp only [List.set_cons_succ]); (try simp only [List.set_cons_zero]))
              (refine wpAnyH_take (i := 5) (v := ?_) rfl (by kernel_rfl) (by kernel_rfl) (by kernel_rfl) (fun _ _ _ h => h) (Or.inl ⟨by rfl, ?_⟩) (by assumption) ?_; rotate_left; (focus (intro w' hSw; go_simp; try with_reducible rfl)); (try simp only [List.getElem_toArray]); (try simp only [List.getElem_cons_succ]); (try simp only [List.getElem_cons_zero]); (try simp only [Act.put]); (try simp only [List.setIfInBounds_toArray]); (try simp only [List.set_cons_succ]); (try simp only [List.set_cons_zero]))
              (refine wpAnyH_take (i := 6) (v := ?_) rfl (by kernel_rfl) (by kernel_rfl) (by kernel_rfl) (fun _ _ _ h => h) (Or.inl ⟨by rfl, ?_⟩) (by assumption) ?_; rotate_left; (focus (intro w' hSw; have c0 := (P10.out.mod hSw HNB.out).cell 0; have c1 := (P10.out.mod hSw HNB.out).cell 1; have c2 := (P10.out.mod hSw HNB.out).cell 2; have c3 := (P10.out.mod hSw HNB.out).cell 3; go_simp; try with_reducible rfl)); (try simp only [List.getElem_toArray]); (try simp only [List.getElem_cons_succ]); (try simp only [List.getElem_cons_zero]); (try simp only [Act.put]); (try simp only [List.setIfInBounds_toArray]); (try simp only [List.set_cons_succ]); (try simp only [List.set_cons_zero]))
              (refine wpAnyH_ready (rs := [7]) (by kernel_rfl) (by simp) ?_; refine AllReadyH.cons rfl (fun K hK => ?_) AllReadyH.nil; go_simp; go_at_call 68; refine (woct_any w.heap.size n8 u _ 2 n (.slice At t.length ct) (.slice none 0 0) _ (HW.out.ext ED) (Nat.le_trans hbs ED.size) (by have h9 := HZV.out; split at h9 <;> omega) (by omega)).mono ?_; rintro e w12 ⟨rfl, v12, R12, M12, X12⟩; (try dsimp only); refine hK.out _ _ ((Mod.of_ext ED).trans M12) (fun hHeld => ?_); clear hK K; (try simp only [Act.put]); (try simp only [List.getElem_toArray]); (try simp only [List.getElem_cons_succ]); (try simp only [List.getElem_cons_zero]); (try simp only [List.setIfInBounds_toArray]); (try simp only [List.set_cons_succ]); (try simp only [List.set_cons_zero]))
              refine wpAnyH_done (by kernel_rfl) ?_ _
              have B7 := Lib.hid (B7.out.mod hHeld HN7B.out)
              have hE12 := Lib.hid (Mod.toExt E011.out hHeld (by
                rintro k hk (h9 | h9)
                · have := HN7.out; have := HN8.out; omega
                · have := (HW.out.own.row k h9).1; omega))
              have R12 : Wr w.heap.size n8 w12 v12 (encL (fs.take (q + 1))) := by rw [encL_take hd.out, HEN.out]; exact R12
              have HFT := Lib.hid (show ∀ f ∈ fs.take (q + 1), fltF f.k f.n f.t = 0 by
                rw [List.take_add_one, hd.out]
                intro f hf
                rcases List.mem_append.1 hf with h | h
                · exact HFT.out f h
                · simp at h; rw [h]; exact HFZ.out)
              obtain ⟨A12, c12, rfl, -, -⟩ := R12.own.shape
              have kb := R12.blk.cell 0
              have HR12 := Lib.hid R12
              obtain ⟨L12, hL12⟩ : ∃ L, (encL (fs.take (q + 1))).length = L := ⟨_, rfl⟩
              have HL12 := Lib.hid hL12
              rw [hL12] at kb
              clear hHeld R12 M12 X12 ED hL12 hle
              by_cases hbig : 33792 < L12
              · go_wp2
                go_ret2
                exact ⟨_, 6, rfl, hE12.out, fun h => absurd h (by decide), fun _ => rfl, fun _ hl9 => by have := encL_take_le fs (q + 1); have := HL12.out; omega⟩
              · have hbig2 : ¬ (33792 < (L12 : Int)) := by omega
                go_wp2
                go_roundw
                case rel => exact ⟨q + 1, _, by omega, by go_num, HR12, HFT, Lib.hid (by rw [HL12.out]; omega), B7, hE12⟩
                case measure => simp [intOf]; omega
            · have hz1 : (z == 0) = false := by simpa using hz0
              go_wp2
              go_ret2
              exact ⟨_, z, rfl, E011.out, fun h => absurd h hz0, fun _ => rfl, fun ha9 _ => absurd (HFZ.out.symm.trans (ha9 _ (List.mem_of_getElem? hd.out))) hz0⟩
          · skip
            have hs6 : sortsV[9]? = some (.func (.func 72) #[] #[]) := by rfl
            have hs7 : sortsV[10]? = some (.func (.func 73) #[] #[]) := by rfl
            have S6 := Lib.hid (show W10.cell? ⟨n7, 9, none⟩ = some (.func (.func 72) #[] #[]) by rw [(B7.out.ext E10).cell, hs6])
            have HS7 := Lib.hid hs7
            have B7 := Lib.hid (B7.out.ext E10)
            have HW := Lib.hid (HW.out.ext E10)
            have E010 := Lib.hid (hE.out.trans E10)
            obtain ⟨z, hz⟩ : ∃ z : Int, ((0 : Int)) = z := ⟨_, rfl⟩
            have HFC := Lib.hid (fun w' => fno_any 3 n (.slice At t.length ct) (.slice none 0 0) w')
            rw [hz] at HFC
            have HZV := Lib.hid hz
            have HFZ := Lib.hid (show fltF 3 n t = z by rw [← hz]; simp [fltF])
            have HEN := Lib.hid (show encF 3 n t = Fr.four n by simp [encF])
            clear hs6 hs7 E10 hE hz
            refine wp_region_held_drew (S := fun w' => Ext W10 w') (by kernel_rfl) (Ext.drew (Ext.refl _)) (fun hHeld => ?_)
            (refine wpAnyH_take (i := 0) (v := ?_) rfl (by kernel_rfl) (by kernel_rfl) (by kernel_rfl) (fun _ _ _ h => h) (Or.inl ⟨by rfl, ?_⟩) (by assumption) ?_; rotate_left; (focus (intro w' hSw; skip; go_simp; try with_reducible rfl)); (try simp only [List.getElem_toArray]); (try simp only [List.getElem_cons_succ]); (try simp only [List.getElem_cons_zero]); (try simp only [Act.put]); (try simp only [List.setIfInBounds_toArray]); (try simp only [List.set_cons_succ]); (try simp only [List.set_cons_zero]))
            (refine wpAnyH_take (i := 1) (v := ?_) rfl (by kernel_rfl) (by kernel_rfl) (by kernel_rfl) (fun _ _ _ h => h) (Or.inl ⟨by rfl, ?_⟩) (by assumption) ?_; rotate_left; (focus (intro w' hSw; have kc := (P10.out.ext hSw).cell 0; go_simp; try with_reducible rfl)); (try simp only [List.getElem_toArray]); (try simp only [List.getElem_cons_succ]); (try simp only [List.getElem_cons_zero]); (try simp only [Act.put]); (try simp only [List.setIfInBounds_toArray]); (try simp only [List.set_cons_succ]); (try simp only [List.set_cons_zero]))
            (refine wpAnyH_take (i := 2) (v := ?_) rfl (by kernel_rfl) (by kernel_rfl) (by kernel_rfl) (fun _ _ _ h => h) (Or.inl ⟨by rfl, ?_⟩) (by assumption) ?_; rotate_left; (focus (intro w' hSw; go_simp; try with_reducible rfl)); (try simp only [List.getElem_toArray]); (try simp only [List.getElem_cons_succ]); (try simp only [List.getElem_cons_zero]); (try simp only [Act.put]); (try simp only [List.setIfInBounds_toArray]); (try simp only [List.set_cons_succ]); (try simp only [List.set_cons_zero]))
            (refine wpAnyH_take (i := 3) (v := ?_) rfl (by kernel_rfl) (by kernel_rfl) (by kernel_rfl) (fun _ _ _ h => h) (Or.inl ⟨by rfl, ?_⟩) (by assumption) ?_; rotate_left; (focus (intro w' hSw; go_simp; try with_reducible rfl)); (try simp only [List.getElem_toArray]); (try simp only [List.getElem_cons_succ]); (try simp only [List.getElem_cons_zero]); (try simp only [Act.put]); (try simp only [List.setIfInBounds_toArray]); (try simp only [List.set_cons_succ]); (try simp only [List.set_cons_zero]))
            (refine wpAnyH_take (i := 4) (v := ?_) rfl (by kernel_rfl) (by kernel_rfl) (by kernel_rfl) (fun _ _ _ h => h) (Or.inl ⟨by rfl, ?_⟩) (by assumption) ?_; rotate_left; (focus (intro w' hSw; have kc := cell_ext hSw S6.out; go_simp; try with_reducible rfl)); (try simp only [List.getElem_toArray]); (try simp only [List.getElem_cons_succ]); (try simp only [List.getElem_cons_zero]); (try simp only [Act.put]); (try simp only [List.setIfInBounds_toArray]); (try simp only [List.set_cons_succ]); (try simp only [List.set_cons_zero]))
            (refine wpAnyH_take (i := 5) (v := ?_) rfl (by kernel_rfl) (by kernel_rfl) (by kernel_rfl) (fun _ _ _ h => h) (Or.inl ⟨by rfl, ?_⟩) (by assumption) ?_; rotate_left; (focus (intro w' hSw; have c0 := (P10.out.ext hSw).cell 0; have c1 := (P10.out.ext hSw).cell 1; have c2 := (P10.out.ext hSw).cell 2; have c3 := (P10.out.ext hSw).cell 3; go_simp; try with_reducible rfl)); (try simp only [List.getElem_toArray]); (try simp only [List.getElem_cons_succ]); (try simp only [List.getElem_cons_zero]); (try simp only [Act.put]); (try simp only [List.setIfInBounds_toArray]); (try simp only [List.set_cons_succ]); (try simp only [List.set_cons_zero]))
            (refine wpAnyH_ready (rs := [6]) (by kernel_rfl) (by simp) ?_; refine AllReadyH.cons rfl (fun K hK => ?_) AllReadyH.nil; go_simp; go_at_call 72; refine (HFC.out _).mono ?_; rintro e w11 ⟨rfl, E11⟩; (try dsimp only); refine hK.out _ _ (by repeat (first | with_reducible exact Ext.refl _ | refine Ext.drewN ?_ _ | refine Ext.drew ?_ | refine Ext.alloc ?_ _ | assumption | (refine Below.trans ?_ (by assumption)) | (refine Ext.trans ?_ (by assumption)) | (refine Below.trans ?_ (Below.mono (by assumption) (by omega))))) (fun hHeld => ?_); clear hK K; (try simp only [Act.put]); (try simp only [List.getElem_toArray]); (try simp only [List.getElem_cons_succ]); (try simp only [List.getElem_cons_zero]); (try simp only [List.setIfInBounds_toArray]); (try simp only [List.set_cons_succ]); (try simp only [List.set_cons_zero]))
            (refine wpAnyH_take (i := 7) (v := ?_) rfl (by kernel_rfl) (by kernel_rfl) (by kernel_rfl) (fun _ _ _ h => h) (Or.inl ⟨by rfl, ?_⟩) (by assumption) ?_; rotate_left; (focus (intro w' hSw; go_simp; try with_reducible rfl)); (try simp only [List.getElem_toArray]); (try simp only [List.getElem_cons_succ]); (try simp only [List.getElem_cons_zero]); (try simp only [Act.put]); (try simp only [List.setIfInBounds_toArray]); (try simp only [List.set_cons_succ]); (try simp only [List.set_cons_zero]))
            refine wpAnyH_done (by kernel_rfl) ?_ _
            have B7 := Lib.hid (B7.out.ext hHeld)
            have HW := Lib.hid (HW.out.ext hHeld)
            have P10 := Lib.hid (P10.out.ext hHeld)
            have E011 := Lib.hid (E010.out.trans hHeld)
            clear hHeld E11 E010 S6 HFC
            by_cases hz0 : z = 0
            · subst hz0
              go_upto_region 17 with fail
              have hbs : w.heap.size ≤ w11.heap.size := E011.out.size
              have HN7B := Lib.hid (show ¬ wS n8 u n7 from by
                rintro (h9 | h9)
                · have := HN8.out; omega
                · obtain ⟨us, ho, _⟩ := HW.out.own
                  exact own_blk_ne ho B7.out (by decide) h9)
              have hle := HLE.out
              refine wp_region_held_drew (S := fun w' => Mod (wS n8 u) w11 w') (by kernel_rfl) (Mod.of_ext (Ext.drew (Ext.refl _))) (fun hHeld => ?_)
              obtain ⟨D, hD⟩ : ∃ D, D = w11.drew := ⟨_, rfl⟩
              have ED : Ext w11 D := by rw [hD]; exact (Ext.refl _).drew
              rw [← hD] at hHeld ⊢
              clear hD
              (refine wpAnyH_take (i := 0) (v := ?_) rfl (by kernel_rfl) (by kernel_rfl) (by kernel_rfl) (fun _ _ _ h => h) (Or.inl ⟨by rfl, ?_⟩) (by assumption) ?_; rotate_left; (focus (intro w' hSw; go_simp; try with_reducible rfl)); (try simp only [List.getElem_toArray]); (try simp only [List.getElem_cons_succ]); (try simp only [List.getElem_cons_zero]); (try simp only [Act.put]); (try simp only [List.setIfInBounds_toArray]); (try simp only [List.set_cons_succ]); (try simp only [List.set_cons_zero]))
              (refine wpAnyH_take (i := 1) (v := ?_) rfl (by kernel_rfl) (by kernel_rfl) (by kernel_rfl) (fun _ _ _ h => h) (Or.inl ⟨by rfl, ?_⟩) (by assumption) ?_; rotate_left; (focus (intro w' hSw; have kc := (P10.out.mod hSw HNB.out).cell 0; go_simp; try with_reducible rfl)); (try simp only [List.getElem_toArray]); (try simp only [List.getElem_cons_succ]); (try simp only [List.getElem_cons_zero]); (try simp only [Act.put]); (try simp only [List.setIfInBounds_toArray]); (try simp only [List.set_cons_succ]); (try simp only [List.set_cons_zero]))
              (refine wpAnyH_take (i := 2) (v := ?_) rfl (by kernel_rfl) (by kernel_rfl) (by kernel_rfl) (fun _ _ _ h => h) (Or.inl ⟨by rfl, ?_⟩) (by assumption) ?_; rotate_left; (focus (intro w' hSw; go_simp; try with_reducible rfl)); (try simp only [List.getElem_toArray]); (try simp only [List.getElem_cons_succ]); (try simp only [List.getElem_cons_zero]); (try simp only [Act.put]); (try simp only [List.setIfInBounds_toArray]); (try simp only [List.set_cons_succ]); (try simp only [List.set_cons_zero]))
              (refine wpAnyH_take (i := 3) (v := ?_) rfl (by kernel_rfl) (by kernel_rfl) (by kernel_rfl) (fun _ _ _ h => h) (Or.inl ⟨by rfl, ?_⟩) (by assumption) ?_; rotate_left; (focus (intro w' hSw; go_simp; try with_reducible rfl)); (try simp only [List.getElem_toArray]); (try simp only [List.getElem_cons_succ]); (try simp only [List.getElem_cons_zero]); (try simp only [Act.put]); (try simp only [List.setIfInBounds_toArray]); (try simp only [List.set_cons_succ]); (try simp only [List.set_cons_zero]))
              (refine wpAnyH_take (i := 4) (v := ?_) rfl (by kernel_rfl) (by kernel_rfl) (by kernel_rfl) (fun _ _ _ h => h) (Or.inl ⟨by rfl, ?_⟩) (by assumption) ?_; rotate_left; (focus (intro w' hSw; have kc := (B7.out.mod hSw HN7B.out).cell 10; rw [HS7.out] at kc; go_simp; try with_reducible rfl)); (try simp only [List.getElem_toArray]); (try simp only [List.getElem_cons_succ]); (try simp only [List.getElem_cons_zero]); (try simp only [Act.put]); (try simp only [List.setIfInBounds_toArray]); (try simp only [List.set_cons_succ]); (try simp only [List.set_cons_zero]))
              (refine wpAnyH_take (i := 5) (v := ?_) rfl (by kernel_rfl) (by kernel_rfl) (by kernel_rfl) (fun _ _ _ h => h) (Or.inl ⟨by rfl, ?_⟩) (by assumption) ?_; rotate_left; (focus (intro w' hSw; go_simp; try with_reducible rfl)); (try simp only [List.getElem_toArray]); (try simp only [List.getElem_cons_succ]); (try simp only [List.getElem_cons_zero]); (try simp only [Act.put]); (try simp only [List.setIfInBounds_toArray]); (try simp only [List.set_cons_succ]); (try simp only [List.set_cons_zero]))
              (refine wpAnyH_take (i := 6) (v := ?_) rfl (by kernel_rfl) (by kernel_rfl) (by kernel_rfl) (fun _ _ _ h => h) (Or.inl ⟨by rfl, ?_⟩) (by assumption) ?_; rotate_left; (focus (intro w' hSw; have c0 := (P10.out.mod hSw HNB.out).cell 0; have c1 := (P10.out.mod hSw HNB.out).cell 1; have c2 := (P10.out.mod hSw HNB.out).cell 2; have c3 := (P10.out.mod hSw HNB.out).cell 3; go_simp; try with_reducible rfl)); (try simp only [List.getElem_toArray]); (try simp only [List.getElem_cons_succ]); (try simp only [List.getElem_cons_zero]); (try simp only [Act.put]); (try simp only [List.setIfInBounds_toArray]); (try simp only [List.set_cons_succ]); (try simp only [List.set_cons_zero]))
              (refine wpAnyH_ready (rs := [7]) (by kernel_rfl) (by simp) ?_; refine AllReadyH.cons rfl (fun K hK => ?_) AllReadyH.nil; go_simp; go_at_call 73; refine (wnum_any w.heap.size n8 u _ 3 n (.slice At t.length ct) (.slice none 0 0) _ (HW.out.ext ED) (Nat.le_trans hbs ED.size) (by omega) (by omega)).mono ?_; rintro e w12 ⟨rfl, v12, R12, M12, X12⟩; (try dsimp only); refine hK.out _ _ ((Mod.of_ext ED).trans M12) (fun hHeld => ?_); clear hK K; (try simp only [Act.put]); (try simp only [List.getElem_toArray]); (try simp only [List.getElem_cons_succ]); (try simp only [List.getElem_cons_zero]); (try simp only [List.setIfInBounds_toArray]); (try simp only [List.set_cons_succ]); (try simp only [List.set_cons_zero]))
              refine wpAnyH_done (by kernel_rfl) ?_ _
              have B7 := Lib.hid (B7.out.mod hHeld HN7B.out)
              have hE12 := Lib.hid (Mod.toExt E011.out hHeld (by
                rintro k hk (h9 | h9)
                · have := HN7.out; have := HN8.out; omega
                · have := (HW.out.own.row k h9).1; omega))
              have R12 : Wr w.heap.size n8 w12 v12 (encL (fs.take (q + 1))) := by rw [encL_take hd.out, HEN.out]; exact R12
              have HFT := Lib.hid (show ∀ f ∈ fs.take (q + 1), fltF f.k f.n f.t = 0 by
                rw [List.take_add_one, hd.out]
                intro f hf
                rcases List.mem_append.1 hf with h | h
                · exact HFT.out f h
                · simp at h; rw [h]; exact HFZ.out)
              obtain ⟨A12, c12, rfl, -, -⟩ := R12.own.shape
              have kb := R12.blk.cell 0
              have HR12 := Lib.hid R12
              obtain ⟨L12, hL12⟩ : ∃ L, (encL (fs.take (q + 1))).length = L := ⟨_, rfl⟩
              have HL12 := Lib.hid hL12
              rw [hL12] at kb
              clear hHeld R12 M12 X12 ED hL12 hle
              by_cases hbig : 33792 < L12
              · go_wp2
                go_ret2
                exact ⟨_, 6, rfl, hE12.out, fun h => absurd h (by decide), fun _ => rfl, fun _ hl9 => by have := encL_take_le fs (q + 1); have := HL12.out; omega⟩
              · have hbig2 : ¬ (33792 < (L12 : Int)) := by omega
                go_wp2
                go_roundw
                case rel => exact ⟨q + 1, _, by omega, by go_num, HR12, HFT, Lib.hid (by rw [HL12.out]; omega), B7, hE12⟩
                case measure => simp [intOf]; omega
            · have hz1 : (z == 0) = false := by simpa using hz0
              go_wp2
              go_ret2
              exact ⟨_, z, rfl, E011.out, fun h => absurd h hz0, fun _ => rfl, fun ha9 _ => absurd (HFZ.out.symm.trans (ha9 _ (List.mem_of_getElem? hd.out))) hz0⟩
          · skip
            have hs6 : sortsV[12]? = some (.func (.func 75) #[] #[]) := by rfl
            have hs7 : sortsV[13]? = some (.func (.func 76) #[] #[]) := by rfl
            have S6 := Lib.hid (show W10.cell? ⟨n7, 12, none⟩ = some (.func (.func 75) #[] #[]) by rw [(B7.out.ext E10).cell, hs6])
            have HS7 := Lib.hid hs7
            have B7 := Lib.hid (B7.out.ext E10)
            have HW := Lib.hid (HW.out.ext E10)
            have E010 := Lib.hid (hE.out.trans E10)
            obtain ⟨z, hz⟩ : ∃ z : Int, (if 32768 < t.length then (6 : Int) else 0) = z := ⟨_, rfl⟩
            have HFC := Lib.hid (fun w' => ftext_any 4 n At t.length ct (.slice none 0 0) w')
            rw [hz] at HFC
            have HZV := Lib.hid hz
            have HFZ := Lib.hid (show fltF 4 n t = z by rw [← hz]; simp [fltF])
            have HEN := Lib.hid (show encF 4 n t = Fr.four t.length ++ t by simp [encF])
            clear hs6 hs7 E10 hE hz
            refine wp_region_held_drew (S := fun w' => Ext W10 w') (by kernel_rfl) (Ext.drew (Ext.refl _)) (fun hHeld => ?_)
            (refine wpAnyH_take (i := 0) (v := ?_) rfl (by kernel_rfl) (by kernel_rfl) (by kernel_rfl) (fun _ _ _ h => h) (Or.inl ⟨by rfl, ?_⟩) (by assumption) ?_; rotate_left; (focus (intro w' hSw; skip; go_simp; try with_reducible rfl)); (try simp only [List.getElem_toArray]); (try simp only [List.getElem_cons_succ]); (try simp only [List.getElem_cons_zero]); (try simp only [Act.put]); (try simp only [List.setIfInBounds_toArray]); (try simp only [List.set_cons_succ]); (try simp only [List.set_cons_zero]))
            (refine wpAnyH_take (i := 1) (v := ?_) rfl (by kernel_rfl) (by kernel_rfl) (by kernel_rfl) (fun _ _ _ h => h) (Or.inl ⟨by rfl, ?_⟩) (by assumption) ?_; rotate_left; (focus (intro w' hSw; have kc := (P10.out.ext hSw).cell 0; go_simp; try with_reducible rfl)); (try simp only [List.getElem_toArray]); (try simp only [List.getElem_cons_succ]); (try simp only [List.getElem_cons_zero]); (try simp only [Act.put]); (try simp only [List.setIfInBounds_toArray]); (try simp only [List.set_cons_succ]); (try simp only [List.set_cons_zero]))
            (refine wpAnyH_take (i := 2) (v := ?_) rfl (by kernel_rfl) (by kernel_rfl) (by kernel_rfl) (fun _ _ _ h => h) (Or.inl ⟨by rfl, ?_⟩) (by assumption) ?_; rotate_left; (focus (intro w' hSw; go_simp; try with_reducible rfl)); (try simp only [List.getElem_toArray]); (try simp only [List.getElem_cons_succ]); (try simp only [List.getElem_cons_zero]); (try simp only [Act.put]); (try simp only [List.setIfInBounds_toArray]); (try simp only [List.set_cons_succ]); (try simp only [List.set_cons_zero]))
            (refine wpAnyH_take (i := 3) (v := ?_) rfl (by kernel_rfl) (by kernel_rfl) (by kernel_rfl) (fun _ _ _ h => h) (Or.inl ⟨by rfl, ?_⟩) (by assumption) ?_; rotate_left; (focus (intro w' hSw; go_simp; try with_reducible rfl)); (try simp only [List.getElem_toArray]); (try simp only [List.getElem_cons_succ]); (try simp only [List.getElem_cons_zero]); (try simp only [Act.put]); (try simp only [List.setIfInBounds_toArray]); (try simp only [List.set_cons_succ]); (try simp only [List.set_cons_zero]))
            (refine wpAnyH_take (i := 4) (v := ?_) rfl (by kernel_rfl) (by kernel_rfl) (by kernel_rfl) (fun _ _ _ h => h) (Or.inl ⟨by rfl, ?_⟩) (by assumption) ?_; rotate_left; (focus (intro w' hSw; have kc := cell_ext hSw S6.out; go_simp; try with_reducible rfl)); (try simp only [List.getElem_toArray]); (try simp only [List.getElem_cons_succ]); (try simp only [List.getElem_cons_zero]); (try simp only [Act.put]); (try simp only [List.setIfInBounds_toArray]); (try simp only [List.set_cons_succ]); (try simp only [List.set_cons_zero]))
            (refine wpAnyH_take (i := 5) (v := ?_) rfl (by kernel_rfl) (by kernel_rfl) (by kernel_rfl) (fun _ _ _ h => h) (Or.inl ⟨by rfl, ?_⟩) (by assumption) ?_; rotate_left; (focus (intro w' hSw; have c0 := (P10.out.ext hSw).cell 0; have c1 := (P10.out.ext hSw).cell 1; have c2 := (P10.out.ext hSw).cell 2; have c3 := (P10.out.ext hSw).cell 3; go_simp; try with_reducible rfl)); (try simp only [List.getElem_toArray]); (try simp only [List.getElem_cons_succ]); (try simp only [List.getElem_cons_zero]); (try simp only [Act.put]); (try simp only [List.setIfInBounds_toArray]); (try simp only [List.set_cons_succ]); (try simp only [List.set_cons_zero]))
            (refine wpAnyH_ready (rs := [6]) (by kernel_rfl) (by simp) ?_; refine AllReadyH.cons rfl (fun K hK => ?_) AllReadyH.nil; go_simp; go_at_call 75; refine (HFC.out _).mono ?_; rintro e w11 ⟨rfl, E11⟩; (try dsimp only); refine hK.out _ _ (by repeat (first | with_reducible exact Ext.refl _ | refine Ext.drewN ?_ _ | refine Ext.drew ?_ | refine Ext.alloc ?_ _ | assumption | (refine Below.trans ?_ (by assumption)) | (refine Ext.trans ?_ (by assumption)) | (refine Below.trans ?_ (Below.mono (by assumption) (by omega))))) (fun hHeld => ?_); clear hK K; (try simp only [Act.put]); (try simp only [List.getElem_toArray]); (try simp only [List.getElem_cons_succ]); (try simp only [List.getElem_cons_zero]); (try simp only [List.setIfInBounds_toArray]); (try simp only [List.set_cons_succ]); (try simp only [List.set_cons_zero]))
            (refine wpAnyH_take (i := 7) (v := ?_) rfl (by kernel_rfl) (by kernel_rfl) (by kernel_rfl) (fun _ _ _ h => h) (Or.inl ⟨by rfl, ?_⟩) (by assumption) ?_; rotate_left; (focus (intro w' hSw; go_simp; try with_reducible rfl)); (try simp only [List.getElem_toArray]); (try simp only [List.getElem_cons_succ]); (try simp only [List.getElem_cons_zero]); (try simp only [Act.put]); (try simp only [List.setIfInBounds_toArray]); (try simp only [List.set_cons_succ]); (try simp only [List.set_cons_zero]))
            refine wpAnyH_done (by kernel_rfl) ?_ _
            have B7 := Lib.hid (B7.out.ext hHeld)
            have HW := Lib.hid (HW.out.ext hHeld)
            have P10 := Lib.hid (P10.out.ext hHeld)
            have E011 := Lib.hid (E010.out.trans hHeld)
            clear hHeld E11 E010 S6 HFC
            by_cases hz0 : z = 0
            · subst hz0
              go_upto_region 17 with fail
              have hbs : w.heap.size ≤ w11.heap.size := E011.out.size
              have HN7B := Lib.hid (show ¬ wS n8 u n7 from by
                rintro (h9 | h9)
                · have := HN8.out; omega
                · obtain ⟨us, ho, _⟩ := HW.out.own
                  exact own_blk_ne ho B7.out (by decide) h9)
              have hle := HLE.out
              refine wp_region_held_drew (S := fun w' => Mod (wS n8 u) w11 w') (by kernel_rfl) (Mod.of_ext (Ext.drew (Ext.refl _))) (fun hHeld => ?_)
              obtain ⟨D, hD⟩ : ∃ D, D = w11.drew := ⟨_, rfl⟩
              have ED : Ext w11 D := by rw [hD]; exact (Ext.refl _).drew
              rw [← hD] at hHeld ⊢
              clear hD
              (refine wpAnyH_take (i := 0) (v := ?_) rfl (by kernel_rfl) (by kernel_rfl) (by kernel_rfl) (fun _ _ _ h => h) (Or.inl ⟨by rfl, ?_⟩) (by assumption) ?_; rotate_left; (focus (intro w' hSw; go_simp; try with_reducible rfl)); (try simp only [List.getElem_toArray]); (try simp only [List.getElem_cons_succ]); (try simp only [List.getElem_cons_zero]); (try simp only [Act.put]); (try simp only [List.setIfInBounds_toArray]); (try simp only [List.set_cons_succ]); (try simp only [List.set_cons_zero]))
              (refine wpAnyH_take (i := 1) (v := ?_) rfl (by kernel_rfl) (by kernel_rfl) (by kernel_rfl) (fun _ _ _ h => h) (Or.inl ⟨by rfl, ?_⟩) (by assumption) ?_; rotate_left; (focus (intro w' hSw; have kc := (P10.out.mod hSw HNB.out).cell 0; go_simp; try with_reducible rfl)); (try simp only [List.getElem_toArray]); (try simp only [List.getElem_cons_succ]); (try simp only [List.getElem_cons_zero]); (try simp only [Act.put]); (try simp only [List.setIfInBounds_toArray]); (try simp only [List.set_cons_succ]); (try simp only [List.set_cons_zero]))
              (refine wpAnyH_take (i := 2) (v := ?_) rfl (by kernel_rfl) (by kernel_rfl) (by kernel_rfl) (fun _ _ _ h => h) (Or.inl ⟨by rfl, ?_⟩) (by assumption) ?_; rotate_left; (focus (intro w' hSw; go_simp; try with_reducible rfl)); (try simp only [List.getElem_toArray]); (try simp only [List.getElem_cons_succ]); (try simp only [List.getElem_cons_zero]); (try simp only [Act.put]); (try simp only [List.setIfInBounds_toArray]); (try simp only [List.set_cons_succ]); (try simp only [List.set_cons_zero]))
              (refine wpAnyH_take (i := 3) (v := ?_) rfl (by kernel_rfl) (by kernel_rfl) (by kernel_rfl) (fun _ _ _ h => h) (Or.inl ⟨by rfl, ?_⟩) (by assumption) ?_; rotate_left; (focus (intro w' hSw; go_simp; try with_reducible rfl)); (try simp only [List.getElem_toArray]); (try simp only [List.getElem_cons_succ]); (try simp only [List.getElem_cons_zero]); (try simp only [Act.put]); (try simp only [List.setIfInBounds_toArray]); (try simp only [List.set_cons_succ]); (try simp only [List.set_cons_zero]))
              (refine wpAnyH_take (i := 4) (v := ?_) rfl (by kernel_rfl) (by kernel_rfl) (by kernel_rfl) (fun _ _ _ h => h) (Or.inl ⟨by rfl, ?_⟩) (by assumption) ?_; rotate_left; (focus (intro w' hSw; have kc := (B7.out.mod hSw HN7B.out).cell 13; rw [HS7.out] at kc; go_simp; try with_reducible rfl)); (try simp only [List.getElem_toArray]); (try simp only [List.getElem_cons_succ]); (try simp only [List.getElem_cons_zero]); (try simp only [Act.put]); (try simp only [List.setIfInBounds_toArray]); (try simp only [List.set_cons_succ]); (try simp only [List.set_cons_zero]))
              (refine wpAnyH_take (i := 5) (v := ?_) rfl (by kernel_rfl) (by kernel_rfl) (by kernel_rfl) (fun _ _ _ h => h) (Or.inl ⟨by rfl, ?_⟩) (by assumption) ?_; rotate_left; (focus (intro w' hSw; go_simp; try with_reducible rfl)); (try simp only [List.getElem_toArray]); (try simp only [List.getElem_cons_succ]); (try simp only [List.getElem_cons_zero]); (try simp only [Act.put]); (try simp only [List.setIfInBounds_toArray]); (try simp only [List.set_cons_succ]); (try simp only [List.set_cons_zero]))
              (refine wpAnyH_take (i := 6) (v := ?_) rfl (by kernel_rfl) (by kernel_rfl) (by kernel_rfl) (fun _ _ _ h => h) (Or.inl ⟨by rfl, ?_⟩) (by assumption) ?_; rotate_left; (focus (intro w' hSw; have c0 := (P10.out.mod hSw HNB.out).cell 0; have c1 := (P10.out.mod hSw HNB.out).cell 1; have c2 := (P10.out.mod hSw HNB.out).cell 2; have c3 := (P10.out.mod hSw HNB.out).cell 3; go_simp; try with_reducible rfl)); (try simp only [List.getElem_toArray]); (try simp only [List.getElem_cons_succ]); (try simp only [List.getElem_cons_zero]); (try simp only [Act.put]); (try simp only [List.setIfInBounds_toArray]); (try simp only [List.set_cons_succ]); (try simp only [List.set_cons_zero]))
              (refine wpAnyH_ready (rs := [7]) (by kernel_rfl) (by simp) ?_; refine AllReadyH.cons rfl (fun K hK => ?_) AllReadyH.nil; go_simp; go_at_call 76; refine (wtext_any w.heap.size n8 u _ 4 n (.slice At t.length ct) (.slice none 0 0) t _ (HW.out.ext ED) (Nat.le_trans hbs ED.size) (RdN.ext HTX.out (E011.out.trans ED)) (by omega) (by have h9 := HZV.out; split at h9 <;> omega) (HTO.out)).mono ?_; rintro e w12 ⟨rfl, v12, R12, M12, X12⟩; (try dsimp only); refine hK.out _ _ ((Mod.of_ext ED).trans M12) (fun hHeld => ?_); clear hK K; (try simp only [Act.put]); (try simp only [List.getElem_toArray]); (try simp only [List.getElem_cons_succ]); (try simp only [List.getElem_cons_zero]); (try simp only [List.setIfInBounds_toArray]); (try simp only [List.set_cons_succ]); (try simp only [List.set_cons_zero]))
              refine wpAnyH_done (by kernel_rfl) ?_ _
              have B7 := Lib.hid (B7.out.mod hHeld HN7B.out)
              have hE12 := Lib.hid (Mod.toExt E011.out hHeld (by
                rintro k hk (h9 | h9)
                · have := HN7.out; have := HN8.out; omega
                · have := (HW.out.own.row k h9).1; omega))
              have R12 : Wr w.heap.size n8 w12 v12 (encL (fs.take (q + 1))) := by rw [encL_take hd.out, HEN.out]; exact R12
              have HFT := Lib.hid (show ∀ f ∈ fs.take (q + 1), fltF f.k f.n f.t = 0 by
                rw [List.take_add_one, hd.out]
                intro f hf
                rcases List.mem_append.1 hf with h | h
                · exact HFT.out f h
                · simp at h; rw [h]; exact HFZ.out)
              obtain ⟨A12, c12, rfl, -, -⟩ := R12.own.shape
              have kb := R12.blk.cell 0
              have HR12 := Lib.hid R12
              obtain ⟨L12, hL12⟩ : ∃ L, (encL (fs.take (q + 1))).length = L := ⟨_, rfl⟩
              have HL12 := Lib.hid hL12
              rw [hL12] at kb
              clear hHeld R12 M12 X12 ED hL12 hle
              by_cases hbig : 33792 < L12
              · go_wp2
                go_ret2
                exact ⟨_, 6, rfl, hE12.out, fun h => absurd h (by decide), fun _ => rfl, fun _ hl9 => by have := encL_take_le fs (q + 1); have := HL12.out; omega⟩
              · have hbig2 : ¬ (33792 < (L12 : Int)) := by omega
                go_wp2
                go_roundw
                case rel => exact ⟨q + 1, _, by omega, by go_num, HR12, HFT, Lib.hid (by rw [HL12.out]; omega), B7, hE12⟩
                case measure => simp [intOf]; omega
            · have hz1 : (z == 0) = false := by simpa using hz0
              go_wp2
              go_ret2
              exact ⟨_, z, rfl, E011.out, fun h => absurd h hz0, fun _ => rfl, fun ha9 _ => absurd (HFZ.out.symm.trans (ha9 _ (List.mem_of_getElem? hd.out))) hz0⟩
          · skip
            have hs6 : sortsV[18]? = some (.func (.func 81) #[] #[]) := by rfl
            have hs7 : sortsV[19]? = some (.func (.func 82) #[] #[]) := by rfl
            have S6 := Lib.hid (show W10.cell? ⟨n7, 18, none⟩ = some (.func (.func 81) #[] #[]) by rw [(B7.out.ext E10).cell, hs6])
            have HS7 := Lib.hid hs7
            have B7 := Lib.hid (B7.out.ext E10)
            have HW := Lib.hid (HW.out.ext E10)
            have E010 := Lib.hid (hE.out.trans E10)
            obtain ⟨z, hz⟩ : ∃ z : Int, (if 33792 < t.length then (6 : Int) else 0) = z := ⟨_, rfl⟩
            have HFC := Lib.hid (fun w' => frest_any 6 n At t.length ct (.slice none 0 0) w')
            rw [hz] at HFC
            have HZV := Lib.hid hz
            have HFZ := Lib.hid (show fltF 6 n t = z by rw [← hz]; simp [fltF])
            have HEN := Lib.hid (show encF 6 n t = t by simp [encF])
            clear hs6 hs7 E10 hE hz
            refine wp_region_held_drew (S := fun w' => Ext W10 w') (by kernel_rfl) (Ext.drew (Ext.refl _)) (fun hHeld => ?_)
            (refine wpAnyH_take (i := 0) (v := ?_) rfl (by kernel_rfl) (by kernel_rfl) (by kernel_rfl) (fun _ _ _ h => h) (Or.inl ⟨by rfl, ?_⟩) (by assumption) ?_; rotate_left; (focus (intro w' hSw; skip; go_simp; try with_reducible rfl)); (try simp only [List.getElem_toArray]); (try simp only [List.getElem_cons_succ]); (try simp only [List.getElem_cons_zero]); (try simp only [Act.put]); (try simp only [List.setIfInBounds_toArray]); (try simp only [List.set_cons_succ]); (try simp only [List.set_cons_zero]))
            (refine wpAnyH_take (i := 1) (v := ?_) rfl (by kernel_rfl) (by kernel_rfl) (by kernel_rfl) (fun _ _ _ h => h) (Or.inl ⟨by rfl, ?_⟩) (by assumption) ?_; rotate_left; (focus (intro w' hSw; have kc := (P10.out.ext hSw).cell 0; go_simp; try with_reducible rfl)); (try simp only [List.getElem_toArray]); (try simp only [List.getElem_cons_succ]); (try simp only [List.getElem_cons_zero]); (try simp only [Act.put]); (try simp only [List.setIfInBounds_toArray]); (try simp only [List.set_cons_succ]); (try simp only [List.set_cons_zero]))
            (refine wpAnyH_take (i := 2) (v := ?_) rfl (by kernel_rfl) (by kernel_rfl) (by kernel_rfl) (fun _ _ _ h => h) (Or.inl ⟨by rfl, ?_⟩) (by assumption) ?_; rotate_left; (focus (intro w' hSw; go_simp; try with_reducible rfl)); (try simp only [List.getElem_toArray]); (try simp only [List.getElem_cons_succ]); (try simp only [List.getElem_cons_zero]); (try simp only [Act.put]); (try simp only [List.setIfInBounds_toArray]); (try simp only [List.set_cons_succ]); (try simp only [List.set_cons_zero]))
            (refine wpAnyH_take (i := 3) (v := ?_) rfl (by kernel_rfl) (by kernel_rfl) (by kernel_rfl) (fun _ _ _ h => h) (Or.inl ⟨by rfl, ?_⟩) (by assumption) ?_; rotate_left; (focus (intro w' hSw; go_simp; try with_reducible rfl)); (try simp only [List.getElem_toArray]); (try simp only [List.getElem_cons_succ]); (try simp only [List.getElem_cons_zero]); (try simp only [Act.put]); (try simp only [List.setIfInBounds_toArray]); (try simp only [List.set_cons_succ]); (try simp only [List.set_cons_zero]))
            (refine wpAnyH_take (i := 4) (v := ?_) rfl (by kernel_rfl) (by kernel_rfl) (by kernel_rfl) (fun _ _ _ h => h) (Or.inl ⟨by rfl, ?_⟩) (by assumption) ?_; rotate_left; (focus (intro w' hSw; have kc := cell_ext hSw S6.out; go_simp; try with_reducible rfl)); (try simp only [List.getElem_toArray]); (try simp only [List.getElem_cons_succ]); (try simp only [List.getElem_cons_zero]); (try simp only [Act.put]); (try simp only [List.setIfInBounds_toArray]); (try simp only [List.set_cons_succ]); (try simp only [List.set_cons_zero]))
            (refine wpAnyH_take (i := 5) (v := ?_) rfl (by kernel_rfl) (by kernel_rfl) (by kernel_rfl) (fun _ _ _ h => h) (Or.inl ⟨by rfl, ?_⟩) (by assumption) ?_; rotate_left; (focus (intro w' hSw; have c0 := (P10.out.ext hSw).cell 0; have c1 := (P10.out.ext hSw).cell 1; have c2 := (P10.out.ext hSw).cell 2; have c3 := (P10.out.ext hSw).cell 3; go_simp; try with_reducible rfl)); (try simp only [List.getElem_toArray]); (try simp only [List.getElem_cons_succ]); (try simp only [List.getElem_cons_zero]); (try simp only [Act.put]); (try simp only [List.setIfInBounds_toArray]); (try simp only [List.set_cons_succ]); (try simp only [List.set_cons_zero]))
            (refine wpAnyH_ready (rs := [6]) (by kernel_rfl) (by simp) ?_; refine AllReadyH.cons rfl (fun K hK => ?_) AllReadyH.nil; go_simp; go_at_call 81; refine (HFC.out _).mono ?_; rintro e w11 ⟨rfl, E11⟩; (try dsimp only); refine hK.out _ _ (by repeat (first | with_reducible exact Ext.refl _ | refine Ext.drewN ?_ _ | refine Ext.drew ?_ | refine Ext.alloc ?_ _ | assumption | (refine Below.trans ?_ (by assumption)) | (refine Ext.trans ?_ (by assumption)) | (refine Below.trans ?_ (Below.mono (by assumption) (by omega))))) (fun hHeld => ?_); clear hK K; (try simp only [Act.put]); (try simp only [List.getElem_toArray]); (try simp only [List.getElem_cons_succ]); (try simp only [List.getElem_cons_zero]); (try simp only [List.setIfInBounds_toArray]); (try simp only [List.set_cons_succ]); (try simp only [List.set_cons_zero]))
            (refine wpAnyH_take (i := 7) (v := ?_) rfl (by kernel_rfl) (by kernel_rfl) (by kernel_rfl) (fun _ _ _ h => h) (Or.inl ⟨by rfl, ?_⟩) (by assumption) ?_; rotate_left; (focus (intro w' hSw; go_simp; try with_reducible rfl)); (try simp only [List.getElem_toArray]); (try simp only [List.getElem_cons_succ]); (try simp only [List.getElem_cons_zero]); (try simp only [Act.put]); (try simp only [List.setIfInBounds_toArray]); (try simp only [List.set_cons_succ]); (try simp only [List.set_cons_zero]))
            refine wpAnyH_done (by kernel_rfl) ?_ _
            have B7 := Lib.hid (B7.out.ext hHeld)
            have HW := Lib.hid (HW.out.ext hHeld)
            have P10 := Lib.hid (P10.out.ext hHeld)
            have E011 := Lib.hid (E010.out.trans hHeld)
            clear hHeld E11 E010 S6 HFC
            by_cases hz0 : z = 0
            · subst hz0
              go_upto_region 17 with fail
              have hbs : w.heap.size ≤ w11.heap.size := E011.out.size
              have HN7B := Lib.hid (show ¬ wS n8 u n7 from by
                rintro (h9 | h9)
                · have := HN8.out; omega
                · obtain ⟨us, ho, _⟩ := HW.out.own
                  exact own_blk_ne ho B7.out (by decide) h9)
              have hle := HLE.out
              refine wp_region_held_drew (S := fun w' => Mod (wS n8 u) w11 w') (by kernel_rfl) (Mod.of_ext (Ext.drew (Ext.refl _))) (fun hHeld => ?_)
              obtain ⟨D, hD⟩ : ∃ D, D = w11.drew := ⟨_, rfl⟩
              have ED : Ext w11 D := by rw [hD]; exact (Ext.refl _).drew
              rw [← hD] at hHeld ⊢
              clear hD
              (refine wpAnyH_take (i := 0) (v := ?_) rfl (by kernel_rfl) (by kernel_rfl) (by kernel_rfl) (fun _ _ _ h => h) (Or.inl ⟨by rfl, ?_⟩) (by assumption) ?_; rotate_left; (focus (intro w' hSw; go_simp; try with_reducible rfl)); (try simp only [List.getElem_toArray]); (try simp only [List.getElem_cons_succ]); (try simp only [List.getElem_cons_zero]); (try simp only [Act.put]); (try simp only [List.setIfInBounds_toArray]); (try simp only [List.set_cons_succ]); (try simp only [List.set_cons_zero]))
              (refine wpAnyH_take (i := 1) (v := ?_) rfl (by kernel_rfl) (by kernel_rfl) (by kernel_rfl) (fun _ _ _ h => h) (Or.inl ⟨by rfl, ?_⟩) (by assumption) ?_; rotate_left; (focus (intro w' hSw; have kc := (P10.out.mod hSw HNB.out).cell 0; go_simp; try with_reducible rfl)); (try simp only [List.getElem_toArray]); (try simp only [List.getElem_cons_succ]); (try simp only [List.getElem_cons_zero]); (try simp only [Act.put]); (try simp only [List.setIfInBounds_toArray]); (try simp only [List.set_cons_succ]); (try simp only [List.set_cons_zero]))
              (refine wpAnyH_take (i := 2) (v := ?_) rfl (by kernel_rfl) (by kernel_rfl) (by kernel_rfl) (fun _ _ _ h => h) (Or.inl ⟨by rfl, ?_⟩) (by assumption) ?_; rotate_left; (focus (intro w' hSw; go_simp; try with_reducible rfl)); (try simp only [List.getElem_toArray]); (try simp only [List.getElem_cons_succ]); (try simp only [List.getElem_cons_zero]); (try simp only [Act.put]); (try simp only [List.setIfInBounds_toArray]); (try simp only [List.set_cons_succ]); (try simp only [List.set_cons_zero]))
              (refine wpAnyH_take (i := 3) (v := ?_) rfl (by kernel_rfl) (by kernel_rfl) (by kernel_rfl) (fun _ _ _ h => h) (Or.inl ⟨by rfl, ?_⟩) (by assumption) ?_; rotate_left; (focus (intro w' hSw; go_simp; try with_reducible rfl)); (try simp only [List.getElem_toArray]); (try simp only [List.getElem_cons_succ]); (try simp only [List.getElem_cons_zero]); (try simp only [Act.put]); (try simp only [List.setIfInBounds_toArray]); (try simp only [List.set_cons_succ]); (try simp only [List.set_cons_zero]))
              (refine wpAnyH_take (i := 4) (v := ?_) rfl (by kernel_rfl) (by kernel_rfl) (by kernel_rfl) (fun _ _ _ h => h) (Or.inl ⟨by rfl, ?_⟩) (by assumption) ?_; rotate_left; (focus (intro w' hSw; have kc := (B7.out.mod hSw HN7B.out).cell 19; rw [HS7.out] at kc; go_simp; try with_reducible rfl)); (try simp only [List.getElem_toArray]); (try simp only [List.getElem_cons_succ]); (try simp only [List.getElem_cons_zero]); (try simp only [Act.put]); (try simp only [List.setIfInBounds_toArray]); (try simp only [List.set_cons_succ]); (try simp only [List.set_cons_zero]))
              (refine wpAnyH_take (i := 5) (v := ?_) rfl (by kernel_rfl) (by kernel_rfl) (by kernel_rfl) (fun _ _ _ h => h) (Or.inl ⟨by rfl, ?_⟩) (by assumption) ?_; rotate_left; (focus (intro w' hSw; go_simp; try with_reducible rfl)); (try simp only [List.getElem_toArray]); (try simp only [List.getElem_cons_succ]); (try simp only [List.getElem_cons_zero]); (try simp only [Act.put]); (try simp only [List.setIfInBounds_toArray]); (try simp only [List.set_cons_succ]); (try simp only [List.set_cons_zero]))
              (refine wpAnyH_take (i := 6) (v := ?_) rfl (by kernel_rfl) (by kernel_rfl) (by kernel_rfl) (fun _ _ _ h => h) (Or.inl ⟨by rfl, ?_⟩) (by assumption) ?_; rotate_left; (focus (intro w' hSw; have c0 := (P10.out.mod hSw HNB.out).cell 0; have c1 := (P10.out.mod hSw HNB.out).cell 1; have c2 := (P10.out.mod hSw HNB.out).cell 2; have c3 := (P10.out.mod hSw HNB.out).cell 3; go_simp; try with_reducible rfl)); (try simp only [List.getElem_toArray]); (try simp only [List.getElem_cons_succ]); (try simp only [List.getElem_cons_zero]); (try simp only [Act.put]); (try simp only [List.setIfInBounds_toArray]); (try simp only [List.set_cons_succ]); (try simp only [List.set_cons_zero]))
              (refine wpAnyH_ready (rs := [7]) (by kernel_rfl) (by simp) ?_; refine AllReadyH.cons rfl (fun K hK => ?_) AllReadyH.nil; go_simp; go_at_call 82; refine (wrest_any w.heap.size n8 u _ 6 n (.slice At t.length ct) (.slice none 0 0) t _ (HW.out.ext ED) (Nat.le_trans hbs ED.size) (RdN.ext HTX.out (E011.out.trans ED)) (by omega) (by have h9 := HZV.out; split at h9 <;> omega)).mono ?_; rintro e w12 ⟨rfl, v12, R12, M12, X12⟩; (try dsimp only); refine hK.out _ _ ((Mod.of_ext ED).trans M12) (fun hHeld => ?_); clear hK K; (try simp only [Act.put]); (try simp only [List.getElem_toArray]); (try simp only [List.getElem_cons_succ]); (try simp only [List.getElem_cons_zero]); (try simp only [List.setIfInBounds_toArray]); (try simp only [List.set_cons_succ]); (try simp only [List.set_cons_zero]))
              refine wpAnyH_done (by kernel_rfl) ?_ _
              have B7 := Lib.hid (B7.out.mod hHeld HN7B.out)
              have hE12 := Lib.hid (Mod.toExt E011.out hHeld (by
                rintro k hk (h9 | h9)
                · have := HN7.out; have := HN8.out; omega
                · have := (HW.out.own.row k h9).1; omega))
              have R12 : Wr w.heap.size n8 w12 v12 (encL (fs.take (q + 1))) := by rw [encL_take hd.out, HEN.out]; exact R12
              have HFT := Lib.hid (show ∀ f ∈ fs.take (q + 1), fltF f.k f.n f.t = 0 by
                rw [List.take_add_one, hd.out]
                intro f hf
                rcases List.mem_append.1 hf with h | h
                · exact HFT.out f h
                · simp at h; rw [h]; exact HFZ.out)
              obtain ⟨A12, c12, rfl, -, -⟩ := R12.own.shape
              have kb := R12.blk.cell 0
              have HR12 := Lib.hid R12
              obtain ⟨L12, hL12⟩ : ∃ L, (encL (fs.take (q + 1))).length = L := ⟨_, rfl⟩
              have HL12 := Lib.hid hL12
              rw [hL12] at kb
              clear hHeld R12 M12 X12 ED hL12 hle
              by_cases hbig : 33792 < L12
              · go_wp2
                go_ret2
                exact ⟨_, 6, rfl, hE12.out, fun h => absurd h (by decide), fun _ => rfl, fun _ hl9 => by have := encL_take_le fs (q + 1); have := HL12.out; omega⟩
              · have hbig2 : ¬ (33792 < (L12 : Int)) := by omega
                go_wp2
                go_roundw
                case rel => exact ⟨q + 1, _, by omega, by go_num, HR12, HFT, Lib.hid (by rw [HL12.out]; omega), B7, hE12⟩
                case measure => simp [intOf]; omega
            · have hz1 : (z == 0) = false := by simpa using hz0
              go_wp2
              go_ret2
              exact ⟨_, z, rfl, E011.out, fun h => absurd h hz0, fun _ => rfl, fun ha9 _ => absurd (HFZ.out.symm.trans (ha9 _ (List.mem_of_getElem? hd.out))) hz0⟩
        · obtain rfl : q = m := by omega
          have kb := HW.out.blk.cell 0
          have hta : fs.take q = fs := by rw [← HN.out, List.take_length]
          have HTA := Lib.hid hta
          clear hta
          go_wp2
          go_ret2
          refine ⟨u, 0, rfl, hE.out, fun _ => ?_, fun h => absurd rfl h, fun _ _ => rfl⟩
          have h1 := HFT.out
          have h2 := HLE.out
          have h3 := HW.out.own
          rw [HTA.out] at h1 h2 h3
          exact ⟨h1, h2, h3⟩
end Go.Proofs.YtldijmappinngaaGreatDoor
