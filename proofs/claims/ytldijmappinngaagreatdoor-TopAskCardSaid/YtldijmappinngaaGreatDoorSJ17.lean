/- octet.Write of one Bool field, by contract. No condition. -/
import Derived.Test.YtldijmappinngaaGreatDoorSI17
namespace Go.Proofs.YtldijmappinngaaGreatDoor
open Go.RowKit Go.Kb
set_option maxRecDepth 100000

set_option maxHeartbeats 800000 in
theorem owrite1 (g : Nat) (w : World) (h : Blk w g 59 fld1) :
    Calls Tryz.prog 18 #[.slice (some ⟨g, 0, none⟩) 1 1] w fun e w' => ∃ A c, e = .returned (.tuple #[.slice A 1 c, .int .i64 0]) ∧ OwnS Ub8 5 w.heap.size (fun _ => False) w' (.slice A 1 c) [1] ∧ Ext w w' := by
  unfold fld1 at h
  have HG := Lib.hid h
  clear h
  have mk : ∀ w, (Instr.makeSlice 80 (.int .i64 1) (.int .i64 1)).run Tryz.prog w = .ok (.slice (some ⟨w.heap.size, 0, none⟩) 1 1) (w.alloc (.cells #[.int .i64 0] 3)) := fun w => by kernel_rfl
  have hi21 : (Tryz.prog.info? 101).map (·.size) = some 21 := by kernel_rfl
  have hone : sortsV.all (·.oneCell') = true := by simp [sortsV, fnV, Value.oneCell']
  go_enter Tryz.func18, Tryz.ntmps18
  go_upto_region 2 with fail
  obtain ⟨W1, hW1⟩ : ∃ W1, W1 = w.alloc (.cells #[.int .i64 0] 3) := ⟨_, rfl⟩
  have B1 := Lib.hid (show Blk W1 w.heap.size 3 #[.int .i64 0] by rw [hW1]; exact Blk.new w _ _)
  have E01 : Ext w W1 := by rw [hW1]; exact (Ext.refl _).alloc _
  rw [← hW1]
  have hgl := HG.out.lt
  clear hW1
  have B1' := Lib.hid (show Blk W1 w.heap.size 3 #[.int .i64 (if (0 : Nat) = 0 then 0 else 2)] from B1.out)
  go_wp2
  go_loopw [17] (fun i wr => ∃ m : Nat, m ≤ 1 ∧ i = .int .i64 m ∧ Hid (Blk wr w.heap.size 3 #[.int .i64 (if m = 0 then 0 else 2)]) ∧ Hid (Ext w wr)) (fun i _ => 1 - (intOf i).toNat)
  case atStart => exact ⟨0, Nat.zero_le _, rfl, B1', Lib.hid E01⟩
  case round =>
    clear B1 B1'
    obtain ⟨m, hm, rfl, BK, hE⟩ := hrel
    by_cases hmn : m < 1
    · obtain rfl : m = 0 := by omega
      have kg := HG.out.ext hE.out
      have k0 := kg.cell 0
      have k1 := kg.cell 1
      have k2 := kg.cell 2
      have k3 := kg.cell 3
      go_upto_region 5 with fail
      obtain ⟨W5, hW5⟩ : ∃ W5, W5 = wr.alloc (.cells #[.int .i64 2, .int .u32 1, .slice none 0 0, .slice none 0 0] 59) := ⟨_, rfl⟩
      have E5 : Ext wr W5 := by rw [hW5]; exact (Ext.refl _).alloc _
      have P5 : Blk W5 wr.heap.size 59 #[.int .i64 2, .int .u32 1, .slice none 0 0, .slice none 0 0] := by rw [hW5]; exact Blk.new wr _ _
      rw [← hW5]
      clear hW5
      have kp0 := P5.cell 0
      have BK5 := BK.out.ext E5
      have kb := BK5.cell0
      have fb := BK5.frozen 0
      have BK2 := Lib.hid (BK5.set_ 0 (.int .i64 2))
      have M2 : Mod (fun k => k = w.heap.size) W5 _ := (Mod.refl _ _).set1 (.int .i64 2) (o := 0)
      have hE2 := Lib.hid (Mod.toExt (hE.out.trans E5) M2 (by intro k hk he; omega))
      clear M2 kg k0 k1 k2 k3 BK hE E5
      go_wp2
      go_roundw
      case rel => exact ⟨1, by omega, by go_num, BK2, hE2⟩
      case measure => simp [intOf]
    · obtain rfl : m = 1 := by omega
      have BK := Lib.hid (show Blk wr w.heap.size 3 #[.int .i64 2] from BK.out)
      go_wp2_with fail
      refine (row2 _ _ BK.out).mono ?_
      rintro e w2 ⟨rfl, E2⟩
      have E02 := hE.out.trans E2
      go_wp2_with fail
      refine (sorts_any _).mono ?_
      rintro e w3 ⟨rfl, E3⟩
      have E03 := Lib.hid (E02.trans E3)
      clear E02 E2 E3 hE BK
      go_upto_region 10 with (refine wpList_store_A rfl 101 _ _ rfl w3.heap.size sortsV rfl rfl 101 _ (show Blk _ _ _ _ from Blk.at_ _ _ rfl) hi21 rfl hone ?_; intro w4 HB4 E4; have E4 : Ext w3 w4 := E4 w3.heap.size w3 ((Ext.refl w3).alloc _) (by omega))
      have E04 := Lib.hid (E03.out.trans E4)
      have B7 := Lib.hid HB4
      obtain ⟨n7, hn7⟩ : ∃ n7, w3.heap.size = n7 := ⟨_, rfl⟩
      rw [hn7] at B7 ⊢
      have HN7 := Lib.hid (show w.heap.size ≤ n7 by rw [← hn7]; exact E03.out.size)
      clear E4 E03 HB4 hn7
      go_upto_region 11 with fail
      obtain ⟨W8, hW8⟩ : ∃ W8, W8 = w4.alloc (.cells #[.slice none 0 0] 105) := ⟨_, rfl⟩
      have E48 : Ext w4 W8 := by rw [hW8]; exact (Ext.refl _).alloc _
      have B8 := Lib.hid (show Blk W8 w4.heap.size 105 #[.slice none 0 0] by rw [hW8]; exact Blk.new w4 _ _)
      obtain ⟨n8, hn8⟩ : ∃ n8, w4.heap.size = n8 := ⟨_, rfl⟩
      have HN8 := Lib.hid (show n7 < n8 by rw [← hn8]; exact B7.out.lt)
      rw [← hW8]
      rw [hn8] at B8 ⊢
      have E08 := Lib.hid (E04.out.trans E48)
      have B7 := Lib.hid (B7.out.ext E48)
      clear hW8 E04 E48 hn8
      go_wp2
      go_loopw [36] (fun i wr => ∃ m : Nat, m ≤ 1 ∧ i = .int .i64 m ∧ Hid (if m = 0 then wr = W8 else ∃ A c, Blk wr n8 105 #[.slice A 1 c] ∧ OwnS Ub8 5 w.heap.size (fun _ => False) wr (.slice A 1 c) [1]) ∧ Hid (Ext w wr)) (fun i _ => 1 - (intOf i).toNat)
      case atStart => exact ⟨0, Nat.zero_le _, rfl, Lib.hid (by rw [if_pos rfl]), E08⟩
      case round =>
        obtain ⟨m, hm, rfl, HWR, hE⟩ := hrel
        by_cases hmn : m < 1
        · obtain rfl : m = 0 := by omega
          have hwr : wr = W8 := by simpa using HWR.out
          subst hwr
          have kg := HG.out.ext E08.out
          have k0 := kg.cell 0
          have k1 := kg.cell 1
          have k2 := kg.cell 2
          have k3 := kg.cell 3
          go_upto_region 14 with fail
          obtain ⟨W10, hW10⟩ : ∃ W10, W10 = wr.alloc (.cells #[.int .i64 2, .int .u32 1, .slice none 0 0, .slice none 0 0] 59) := ⟨_, rfl⟩
          have E10 : Ext wr W10 := by rw [hW10]; exact (Ext.refl _).alloc _
          have P10 := Lib.hid (show Blk W10 wr.heap.size 59 #[.int .i64 2, .int .u32 1, .slice none 0 0, .slice none 0 0] by rw [hW10]; exact Blk.new wr _ _)
          rw [← hW10]
          clear hW10
          obtain ⟨n10, hn10⟩ : ∃ n10, wr.heap.size = n10 := ⟨_, rfl⟩
          have HN10 := Lib.hid (show n8 < n10 by rw [← hn10]; exact B8.out.lt)
          rw [hn10] at P10 ⊢
          have hs6 : sortsV[6]? = some (.func (.func 70) #[] #[]) := by rfl
          have hs7 : sortsV[7]? = some (.func (.func 68) #[] #[]) := by rfl
          have S6 := Lib.hid (show W10.cell? ⟨n7, 6, none⟩ = some (.func (.func 70) #[] #[]) by rw [(B7.out.ext E10).cell, hs6])
          have HS7 := Lib.hid hs7
          have B7 := Lib.hid (B7.out.ext E10)
          have B8 := Lib.hid (B8.out.ext E10)
          have E010 := Lib.hid (E08.out.trans E10)
          clear hs6 hs7 hn10 kg k0 k1 k2 k3 E10 hE HWR
          refine wp_region_held_drew (S := fun w' => Ext W10 w') (by kernel_rfl) (Ext.drew (Ext.refl _)) (fun hHeld => ?_)
          (refine wpAnyH_take (i := 0) (v := ?_) rfl (by kernel_rfl) (by kernel_rfl) (by kernel_rfl) (fun _ _ _ h => h) (Or.inl ⟨by rfl, ?_⟩) (by assumption) ?_; rotate_left; (focus (intro w' hSw; skip; go_simp; try with_reducible rfl)); (try simp only [List.getElem_toArray]); (try simp only [List.getElem_cons_succ]); (try simp only [List.getElem_cons_zero]); (try simp only [Act.put]); (try simp only [List.setIfInBounds_toArray]); (try simp only [List.set_cons_succ]); (try simp only [List.set_cons_zero]))
          (refine wpAnyH_take (i := 1) (v := ?_) rfl (by kernel_rfl) (by kernel_rfl) (by kernel_rfl) (fun _ _ _ h => h) (Or.inl ⟨by rfl, ?_⟩) (by assumption) ?_; rotate_left; (focus (intro w' hSw; have kc := (P10.out.ext hSw).cell 0; go_simp; try with_reducible rfl)); (try simp only [List.getElem_toArray]); (try simp only [List.getElem_cons_succ]); (try simp only [List.getElem_cons_zero]); (try simp only [Act.put]); (try simp only [List.setIfInBounds_toArray]); (try simp only [List.set_cons_succ]); (try simp only [List.set_cons_zero]))
          (refine wpAnyH_take (i := 2) (v := ?_) rfl (by kernel_rfl) (by kernel_rfl) (by kernel_rfl) (fun _ _ _ h => h) (Or.inl ⟨by rfl, ?_⟩) (by assumption) ?_; rotate_left; (focus (intro w' hSw; go_simp; try with_reducible rfl)); (try simp only [List.getElem_toArray]); (try simp only [List.getElem_cons_succ]); (try simp only [List.getElem_cons_zero]); (try simp only [Act.put]); (try simp only [List.setIfInBounds_toArray]); (try simp only [List.set_cons_succ]); (try simp only [List.set_cons_zero]))
          (refine wpAnyH_take (i := 3) (v := ?_) rfl (by kernel_rfl) (by kernel_rfl) (by kernel_rfl) (fun _ _ _ h => h) (Or.inl ⟨by rfl, ?_⟩) (by assumption) ?_; rotate_left; (focus (intro w' hSw; go_simp; try with_reducible rfl)); (try simp only [List.getElem_toArray]); (try simp only [List.getElem_cons_succ]); (try simp only [List.getElem_cons_zero]); (try simp only [Act.put]); (try simp only [List.setIfInBounds_toArray]); (try simp only [List.set_cons_succ]); (try simp only [List.set_cons_zero]))
          (refine wpAnyH_take (i := 4) (v := ?_) rfl (by kernel_rfl) (by kernel_rfl) (by kernel_rfl) (fun _ _ _ h => h) (Or.inl ⟨by rfl, ?_⟩) (by assumption) ?_; rotate_left; (focus (intro w' hSw; have kc := cell_ext hSw S6.out; go_simp; try with_reducible rfl)); (try simp only [List.getElem_toArray]); (try simp only [List.getElem_cons_succ]); (try simp only [List.getElem_cons_zero]); (try simp only [Act.put]); (try simp only [List.setIfInBounds_toArray]); (try simp only [List.set_cons_succ]); (try simp only [List.set_cons_zero]))
          (refine wpAnyH_take (i := 5) (v := ?_) rfl (by kernel_rfl) (by kernel_rfl) (by kernel_rfl) (fun _ _ _ h => h) (Or.inl ⟨by rfl, ?_⟩) (by assumption) ?_; rotate_left; (focus (intro w' hSw; have c0 := (P10.out.ext hSw).cell 0; have c1 := (P10.out.ext hSw).cell 1; have c2 := (P10.out.ext hSw).cell 2; have c3 := (P10.out.ext hSw).cell 3; go_simp; try with_reducible rfl)); (try simp only [List.getElem_toArray]); (try simp only [List.getElem_cons_succ]); (try simp only [List.getElem_cons_zero]); (try simp only [Act.put]); (try simp only [List.setIfInBounds_toArray]); (try simp only [List.set_cons_succ]); (try simp only [List.set_cons_zero]))
          (refine wpAnyH_ready (rs := [6]) (by kernel_rfl) (by simp) ?_; refine AllReadyH.cons rfl (fun K hK => ?_) AllReadyH.nil; go_simp; go_at_call 70; refine (flagFault1 _).mono ?_; rintro e w11 ⟨rfl, E11⟩; (try dsimp only); refine hK.out _ _ (by repeat (first | with_reducible exact Ext.refl _ | refine Ext.drewN ?_ _ | refine Ext.drew ?_ | refine Ext.alloc ?_ _ | assumption | (refine Below.trans ?_ (by assumption)) | (refine Ext.trans ?_ (by assumption)) | (refine Below.trans ?_ (Below.mono (by assumption) (by omega))))) (fun hHeld => ?_); clear hK K; (try simp only [Act.put]); (try simp only [List.getElem_toArray]); (try simp only [List.getElem_cons_succ]); (try simp only [List.getElem_cons_zero]); (try simp only [List.setIfInBounds_toArray]); (try simp only [List.set_cons_succ]); (try simp only [List.set_cons_zero]))
          (refine wpAnyH_take (i := 7) (v := ?_) rfl (by kernel_rfl) (by kernel_rfl) (by kernel_rfl) (fun _ _ _ h => h) (Or.inl ⟨by rfl, ?_⟩) (by assumption) ?_; rotate_left; (focus (intro w' hSw; go_simp; try with_reducible rfl)); (try simp only [List.getElem_toArray]); (try simp only [List.getElem_cons_succ]); (try simp only [List.getElem_cons_zero]); (try simp only [Act.put]); (try simp only [List.setIfInBounds_toArray]); (try simp only [List.set_cons_succ]); (try simp only [List.set_cons_zero]))
          refine wpAnyH_done (by kernel_rfl) ?_ _
          have B7 := Lib.hid (B7.out.ext hHeld)
          have B8 := Lib.hid (B8.out.ext hHeld)
          have P10 := Lib.hid (P10.out.ext hHeld)
          have E011 := Lib.hid (E010.out.trans hHeld)
          clear hHeld E11 E010 S6
          go_upto_region 17 with fail
          have h78 := HN8.out
          have h810 := HN10.out
          refine wp_region_held_drew (S := fun w' => Mod (fun k => k = n8) w11 w') (by kernel_rfl) (Mod.of_ext (Ext.drew (Ext.refl _))) (fun hHeld => ?_)
          obtain ⟨D, hD⟩ : ∃ D, D = w11.drew := ⟨_, rfl⟩
          have ED : Ext w11 D := by rw [hD]; exact (Ext.refl _).drew
          rw [← hD] at hHeld ⊢
          clear hD
          (refine wpAnyH_take (i := 0) (v := ?_) rfl (by kernel_rfl) (by kernel_rfl) (by kernel_rfl) (fun _ _ _ h => h) (Or.inl ⟨by rfl, ?_⟩) (by assumption) ?_; rotate_left; (focus (intro w' hSw; go_simp; try with_reducible rfl)); (try simp only [List.getElem_toArray]); (try simp only [List.getElem_cons_succ]); (try simp only [List.getElem_cons_zero]); (try simp only [Act.put]); (try simp only [List.setIfInBounds_toArray]); (try simp only [List.set_cons_succ]); (try simp only [List.set_cons_zero]))
          (refine wpAnyH_take (i := 1) (v := ?_) rfl (by kernel_rfl) (by kernel_rfl) (by kernel_rfl) (fun _ _ _ h => h) (Or.inl ⟨by rfl, ?_⟩) (by assumption) ?_; rotate_left; (focus (intro w' hSw; have kc := (P10.out.mod hSw (by omega)).cell 0; go_simp; try with_reducible rfl)); (try simp only [List.getElem_toArray]); (try simp only [List.getElem_cons_succ]); (try simp only [List.getElem_cons_zero]); (try simp only [Act.put]); (try simp only [List.setIfInBounds_toArray]); (try simp only [List.set_cons_succ]); (try simp only [List.set_cons_zero]))
          (refine wpAnyH_take (i := 2) (v := ?_) rfl (by kernel_rfl) (by kernel_rfl) (by kernel_rfl) (fun _ _ _ h => h) (Or.inl ⟨by rfl, ?_⟩) (by assumption) ?_; rotate_left; (focus (intro w' hSw; go_simp; try with_reducible rfl)); (try simp only [List.getElem_toArray]); (try simp only [List.getElem_cons_succ]); (try simp only [List.getElem_cons_zero]); (try simp only [Act.put]); (try simp only [List.setIfInBounds_toArray]); (try simp only [List.set_cons_succ]); (try simp only [List.set_cons_zero]))
          (refine wpAnyH_take (i := 3) (v := ?_) rfl (by kernel_rfl) (by kernel_rfl) (by kernel_rfl) (fun _ _ _ h => h) (Or.inl ⟨by rfl, ?_⟩) (by assumption) ?_; rotate_left; (focus (intro w' hSw; go_simp; try with_reducible rfl)); (try simp only [List.getElem_toArray]); (try simp only [List.getElem_cons_succ]); (try simp only [List.getElem_cons_zero]); (try simp only [Act.put]); (try simp only [List.setIfInBounds_toArray]); (try simp only [List.set_cons_succ]); (try simp only [List.set_cons_zero]))
          (refine wpAnyH_take (i := 4) (v := ?_) rfl (by kernel_rfl) (by kernel_rfl) (by kernel_rfl) (fun _ _ _ h => h) (Or.inl ⟨by rfl, ?_⟩) (by assumption) ?_; rotate_left; (focus (intro w' hSw; have kc := (B7.out.mod hSw (by omega)).cell 7; rw [HS7.out] at kc; go_simp; try with_reducible rfl)); (try simp only [List.getElem_toArray]); (try simp only [List.getElem_cons_succ]); (try simp only [List.getElem_cons_zero]); (try simp only [Act.put]); (try simp only [List.setIfInBounds_toArray]); (try simp only [List.set_cons_succ]); (try simp only [List.set_cons_zero]))
          (refine wpAnyH_take (i := 5) (v := ?_) rfl (by kernel_rfl) (by kernel_rfl) (by kernel_rfl) (fun _ _ _ h => h) (Or.inl ⟨by rfl, ?_⟩) (by assumption) ?_; rotate_left; (focus (intro w' hSw; go_simp; try with_reducible rfl)); (try simp only [List.getElem_toArray]); (try simp only [List.getElem_cons_succ]); (try simp only [List.getElem_cons_zero]); (try simp only [Act.put]); (try simp only [List.setIfInBounds_toArray]); (try simp only [List.set_cons_succ]); (try simp only [List.set_cons_zero]))
          (refine wpAnyH_take (i := 6) (v := ?_) rfl (by kernel_rfl) (by kernel_rfl) (by kernel_rfl) (fun _ _ _ h => h) (Or.inl ⟨by rfl, ?_⟩) (by assumption) ?_; rotate_left; (focus (intro w' hSw; have c0 := (P10.out.mod hSw (by omega)).cell 0; have c1 := (P10.out.mod hSw (by omega)).cell 1; have c2 := (P10.out.mod hSw (by omega)).cell 2; have c3 := (P10.out.mod hSw (by omega)).cell 3; go_simp; try with_reducible rfl)); (try simp only [List.getElem_toArray]); (try simp only [List.getElem_cons_succ]); (try simp only [List.getElem_cons_zero]); (try simp only [Act.put]); (try simp only [List.setIfInBounds_toArray]); (try simp only [List.set_cons_succ]); (try simp only [List.set_cons_zero]))
          (refine wpAnyH_ready (rs := [7]) (by kernel_rfl) (by simp) ?_; refine AllReadyH.cons rfl (fun K hK => ?_) AllReadyH.nil; go_simp; go_at_call 68; refine (woct1 n8 _ (B8.out.ext ED)).mono ?_; rintro e w12 ⟨rfl, A12, c12, B12, O12, M12⟩; (try dsimp only); refine hK.out _ _ ((Mod.of_ext ED).trans M12) (fun hHeld => ?_); clear hK K; (try simp only [Act.put]); (try simp only [List.getElem_toArray]); (try simp only [List.getElem_cons_succ]); (try simp only [List.getElem_cons_zero]); (try simp only [List.setIfInBounds_toArray]); (try simp only [List.set_cons_succ]); (try simp only [List.set_cons_zero]))
          refine wpAnyH_done (by kernel_rfl) ?_ _
          have kb := B12.cell 0
          have hE12 := Lib.hid (Mod.toExt E011.out hHeld (by intro k hk he; have := HN7.out; omega))
          have HWR2 := Lib.hid (show (if (1 : Nat) = 0 then w12 = wr else ∃ A c, Blk w12 n8 105 #[.slice A 1 c] ∧ OwnS Ub8 5 w.heap.size (fun _ => False) w12 (.slice A 1 c) [1]) from ⟨A12, c12, B12, O12.lower (Nat.le_trans E011.out.size ED.size)⟩)
          clear hHeld B12 O12 M12 ED
          go_wp2
          go_roundw
          case rel => exact ⟨1, by omega, by go_num, HWR2, hE12⟩
          case measure => simp [intOf]
        · obtain rfl : m = 1 := by omega
          obtain ⟨A, c, B, O⟩ : ∃ A c, Blk wr n8 105 #[.slice A 1 c] ∧ OwnS Ub8 5 w.heap.size (fun _ => False) wr (.slice A 1 c) [1] := by simpa using HWR.out
          have kb := B.cell 0
          have O := Lib.hid O
          go_wp2
          refine bodyPost_ret (v := .tuple #[.slice A 1 c, .int .i64 0]) (by simp [results, Tryz.results18, go_sem]) rfl ?_
          exact ⟨A, c, rfl, O.out, hE.out⟩
end Go.Proofs.YtldijmappinngaaGreatDoor
