/- The document's examples of jobs. No condition. -/
import Derived.Test.YtcncacllaonplaaJ22
namespace Go.Proofs.Ytcncacllaonplaa
open Go.RowKit Go.Kb

def aP1 : Pr := (spawnP 1 0).newAs 1
def aP2 : Pr := (forkP aP1 1 0).newAs 2
def aP3 : Pr := { aP2 with group := 2 }
def aP4 : Pr := { aP3 with acts := aP3.acts.set 21 1 }
theorem al1 : rightL [] 1 = true := by kernel_rfl
theorem al2 : askL [aP1] 2 [1] = 0 := by kernel_rfl
theorem al3 : (getL [aP1] 2 1).1 = aP1 := by kernel_rfl
theorem al4 : changeL (groupP 2) 2 [aP1, aP2] = [aP1, aP3] := by kernel_rfl
theorem al5 : goodG [aP1, aP2] 3 1 2 2 := ⟨by kernel_rfl, aP1, aP2, by kernel_rfl, by kernel_rfl, .inr (by kernel_rfl), by kernel_rfl, by decide +kernel, rfl⟩
theorem al6 : getL [aP1, aP3] 3 2 = (aP3, true) := by kernel_rfl
theorem al7 : rightL [aP1, aP3] 3 = true := by kernel_rfl
theorem al8 : changeL (fun _ => aP4) aP4.pid [aP1, aP3] = [aP1, aP4] := by kernel_rfl
theorem ac1 : accL [aP1, aP3] 3 1 1 false 2 false = (2, 21) := by kernel_rfl
theorem ac2 : accL [aP1, aP3] 3 1 1 false 2 true = (1, 0) := by kernel_rfl
theorem ac3 : accL [aP1, aP3] 3 1 1 true 2 true = (2, 22) := by kernel_rfl
theorem ac4 : accL [aP1, aP4] 3 1 1 true 2 false = (3, 0) := by kernel_rfl
theorem al13 : nextNo 1 = 2 := by kernel_rfl
theorem al14 : nextNo 2 = 3 := by kernel_rfl
theorem al15 : aP3.ok := rfl
theorem al16 : aP4.ok := rfl
theorem al17 : ∀ p ∈ [aP1, aP3], Sig.U64 p.mask := by decide +kernel
theorem al18 : ∀ p ∈ [aP1, aP4], Sig.U64 p.mask := by decide +kernel
theorem al19 : aP3.cells.toArray.setIfInBounds (9 + 21) (.int .i64 1) = aP4.cells.toArray := by kernel_rfl
theorem aset {A : Nat → Prop} (Ad : Option Addr) (c : Nat) (w : World) (h : RdY Rp A w (.slice Ad 2 c) [aP1, aP3]) :
    Calls Try.prog 26 #[tv Ad 2 c 3, .agg aP4.cells.toArray] w fun e w' => ∃ A' c', e = .returned (tv A' 2 c' 3) ∧ RdY Rp (fun _ => False) w' (.slice A' 2 c') [aP1, aP4] ∧ Ext w w' := by
  refine (set_any Ad c [aP1, aP3] 3 aP4 w h al16).mono ?_
  rintro e w1 ⟨E1, ⟨hr, _⟩ | ⟨_, A', c', rfl, O⟩⟩
  · rw [al7] at hr; cases hr
  · rw [al8] at O
    exact ⟨A', c', rfl, rdy_pr O.y, E1⟩
theorem aacc {A : Nat → Prop} (Ad : Option Addr) (c : Nat) (l : List Pr) (ts wr : Bool) (w : World) (h : RdY Rp A w (.slice Ad 2 c) l) (hl : l.length = 2) (hm : ∀ p ∈ l, Sig.U64 p.mask) (v x : Int) (hv : accL l 3 1 1 ts 2 wr = (v, x)) :
    Calls Try.prog 9 #[tv Ad 2 c 3, .agg #[.int .i64 1, .int .i64 1, .bool ts], .int .i64 2, .bool wr] w fun e w' => e = .returned (.tuple #[.int .i64 v, .int .i64 x]) ∧ Ext w w' := by
  have H := access_any (A := A) Ad c l 3 1 1 ts 2 wr w (by rw [hl]; exact h) hm
  rw [hl, hv] at H
  exact H
theorem i40 : (Try.prog.info? 40).map (·.size) = some aP4.cells.toArray.size := by kernel_rfl
set_option maxRecDepth 100000 in
set_option maxHeartbeats 800000 in
theorem alive_any (w : World) : Calls Try.prog 6 #[] w fun e w' => e = .returned (.bool true) ∧ Ext w w' := by
  go_enter Try.func6, Try.ntmps6
  go_wp2_with fail
  refine (spawn_any (A := fun _ => False) none 0 [] 1 0 _ (RdS.nil _ _ _).y).mono ?_
  rintro e w1 (⟨h, _⟩ | ⟨_, E1, (⟨h, _⟩ | ⟨_, A1, c1, rfl, O1⟩)⟩)
  · rw [al1] at h; cases h
  · cases h
  simp only [List.length_nil, Nat.zero_add, al13] at O1 ⊢
  have O1 : OwnS Rp 40 w.heap.size (fun _ => False) w1 (.slice A1 1 c1) [aP1] := O1
  obtain ⟨n1, hn1⟩ : ∃ n1, w1.heap.size = n1 := ⟨_, rfl⟩
  obtain ⟨W1, hW1⟩ : ∃ W1, W1 = w1.alloc (.cells #[.slice A1 1 c1, .int .i64 2] 28) := ⟨_, rfl⟩
  have R1 := Lib.hid (show OwnS Rp 40 w.heap.size (fun _ => False) W1 (.slice A1 1 c1) [aP1] by rw [hW1]; exact O1.alloc _)
  have B1 := Lib.hid (show Blk W1 n1 28 #[.slice A1 1 c1, .int .i64 2] by rw [hW1]; exact Blk.at_ _ _ hn1)
  have E01 : Ext w W1 := by rw [hW1]; exact E1.alloc _
  have hnw : w.heap.size ≤ n1 := by have := E1.size; omega
  have HW1 := Lib.hid hW1
  have HN1 := Lib.hid hn1
  clear hW1 hn1 O1
  go_wp2_with fail
  rw [HN1.out, ← HW1.out]
  refine (fork_any A1 c1 [aP1] 2 1 0 _ R1.out.y).mono ?_
  rintro e w2 (⟨h, _⟩ | ⟨_, E2, (⟨h, _⟩ | ⟨_, A2, c2, rfl, O2⟩)⟩)
  · rw [al2] at h; exact absurd rfl h
  · cases h
  rw [al3] at O2
  simp only [List.length_cons, List.length_nil, Nat.zero_add, Nat.reduceAdd, al14] at O2 ⊢
  have O2 : OwnS Rp 40 W1.heap.size (fun _ => False) w2 (.slice A2 2 c2) [aP1, aP2] := O2
  have kb := (B1.out.ext E2).two
  have MM : Mod (fun k => k = n1) w2 _ := ((Mod.refl _ w2).set1 (.slice A2 2 c2) (o := 0)).set1 (.int .i64 3) (o := 1)
  have B2 := Lib.hid ((B1.out.ext E2).put2 (.slice A2 2 c2) (.int .i64 3))
  have R2 := Lib.hid (O2.mod MM (fun k hk he => by have := (O2.row k hk).1; have := B1.out.lt; omega) (fun k _ hk _ => hk))
  have E02 : Ext w _ := Mod.toExt (E01.trans E2) MM (by intro k hk he; omega)
  clear MM O2 E2
  go_wp2_with fail
  clear kb
  generalize (w2.setCell _ _).setCell _ _ = W2 at *
  refine (group_any A2 c2 [aP1, aP2] 3 1 2 2 _ R2.out.y).mono ?_
  rintro e w3 ⟨E3, (⟨_, _, _, h⟩ | ⟨_, _, _, _, _, _, A3, c3, rfl, O3⟩)⟩
  · exact absurd al5 h
  rw [al4] at O3
  simp only [List.length_cons, List.length_nil, Nat.zero_add, Nat.reduceAdd] at O3 ⊢
  have kb := (B2.out.ext E3).two
  have MM : Mod (fun k => k = n1) w3 _ := ((Mod.refl _ w3).set1 (.slice A3 2 c3) (o := 0)).set1 (.int .i64 3) (o := 1)
  obtain ⟨V3, hV3⟩ : ∃ V, V = (w3.setCell ⟨n1, 0, none⟩ (.slice A3 2 c3)).setCell ⟨n1, 1, none⟩ (.int .i64 3) := ⟨_, rfl⟩
  have B3 := Lib.hid (show Blk V3 n1 28 #[.slice A3 2 c3, .int .i64 3] by rw [hV3]; exact (B2.out.ext E3).put2 (.slice A3 2 c3) (.int .i64 3))
  have R3 := Lib.hid (show OwnS Rp 40 _ (fun _ => False) V3 (.slice A3 2 c3) [aP1, aP3] by rw [hV3]; exact O3.mod MM (fun k hk he => by have := (O3.row k hk).1; have := B2.out.lt; omega) (fun k _ hk _ => hk))
  have E03 : Ext w V3 := by rw [hV3]; exact Mod.toExt (E02.trans E3) MM (by intro k hk he; omega)
  obtain ⟨n7, hn7⟩ : ∃ n, w3.heap.size = n := ⟨_, rfl⟩
  obtain ⟨W3, hW3⟩ : ∃ W, W = V3.alloc (.cells #[.int .i64 1, .int .i64 1, .bool false] 33) := ⟨_, rfl⟩
  have B7 := Lib.hid (show Blk W3 n7 33 #[.int .i64 1, .int .i64 1, .bool false] by rw [hW3]; exact Blk.at_ _ _ (by rw [hV3]; simpa using hn7))
  have B3 := Lib.hid (show Blk W3 n1 28 #[.slice A3 2 c3, .int .i64 3] by rw [hW3]; exact B3.out.alloc _)
  have RV := Lib.hid (rdy_pr (B := fun _ => False) R3.out.y)
  have HVS := Lib.hid (show V3.heap.size = n7 by rw [hV3]; simpa using hn7)
  have EV : Ext V3 W3 := by rw [hW3]; exact (Ext.refl _).alloc _
  have R3 := Lib.hid (show RdY Rp (fun _ => False) W3 (.slice A3 2 c3) [aP1, aP3] by rw [hW3]; exact (rdy_pr R3.out.y).ext ((Ext.refl _).alloc _))
  have E03 : Ext w W3 := by rw [hW3]; exact E03.alloc _
  have hn17 : n1 < n7 := by have := (B2.out.ext E3).lt; omega
  have HN7 := Lib.hid hn7
  have HV3 := Lib.hid hV3
  have HW3 := Lib.hid hW3
  clear MM O3 E3 hV3 hW3 hn7 B2 R2
  go_upto_region 5 with fail
  rw [HN7.out, ← HV3.out, ← HW3.out]
  have kb := B3.out.two
  have y0 := B7.out.cell 0
  have y1 := B7.out.cell 1
  have y2 := B7.out.cell 2
  clear HV3 HW3
  go_wp2_with fail
  refine (aacc A3 c3 [aP1, aP3] false false _ R3.out rfl al17 2 21 ac1).mono ?_
  rintro e w4 ⟨rfl, E4⟩
  have R4 := Lib.hid (R3.out.ext E4)
  have B3 := Lib.hid (B3.out.ext E4)
  have B7 := Lib.hid (B7.out.ext E4)
  have E04 := E03.trans E4
  have EV := EV.trans E4
  have kb := B3.out.two
  have y0 := B7.out.cell 0
  have y1 := B7.out.cell 1
  have y2 := B7.out.cell 2
  clear E4 R3
  go_wp2_with fail
  refine (aacc A3 c3 [aP1, aP3] false true _ R4.out rfl al17 1 0 ac2).mono ?_
  rintro e w5 ⟨rfl, E5⟩
  have R5 := Lib.hid (R4.out.ext E5)
  have B3 := Lib.hid (B3.out.ext E5)
  have B7 := Lib.hid (B7.out.ext E5)
  have E05 := E04.trans E5
  have EV := EV.trans E5
  have y2 := B7.out.cell 2
  have f2 := B7.out.frozen 2
  clear kb y0 y1 E5 R4
  go_upto_region 8 with fail
  have M6 : Mod (fun k => k = n7) w5 (w5.setCell ⟨n7, 2, none⟩ (.bool true)) := (Mod.refl _ w5).set1 _
  have B3 := Lib.hid (B3.out.mod M6 (by omega))
  have B7 := Lib.hid (B7.out.set_ 2 (.bool true))
  have R6 := Lib.hid (RV.out.ext (Mod.toExt EV M6 (by intro k hk he; have := HVS.out; omega)))
  have E06 := Mod.toExt E05 M6 (by intro k hk he; omega)
  clear M6 y2 f2 R5 RV EV HVS
  generalize w5.setCell _ _ = w6 at *
  have B7 := Lib.hid (show Blk w6 n7 33 #[.int .i64 1, .int .i64 1, .bool true] from B7.out)
  have kb := B3.out.two
  have y0 := B7.out.cell 0
  have y1 := B7.out.cell 1
  have y2 := B7.out.cell 2
  go_wp2_with fail
  refine (aacc A3 c3 [aP1, aP3] true true _ R6.out rfl al17 2 22 ac3).mono ?_
  rintro e w7 ⟨rfl, E7⟩
  have R7 := Lib.hid (R6.out.ext E7)
  have B3 := Lib.hid (B3.out.ext E7)
  have B7 := Lib.hid (B7.out.ext E7)
  have E07 := E06.trans E7
  have kb := B3.out.two
  clear y0 y1 y2 E7 R6
  go_wp2_with fail
  refine (get_any A3 c3 [aP1, aP3] 3 2 _ R7.out).mono ?_
  rintro e w8 ⟨rfl, E8⟩
  rw [al6]
  simp only []
  have R8 := Lib.hid (R7.out.ext E8)
  have B3 := Lib.hid (B3.out.ext E8)
  have B7 := Lib.hid (B7.out.ext E8)
  have E08 := E07.trans E8
  obtain ⟨n14, hn14⟩ : ∃ n, w8.heap.size = n := ⟨_, rfl⟩
  have hn714 : n7 < n14 := by rw [← hn14]; exact B7.out.lt
  clear kb R7 E8
  go_wp2_with ((refine wpList_store_A rfl 40 _ _ rfl (n14) _ rfl rfl 40 _ (zero_row w8 n14 hn14) (by rw [List.size_toArray]; exact i43' al15) (Eq.trans (b := 43) (by rfl) (Eq.symm (show (aP3).cells.toArray.size = 43 from Pr.size al15))) (Pr.one al15) ?_); intro w9 H9 E9; have E09 : Ext w w9 := E9 w.heap.size w (E08.alloc _) (by omega); have E89 : Ext w8 w9 := E9 w8.heap.size w8 ((Ext.refl w8).alloc _) (by omega); have B3 := Lib.hid (B3.out.ext E89); have B7 := Lib.hid (B7.out.ext E89); have R9 := Lib.hid (R8.out.ext E89); have ca := (prAt_blk al15 H9).ca 21 _ (show aP3.acts[21]? = some 0 by kernel_rfl); have fa := H9.frozen (0 + 9 + 21); have H9 := Lib.hid H9; clear E9)
  have hn8 := Lib.hid hn14
  have MA : Mod (fun k => k = n14) w9 (w9.setCell ⟨n14, 30, none⟩ (.int .i64 1)) := (Mod.refl _ w9).set1 _
  have RA := Lib.hid (R8.out.ext (Mod.toExt E89 MA (by intro k hk he; have := hn8.out; omega)))
  have BA := Lib.hid (show Blk (w9.setCell ⟨n14, 30, none⟩ (.int .i64 1)) n14 40 aP4.cells.toArray by rw [← al19]; exact H9.out.set_ 30 (.int .i64 1))
  have B3 := Lib.hid (B3.out.mod MA (by omega))
  have B7 := Lib.hid (B7.out.mod MA (by omega))
  have E0A := Mod.toExt E09 MA (by intro k hk he; have := E08.size; have := hn8.out; omega)
  clear MA ca fa H9 R9 R8 hn14 E89
  generalize w9.setCell _ _ = WA at *
  refine wp_region_held_drew (S := fun w' => Ext WA w') (by kernel_rfl) (Ext.drew (Ext.refl _)) (fun hHeld => ?_)
  (refine wpAnyH_take (i := 0) (v := ?_) rfl (by kernel_rfl) (by kernel_rfl) (by kernel_rfl) (fun _ _ _ h => h) (Or.inl ⟨by rfl, ?_⟩) (by assumption) ?_; rotate_left; (focus (intro w' hSw; have kc := (B3.out.ext hSw).two; go_simp; try with_reducible rfl)); (try simp only [List.getElem_toArray]); (try simp only [List.getElem_cons_succ]); (try simp only [List.getElem_cons_zero]); (try simp only [Act.put]); (try simp only [List.setIfInBounds_toArray]); (try simp only [List.set_cons_succ]); (try simp only [List.set_cons_zero]))
  (refine wpAnyH_take (i := 1) (v := .agg aP4.cells.toArray) rfl (by kernel_rfl) (by kernel_rfl) (by kernel_rfl) (fun _ _ _ h => h) (yieldsIf_load_mid (by rfl) 40 _ rfl _ _ rfl aP4.cells _ (fun w' hSw => (fun i u hu => cell_ext hSw (by rw [BA.out.cell, List.getElem?_toArray, Nat.zero_add]; exact hu))) Try.underlying40 rfl i40) (by assumption) ?_; (try simp only [List.getElem_toArray]); (try simp only [List.getElem_cons_succ]); (try simp only [List.getElem_cons_zero]); (try simp only [Act.put]); (try simp only [List.setIfInBounds_toArray]); (try simp only [List.set_cons_succ]); (try simp only [List.set_cons_zero]))
  (refine wpAnyH_take (i := 3) (v := ?_) rfl (by kernel_rfl) (by kernel_rfl) (by kernel_rfl) (fun _ _ _ h => h) (Or.inl ⟨by rfl, ?_⟩) (by assumption) ?_; rotate_left; (focus (intro w' hSw; have y0 := (B7.out.ext hSw).cell 0; have y1 := (B7.out.ext hSw).cell 1; have y2 := (B7.out.ext hSw).cell 2; go_simp; try with_reducible rfl)); (try simp only [List.getElem_toArray]); (try simp only [List.getElem_cons_succ]); (try simp only [List.getElem_cons_zero]); (try simp only [Act.put]); (try simp only [List.setIfInBounds_toArray]); (try simp only [List.set_cons_succ]); (try simp only [List.set_cons_zero]))
  (refine wpAnyH_take (i := 4) (v := ?_) rfl (by kernel_rfl) (by kernel_rfl) (by kernel_rfl) (fun _ _ _ h => h) (Or.inl ⟨by rfl, ?_⟩) (by assumption) ?_; rotate_left; (focus (intro w' hSw; go_simp; try with_reducible rfl)); (try simp only [List.getElem_toArray]); (try simp only [List.getElem_cons_succ]); (try simp only [List.getElem_cons_zero]); (try simp only [Act.put]); (try simp only [List.setIfInBounds_toArray]); (try simp only [List.set_cons_succ]); (try simp only [List.set_cons_zero]))
  (refine wpAnyH_ready (rs := [2]) (by kernel_rfl) (by simp) ?_; refine AllReadyH.cons rfl (fun K hK => ?_) AllReadyH.nil; go_simp; go_at_call 26; refine (aset A3 c3 _ (RA.out.ext (Ext.drew (Ext.refl _)))).mono ?_; rintro e x1 ⟨A5, c5, rfl, R5, F5⟩; (try dsimp only); refine hK.out _ _ (((Ext.refl WA).drew).trans F5) (fun hHeld => ?_); clear hK K; (try simp only [Act.put]); (try simp only [List.getElem_toArray]); (try simp only [List.getElem_cons_succ]); (try simp only [List.getElem_cons_zero]); (try simp only [List.setIfInBounds_toArray]); (try simp only [List.set_cons_succ]); (try simp only [List.set_cons_zero]))
  have EF5 := (Ext.refl WA).drew.trans F5
  (refine wpAnyH_ready (rs := [5]) (by kernel_rfl) (by simp) ?_; refine AllReadyH.cons rfl (fun K hK => ?_) AllReadyH.nil; go_simp; go_at_call 9; refine (aacc A5 c5 [aP1, aP4] true false _ R5 rfl al18 3 0 ac4).mono ?_; rintro e x2 ⟨rfl, F6⟩; (try dsimp only); refine hK.out _ _ (EF5.trans F6) (fun hHeld => ?_); clear hK K; (try simp only [Act.put]); (try simp only [List.getElem_toArray]); (try simp only [List.getElem_cons_succ]); (try simp only [List.getElem_cons_zero]); (try simp only [List.setIfInBounds_toArray]); (try simp only [List.set_cons_succ]); (try simp only [List.set_cons_zero]))
  (refine wpAnyH_take (i := 6) (v := ?_) rfl (by kernel_rfl) (by kernel_rfl) (by kernel_rfl) (fun _ _ _ h => h) (Or.inl ⟨by rfl, ?_⟩) (by assumption) ?_; rotate_left; (focus (intro w' hSw; go_simp; try with_reducible rfl)); (try simp only [List.getElem_toArray]); (try simp only [List.getElem_cons_succ]); (try simp only [List.getElem_cons_zero]); (try simp only [Act.put]); (try simp only [List.setIfInBounds_toArray]); (try simp only [List.set_cons_succ]); (try simp only [List.set_cons_zero]))
  (refine wpAnyH_take (i := 7) (v := ?_) rfl (by kernel_rfl) (by kernel_rfl) (by kernel_rfl) (fun _ _ _ h => h) (Or.inl ⟨by rfl, ?_⟩) (by assumption) ?_; rotate_left; (focus (intro w' hSw; go_simp; try with_reducible rfl)); (try simp only [List.getElem_toArray]); (try simp only [List.getElem_cons_succ]); (try simp only [List.getElem_cons_zero]); (try simp only [Act.put]); (try simp only [List.setIfInBounds_toArray]); (try simp only [List.set_cons_succ]); (try simp only [List.set_cons_zero]))
  (refine wpAnyH_take (i := 8) (v := ?_) rfl (by kernel_rfl) (by kernel_rfl) (by kernel_rfl) (fun _ _ _ h => h) (Or.inl ⟨by rfl, ?_⟩) (by assumption) ?_; rotate_left; (focus (intro w' hSw; go_simp; try with_reducible rfl)); (try simp only [List.getElem_toArray]); (try simp only [List.getElem_cons_succ]); (try simp only [List.getElem_cons_zero]); (try simp only [Act.put]); (try simp only [List.setIfInBounds_toArray]); (try simp only [List.set_cons_succ]); (try simp only [List.set_cons_zero]))
  (refine wpAnyH_take (i := 9) (v := ?_) rfl (by kernel_rfl) (by kernel_rfl) (by kernel_rfl) (fun _ _ _ h => h) (Or.inl ⟨by rfl, ?_⟩) (by assumption) ?_; rotate_left; (focus (intro w' hSw; go_simp; try with_reducible rfl)); (try simp only [List.getElem_toArray]); (try simp only [List.getElem_cons_succ]); (try simp only [List.getElem_cons_zero]); (try simp only [Act.put]); (try simp only [List.setIfInBounds_toArray]); (try simp only [List.set_cons_succ]); (try simp only [List.set_cons_zero]))
  (refine wpAnyH_take (i := 10) (v := ?_) rfl (by kernel_rfl) (by kernel_rfl) (by kernel_rfl) (fun _ _ _ h => h) (Or.inl ⟨by rfl, ?_⟩) (by assumption) ?_; rotate_left; (focus (intro w' hSw; go_simp; try with_reducible rfl)); (try simp only [List.getElem_toArray]); (try simp only [List.getElem_cons_succ]); (try simp only [List.getElem_cons_zero]); (try simp only [Act.put]); (try simp only [List.setIfInBounds_toArray]); (try simp only [List.set_cons_succ]); (try simp only [List.set_cons_zero]))
  refine wpAnyH_done (by kernel_rfl) ?_ _
  clear B3 B7 BA RA
  go_wp2
  go_ret
  exact ⟨rfl, E0A.trans (EF5.trans F6)⟩
end Go.Proofs.Ytcncacllaonplaa
