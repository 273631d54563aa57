/- The document's examples of the table. No condition. -/
import Derived.Test.YtmpmnikgbepphaaOA20
import Derived.Test.YtmpmnikgbepphaaEA20
namespace Go.Proofs.Ytmpmnikgbepphaa
open Go.RowKit Go.Kb

def aP1 : Pr := (spawnP 1 0).newAs 1
def aP2 : Pr := (forkP aP1 1 0).newAs 2
def aQ1 : Pr := { aP1 with pending := orL 0 17 }
def aQ2 : Pr := endP 3 aP2
theorem al1 : rightL [] 1 = true := by kernel_rfl
theorem al2 : askL [aP1] 2 [1] = 0 := by kernel_rfl
theorem al3 : (getL [aP1] 2 1).1 = aP1 := by kernel_rfl
theorem al4 : askL [aP1, aP2] 3 [2] = 0 := by kernel_rfl
theorem al5 : endL [aP1, aP2] 2 3 = [aQ1, aQ2] := by kernel_rfl
theorem al6 : getL [aQ1, aQ2] 3 1 = (aQ1, true) := by kernel_rfl
theorem al7 : askL [aQ1, aQ2] 3 [1] = 0 := by kernel_rfl
theorem al8 : [aQ1, aQ2].find? (fun p => childP 1 p && deadP p) = some aQ2 := by kernel_rfl
theorem al9 : goneL [aQ1, aQ2] aQ2.pid = [aQ1] := by kernel_rfl
theorem al10 : askL [aQ1] 3 [1] = 0 := by kernel_rfl
theorem al11 : endL [aQ1] 1 0 = [] := by kernel_rfl
theorem al12 : hasL aQ1.pending 17 = true := by kernel_rfl
theorem al13 : nextNo 1 = 2 := by kernel_rfl
theorem al14 : nextNo 2 = 3 := by kernel_rfl
theorem al16 : aQ2.pid = 2 := by kernel_rfl
theorem al17 : aQ2.status = 3 := by kernel_rfl
theorem al15 : aQ1.ok := rfl
set_option maxRecDepth 100000 in
set_option maxHeartbeats 800000 in
theorem alive_any (w : World) : Calls Try.prog 8 #[] w fun e w' => e = .returned (.bool true) ∧ Ext w w' := by
  go_enter Try.func8, Try.ntmps8
  go_wp2_with fail
  refine (spawn_any (A := fun _ => False) none 0 [] 1 0 _ (RdS.nil _ _ _).y).mono ?_
  rintro e w1 (⟨h, _⟩ | ⟨_, E1, (⟨h, _⟩ | ⟨_, A1, c1, rfl, O1⟩)⟩)
  · rw [al1] at h; cases h
  · cases h
  simp only [List.length_nil, Nat.zero_add, al13] at O1 ⊢
  have O1 : OwnS Rp 43 w.heap.size (fun _ => False) w1 (.slice A1 1 c1) [aP1] := O1
  obtain ⟨n1, hn1⟩ : ∃ n1, w1.heap.size = n1 := ⟨_, rfl⟩
  obtain ⟨W1, hW1⟩ : ∃ W1, W1 = w1.alloc (.cells #[.slice A1 1 c1, .int .i64 2] 29) := ⟨_, rfl⟩
  have R1 := Lib.hid (show OwnS Rp 43 w.heap.size (fun _ => False) W1 (.slice A1 1 c1) [aP1] by rw [hW1]; exact O1.alloc _)
  have B1 := Lib.hid (show Blk W1 n1 29 #[.slice A1 1 c1, .int .i64 2] by rw [hW1]; exact Blk.at_ _ _ hn1)
  have E01 : Ext w W1 := by rw [hW1]; exact E1.alloc _
  have hnw : w.heap.size ≤ n1 := by have := E1.size; omega
  have HW1 := Lib.hid hW1
  have HN1 := Lib.hid hn1
  clear hW1 hn1 O1
  go_wp2_with fail
  rw [HN1.out, ← HW1.out]
  refine (fork_any A1 c1 [aP1] 2 1 0 _ R1.out.y).mono ?_
  rintro e w2 (⟨h, _⟩ | ⟨_, E2, (⟨h, _⟩ | ⟨_, A2, c2, rfl, O2⟩)⟩)
  · rw [al2] at h; exact absurd rfl h
  · cases h
  rw [al3] at O2
  simp only [List.length_cons, List.length_nil, Nat.zero_add, Nat.reduceAdd, al14] at O2 ⊢
  have O2 : OwnS Rp 43 W1.heap.size (fun _ => False) w2 (.slice A2 2 c2) [aP1, aP2] := O2
  have kb := (B1.out.ext E2).two
  have MM : Mod (fun k => k = n1) w2 _ := ((Mod.refl _ w2).set1 (.slice A2 2 c2) (o := 0)).set1 (.int .i64 3) (o := 1)
  have B2 := Lib.hid ((B1.out.ext E2).put2 (.slice A2 2 c2) (.int .i64 3))
  have R2 := Lib.hid (O2.mod MM (fun k hk he => by have := (O2.row k hk).1; have := B1.out.lt; omega) (fun k _ hk _ => hk))
  have E02 : Ext w _ := Mod.toExt (E01.trans E2) MM (by intro k hk he; omega)
  clear MM O2 E2
  go_wp2_with fail
  clear kb
  generalize (w2.setCell _ _).setCell _ _ = W2 at *
  refine (end_any A2 c2 [aP1, aP2] 3 2 3 _ R2.out.y).mono ?_
  rintro e w3 ⟨E3, (⟨h, _⟩ | ⟨_, A3, c3, rfl, O3⟩)⟩
  · rw [al4] at h; exact absurd rfl h
  rw [al5] at O3 ⊢
  simp only [List.length_cons, List.length_nil, Nat.zero_add, Nat.reduceAdd] at O3 ⊢
  have kb := (B2.out.ext E3).two
  have MM : Mod (fun k => k = n1) w3 _ := ((Mod.refl _ w3).set1 (.slice A3 2 c3) (o := 0)).set1 (.int .i64 3) (o := 1)
  have B3 := Lib.hid ((B2.out.ext E3).put2 (.slice A3 2 c3) (.int .i64 3))
  have R3 := Lib.hid (O3.mod MM (fun k hk he => by have := (O3.row k hk).1; have := B2.out.lt; omega) (fun k _ hk _ => hk))
  have E03 : Ext w _ := Mod.toExt (E02.trans E3) MM (by intro k hk he; omega)
  clear MM O3 E3
  go_wp2_with fail
  clear kb
  generalize (w3.setCell _ _).setCell _ _ = W3 at *
  refine (get_any A3 c3 [aQ1, aQ2] 3 1 _ R3.out.y).mono ?_
  rintro e w4 ⟨rfl, E4⟩
  rw [al6]
  simp only []
  have B4 := Lib.hid (B3.out.ext E4)
  have R4 := Lib.hid (R3.out.ext E4)
  have E04 := E03.trans E4
  have kb := B4.out.two
  obtain ⟨n7, hn7⟩ : ∃ n7, w4.heap.size = n7 := ⟨_, rfl⟩
  have hn71 : n1 < n7 := by rw [← hn7]; exact B4.out.lt
  go_wp2_with ((refine wpList_store_A rfl 43 _ _ rfl (n7) _ rfl rfl 43 _ (zero_row w4 n7 hn7) (by rw [List.size_toArray]; exact i43' al15) (Eq.trans (b := 43) (by rfl) (Eq.symm (show (aQ1).cells.toArray.size = 43 from Pr.size al15))) (Pr.one al15) ?_); intro w5 H5 E5; have E05 : Ext w w5 := E5 w.heap.size w (E04.alloc _) (by omega); have E45 : Ext w4 w5 := E5 w4.heap.size w4 ((Ext.refl w4).alloc _) (by omega); have kb := (B4.out.ext E45).two)
  have B5 := Lib.hid (B4.out.ext E45)
  have R5 := Lib.hid (R4.out.ext E45)
  have H5 := Lib.hid H5
  clear E5 E45 hn7
  refine (wait_any A3 c3 [aQ1, aQ2] 3 1 0 _ R5.out.y).mono ?_
  rintro e w6 ⟨E6, (⟨h, _⟩ | ⟨_, h, _⟩ | ⟨_, p, h, A6, c6, rfl, O6⟩ | ⟨_, h, _⟩ | ⟨_, h, _⟩)⟩
  · rw [al7] at h; exact absurd rfl h
  · cases h
  · rw [al8] at h
    cases h
    rw [al9] at O6 ⊢
    simp only [List.length_cons, List.length_nil, Nat.zero_add] at O6 ⊢
    rw [al16, al17]
    have hn17 : n7 ≠ n1 := by omega
    have H6 := Lib.hid (((H5.out.ext E6).far (p := ⟨n1, 0, none⟩) hn17 (.slice A6 1 c6)).far (p := ⟨n1, 1, none⟩) hn17 (.int .i64 3))
    clear H5
    have kb := (B5.out.ext E6).two
    have MM : Mod (fun k => k = n1) w6 _ := ((Mod.refl _ w6).set1 (.slice A6 1 c6) (o := 0)).set1 (.int .i64 3) (o := 1)
    have B6 := Lib.hid ((B5.out.ext E6).put2 (.slice A6 1 c6) (.int .i64 3))
    have R6 := Lib.hid (O6.mod MM (fun k hk he => by have := (O6.row k hk).1; have := B5.out.lt; omega) (fun k _ hk _ => hk))
    have E06 : Ext w _ := Mod.toExt (E05.trans E6) MM (by intro k hk he; omega)
    clear MM O6 E6
    go_wp2_with fail
    clear kb
    generalize (w6.setCell _ _).setCell _ _ = W6 at *
    refine (end_any A6 c6 [aQ1] 3 1 0 _ R6.out.y).mono ?_
    rintro e w7 ⟨E7, (⟨h, _⟩ | ⟨_, A7, c7, rfl, O7⟩)⟩
    · rw [al10] at h; exact absurd rfl h
    rw [al11] at O7 ⊢
    simp only [List.length_nil] at O7 ⊢
    have H7 := Lib.hid (((H6.out.ext E7).far (p := ⟨n1, 0, none⟩) hn17 (.slice A7 0 c7)).far (p := ⟨n1, 1, none⟩) hn17 (.int .i64 3))
    have hp7 := (prAt_blk al15 H7.out).c7
    clear H6
    have kb := (B6.out.ext E7).two
    have MM : Mod (fun k => k = n1) w7 _ := ((Mod.refl _ w7).set1 (.slice A7 0 c7) (o := 0)).set1 (.int .i64 3) (o := 1)
    have B7 := Lib.hid ((B6.out.ext E7).put2 (.slice A7 0 c7) (.int .i64 3))
    have R7 := Lib.hid (O7.mod MM (fun k hk he => by have := (O7.row k hk).1; have := B6.out.lt; omega) (fun k _ hk _ => hk))
    have E07 : Ext w _ := Mod.toExt (E06.trans E7) MM (by intro k hk he; omega)
    clear MM O7 E7
    go_wp2_with fail
    clear kb
    generalize (w7.setCell _ _).setCell _ _ = W7 at *
    refine (has_any aQ1.pending 17 _).mono ?_
    rintro e w8 ⟨rfl, E8⟩
    rw [al12]
    have kb := (B7.out.ext E8).two
    go_wp2
    go_ret
    exact ⟨rfl, E07.trans E8⟩
  · rw [al8] at h; cases h
  · rw [al8] at h; cases h
end Go.Proofs.Ytmpmnikgbepphaa
