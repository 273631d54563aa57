/- The document's answer for marks, by contract. Conditions: the setting is one. -/
import Derived.Test.YtiknogkopfhoiaaM15
namespace Go.Proofs.Ytiknogkopfhoiaa
open Go.RowKit Go.Kb

set_option maxHeartbeats 800000 in
theorem rmark_any (t : Tm) (a b : Bool) (n lo hi : Int) (w : World) (ht : t.Ok) :
    Calls Try.prog 11 #[.agg t.arr, .agg #[.bool a, .bool b], .int .i64 n, .int .i64 lo, .int .i64 hi] w (MarkPost w a (markL t b n lo hi).1 (markL t b n lo hi).2) := by
  have hn := t.size ht
  have h40 := fun w' => rhas_any t 40 w' ht
  have hl9 := fun w' => told_any t 9 w' ht
  have hl8 := fun w' => told_any t 8 w' ht
  rw [markL_eq]
  generalize hasL t 40 = x at *
  generalize tellL t 9 = l9 at *
  generalize tellL t 8 = l8 at *
  generalize t.arr = cs at *
  clear ht
  have hi' : (Try.prog.info? 26).map (·.size) = some cs.size := by rw [hn]; kernel_rfl
  cases b
  · cases x
    · show Calls _ _ _ _ (MarkPost w a false [])
      have hT := Lib.hid (((Blk.new w 26 cs).alloc (.cells #[.bool a, .bool false] 33)).alloc (.cells #[.bool false, .bool false] 33))
      have hF := Lib.hid ((Blk.at_ (w := w.alloc (.cells cs 26)) (B := w.heap.size + 1) 33 #[.bool a, .bool false] (by simp)).alloc (.cells #[.bool false, .bool false] 33))
      have hR := Lib.hid (Blk.at_ (w := (w.alloc (.cells cs 26)).alloc (.cells #[.bool a, .bool false] 33)) (B := w.heap.size + 1 + 1) 33 #[.bool false, .bool false] (by simp))
      go_enter Try.func11, Try.ntmps11
      go_wp2_with (first | (refine wpList_load_row rfl 26 _ rfl _ rfl 26 _ _ _ hT.out Try.underlying26 rfl hi' ?_))
      refine (h40 _).mono ?_
      rintro e w1 ⟨rfl, E1⟩
      have hT1 := Lib.hid (hT.out.ext E1)
      have hR1 := Lib.hid (hR.out.ext E1)
      have hF1 := Lib.hid (hF.out.ext E1)
      have E01 : Ext w w1 := (by repeat (first | with_reducible exact Ext.refl _ | refine Ext.drewN ?_ _ | refine Ext.drew ?_ | refine Ext.alloc ?_ _ | assumption | (refine Below.trans ?_ (by assumption)) | (refine Ext.trans ?_ (by assumption)) | (refine Below.trans ?_ (Below.mono (by assumption) (by omega)))))
      have hg : w.heap.size + 1 + 1 < w1.heap.size := hR1.out.lt
      obtain ⟨q0, q1, q2, q3⟩ := hF1.out.two
      obtain ⟨r0, r1, r2, r3⟩ := hR1.out.two
      clear hF hT hR E1
      go_wp2
      have hP := (hR1.out.put2 (.bool a) (.bool false)).two
      refine bodyPost_ret (v := .tuple #[.agg #[.bool a, .bool false], .slice none 0 0]) (by simp [results, Try.results11, go_sem, hP.1, hP.2.1]) rfl ?_
      exact ⟨none, 0, rfl, RdN.nil _ _, fun k hk => by simp [Value.ownBlock] at hk, Below.setCell (Below.setCell E01 (by simp; omega) _) (by simp; omega) _⟩
    · by_cases hge : hi ≤ n
      · have e : (if (true : Bool) = true ∧ hi ≤ n then (true, l9) else (false, [])) = (true, l9) := if_pos ⟨rfl, hge⟩
        show Calls _ _ _ _ (MarkPost w a (if (true : Bool) = true ∧ hi ≤ n then (true, l9) else (false, [])).1 (if (true : Bool) = true ∧ hi ≤ n then (true, l9) else (false, [])).2)
        rw [e]
        clear e
        have hT := Lib.hid (((Blk.new w 26 cs).alloc (.cells #[.bool a, .bool false] 33)).alloc (.cells #[.bool false, .bool false] 33))
        have hF := Lib.hid ((Blk.at_ (w := w.alloc (.cells cs 26)) (B := w.heap.size + 1) 33 #[.bool a, .bool false] (by simp)).alloc (.cells #[.bool false, .bool false] 33))
        have hR := Lib.hid (Blk.at_ (w := (w.alloc (.cells cs 26)).alloc (.cells #[.bool a, .bool false] 33)) (B := w.heap.size + 1 + 1) 33 #[.bool false, .bool false] (by simp))
        go_enter Try.func11, Try.ntmps11
        go_wp2_with (first | (refine wpList_load_row rfl 26 _ rfl _ rfl 26 _ _ _ hT.out Try.underlying26 rfl hi' ?_))
        refine (h40 _).mono ?_
        rintro e w1 ⟨rfl, E1⟩
        have hT1 := Lib.hid (hT.out.ext E1)
        have hR1 := Lib.hid (hR.out.ext E1)
        have hF1 := Lib.hid (hF.out.ext E1)
        have E01 : Ext w w1 := (by repeat (first | with_reducible exact Ext.refl _ | refine Ext.drewN ?_ _ | refine Ext.drew ?_ | refine Ext.alloc ?_ _ | assumption | (refine Below.trans ?_ (by assumption)) | (refine Ext.trans ?_ (by assumption)) | (refine Below.trans ?_ (Below.mono (by assumption) (by omega)))))
        have hg : w.heap.size + 1 + 1 < w1.heap.size := hR1.out.lt
        obtain ⟨q0, q1, q2, q3⟩ := hF1.out.two
        obtain ⟨r0, r1, r2, r3⟩ := hR1.out.two
        clear hF hT hR E1
        have hL := Lib.hid hl9
        go_wp2_with fail
        refine wp_region_held_drew (S := fun w' => Mod (fun k => k = w.heap.size + 1 + 1) w1 w') (by kernel_rfl) (Mod.drew (Mod.refl _ _)) (fun hHeld => ?_)
        (refine wpAnyH_take (i := 0) (v := ?_) rfl (by kernel_rfl) (by kernel_rfl) (by kernel_rfl) (fun _ _ _ h => h) (Or.inl ⟨by rfl, ?_⟩) (by assumption) ?_; rotate_left; focus (intro w' hSw; go_simp; try with_reducible rfl); (try simp only [Act.put]); (try simp only [List.getElem_toArray]); (try simp only [List.getElem_cons_succ]); (try simp only [List.getElem_cons_zero]); (try simp only [List.setIfInBounds_toArray]); (try simp only [List.set_cons_succ]); (try simp only [List.set_cons_zero]))
        (refine wpAnyH_take (i := 1) (v := ?_) rfl (by kernel_rfl) (by kernel_rfl) (by kernel_rfl) (fun _ _ _ h => h) (Or.inl ⟨by rfl, ?_⟩) (by assumption) ?_; rotate_left; focus (intro w' hSw; have kc := Mod.cell hSw (w.heap.size + 1) 0 (by omega) (by omega); rw [q0] at kc; go_simp; try with_reducible rfl); (try simp only [Act.put]); (try simp only [List.getElem_toArray]); (try simp only [List.getElem_cons_succ]); (try simp only [List.getElem_cons_zero]); (try simp only [List.setIfInBounds_toArray]); (try simp only [List.set_cons_succ]); (try simp only [List.set_cons_zero]))
        (refine wpAnyH_take (i := 2) (v := ?_) rfl (by kernel_rfl) (by kernel_rfl) (by kernel_rfl) (fun _ _ _ h => h) (Or.inl ⟨by rfl, ?_⟩) (by assumption) ?_; rotate_left; focus (intro w' hSw; go_simp; try with_reducible rfl); (try simp only [Act.put]); (try simp only [List.getElem_toArray]); (try simp only [List.getElem_cons_succ]); (try simp only [List.getElem_cons_zero]); (try simp only [List.setIfInBounds_toArray]); (try simp only [List.set_cons_succ]); (try simp only [List.set_cons_zero]))
        (refine wpAnyH_take (i := 3) (v := .agg cs) rfl (by kernel_rfl) (by kernel_rfl) (by kernel_rfl) (fun _ _ _ h => h) (yieldsIf_load_row (by rfl) 26 _ rfl _ rfl 26 cs _ _ (fun w' hSw => hT1.out.mod hSw (by omega)) Try.underlying26 rfl hi') (by assumption) ?_; (try simp only [Act.put]); (try simp only [List.getElem_toArray]); (try simp only [List.getElem_cons_succ]); (try simp only [List.getElem_cons_zero]); (try simp only [List.setIfInBounds_toArray]); (try simp only [List.set_cons_succ]); (try simp only [List.set_cons_zero]))
        (refine wpAnyH_ready (rs := [4]) (by kernel_rfl) (by simp) ?_; refine AllReadyH.cons rfl (fun K hK => ?_) AllReadyH.nil; go_simp; go_at_call 28; refine (hL.out _).mono ?_; rintro e w3 ⟨A, c, rfl, RO, FRw, E3⟩; (try dsimp only); refine hK.out _ _ (Mod.ext hHeld E3) (fun hHeld => ?_); clear hK K; (try simp only [Act.put]); (try simp only [List.getElem_toArray]); (try simp only [List.getElem_cons_succ]); (try simp only [List.getElem_cons_zero]); (try simp only [List.setIfInBounds_toArray]); (try simp only [List.set_cons_succ]); (try simp only [List.set_cons_zero]))
        have RO := Lib.hid RO
        have E13 : Ext w1 w3 := (by repeat (first | with_reducible exact Ext.refl _ | refine Ext.drewN ?_ _ | refine Ext.drew ?_ | refine Ext.alloc ?_ _ | assumption | (refine Below.trans ?_ (by assumption)) | (refine Ext.trans ?_ (by assumption)) | (refine Below.trans ?_ (Below.mono (by assumption) (by omega)))))
        have hR3 := hR1.out.ext E13
        obtain ⟨r0, r1, r2, r3⟩ := hR3.two
        (refine wpAnyH_ready (rs := [5]) (by kernel_rfl) (by simp) ?_; refine AllReadyH.cons rfl (fun K hK => ?_) AllReadyH.nil; go_simp; refine hK.out _ _ ((hHeld.set1 _).set1 _) (fun hHeld => ?_); clear hK K; (try simp only [Act.put]); (try simp only [List.getElem_toArray]); (try simp only [List.getElem_cons_succ]); (try simp only [List.getElem_cons_zero]); (try simp only [List.setIfInBounds_toArray]); (try simp only [List.set_cons_succ]); (try simp only [List.set_cons_zero]))
        (refine wpAnyH_take (i := 6) (v := ?_) rfl (by kernel_rfl) (by kernel_rfl) (by kernel_rfl) (fun _ _ _ h => h) (Or.inl ⟨by rfl, ?_⟩) (by assumption) ?_; rotate_left; focus (intro w' hSw; go_simp; try with_reducible rfl); (try simp only [Act.put]); (try simp only [List.getElem_toArray]); (try simp only [List.getElem_cons_succ]); (try simp only [List.getElem_cons_zero]); (try simp only [List.setIfInBounds_toArray]); (try simp only [List.set_cons_succ]); (try simp only [List.set_cons_zero]))
        refine wpAnyH_done (by kernel_rfl) ?_ _
        go_wp2
        have hP := (hR3.put2 (.bool a) (.bool true)).two
        refine bodyPost_ret (v := .tuple #[.agg #[.bool a, .bool true], .slice A (l9).length c]) (by simp [results, Try.results11, go_sem, Act.put, hP.1, hP.2.1]) rfl ?_
        have hsz := hR1.out.lt
        have FRz : ∀ k, (Value.slice A (l9).length c).ownBlock = some k → w1.heap.size ≤ k := fun k hk => by simpa using FRw k hk
        refine ⟨A, c, rfl, RdN.mod (S := fun k => k = w.heap.size + 1 + 1) RO.out (((Mod.refl _ _).set1 _).set1 _) (fun k hk he => by have := FRz k hk; omega), fun k hk => Nat.le_trans E01.size (FRz k hk), ?_⟩
        exact Below.setCell (Below.setCell (E01.trans E13) (by simp; omega) _) (by simp; omega) _
      · have e : (if (true : Bool) = true ∧ hi ≤ n then (true, l9) else (false, [])) = (false, []) := if_neg fun h => hge h.2
        show Calls _ _ _ _ (MarkPost w a (if (true : Bool) = true ∧ hi ≤ n then (true, l9) else (false, [])).1 (if (true : Bool) = true ∧ hi ≤ n then (true, l9) else (false, [])).2)
        rw [e]
        clear e
        have hT := Lib.hid (((Blk.new w 26 cs).alloc (.cells #[.bool a, .bool false] 33)).alloc (.cells #[.bool false, .bool false] 33))
        have hF := Lib.hid ((Blk.at_ (w := w.alloc (.cells cs 26)) (B := w.heap.size + 1) 33 #[.bool a, .bool false] (by simp)).alloc (.cells #[.bool false, .bool false] 33))
        have hR := Lib.hid (Blk.at_ (w := (w.alloc (.cells cs 26)).alloc (.cells #[.bool a, .bool false] 33)) (B := w.heap.size + 1 + 1) 33 #[.bool false, .bool false] (by simp))
        go_enter Try.func11, Try.ntmps11
        go_wp2_with (first | (refine wpList_load_row rfl 26 _ rfl _ rfl 26 _ _ _ hT.out Try.underlying26 rfl hi' ?_))
        refine (h40 _).mono ?_
        rintro e w1 ⟨rfl, E1⟩
        have hT1 := Lib.hid (hT.out.ext E1)
        have hR1 := Lib.hid (hR.out.ext E1)
        have hF1 := Lib.hid (hF.out.ext E1)
        have E01 : Ext w w1 := (by repeat (first | with_reducible exact Ext.refl _ | refine Ext.drewN ?_ _ | refine Ext.drew ?_ | refine Ext.alloc ?_ _ | assumption | (refine Below.trans ?_ (by assumption)) | (refine Ext.trans ?_ (by assumption)) | (refine Below.trans ?_ (Below.mono (by assumption) (by omega)))))
        have hg : w.heap.size + 1 + 1 < w1.heap.size := hR1.out.lt
        obtain ⟨q0, q1, q2, q3⟩ := hF1.out.two
        obtain ⟨r0, r1, r2, r3⟩ := hR1.out.two
        clear hF hT hR E1
        go_wp2
        have hP := (hR1.out.put2 (.bool a) (.bool false)).two
        refine bodyPost_ret (v := .tuple #[.agg #[.bool a, .bool false], .slice none 0 0]) (by simp [results, Try.results11, go_sem, hP.1, hP.2.1]) rfl ?_
        exact ⟨none, 0, rfl, RdN.nil _ _, fun k hk => by simp [Value.ownBlock] at hk, Below.setCell (Below.setCell E01 (by simp; omega) _) (by simp; omega) _⟩
  · by_cases hle : n ≤ lo
    · have hgt : ¬ lo < n := by omega
      have e : (if n ≤ lo then (false, if x then l8 else []) else (true, [])) = (false, if x then l8 else []) := if_pos hle
      show Calls _ _ _ _ (MarkPost w a (if n ≤ lo then (false, if x then l8 else []) else (true, [])).1 (if n ≤ lo then (false, if x then l8 else []) else (true, [])).2)
      rw [e]
      clear e
      cases x
      · show Calls _ _ _ _ (MarkPost w a false [])
        have hT := Lib.hid (((Blk.new w 26 cs).alloc (.cells #[.bool a, .bool true] 33)).alloc (.cells #[.bool false, .bool false] 33))
        have hF := Lib.hid ((Blk.at_ (w := w.alloc (.cells cs 26)) (B := w.heap.size + 1) 33 #[.bool a, .bool true] (by simp)).alloc (.cells #[.bool false, .bool false] 33))
        have hR := Lib.hid (Blk.at_ (w := (w.alloc (.cells cs 26)).alloc (.cells #[.bool a, .bool true] 33)) (B := w.heap.size + 1 + 1) 33 #[.bool false, .bool false] (by simp))
        go_enter Try.func11, Try.ntmps11
        go_wp2_with (first | (refine wpList_load_row rfl 26 _ rfl _ rfl 26 _ _ _ hT.out Try.underlying26 rfl hi' ?_))
        refine (h40 _).mono ?_
        rintro e w1 ⟨rfl, E1⟩
        have hT1 := Lib.hid (hT.out.ext E1)
        have hR1 := Lib.hid (hR.out.ext E1)
        have hF1 := Lib.hid (hF.out.ext E1)
        have E01 : Ext w w1 := (by repeat (first | with_reducible exact Ext.refl _ | refine Ext.drewN ?_ _ | refine Ext.drew ?_ | refine Ext.alloc ?_ _ | assumption | (refine Below.trans ?_ (by assumption)) | (refine Ext.trans ?_ (by assumption)) | (refine Below.trans ?_ (Below.mono (by assumption) (by omega)))))
        have hg : w.heap.size + 1 + 1 < w1.heap.size := hR1.out.lt
        obtain ⟨q0, q1, q2, q3⟩ := hF1.out.two
        obtain ⟨r0, r1, r2, r3⟩ := hR1.out.two
        clear hF hT hR E1
        go_wp2
        have hP := (hR1.out.put2 (.bool a) (.bool false)).two
        refine bodyPost_ret (v := .tuple #[.agg #[.bool a, .bool false], .slice none 0 0]) (by simp [results, Try.results11, go_sem, hP.1, hP.2.1]) rfl ?_
        exact ⟨none, 0, rfl, RdN.nil _ _, fun k hk => by simp [Value.ownBlock] at hk, Below.setCell (Below.setCell E01 (by simp; omega) _) (by simp; omega) _⟩
      · show Calls _ _ _ _ (MarkPost w a false l8)
        have hT := Lib.hid (((Blk.new w 26 cs).alloc (.cells #[.bool a, .bool true] 33)).alloc (.cells #[.bool false, .bool false] 33))
        have hF := Lib.hid ((Blk.at_ (w := w.alloc (.cells cs 26)) (B := w.heap.size + 1) 33 #[.bool a, .bool true] (by simp)).alloc (.cells #[.bool false, .bool false] 33))
        have hR := Lib.hid (Blk.at_ (w := (w.alloc (.cells cs 26)).alloc (.cells #[.bool a, .bool true] 33)) (B := w.heap.size + 1 + 1) 33 #[.bool false, .bool false] (by simp))
        go_enter Try.func11, Try.ntmps11
        go_wp2_with (first | (refine wpList_load_row rfl 26 _ rfl _ rfl 26 _ _ _ hT.out Try.underlying26 rfl hi' ?_))
        refine (h40 _).mono ?_
        rintro e w1 ⟨rfl, E1⟩
        have hT1 := Lib.hid (hT.out.ext E1)
        have hR1 := Lib.hid (hR.out.ext E1)
        have hF1 := Lib.hid (hF.out.ext E1)
        have E01 : Ext w w1 := (by repeat (first | with_reducible exact Ext.refl _ | refine Ext.drewN ?_ _ | refine Ext.drew ?_ | refine Ext.alloc ?_ _ | assumption | (refine Below.trans ?_ (by assumption)) | (refine Ext.trans ?_ (by assumption)) | (refine Below.trans ?_ (Below.mono (by assumption) (by omega)))))
        have hg : w.heap.size + 1 + 1 < w1.heap.size := hR1.out.lt
        obtain ⟨q0, q1, q2, q3⟩ := hF1.out.two
        obtain ⟨r0, r1, r2, r3⟩ := hR1.out.two
        clear hF hT hR E1
        have hL := Lib.hid hl8
        go_wp2_with fail
        refine wp_region_held_drew (S := fun w' => Mod (fun k => k = w.heap.size + 1 + 1) w1 w') (by kernel_rfl) (Mod.drew (Mod.refl _ _)) (fun hHeld => ?_)
        (refine wpAnyH_take (i := 0) (v := ?_) rfl (by kernel_rfl) (by kernel_rfl) (by kernel_rfl) (fun _ _ _ h => h) (Or.inl ⟨by rfl, ?_⟩) (by assumption) ?_; rotate_left; focus (intro w' hSw; go_simp; try with_reducible rfl); (try simp only [Act.put]); (try simp only [List.getElem_toArray]); (try simp only [List.getElem_cons_succ]); (try simp only [List.getElem_cons_zero]); (try simp only [List.setIfInBounds_toArray]); (try simp only [List.set_cons_succ]); (try simp only [List.set_cons_zero]))
        (refine wpAnyH_take (i := 1) (v := ?_) rfl (by kernel_rfl) (by kernel_rfl) (by kernel_rfl) (fun _ _ _ h => h) (Or.inl ⟨by rfl, ?_⟩) (by assumption) ?_; rotate_left; focus (intro w' hSw; have kc := Mod.cell hSw (w.heap.size + 1) 0 (by omega) (by omega); rw [q0] at kc; go_simp; try with_reducible rfl); (try simp only [Act.put]); (try simp only [List.getElem_toArray]); (try simp only [List.getElem_cons_succ]); (try simp only [List.getElem_cons_zero]); (try simp only [List.setIfInBounds_toArray]); (try simp only [List.set_cons_succ]); (try simp only [List.set_cons_zero]))
        (refine wpAnyH_take (i := 2) (v := ?_) rfl (by kernel_rfl) (by kernel_rfl) (by kernel_rfl) (fun _ _ _ h => h) (Or.inl ⟨by rfl, ?_⟩) (by assumption) ?_; rotate_left; focus (intro w' hSw; go_simp; try with_reducible rfl); (try simp only [Act.put]); (try simp only [List.getElem_toArray]); (try simp only [List.getElem_cons_succ]); (try simp only [List.getElem_cons_zero]); (try simp only [List.setIfInBounds_toArray]); (try simp only [List.set_cons_succ]); (try simp only [List.set_cons_zero]))
        (refine wpAnyH_take (i := 3) (v := .agg cs) rfl (by kernel_rfl) (by kernel_rfl) (by kernel_rfl) (fun _ _ _ h => h) (yieldsIf_load_row (by rfl) 26 _ rfl _ rfl 26 cs _ _ (fun w' hSw => hT1.out.mod hSw (by omega)) Try.underlying26 rfl hi') (by assumption) ?_; (try simp only [Act.put]); (try simp only [List.getElem_toArray]); (try simp only [List.getElem_cons_succ]); (try simp only [List.getElem_cons_zero]); (try simp only [List.setIfInBounds_toArray]); (try simp only [List.set_cons_succ]); (try simp only [List.set_cons_zero]))
        (refine wpAnyH_ready (rs := [4]) (by kernel_rfl) (by simp) ?_; refine AllReadyH.cons rfl (fun K hK => ?_) AllReadyH.nil; go_simp; go_at_call 28; refine (hL.out _).mono ?_; rintro e w3 ⟨A, c, rfl, RO, FRw, E3⟩; (try dsimp only); refine hK.out _ _ (Mod.ext hHeld E3) (fun hHeld => ?_); clear hK K; (try simp only [Act.put]); (try simp only [List.getElem_toArray]); (try simp only [List.getElem_cons_succ]); (try simp only [List.getElem_cons_zero]); (try simp only [List.setIfInBounds_toArray]); (try simp only [List.set_cons_succ]); (try simp only [List.set_cons_zero]))
        have RO := Lib.hid RO
        have E13 : Ext w1 w3 := (by repeat (first | with_reducible exact Ext.refl _ | refine Ext.drewN ?_ _ | refine Ext.drew ?_ | refine Ext.alloc ?_ _ | assumption | (refine Below.trans ?_ (by assumption)) | (refine Ext.trans ?_ (by assumption)) | (refine Below.trans ?_ (Below.mono (by assumption) (by omega)))))
        have hR3 := hR1.out.ext E13
        obtain ⟨r0, r1, r2, r3⟩ := hR3.two
        (refine wpAnyH_ready (rs := [5]) (by kernel_rfl) (by simp) ?_; refine AllReadyH.cons rfl (fun K hK => ?_) AllReadyH.nil; go_simp; refine hK.out _ _ ((hHeld.set1 _).set1 _) (fun hHeld => ?_); clear hK K; (try simp only [Act.put]); (try simp only [List.getElem_toArray]); (try simp only [List.getElem_cons_succ]); (try simp only [List.getElem_cons_zero]); (try simp only [List.setIfInBounds_toArray]); (try simp only [List.set_cons_succ]); (try simp only [List.set_cons_zero]))
        (refine wpAnyH_take (i := 6) (v := ?_) rfl (by kernel_rfl) (by kernel_rfl) (by kernel_rfl) (fun _ _ _ h => h) (Or.inl ⟨by rfl, ?_⟩) (by assumption) ?_; rotate_left; focus (intro w' hSw; go_simp; try with_reducible rfl); (try simp only [Act.put]); (try simp only [List.getElem_toArray]); (try simp only [List.getElem_cons_succ]); (try simp only [List.getElem_cons_zero]); (try simp only [List.setIfInBounds_toArray]); (try simp only [List.set_cons_succ]); (try simp only [List.set_cons_zero]))
        refine wpAnyH_done (by kernel_rfl) ?_ _
        go_wp2
        have hP := (hR3.put2 (.bool a) (.bool false)).two
        refine bodyPost_ret (v := .tuple #[.agg #[.bool a, .bool false], .slice A (l8).length c]) (by simp [results, Try.results11, go_sem, Act.put, hP.1, hP.2.1]) rfl ?_
        have hsz := hR1.out.lt
        have FRz : ∀ k, (Value.slice A (l8).length c).ownBlock = some k → w1.heap.size ≤ k := fun k hk => by simpa using FRw k hk
        refine ⟨A, c, rfl, RdN.mod (S := fun k => k = w.heap.size + 1 + 1) RO.out (((Mod.refl _ _).set1 _).set1 _) (fun k hk he => by have := FRz k hk; omega), fun k hk => Nat.le_trans E01.size (FRz k hk), ?_⟩
        exact Below.setCell (Below.setCell (E01.trans E13) (by simp; omega) _) (by simp; omega) _
    · have hgt : lo < n := by omega
      have e : (if n ≤ lo then (false, if x then l8 else []) else (true, [])) = (true, []) := if_neg hle
      show Calls _ _ _ _ (MarkPost w a (if n ≤ lo then (false, if x then l8 else []) else (true, [])).1 (if n ≤ lo then (false, if x then l8 else []) else (true, [])).2)
      rw [e]
      clear e
      have hT := Lib.hid (((Blk.new w 26 cs).alloc (.cells #[.bool a, .bool true] 33)).alloc (.cells #[.bool false, .bool false] 33))
      have hF := Lib.hid ((Blk.at_ (w := w.alloc (.cells cs 26)) (B := w.heap.size + 1) 33 #[.bool a, .bool true] (by simp)).alloc (.cells #[.bool false, .bool false] 33))
      have hR := Lib.hid (Blk.at_ (w := (w.alloc (.cells cs 26)).alloc (.cells #[.bool a, .bool true] 33)) (B := w.heap.size + 1 + 1) 33 #[.bool false, .bool false] (by simp))
      go_enter Try.func11, Try.ntmps11
      go_wp2_with (first | (refine wpList_load_row rfl 26 _ rfl _ rfl 26 _ _ _ hT.out Try.underlying26 rfl hi' ?_))
      refine (h40 _).mono ?_
      rintro e w1 ⟨rfl, E1⟩
      have hT1 := Lib.hid (hT.out.ext E1)
      have hR1 := Lib.hid (hR.out.ext E1)
      have hF1 := Lib.hid (hF.out.ext E1)
      have E01 : Ext w w1 := (by repeat (first | with_reducible exact Ext.refl _ | refine Ext.drewN ?_ _ | refine Ext.drew ?_ | refine Ext.alloc ?_ _ | assumption | (refine Below.trans ?_ (by assumption)) | (refine Ext.trans ?_ (by assumption)) | (refine Below.trans ?_ (Below.mono (by assumption) (by omega)))))
      have hg : w.heap.size + 1 + 1 < w1.heap.size := hR1.out.lt
      obtain ⟨q0, q1, q2, q3⟩ := hF1.out.two
      obtain ⟨r0, r1, r2, r3⟩ := hR1.out.two
      clear hF hT hR E1
      go_wp2
      have hP := (hR1.out.put2 (.bool a) (.bool true)).two
      refine bodyPost_ret (v := .tuple #[.agg #[.bool a, .bool true], .slice none 0 0]) (by simp [results, Try.results11, go_sem, hP.1, hP.2.1]) rfl ?_
      exact ⟨none, 0, rfl, RdN.nil _ _, fun k hk => by simp [Value.ownBlock] at hk, Below.setCell (Below.setCell E01 (by simp; omega) _) (by simp; omega) _⟩
end Go.Proofs.Ytiknogkopfhoiaa
