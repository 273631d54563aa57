/- The document's answer for wishes, by contract. Conditions: the setting is one. -/
import Derived.Test.YtiknogkopfhoiaaN15
namespace Go.Proofs.Ytiknogkopfhoiaa
open Go.RowKit Go.Kb

set_option maxHeartbeats 800000 in
theorem rask_small (a b : Bool) (what : Int) (cs : Array Value) (w : World) (hw : what ≠ 3 ∧ what ≠ 4) :
    Calls Try.prog 13 #[.agg cs, .agg #[.bool a, .bool b], .int .i64 what] w (AskPost w (if what = 1 then (true, b, [], 0) else if what = 2 then (false, b, [], 0) else (false, false, [], 2))) := by
  have E0 : Ext w (((w.alloc (.cells cs 26)).alloc (.cells #[.bool a, .bool b] 33)).alloc (.cells #[.bool false, .bool false] 33)) := (by repeat (first | with_reducible exact Ext.refl _ | refine Ext.drewN ?_ _ | refine Ext.drew ?_ | refine Ext.alloc ?_ _ | assumption | (refine Below.trans ?_ (by assumption)) | (refine Ext.trans ?_ (by assumption)) | (refine Below.trans ?_ (Below.mono (by assumption) (by omega)))))
  obtain ⟨i3, i4⟩ := hw
  have j3 : (what == 3) = false := by simpa using i3
  have j4 : (what == 4) = false := by simpa using i4
  by_cases h1 : what = 1
  · subst h1
    show Calls _ _ _ _ (AskPost w (true, b, [], 0))
    clear i3 i4 j3 j4
    go_enter Try.func13, Try.ntmps13
    go_wp2
    refine bodyPost_ret (v := .tuple #[.agg #[.bool true, .bool b], .slice none 0 0, .int .i64 0]) (by simp [results, Try.results13, go_sem]) rfl ?_
    exact ⟨none, 0, rfl, RdN.nil _ _, (by repeat (first | with_reducible exact Ext.refl _ | refine Ext.drewN ?_ _ | refine Ext.drew ?_ | refine Ext.alloc ?_ _ | assumption | (refine Below.trans ?_ (by assumption)) | (refine Ext.trans ?_ (by assumption)) | (refine Below.trans ?_ (Below.mono (by assumption) (by omega)))))⟩
  · by_cases h2 : what = 2
    · subst h2
      show Calls _ _ _ _ (AskPost w (false, b, [], 0))
      clear i3 i4 j3 j4
      go_enter Try.func13, Try.ntmps13
      go_wp2
      refine bodyPost_ret (v := .tuple #[.agg #[.bool false, .bool b], .slice none 0 0, .int .i64 0]) (by simp [results, Try.results13, go_sem]) rfl ?_
      exact ⟨none, 0, rfl, RdN.nil _ _, (by repeat (first | with_reducible exact Ext.refl _ | refine Ext.drewN ?_ _ | refine Ext.drew ?_ | refine Ext.alloc ?_ _ | assumption | (refine Below.trans ?_ (by assumption)) | (refine Ext.trans ?_ (by assumption)) | (refine Below.trans ?_ (Below.mono (by assumption) (by omega)))))⟩
    · have j1 : (what == 1) = false := by simpa using h1
      have j2 : (what == 2) = false := by simpa using h2
      rw [if_neg h1, if_neg h2]
      clear i3 i4 h1 h2
      go_enter Try.func13, Try.ntmps13
      go_wp2
      refine bodyPost_ret (v := .tuple #[.agg #[.bool false, .bool false], .slice none 0 0, .int .i64 2]) (by simp [results, Try.results13, go_sem]) rfl ?_
      exact ⟨none, 0, rfl, RdN.nil _ _, E0⟩
set_option maxHeartbeats 800000 in
theorem rask_3 (t : Tm) (a b : Bool) (w : World) (ht : t.Ok) :
    Calls Try.prog 13 #[.agg t.arr, .agg #[.bool a, .bool b], .int .i64 3] w (AskPost w (a, b, tellL t 9, 0)) := by
  have hn := t.size ht
  have hL := Lib.hid fun w' => told_any t 9 w' ht
  generalize tellL t 9 = l at *
  generalize t.arr = cs at *
  clear ht
  have hi' : (Try.prog.info? 26).map (·.size) = some cs.size := by rw [hn]; kernel_rfl
  go_enter Try.func13, Try.ntmps13
  go_wp2_with fail
  have hT := Lib.hid (((Blk.new w 26 cs).alloc (.cells #[.bool a, .bool b] 33)).alloc (.cells #[.bool false, .bool false] 33))
  have hF := Lib.hid ((Blk.at_ (w := w.alloc (.cells cs 26)) (B := w.heap.size + 1) 33 #[.bool a, .bool b] (by simp)).alloc (.cells #[.bool false, .bool false] 33))
  have hR := Lib.hid (Blk.at_ (w := (w.alloc (.cells cs 26)).alloc (.cells #[.bool a, .bool b] 33)) (B := w.heap.size + 1 + 1) 33 #[.bool false, .bool false] (by simp))
  have E0 : Ext w (((w.alloc (.cells cs 26)).alloc (.cells #[.bool a, .bool b] 33)).alloc (.cells #[.bool false, .bool false] 33)) := (by repeat (first | with_reducible exact Ext.refl _ | refine Ext.drewN ?_ _ | refine Ext.drew ?_ | refine Ext.alloc ?_ _ | assumption | (refine Below.trans ?_ (by assumption)) | (refine Ext.trans ?_ (by assumption)) | (refine Below.trans ?_ (Below.mono (by assumption) (by omega)))))
  obtain ⟨q0, q1, q2, q3⟩ := hF.out.two
  obtain ⟨r0, r1, r2, r3⟩ := hR.out.two
  generalize (((w.alloc (.cells cs 26)).alloc (.cells #[.bool a, .bool b] 33)).alloc (.cells #[.bool false, .bool false] 33)) = w1 at hT hF hR E0 q0 q1 q2 q3 r0 r1 r2 r3 ⊢
  have hg := hR.out.lt
  refine wp_region_held_drew (S := fun w' => Mod (fun k => k = w.heap.size + 1 + 1) w1 w') (by kernel_rfl) (Mod.drew (Mod.refl _ _)) (fun hHeld => ?_)
  (refine wpAnyH_take (i := 0) (v := ?_) rfl (by kernel_rfl) (by kernel_rfl) (by kernel_rfl) (fun _ _ _ h => h) (Or.inl ⟨by rfl, ?_⟩) (by assumption) ?_; rotate_left; focus (intro w' hSw; have kc := Mod.cell hSw (w.heap.size + 1) 0 (by omega) (by omega); rw [q0] at kc; have kd := Mod.cell hSw (w.heap.size + 1) 1 (by omega) (by omega); rw [q1] at kd; go_simp; try with_reducible rfl); (try simp only [Act.put]); (try simp only [List.getElem_toArray]); (try simp only [List.getElem_cons_succ]); (try simp only [List.getElem_cons_zero]); (try simp only [List.setIfInBounds_toArray]); (try simp only [List.set_cons_succ]); (try simp only [List.set_cons_zero]))
  (refine wpAnyH_take (i := 1) (v := .agg cs) rfl (by kernel_rfl) (by kernel_rfl) (by kernel_rfl) (fun _ _ _ h => h) (yieldsIf_load_row (by rfl) 26 _ rfl _ rfl 26 cs _ _ (fun w' hSw => hT.out.mod hSw (by omega)) Try.underlying26 rfl hi') (by assumption) ?_; (try simp only [Act.put]); (try simp only [List.getElem_toArray]); (try simp only [List.getElem_cons_succ]); (try simp only [List.getElem_cons_zero]); (try simp only [List.setIfInBounds_toArray]); (try simp only [List.set_cons_succ]); (try simp only [List.set_cons_zero]))
  (refine wpAnyH_ready (rs := [2]) (by kernel_rfl) (by simp) ?_; refine AllReadyH.cons rfl (fun K hK => ?_) AllReadyH.nil; go_simp; go_at_call 28; refine (hL.out _).mono ?_; rintro e w3 ⟨A, c, rfl, RO, FRw, E3⟩; (try dsimp only); refine hK.out _ _ (Mod.ext hHeld E3) (fun hHeld => ?_); clear hK K; (try simp only [Act.put]); (try simp only [List.getElem_toArray]); (try simp only [List.getElem_cons_succ]); (try simp only [List.getElem_cons_zero]); (try simp only [List.setIfInBounds_toArray]); (try simp only [List.set_cons_succ]); (try simp only [List.set_cons_zero]))
  have RO := Lib.hid RO
  have E13 : Ext w1 w3 := (by repeat (first | with_reducible exact Ext.refl _ | refine Ext.drewN ?_ _ | refine Ext.drew ?_ | refine Ext.alloc ?_ _ | assumption | (refine Below.trans ?_ (by assumption)) | (refine Ext.trans ?_ (by assumption)) | (refine Below.trans ?_ (Below.mono (by assumption) (by omega)))))
  have hR3 := hR.out.ext E13
  clear r0 r1 r2 r3
  obtain ⟨r0, r1, r2, r3⟩ := hR3.two
  (refine wpAnyH_ready (rs := [3]) (by kernel_rfl) (by simp) ?_; refine AllReadyH.cons rfl (fun K hK => ?_) AllReadyH.nil; go_simp; refine hK.out _ _ ((hHeld.set1 _).set1 _) (fun hHeld => ?_); clear hK K; (try simp only [Act.put]); (try simp only [List.getElem_toArray]); (try simp only [List.getElem_cons_succ]); (try simp only [List.getElem_cons_zero]); (try simp only [List.setIfInBounds_toArray]); (try simp only [List.set_cons_succ]); (try simp only [List.set_cons_zero]))
  (refine wpAnyH_take (i := 4) (v := ?_) rfl (by kernel_rfl) (by kernel_rfl) (by kernel_rfl) (fun _ _ _ h => h) (Or.inl ⟨by rfl, ?_⟩) (by assumption) ?_; rotate_left; focus (intro w' hSw; go_simp; try with_reducible rfl); (try simp only [Act.put]); (try simp only [List.getElem_toArray]); (try simp only [List.getElem_cons_succ]); (try simp only [List.getElem_cons_zero]); (try simp only [List.setIfInBounds_toArray]); (try simp only [List.set_cons_succ]); (try simp only [List.set_cons_zero]))
  (refine wpAnyH_take (i := 5) (v := ?_) rfl (by kernel_rfl) (by kernel_rfl) (by kernel_rfl) (fun _ _ _ h => h) (Or.inl ⟨by rfl, ?_⟩) (by assumption) ?_; rotate_left; focus (intro w' hSw; go_simp; try with_reducible rfl); (try simp only [Act.put]); (try simp only [List.getElem_toArray]); (try simp only [List.getElem_cons_succ]); (try simp only [List.getElem_cons_zero]); (try simp only [List.setIfInBounds_toArray]); (try simp only [List.set_cons_succ]); (try simp only [List.set_cons_zero]))
  refine wpAnyH_done (by kernel_rfl) ?_ _
  go_wp2
  have hP := (hR3.put2 (.bool a) (.bool b)).two
  refine bodyPost_ret (v := .tuple #[.agg #[.bool a, .bool b], .slice A l.length c, .int .i64 0]) (by simp [results, Try.results13, go_sem, Act.put, hP.1, hP.2.1]) rfl ?_
  have FRz : ∀ k, (Value.slice A l.length c).ownBlock = some k → w1.heap.size ≤ k := fun k hk => by simpa using FRw k hk
  refine ⟨A, c, rfl, RdN.mod (S := fun k => k = w.heap.size + 1 + 1) RO.out (((Mod.refl _ _).set1 _).set1 _) (fun k hk he => by have := FRz k hk; omega), ?_⟩
  exact Below.setCell (Below.setCell (E0.trans E13) (by simp; omega) _) (by simp; omega) _
set_option maxHeartbeats 800000 in
theorem rask_4 (t : Tm) (a b : Bool) (w : World) (ht : t.Ok) :
    Calls Try.prog 13 #[.agg t.arr, .agg #[.bool a, .bool b], .int .i64 4] w (AskPost w (a, b, tellL t 8, 0)) := by
  have hn := t.size ht
  have hL := Lib.hid fun w' => told_any t 8 w' ht
  generalize tellL t 8 = l at *
  generalize t.arr = cs at *
  clear ht
  have hi' : (Try.prog.info? 26).map (·.size) = some cs.size := by rw [hn]; kernel_rfl
  go_enter Try.func13, Try.ntmps13
  go_wp2_with fail
  have hT := Lib.hid (((Blk.new w 26 cs).alloc (.cells #[.bool a, .bool b] 33)).alloc (.cells #[.bool false, .bool false] 33))
  have hF := Lib.hid ((Blk.at_ (w := w.alloc (.cells cs 26)) (B := w.heap.size + 1) 33 #[.bool a, .bool b] (by simp)).alloc (.cells #[.bool false, .bool false] 33))
  have hR := Lib.hid (Blk.at_ (w := (w.alloc (.cells cs 26)).alloc (.cells #[.bool a, .bool b] 33)) (B := w.heap.size + 1 + 1) 33 #[.bool false, .bool false] (by simp))
  have E0 : Ext w (((w.alloc (.cells cs 26)).alloc (.cells #[.bool a, .bool b] 33)).alloc (.cells #[.bool false, .bool false] 33)) := (by repeat (first | with_reducible exact Ext.refl _ | refine Ext.drewN ?_ _ | refine Ext.drew ?_ | refine Ext.alloc ?_ _ | assumption | (refine Below.trans ?_ (by assumption)) | (refine Ext.trans ?_ (by assumption)) | (refine Below.trans ?_ (Below.mono (by assumption) (by omega)))))
  obtain ⟨q0, q1, q2, q3⟩ := hF.out.two
  obtain ⟨r0, r1, r2, r3⟩ := hR.out.two
  generalize (((w.alloc (.cells cs 26)).alloc (.cells #[.bool a, .bool b] 33)).alloc (.cells #[.bool false, .bool false] 33)) = w1 at hT hF hR E0 q0 q1 q2 q3 r0 r1 r2 r3 ⊢
  have hg := hR.out.lt
  refine wp_region_held_drew (S := fun w' => Mod (fun k => k = w.heap.size + 1 + 1) w1 w') (by kernel_rfl) (Mod.drew (Mod.refl _ _)) (fun hHeld => ?_)
  (refine wpAnyH_take (i := 0) (v := ?_) rfl (by kernel_rfl) (by kernel_rfl) (by kernel_rfl) (fun _ _ _ h => h) (Or.inl ⟨by rfl, ?_⟩) (by assumption) ?_; rotate_left; focus (intro w' hSw; have kc := Mod.cell hSw (w.heap.size + 1) 0 (by omega) (by omega); rw [q0] at kc; have kd := Mod.cell hSw (w.heap.size + 1) 1 (by omega) (by omega); rw [q1] at kd; go_simp; try with_reducible rfl); (try simp only [Act.put]); (try simp only [List.getElem_toArray]); (try simp only [List.getElem_cons_succ]); (try simp only [List.getElem_cons_zero]); (try simp only [List.setIfInBounds_toArray]); (try simp only [List.set_cons_succ]); (try simp only [List.set_cons_zero]))
  (refine wpAnyH_take (i := 1) (v := .agg cs) rfl (by kernel_rfl) (by kernel_rfl) (by kernel_rfl) (fun _ _ _ h => h) (yieldsIf_load_row (by rfl) 26 _ rfl _ rfl 26 cs _ _ (fun w' hSw => hT.out.mod hSw (by omega)) Try.underlying26 rfl hi') (by assumption) ?_; (try simp only [Act.put]); (try simp only [List.getElem_toArray]); (try simp only [List.getElem_cons_succ]); (try simp only [List.getElem_cons_zero]); (try simp only [List.setIfInBounds_toArray]); (try simp only [List.set_cons_succ]); (try simp only [List.set_cons_zero]))
  (refine wpAnyH_ready (rs := [2]) (by kernel_rfl) (by simp) ?_; refine AllReadyH.cons rfl (fun K hK => ?_) AllReadyH.nil; go_simp; go_at_call 28; refine (hL.out _).mono ?_; rintro e w3 ⟨A, c, rfl, RO, FRw, E3⟩; (try dsimp only); refine hK.out _ _ (Mod.ext hHeld E3) (fun hHeld => ?_); clear hK K; (try simp only [Act.put]); (try simp only [List.getElem_toArray]); (try simp only [List.getElem_cons_succ]); (try simp only [List.getElem_cons_zero]); (try simp only [List.setIfInBounds_toArray]); (try simp only [List.set_cons_succ]); (try simp only [List.set_cons_zero]))
  have RO := Lib.hid RO
  have E13 : Ext w1 w3 := (by repeat (first | with_reducible exact Ext.refl _ | refine Ext.drewN ?_ _ | refine Ext.drew ?_ | refine Ext.alloc ?_ _ | assumption | (refine Below.trans ?_ (by assumption)) | (refine Ext.trans ?_ (by assumption)) | (refine Below.trans ?_ (Below.mono (by assumption) (by omega)))))
  have hR3 := hR.out.ext E13
  clear r0 r1 r2 r3
  obtain ⟨r0, r1, r2, r3⟩ := hR3.two
  (refine wpAnyH_ready (rs := [3]) (by kernel_rfl) (by simp) ?_; refine AllReadyH.cons rfl (fun K hK => ?_) AllReadyH.nil; go_simp; refine hK.out _ _ ((hHeld.set1 _).set1 _) (fun hHeld => ?_); clear hK K; (try simp only [Act.put]); (try simp only [List.getElem_toArray]); (try simp only [List.getElem_cons_succ]); (try simp only [List.getElem_cons_zero]); (try simp only [List.setIfInBounds_toArray]); (try simp only [List.set_cons_succ]); (try simp only [List.set_cons_zero]))
  (refine wpAnyH_take (i := 4) (v := ?_) rfl (by kernel_rfl) (by kernel_rfl) (by kernel_rfl) (fun _ _ _ h => h) (Or.inl ⟨by rfl, ?_⟩) (by assumption) ?_; rotate_left; focus (intro w' hSw; go_simp; try with_reducible rfl); (try simp only [Act.put]); (try simp only [List.getElem_toArray]); (try simp only [List.getElem_cons_succ]); (try simp only [List.getElem_cons_zero]); (try simp only [List.setIfInBounds_toArray]); (try simp only [List.set_cons_succ]); (try simp only [List.set_cons_zero]))
  (refine wpAnyH_take (i := 5) (v := ?_) rfl (by kernel_rfl) (by kernel_rfl) (by kernel_rfl) (fun _ _ _ h => h) (Or.inl ⟨by rfl, ?_⟩) (by assumption) ?_; rotate_left; focus (intro w' hSw; go_simp; try with_reducible rfl); (try simp only [Act.put]); (try simp only [List.getElem_toArray]); (try simp only [List.getElem_cons_succ]); (try simp only [List.getElem_cons_zero]); (try simp only [List.setIfInBounds_toArray]); (try simp only [List.set_cons_succ]); (try simp only [List.set_cons_zero]))
  refine wpAnyH_done (by kernel_rfl) ?_ _
  go_wp2
  have hP := (hR3.put2 (.bool a) (.bool b)).two
  refine bodyPost_ret (v := .tuple #[.agg #[.bool a, .bool b], .slice A l.length c, .int .i64 0]) (by simp [results, Try.results13, go_sem, Act.put, hP.1, hP.2.1]) rfl ?_
  have FRz : ∀ k, (Value.slice A l.length c).ownBlock = some k → w1.heap.size ≤ k := fun k hk => by simpa using FRw k hk
  refine ⟨A, c, rfl, RdN.mod (S := fun k => k = w.heap.size + 1 + 1) RO.out (((Mod.refl _ _).set1 _).set1 _) (fun k hk he => by have := FRz k hk; omega), ?_⟩
  exact Below.setCell (Below.setCell (E0.trans E13) (by simp; omega) _) (by simp; omega) _
theorem rask_any (t : Tm) (a b : Bool) (what : Int) (w : World) (ht : t.Ok) :
    Calls Try.prog 13 #[.agg t.arr, .agg #[.bool a, .bool b], .int .i64 what] w (AskPost w (askL t a b what)) := by
  by_cases h3 : what = 3
  · subst h3
    exact rask_3 t a b w ht
  · by_cases h4 : what = 4
    · subst h4
      exact rask_4 t a b w ht
    · have := rask_small a b what t.arr w ⟨h3, h4⟩
      unfold askL
      rw [if_neg h3, if_neg h4]
      exact this
end Go.Proofs.Ytiknogkopfhoiaa
