/- The document's answer for what is typed, and for what the other end is told, by contract. Conditions: the setting is one. -/
import Derived.Test.YtiknogkopfhoiaaF15
namespace Go.Proofs.Ytiknogkopfhoiaa
open Go.RowKit Go.Kb

set_option maxHeartbeats 400000 in
theorem told_any (t : Tm) (op : Int) (w : World) (ht : t.Ok) : Calls Try.prog 28 #[.agg t.arr, .int .i64 op] w fun e w' =>
    ∃ A c, e = .returned (.slice A (tellL t op).length c) ∧ RI .u8 w' (.slice A (tellL t op).length c) (tellL t op) ∧ (∀ k, (Value.slice A (tellL t op).length c).ownBlock = some k → w.heap.size ≤ k) ∧ Ext w w' := by
  have hn := t.size ht
  have hc := fun w' => rchar_any t op w' ht
  rw [tellL_eq]
  generalize (charL t op).1 = x at *
  generalize (charL t op).2 = f at *
  generalize t.arr = cs at *
  clear ht
  have hi : (Try.prog.info? 26).map (·.size) = some cs.size := by rw [hn]; kernel_rfl
  have hA := Blk.new w 26 cs
  cases f
  · go_enter Try.func28, Try.ntmps28
    go_wp2_with (first | (refine wpList_load_row rfl 26 _ rfl _ rfl 26 _ _ _ hA Try.underlying26 rfl hi ?_) | (go_at_call 34; refine (hc _).mono ?_; rintro e w1 ⟨rfl, E1⟩))
    go_ret
    exact ⟨none, 0, rfl, RdN.nil _ _, fun k hk => by simp [Value.ownBlock] at hk, (by repeat (first | with_reducible exact Ext.refl _ | refine Ext.drewN ?_ _ | refine Ext.drew ?_ | refine Ext.alloc ?_ _ | assumption | (refine Below.trans ?_ (by assumption)) | (refine Ext.trans ?_ (by assumption)) | (refine Below.trans ?_ (Below.mono (by assumption) (by omega)))))⟩
  · go_enter Try.func28, Try.ntmps28
    go_wp2_with (first | (refine wpList_load_row rfl 26 _ rfl _ rfl 26 _ _ _ hA Try.underlying26 rfl hi ?_) | (go_at_call 34; refine (hc _).mono ?_; rintro e w1 ⟨rfl, E1⟩))
    go_ret
    refine ⟨_, _, rfl, RI.lit .u8 [x] _ rfl (by simp), fun k hk => ?_, (by repeat (first | with_reducible exact Ext.refl _ | refine Ext.drewN ?_ _ | refine Ext.drew ?_ | refine Ext.alloc ?_ _ | assumption | (refine Below.trans ?_ (by assumption)) | (refine Ext.trans ?_ (by assumption)) | (refine Below.trans ?_ (Below.mono (by assumption) (by omega)))))⟩
    have h1 : k = w1.heap.size := by simpa [Value.ownBlock, eq_comm] using hk
    have h2 := E1.size
    simp at h2
    omega
set_option maxHeartbeats 800000 in
theorem rtyped_any (t : Tm) (a b : Bool) (c : Int) (w : World) (ht : t.Ok) :
    Calls Try.prog 9 #[.agg t.arr, .agg #[.bool a, .bool b], .int .u8 c] w fun e w' => e = .returned (.tuple #[.agg #[.bool (typedL t a b c).1, .bool (typedL t a b c).2.1], .bool (typedL t a b c).2.2]) ∧ Ext w w' := by
  have hn := t.size ht
  have h38 := fun w' => rhas_any t 38 w' ht
  have h39 := fun w' => rhas_any t 39 w' ht
  have h8 := fun w' => ris_any t 8 c w' ht
  have h9 := fun w' => ris_any t 9 c w' ht
  rw [typedL_eq]
  generalize hasL t 38 = x at *
  generalize hasL t 39 = y at *
  generalize isL t 8 c = p at *
  generalize isL t 9 c = q at *
  generalize t.arr = cs at *
  clear ht
  have hi : (Try.prog.info? 26).map (·.size) = some cs.size := by rw [hn]; kernel_rfl
  have hT := Lib.hid (((Blk.new w 26 cs).alloc (.cells #[.bool a, .bool b] 33)).alloc (.cells #[.bool false, .bool false] 33))
  have hF := Lib.hid ((Blk.at_ (w := w.alloc (.cells cs 26)) (B := w.heap.size + 1) 33 #[.bool a, .bool b] (by simp)).alloc (.cells #[.bool false, .bool false] 33))
  have hR := Lib.hid (Blk.at_ (w := (w.alloc (.cells cs 26)).alloc (.cells #[.bool a, .bool b] 33)) (B := w.heap.size + 1 + 1) 33 #[.bool false, .bool false] (by simp))
  cases x
  · go_enter Try.func9, Try.ntmps9
    go_wp2_with (first | (refine wpList_load_row rfl 26 _ rfl _ rfl 26 _ _ _ hT.out Try.underlying26 rfl hi ?_))
    refine (h38 _).mono ?_
    rintro e w1 ⟨rfl, E1⟩
    obtain ⟨f0, f1, f2, f3⟩ := (hF.out.ext E1).two
    obtain ⟨r0, r1, r2, r3⟩ := (hR.out.ext E1).two
    go_wp2
    have hP := ((hR.out.ext E1).put2 (.bool a) (.bool b)).two
    refine bodyPost_ret (v := .tuple #[.agg #[.bool a, .bool b], .bool false]) (by simp [results, Try.results9, go_sem, hP.1, hP.2.1]) rfl ?_
    have E01 : Ext w w1 := (by repeat (first | with_reducible exact Ext.refl _ | refine Ext.drewN ?_ _ | refine Ext.drew ?_ | refine Ext.alloc ?_ _ | assumption | (refine Below.trans ?_ (by assumption)) | (refine Ext.trans ?_ (by assumption)) | (refine Below.trans ?_ (Below.mono (by assumption) (by omega)))))
    exact ⟨rfl, Below.setCell (Below.setCell E01 (by simp; omega) _) (by simp; omega) _⟩
  · go_enter Try.func9, Try.ntmps9
    go_wp2_with (first | (refine wpList_load_row rfl 26 _ rfl _ rfl 26 _ _ _ hT.out Try.underlying26 rfl hi ?_))
    refine (h38 _).mono ?_
    rintro e w1 ⟨rfl, E1⟩
    have hT2 := Lib.hid (hT.out.ext E1)
    have hR2 := Lib.hid (hR.out.ext E1)
    have hF2 := Lib.hid (hF.out.ext E1)
    have E02 : Ext w w1 := (by repeat (first | with_reducible exact Ext.refl _ | refine Ext.drewN ?_ _ | refine Ext.drew ?_ | refine Ext.alloc ?_ _ | assumption | (refine Below.trans ?_ (by assumption)) | (refine Ext.trans ?_ (by assumption)) | (refine Below.trans ?_ (Below.mono (by assumption) (by omega)))))
    clear hF hT hR E1
    go_wp2_with fail
    refine wp_region_held_drew (S := fun w' => Ext w1 w') (by kernel_rfl) (by repeat (first | with_reducible exact Ext.refl _ | refine Ext.drewN ?_ _ | refine Ext.drew ?_ | refine Ext.alloc ?_ _ | assumption | (refine Below.trans ?_ (by assumption)) | (refine Ext.trans ?_ (by assumption)) | (refine Below.trans ?_ (Below.mono (by assumption) (by omega))))) (fun hHeld => ?_)
    (refine wpAnyH_take (i := 0) (v := .agg cs) rfl (by kernel_rfl) (by kernel_rfl) (by kernel_rfl) (fun _ _ _ h => h) (yieldsIf_load_row (by rfl) 26 _ rfl _ rfl 26 cs _ _ (fun w' hw' => Blk.ext hT2.out hw') Try.underlying26 rfl hi) (by assumption) ?_; (try simp only [Act.put]); (try simp only [List.getElem_toArray]); (try simp only [List.getElem_cons_succ]); (try simp only [List.getElem_cons_zero]); (try simp only [List.setIfInBounds_toArray]); (try simp only [List.set_cons_succ]); (try simp only [List.set_cons_zero]))
    (refine wpAnyH_take (i := 1) (v := ?_) rfl (by kernel_rfl) (by kernel_rfl) (by kernel_rfl) (fun _ _ _ h => h) (Or.inl ⟨by rfl, ?_⟩) (by assumption) ?_; rotate_left; focus (intro w' hSw; go_simp; try with_reducible rfl); (try simp only [Act.put]); (try simp only [List.getElem_toArray]); (try simp only [List.getElem_cons_succ]); (try simp only [List.getElem_cons_zero]); (try simp only [List.setIfInBounds_toArray]); (try simp only [List.set_cons_succ]); (try simp only [List.set_cons_zero]))
    (refine wpAnyH_take (i := 3) (v := .agg cs) rfl (by kernel_rfl) (by kernel_rfl) (by kernel_rfl) (fun _ _ _ h => h) (yieldsIf_load_row (by rfl) 26 _ rfl _ rfl 26 cs _ _ (fun w' hw' => Blk.ext hT2.out hw') Try.underlying26 rfl hi) (by assumption) ?_; (try simp only [Act.put]); (try simp only [List.getElem_toArray]); (try simp only [List.getElem_cons_succ]); (try simp only [List.getElem_cons_zero]); (try simp only [List.setIfInBounds_toArray]); (try simp only [List.set_cons_succ]); (try simp only [List.set_cons_zero]))
    (refine wpAnyH_take (i := 4) (v := ?_) rfl (by kernel_rfl) (by kernel_rfl) (by kernel_rfl) (fun _ _ _ h => h) (Or.inl ⟨by rfl, ?_⟩) (by assumption) ?_; rotate_left; focus (intro w' hSw; go_simp; try with_reducible rfl); (try simp only [Act.put]); (try simp only [List.getElem_toArray]); (try simp only [List.getElem_cons_succ]); (try simp only [List.getElem_cons_zero]); (try simp only [List.setIfInBounds_toArray]); (try simp only [List.set_cons_succ]); (try simp only [List.set_cons_zero]))
    (refine wpAnyH_ready (rs := [2]) (by kernel_rfl) (by simp) ?_; refine AllReadyH.cons rfl (fun K hK => ?_) AllReadyH.nil; go_simp; go_at_call 25; refine (h8 _).mono ?_; rintro e w3 ⟨rfl, E3⟩; (try dsimp only); refine hK.out _ _ (by repeat (first | with_reducible exact Ext.refl _ | refine Ext.drewN ?_ _ | refine Ext.drew ?_ | refine Ext.alloc ?_ _ | assumption | (refine Below.trans ?_ (by assumption)) | (refine Ext.trans ?_ (by assumption)) | (refine Below.trans ?_ (Below.mono (by assumption) (by omega))))) (fun hHeld => ?_); clear hK K; (try simp only [Act.put]); (try simp only [List.getElem_toArray]); (try simp only [List.getElem_cons_succ]); (try simp only [List.getElem_cons_zero]); (try simp only [List.setIfInBounds_toArray]); (try simp only [List.set_cons_succ]); (try simp only [List.set_cons_zero]))
    (refine wpAnyH_ready (rs := [5]) (by kernel_rfl) (by simp) ?_; refine AllReadyH.cons rfl (fun K hK => ?_) AllReadyH.nil; go_simp; go_at_call 25; refine (h9 _).mono ?_; rintro e w4 ⟨rfl, E4⟩; (try dsimp only); refine hK.out _ _ (by repeat (first | with_reducible exact Ext.refl _ | refine Ext.drewN ?_ _ | refine Ext.drew ?_ | refine Ext.alloc ?_ _ | assumption | (refine Below.trans ?_ (by assumption)) | (refine Ext.trans ?_ (by assumption)) | (refine Below.trans ?_ (Below.mono (by assumption) (by omega))))) (fun hHeld => ?_); clear hK K; (try simp only [Act.put]); (try simp only [List.getElem_toArray]); (try simp only [List.getElem_cons_succ]); (try simp only [List.getElem_cons_zero]); (try simp only [List.setIfInBounds_toArray]); (try simp only [List.set_cons_succ]); (try simp only [List.set_cons_zero]))
    (refine wpAnyH_take (i := 6) (v := ?_) rfl (by kernel_rfl) (by kernel_rfl) (by kernel_rfl) (fun _ _ _ h => h) (Or.inl ⟨by rfl, ?_⟩) (by assumption) ?_; rotate_left; focus (intro w' hSw; go_simp; try with_reducible rfl); (try simp only [Act.put]); (try simp only [List.getElem_toArray]); (try simp only [List.getElem_cons_succ]); (try simp only [List.getElem_cons_zero]); (try simp only [List.setIfInBounds_toArray]); (try simp only [List.set_cons_succ]); (try simp only [List.set_cons_zero]))
    (refine wpAnyH_take (i := 7) (v := ?_) rfl (by kernel_rfl) (by kernel_rfl) (by kernel_rfl) (fun _ _ _ h => h) (Or.inl ⟨by rfl, ?_⟩) (by assumption) ?_; rotate_left; focus (intro w' hSw; go_simp; try with_reducible rfl); (try simp only [Act.put]); (try simp only [List.getElem_toArray]); (try simp only [List.getElem_cons_succ]); (try simp only [List.getElem_cons_zero]); (try simp only [List.setIfInBounds_toArray]); (try simp only [List.set_cons_succ]); (try simp only [List.set_cons_zero]))
    refine wpAnyH_done (by kernel_rfl) ?_ _
    have E24 : Ext w1 w4 := (by repeat (first | with_reducible exact Ext.refl _ | refine Ext.drewN ?_ _ | refine Ext.drew ?_ | refine Ext.alloc ?_ _ | assumption | (refine Below.trans ?_ (by assumption)) | (refine Ext.trans ?_ (by assumption)) | (refine Below.trans ?_ (Below.mono (by assumption) (by omega)))))
    have hT4 := Lib.hid (hT2.out.ext E24)
    have hR4 := Lib.hid (hR2.out.ext E24)
    have hF4 := Lib.hid (hF2.out.ext E24)
    have E04 : Ext w w4 := E02.trans E24
    obtain ⟨q0, q1, q2, q3⟩ := hF4.out.two
    obtain ⟨r0, r1, r2, r3⟩ := hR4.out.two
    clear hT2 hR2 hF2 E3 E4 E24 E02 hHeld
    cases p
    · cases q
      · cases y
        ·
          go_wp2_with (first
            | (refine wpList_load_row rfl 26 _ rfl _ rfl 26 _ _ _ hT4.out Try.underlying26 rfl hi ?_)
            | ((go_at_call 24; refine (h39 _).mono ?_; rintro e w45 ⟨rfl, E45⟩); obtain ⟨q0, q1, q2, q3⟩ := (hF4.out.ext E45).two; obtain ⟨r0, r1, r2, r3⟩ := (hR4.out.ext E45).two))
          have hP := ((hR4.out.ext E45).put2 (.bool a) (.bool b)).two
          refine bodyPost_ret (v := .tuple #[.agg #[.bool a, .bool b], .bool false]) (by simp [results, Try.results9, go_sem, hP.1, hP.2.1]) rfl ?_
          have E5 := E04.trans E45
          exact ⟨by simp, (Below.setCell (Below.setCell E5 (by simp; omega) _) (by simp; omega) _)⟩
        ·
          go_wp2_with (first
            | (refine wpList_load_row rfl 26 _ rfl _ rfl 26 _ _ _ hT4.out Try.underlying26 rfl hi ?_)
            | ((go_at_call 24; refine (h39 _).mono ?_; rintro e w45 ⟨rfl, E45⟩); obtain ⟨q0, q1, q2, q3⟩ := (hF4.out.ext E45).two; obtain ⟨r0, r1, r2, r3⟩ := (hR4.out.ext E45).two))
          have hP := (((hR4.out.ext E45).far (p := ⟨w.heap.size + 1, 0, none⟩) (by simp) (.bool false)).put2 (.bool false) (.bool b)).two
          refine bodyPost_ret (v := .tuple #[.agg #[.bool false, .bool b], .bool false]) (by simp [results, Try.results9, go_sem, hP.1, hP.2.1]) rfl ?_
          have E5 := E04.trans E45
          exact ⟨by simp, (Below.setCell (Below.setCell (Below.setCell E5 (by simp) _) (by simp; omega) _) (by simp; omega) _)⟩
      ·
        go_wp2_with (first
          | (refine wpList_load_row rfl 26 _ rfl _ rfl 26 _ _ _ hT4.out Try.underlying26 rfl hi ?_)
          | ((go_at_call 24; refine (h39 _).mono ?_; rintro e w45 ⟨rfl, E45⟩); obtain ⟨q0, q1, q2, q3⟩ := (hF4.out.ext E45).two; obtain ⟨r0, r1, r2, r3⟩ := (hR4.out.ext E45).two))
        have hP := ((hR4.out.far (p := ⟨w.heap.size + 1, 0, none⟩) (by simp) (.bool true)).put2 (.bool true) (.bool b)).two
        refine bodyPost_ret (v := .tuple #[.agg #[.bool true, .bool b], .bool true]) (by simp [results, Try.results9, go_sem, hP.1, hP.2.1]) rfl ?_
        have E5 := E04.trans (Ext.refl _)
        exact ⟨by simp, (Below.setCell (Below.setCell (Below.setCell E5 (by simp) _) (by simp; omega) _) (by simp; omega) _)⟩
    · cases q
      ·
        go_wp2_with (first
          | (refine wpList_load_row rfl 26 _ rfl _ rfl 26 _ _ _ hT4.out Try.underlying26 rfl hi ?_)
          | ((go_at_call 24; refine (h39 _).mono ?_; rintro e w45 ⟨rfl, E45⟩); obtain ⟨q0, q1, q2, q3⟩ := (hF4.out.ext E45).two; obtain ⟨r0, r1, r2, r3⟩ := (hR4.out.ext E45).two))
        have hP := ((hR4.out.far (p := ⟨w.heap.size + 1, 0, none⟩) (by simp) (.bool false)).put2 (.bool false) (.bool b)).two
        refine bodyPost_ret (v := .tuple #[.agg #[.bool false, .bool b], .bool true]) (by simp [results, Try.results9, go_sem, hP.1, hP.2.1]) rfl ?_
        have E5 := E04.trans (Ext.refl _)
        exact ⟨by simp, (Below.setCell (Below.setCell (Below.setCell E5 (by simp) _) (by simp; omega) _) (by simp; omega) _)⟩
      ·
        go_wp2_with (first
          | (refine wpList_load_row rfl 26 _ rfl _ rfl 26 _ _ _ hT4.out Try.underlying26 rfl hi ?_)
          | ((go_at_call 24; refine (h39 _).mono ?_; rintro e w45 ⟨rfl, E45⟩); obtain ⟨q0, q1, q2, q3⟩ := (hF4.out.ext E45).two; obtain ⟨r0, r1, r2, r3⟩ := (hR4.out.ext E45).two))
        have hP := ((hR4.out.far (p := ⟨w.heap.size + 1, 0, none⟩) (by simp) (.bool (!a))).put2 (.bool (!a)) (.bool b)).two
        refine bodyPost_ret (v := .tuple #[.agg #[.bool (!a), .bool b], .bool true]) (by simp [results, Try.results9, go_sem, hP.1, hP.2.1]) rfl ?_
        have E5 := E04.trans (Ext.refl _)
        exact ⟨by simp, (Below.setCell (Below.setCell (Below.setCell E5 (by simp) _) (by simp; omega) _) (by simp; omega) _)⟩
end Go.Proofs.Ytiknogkopfhoiaa
