/- What a byte that is typed does to a flow, by contract. Conditions: the setting is one. -/
import Derived.Test.YtiknogkopfhoiaaB15
namespace Go.Proofs.Ytiknogkopfhoiaa
open Go.RowKit Go.Kb

/-- stopped, held, used up -/
def typedL (t : Tm) (a b : Bool) (c : Int) : Bool × Bool × Bool :=
  if hasL t 38 then
    if isL t 8 c then (if isL t 9 c then !a else false, b, true)
    else if isL t 9 c then (true, b, true) else (if hasL t 39 then false else a, b, false)
  else (a, b, false)
theorem typedL_eq (t : Tm) (a b : Bool) (c : Int) : typedL t a b c = if hasL t 38 then
    if isL t 8 c then (if isL t 9 c then !a else false, b, true)
    else if isL t 9 c then (true, b, true) else (if hasL t 39 then false else a, b, false)
  else (a, b, false) := rfl
set_option maxHeartbeats 800000 in
theorem typed_any (t : Tm) (a b : Bool) (c : Int) (w : World) (ht : t.Ok) :
    Calls Try.prog 8 #[.agg t.arr, .agg #[.bool a, .bool b], .int .u8 c] w fun e w' => e = .returned (.tuple #[.agg #[.bool (typedL t a b c).1, .bool (typedL t a b c).2.1], .bool (typedL t a b c).2.2]) ∧ Ext w w' := by
  have hn := t.size ht
  have h38 := fun w' => has_any t 38 w' ht
  have h39 := fun w' => has_any t 39 w' ht
  have h8 := fun w' => is_any t 8 c w' ht
  have h9 := fun w' => is_any t 9 c w' ht
  rw [typedL_eq]
  generalize hasL t 38 = x at *
  generalize hasL t 39 = y at *
  generalize isL t 8 c = p at *
  generalize isL t 9 c = q at *
  generalize t.arr = cs at *
  clear ht
  have hi : (Try.prog.info? 26).map (·.size) = some cs.size := by rw [hn]; kernel_rfl
  have hbl := Lib.hid fun a b => built_line a b cs hn
  have hT := Lib.hid (((Blk.new w 26 cs).alloc (.cells #[.bool a, .bool b] 32)).alloc (.cells #[.bool false, .bool false] 32))
  have hF := Lib.hid ((Blk.at_ (w := w.alloc (.cells cs 26)) (B := w.heap.size + 1) 32 #[.bool a, .bool b] (by simp)).alloc (.cells #[.bool false, .bool false] 32))
  have hR := Lib.hid (Blk.at_ (w := (w.alloc (.cells cs 26)).alloc (.cells #[.bool a, .bool b] 32)) (B := w.heap.size + 2) 32 #[.bool false, .bool false] (by simp))
  cases x
  · go_enter Try.func8, Try.ntmps8
    go_wp2_with (first | (refine wpList_load_row rfl 26 _ rfl _ rfl 26 _ _ _ hT.out Try.underlying26 rfl hi ?_))
    refine (h38 _).mono ?_
    rintro e w1 ⟨rfl, E1⟩
    obtain ⟨f0, f1, f2, f3⟩ := (hF.out.ext E1).two
    obtain ⟨r0, r1, r2, r3⟩ := (hR.out.ext E1).two
    go_wp2
    have hP := ((hR.out.ext E1).put2 (.bool a) (.bool b)).two
    refine bodyPost_ret (v := .tuple #[.agg #[.bool a, .bool b], .bool false]) (by simp [results, Try.results8, go_sem, hP.1, hP.2.1]) rfl ?_
    have E01 : Ext w w1 := (by repeat (first | with_reducible exact Ext.refl _ | refine Ext.drewN ?_ _ | refine Ext.drew ?_ | refine Ext.alloc ?_ _ | assumption | (refine Below.trans ?_ (by assumption)) | (refine Ext.trans ?_ (by assumption)) | (refine Below.trans ?_ (Below.mono (by assumption) (by omega)))))
    exact ⟨rfl, Below.setCell (Below.setCell E01 (by simp; omega) _) (by simp; omega) _⟩
  · go_enter Try.func8, Try.ntmps8
    go_wp2_with (first | (refine wpList_load_row rfl 26 _ rfl _ rfl 26 _ _ _ hT.out Try.underlying26 rfl hi ?_))
    refine (h38 _).mono ?_
    rintro e w1 ⟨rfl, E1⟩
    obtain ⟨f0, f1, f2, f3⟩ := (hF.out.ext E1).two
    have hT1 := Lib.hid (hT.out.ext E1)
    have hR1 := Lib.hid (hR.out.ext E1)
    have E01 : Ext w w1 := (by repeat (first | with_reducible exact Ext.refl _ | refine Ext.drewN ?_ _ | refine Ext.drew ?_ | refine Ext.alloc ?_ _ | assumption | (refine Below.trans ?_ (by assumption)) | (refine Ext.trans ?_ (by assumption)) | (refine Below.trans ?_ (Below.mono (by assumption) (by omega)))))
    have hg : w.heap.size + 1 + 1 < w1.heap.size := by have := E1.size; simp at this; omega
    clear hF hT hR
    go_wp2_with (first
      | (refine wpList_load_row rfl 26 _ rfl _ rfl 26 _ _ _ hT1.out Try.underlying26 rfl hi ?_)
      | (refine wpList_build_eq rfl 64 _ rfl (L := lineA a b cs (.slice none 0 0)) (by (try simp [go_sem]); exact hbl.out a b) ?_))
    have hL2 := Lib.hid (Blk.new w1 64 (lineA a b cs (.slice none 0 0)))
    have hT2 := Lib.hid (hT1.out.alloc (.cells (lineA a b cs (.slice none 0 0)) 64))
    have hR2 := Lib.hid (hR1.out.alloc (.cells (lineA a b cs (.slice none 0 0)) 64))
    have E02 : Ext w (w1.alloc (.cells (lineA a b cs (.slice none 0 0)) 64)) := E01.alloc _
    generalize hg1 : w1.heap.size = g at hL2 hg ⊢
    generalize (w1.alloc (.cells (lineA a b cs (.slice none 0 0)) 64)) = w2 at hL2 hT2 hR2 E02 ⊢
    clear f0 f1 f2 f3 E1 E01 hT1 hR1 hg1
    refine wp_region_held_drew (S := fun w' => Ext w2 w') (by kernel_rfl) (by repeat (first | with_reducible exact Ext.refl _ | refine Ext.drewN ?_ _ | refine Ext.drew ?_ | refine Ext.alloc ?_ _ | assumption | (refine Below.trans ?_ (by assumption)) | (refine Ext.trans ?_ (by assumption)) | (refine Below.trans ?_ (Below.mono (by assumption) (by omega))))) (fun hHeld => ?_)
    (refine wpAnyH_take (i := 0) (v := .agg cs) rfl (by kernel_rfl) (by kernel_rfl) (by kernel_rfl) (fun _ _ _ h => h) (yieldsIf_load_row (by rfl) 26 _ rfl _ rfl 26 cs _ _ (fun w' hw' => Blk.ext hT2.out hw') Try.underlying26 rfl hi) (by assumption) ?_; (try simp only [Act.put]); (try simp only [List.getElem_toArray]); (try simp only [List.getElem_cons_succ]); (try simp only [List.getElem_cons_zero]); (try simp only [List.setIfInBounds_toArray]); (try simp only [List.set_cons_succ]); (try simp only [List.set_cons_zero]))
    (refine wpAnyH_take (i := 1) (v := ?_) rfl (by kernel_rfl) (by kernel_rfl) (by kernel_rfl) (fun _ _ _ h => h) (Or.inl ⟨by rfl, ?_⟩) (by assumption) ?_; rotate_left; focus (intro w' hSw; go_simp; try with_reducible rfl); (try simp only [Act.put]); (try simp only [List.getElem_toArray]); (try simp only [List.getElem_cons_succ]); (try simp only [List.getElem_cons_zero]); (try simp only [List.setIfInBounds_toArray]); (try simp only [List.set_cons_succ]); (try simp only [List.set_cons_zero]))
    (refine wpAnyH_take (i := 3) (v := .agg cs) rfl (by kernel_rfl) (by kernel_rfl) (by kernel_rfl) (fun _ _ _ h => h) (yieldsIf_load_row (by rfl) 26 _ rfl _ rfl 26 cs _ _ (fun w' hw' => Blk.ext hT2.out hw') Try.underlying26 rfl hi) (by assumption) ?_; (try simp only [Act.put]); (try simp only [List.getElem_toArray]); (try simp only [List.getElem_cons_succ]); (try simp only [List.getElem_cons_zero]); (try simp only [List.setIfInBounds_toArray]); (try simp only [List.set_cons_succ]); (try simp only [List.set_cons_zero]))
    (refine wpAnyH_take (i := 4) (v := ?_) rfl (by kernel_rfl) (by kernel_rfl) (by kernel_rfl) (fun _ _ _ h => h) (Or.inl ⟨by rfl, ?_⟩) (by assumption) ?_; rotate_left; focus (intro w' hSw; go_simp; try with_reducible rfl); (try simp only [Act.put]); (try simp only [List.getElem_toArray]); (try simp only [List.getElem_cons_succ]); (try simp only [List.getElem_cons_zero]); (try simp only [List.setIfInBounds_toArray]); (try simp only [List.set_cons_succ]); (try simp only [List.set_cons_zero]))
    (refine wpAnyH_ready (rs := [2]) (by kernel_rfl) (by simp) ?_; refine AllReadyH.cons rfl (fun K hK => ?_) AllReadyH.nil; go_simp; go_at_call 15; refine (h8 _).mono ?_; rintro e w3 ⟨rfl, E3⟩; (try dsimp only); refine hK.out _ _ (by repeat (first | with_reducible exact Ext.refl _ | refine Ext.drewN ?_ _ | refine Ext.drew ?_ | refine Ext.alloc ?_ _ | assumption | (refine Below.trans ?_ (by assumption)) | (refine Ext.trans ?_ (by assumption)) | (refine Below.trans ?_ (Below.mono (by assumption) (by omega))))) (fun hHeld => ?_); clear hK K; (try simp only [Act.put]); (try simp only [List.getElem_toArray]); (try simp only [List.getElem_cons_succ]); (try simp only [List.getElem_cons_zero]); (try simp only [List.setIfInBounds_toArray]); (try simp only [List.set_cons_succ]); (try simp only [List.set_cons_zero]))
    (refine wpAnyH_ready (rs := [5]) (by kernel_rfl) (by simp) ?_; refine AllReadyH.cons rfl (fun K hK => ?_) AllReadyH.nil; go_simp; go_at_call 15; refine (h9 _).mono ?_; rintro e w4 ⟨rfl, E4⟩; (try dsimp only); refine hK.out _ _ (by repeat (first | with_reducible exact Ext.refl _ | refine Ext.drewN ?_ _ | refine Ext.drew ?_ | refine Ext.alloc ?_ _ | assumption | (refine Below.trans ?_ (by assumption)) | (refine Ext.trans ?_ (by assumption)) | (refine Below.trans ?_ (Below.mono (by assumption) (by omega))))) (fun hHeld => ?_); clear hK K; (try simp only [Act.put]); (try simp only [List.getElem_toArray]); (try simp only [List.getElem_cons_succ]); (try simp only [List.getElem_cons_zero]); (try simp only [List.setIfInBounds_toArray]); (try simp only [List.set_cons_succ]); (try simp only [List.set_cons_zero]))
    (refine wpAnyH_take (i := 6) (v := ?_) rfl (by kernel_rfl) (by kernel_rfl) (by kernel_rfl) (fun _ _ _ h => h) (Or.inl ⟨by rfl, ?_⟩) (by assumption) ?_; rotate_left; focus (intro w' hSw; go_simp; try with_reducible rfl); (try simp only [Act.put]); (try simp only [List.getElem_toArray]); (try simp only [List.getElem_cons_succ]); (try simp only [List.getElem_cons_zero]); (try simp only [List.setIfInBounds_toArray]); (try simp only [List.set_cons_succ]); (try simp only [List.set_cons_zero]))
    (refine wpAnyH_take (i := 7) (v := ?_) rfl (by kernel_rfl) (by kernel_rfl) (by kernel_rfl) (fun _ _ _ h => h) (Or.inl ⟨by rfl, ?_⟩) (by assumption) ?_; rotate_left; focus (intro w' hSw; go_simp; try with_reducible rfl); (try simp only [Act.put]); (try simp only [List.getElem_toArray]); (try simp only [List.getElem_cons_succ]); (try simp only [List.getElem_cons_zero]); (try simp only [List.setIfInBounds_toArray]); (try simp only [List.set_cons_succ]); (try simp only [List.set_cons_zero]))
    refine wpAnyH_done (by kernel_rfl) ?_ _
    have E24 : Ext w2 w4 := (by repeat (first | with_reducible exact Ext.refl _ | refine Ext.drewN ?_ _ | refine Ext.drew ?_ | refine Ext.alloc ?_ _ | assumption | (refine Below.trans ?_ (by assumption)) | (refine Ext.trans ?_ (by assumption)) | (refine Below.trans ?_ (Below.mono (by assumption) (by omega)))))
    have hL4 := Lib.hid (hL2.out.ext E24)
    have hT4 := Lib.hid (hT2.out.ext E24)
    have hR4 := Lib.hid (hR2.out.ext E24)
    have E04 : Ext w w4 := E02.trans E24
    have hg0 : w.heap.size ≤ g := by omega
    clear hL2 hT2 hR2 E3 E4 E24 E02 hHeld
    cases p
    · cases q
      · cases y
        ·
          go_wp2_with (first
            | ((go_at_call 20; refine (nothing_any _ (hL4.out.ext E45)).mono ?_; rintro e w5 ⟨rfl, hL5, M5⟩); have hR5 := (hR4.out.ext E45).mod M5 (by omega); have l0 := hL5.cell 0; rw [lineA_0] at l0; have l1 := hL5.cell 1; rw [lineA_1] at l1; obtain ⟨r0, r1, r2, r3⟩ := hR5.two)
            | (refine wpList_load_row rfl 26 _ rfl _ rfl 26 _ _ _ hT4.out Try.underlying26 rfl hi ?_)
            | ((go_at_call 16; refine (h39 _).mono ?_; rintro e w45 ⟨rfl, E45⟩)))
          have hP := (hR5.put2 (.bool a) (.bool b)).two
          refine bodyPost_ret (v := .tuple #[.agg #[.bool a, .bool b], .bool false]) (by simp [results, Try.results8, go_sem, hP.1, hP.2.1]) rfl ?_
          have E5 := Ext.modNew (E04.trans E45) M5 hg0
          exact ⟨by simp, Below.setCell (Below.setCell E5 (by simp; omega) _) (by simp; omega) _⟩
        ·
          go_wp2_with (first
            | ((go_at_call 23; refine (start_any _ (hL4.out.ext E45)).mono ?_; rintro e w5 ⟨rfl, hL5, M5⟩); have hR5 := (hR4.out.ext E45).mod M5 (by omega); have l0 := hL5.cell 0; rw [lineA_0] at l0; have l1 := hL5.cell 1; rw [lineA_1] at l1; obtain ⟨r0, r1, r2, r3⟩ := hR5.two)
            | (refine wpList_load_row rfl 26 _ rfl _ rfl 26 _ _ _ hT4.out Try.underlying26 rfl hi ?_)
            | ((go_at_call 16; refine (h39 _).mono ?_; rintro e w45 ⟨rfl, E45⟩)))
          have hP := (hR5.put2 (.bool false) (.bool b)).two
          refine bodyPost_ret (v := .tuple #[.agg #[.bool false, .bool b], .bool false]) (by simp [results, Try.results8, go_sem, hP.1, hP.2.1]) rfl ?_
          have E5 := Ext.modNew (E04.trans E45) M5 hg0
          exact ⟨by simp, Below.setCell (Below.setCell E5 (by simp; omega) _) (by simp; omega) _⟩
      ·
        go_wp2_with (first
          | ((go_at_call 22; refine (stop_any _ (hL4.out.ext (Ext.refl _))).mono ?_; rintro e w5 ⟨rfl, hL5, M5⟩); have hR5 := (hR4.out.ext (Ext.refl _)).mod M5 (by omega); have l0 := hL5.cell 0; rw [lineA_0] at l0; have l1 := hL5.cell 1; rw [lineA_1] at l1; obtain ⟨r0, r1, r2, r3⟩ := hR5.two)
          | (refine wpList_load_row rfl 26 _ rfl _ rfl 26 _ _ _ hT4.out Try.underlying26 rfl hi ?_)
          | ((go_at_call 16; refine (h39 _).mono ?_; rintro e w45 ⟨rfl, E45⟩)))
        have hP := (hR5.put2 (.bool true) (.bool b)).two
        refine bodyPost_ret (v := .tuple #[.agg #[.bool true, .bool b], .bool true]) (by simp [results, Try.results8, go_sem, hP.1, hP.2.1]) rfl ?_
        have E5 := Ext.modNew (E04.trans (Ext.refl _)) M5 hg0
        exact ⟨by simp, Below.setCell (Below.setCell E5 (by simp; omega) _) (by simp; omega) _⟩
    · cases q
      ·
        go_wp2_with (first
          | ((go_at_call 23; refine (start_any _ (hL4.out.ext (Ext.refl _))).mono ?_; rintro e w5 ⟨rfl, hL5, M5⟩); have hR5 := (hR4.out.ext (Ext.refl _)).mod M5 (by omega); have l0 := hL5.cell 0; rw [lineA_0] at l0; have l1 := hL5.cell 1; rw [lineA_1] at l1; obtain ⟨r0, r1, r2, r3⟩ := hR5.two)
          | (refine wpList_load_row rfl 26 _ rfl _ rfl 26 _ _ _ hT4.out Try.underlying26 rfl hi ?_)
          | ((go_at_call 16; refine (h39 _).mono ?_; rintro e w45 ⟨rfl, E45⟩)))
        have hP := (hR5.put2 (.bool false) (.bool b)).two
        refine bodyPost_ret (v := .tuple #[.agg #[.bool false, .bool b], .bool true]) (by simp [results, Try.results8, go_sem, hP.1, hP.2.1]) rfl ?_
        have E5 := Ext.modNew (E04.trans (Ext.refl _)) M5 hg0
        exact ⟨by simp, Below.setCell (Below.setCell E5 (by simp; omega) _) (by simp; omega) _⟩
      ·
        go_wp2_with (first
          | ((go_at_call 21; refine (turn_any _ (hL4.out.ext (Ext.refl _))).mono ?_; rintro e w5 ⟨rfl, hL5, M5⟩); have hR5 := (hR4.out.ext (Ext.refl _)).mod M5 (by omega); have l0 := hL5.cell 0; rw [lineA_0] at l0; have l1 := hL5.cell 1; rw [lineA_1] at l1; obtain ⟨r0, r1, r2, r3⟩ := hR5.two)
          | (refine wpList_load_row rfl 26 _ rfl _ rfl 26 _ _ _ hT4.out Try.underlying26 rfl hi ?_)
          | ((go_at_call 16; refine (h39 _).mono ?_; rintro e w45 ⟨rfl, E45⟩)))
        have hP := (hR5.put2 (.bool (!a)) (.bool b)).two
        refine bodyPost_ret (v := .tuple #[.agg #[.bool (!a), .bool b], .bool true]) (by simp [results, Try.results8, go_sem, hP.1, hP.2.1]) rfl ?_
        have E5 := Ext.modNew (E04.trans (Ext.refl _)) M5 hg0
        exact ⟨by simp, Below.setCell (Below.setCell E5 (by simp; omega) _) (by simp; omega) _⟩
end Go.Proofs.Ytiknogkopfhoiaa
