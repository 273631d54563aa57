/- What marks do to a flow, by contract. Conditions: the setting is one. -/
import Derived.Test.YtiknogkopfhoiaaC15
namespace Go.Proofs.Ytiknogkopfhoiaa
open Go.RowKit Go.Kb

/-- held, and what the other end is told -/
def markL (t : Tm) (b : Bool) (n lo hi : Int) : Bool × List Int :=
  if b then (if n ≤ lo then (false, if hasL t 40 then tellL t 8 else []) else (true, []))
  else (if hasL t 40 = true ∧ hi ≤ n then (true, tellL t 9) else (false, []))
theorem markL_eq (t : Tm) (b : Bool) (n lo hi : Int) : markL t b n lo hi = if b then (if n ≤ lo then (false, if hasL t 40 then tellL t 8 else []) else (true, []))
  else (if hasL t 40 = true ∧ hi ≤ n then (true, tellL t 9) else (false, [])) := rfl
def MarkPost (w : World) (a b : Bool) (l : List Int) (e : Ending) (w' : World) : Prop :=
  ∃ A c, e = .returned (.tuple #[.agg #[.bool a, .bool b], .slice A l.length c]) ∧ RI .u8 w' (.slice A l.length c) l ∧ (∀ k, (Value.slice A l.length c).ownBlock = some k → w.heap.size ≤ k) ∧ Ext w w'
set_option maxHeartbeats 800000 in
theorem mark_any (t : Tm) (a b : Bool) (n lo hi : Int) (w : World) (ht : t.Ok) :
    Calls Try.prog 10 #[.agg t.arr, .agg #[.bool a, .bool b], .int .i64 n, .int .i64 lo, .int .i64 hi] w (MarkPost w a (markL t b n lo hi).1 (markL t b n lo hi).2) := by
  have hn := t.size ht
  have h40 := fun w' => has_any t 40 w' ht
  have hH := fun (g : Nat) (a b : Bool) (w' : World) h => holdIn_any (g := g) (a := a) (b := b) t w' ht h
  have hG := fun (g : Nat) (a b : Bool) (w' : World) h => goOnIn_any (g := g) (a := a) (b := b) t w' ht h
  rw [markL_eq]
  generalize hasL t 40 = x at *
  generalize tellL t 9 = l9 at *
  generalize tellL t 8 = l8 at *
  generalize t.arr = cs at *
  clear ht
  have hi' : (Try.prog.info? 26).map (·.size) = some cs.size := by rw [hn]; kernel_rfl
  cases b
  · cases x
    · show Calls _ _ _ _ (MarkPost w a false [])
      have hbl := Lib.hid (built_line a false cs hn)
      have hT := Lib.hid (((Blk.new w 26 cs).alloc (.cells #[.bool a, .bool false] 32)).alloc (.cells #[.bool false, .bool false] 32))
      have hF := Lib.hid ((Blk.at_ (w := w.alloc (.cells cs 26)) (B := w.heap.size + 1) 32 #[.bool a, .bool false] (by simp)).alloc (.cells #[.bool false, .bool false] 32))
      have hR := Lib.hid (Blk.at_ (w := (w.alloc (.cells cs 26)).alloc (.cells #[.bool a, .bool false] 32)) (B := w.heap.size + 1 + 1) 32 #[.bool false, .bool false] (by simp))
      have HN := Lib.hid hn
      clear hn
      obtain ⟨f0, f1, f2, f3⟩ := hF.out.two
      go_enter Try.func10, Try.ntmps10
      go_wp2_with (first
        | (refine wpList_load_row rfl 26 _ rfl _ rfl 26 _ _ _ hT.out Try.underlying26 rfl hi' ?_)
        | (refine wpList_build_eq rfl 64 _ rfl (L := lineA a false cs (.slice none 0 0)) (by (try simp [go_sem]); exact hbl.out) ?_; have hT2 := hT.out.alloc (.cells (lineA a false cs (.slice none 0 0)) 64))
        | (refine wpList_load_row rfl 26 _ rfl _ rfl 26 _ _ _ hT2 Try.underlying26 rfl hi' ?_))
      refine (h40 _).mono ?_
      rintro e w1 ⟨rfl, E1⟩
      have hF1 := (hF.out.alloc (.cells (lineA a false cs (.slice none 0 0)) 64)).ext E1
      have hR1 := (hR.out.alloc (.cells (lineA a false cs (.slice none 0 0)) 64)).ext E1
      have hL1 := (Blk.at_ (w := ((w.alloc (.cells cs 26)).alloc (.cells #[.bool a, .bool false] 32)).alloc (.cells #[.bool false, .bool false] 32)) (B := w.heap.size + 1 + 1 + 1) 64 (lineA a false cs (.slice none 0 0)) (by simp)).ext E1
      have E01 : Ext w w1 := (by repeat (first | with_reducible exact Ext.refl _ | refine Ext.drewN ?_ _ | refine Ext.drew ?_ | refine Ext.alloc ?_ _ | assumption | (refine Below.trans ?_ (by assumption)) | (refine Ext.trans ?_ (by assumption)) | (refine Below.trans ?_ (Below.mono (by assumption) (by omega)))))
      have hg : w.heap.size + 1 + 1 + 1 < w1.heap.size := hL1.lt
      clear f0 f1 f2 f3 E1 hT hF hR
      obtain ⟨f0, f1, f2, f3⟩ := hF1.two
      have m1 := hL1.cell 1
      have m1f := hL1.frozen 1
      rw [lineA_1] at m1
      clear hF1
      go_wp2
      have hLz := hL1
      have hRz := hR1
      have E0z := E01
      have ROz := Lib.hid (RdN.nil w1 1)
      have FRz : ∀ k, (Value.slice none 0 0).ownBlock = some k → w.heap.size ≤ k := fun k hk => by simp [Value.ownBlock] at hk
      have FRw : ∀ k, (Value.slice none 0 0).ownBlock = some k → w1.heap.size ≤ k := fun k hk => by simp [Value.ownBlock] at hk
      have l0 := hLz.cell 0
      rw [lineA_0] at l0
      have l1 := hLz.cell 1
      rw [lineA_1] at l1
      have l26 := hLz.cell 26
      rw [lineA_26 HN.out] at l26
      obtain ⟨r0, r1, r2, r3⟩ := hRz.two
      go_region_law (fail)
      all_goals go_wp2
      all_goals
        have hP := (Blk.drew (hRz.put2 (.bool a) (.bool false))).two
        refine bodyPost_ret (v := .tuple #[.agg #[.bool a, .bool false], .slice none (([] : List Int)).length 0]) (by simp [results, Try.results10, go_sem, hP.1, hP.2.1]) rfl ?_
        refine ⟨none, 0, rfl, ?_, FRz, Ext.drew (Below.setCell (Below.setCell E0z (by simp; omega) _) (by simp; omega) _)⟩
        exact RdN.mod (S := fun k => k = w.heap.size + 1 + 1) ROz.out (((Mod.refl _ _).set1 _).set1 _).drew (fun k hk he => by have := FRw k hk; omega)
    · by_cases hge : hi ≤ n
      · have e : (if (true : Bool) = true ∧ hi ≤ n then (true, l9) else (false, [])) = (true, l9) := if_pos ⟨rfl, hge⟩
        show Calls _ _ _ _ (MarkPost w a (if (true : Bool) = true ∧ hi ≤ n then (true, l9) else (false, [])).1 (if (true : Bool) = true ∧ hi ≤ n then (true, l9) else (false, [])).2)
        rw [e]
        clear e
        have hbl := Lib.hid (built_line a false cs hn)
        have hT := Lib.hid (((Blk.new w 26 cs).alloc (.cells #[.bool a, .bool false] 32)).alloc (.cells #[.bool false, .bool false] 32))
        have hF := Lib.hid ((Blk.at_ (w := w.alloc (.cells cs 26)) (B := w.heap.size + 1) 32 #[.bool a, .bool false] (by simp)).alloc (.cells #[.bool false, .bool false] 32))
        have hR := Lib.hid (Blk.at_ (w := (w.alloc (.cells cs 26)).alloc (.cells #[.bool a, .bool false] 32)) (B := w.heap.size + 1 + 1) 32 #[.bool false, .bool false] (by simp))
        have HN := Lib.hid hn
        clear hn
        obtain ⟨f0, f1, f2, f3⟩ := hF.out.two
        go_enter Try.func10, Try.ntmps10
        go_wp2_with (first
          | (refine wpList_load_row rfl 26 _ rfl _ rfl 26 _ _ _ hT.out Try.underlying26 rfl hi' ?_)
          | (refine wpList_build_eq rfl 64 _ rfl (L := lineA a false cs (.slice none 0 0)) (by (try simp [go_sem]); exact hbl.out) ?_; have hT2 := hT.out.alloc (.cells (lineA a false cs (.slice none 0 0)) 64))
          | (refine wpList_load_row rfl 26 _ rfl _ rfl 26 _ _ _ hT2 Try.underlying26 rfl hi' ?_))
        refine (h40 _).mono ?_
        rintro e w1 ⟨rfl, E1⟩
        have hF1 := (hF.out.alloc (.cells (lineA a false cs (.slice none 0 0)) 64)).ext E1
        have hR1 := (hR.out.alloc (.cells (lineA a false cs (.slice none 0 0)) 64)).ext E1
        have hL1 := (Blk.at_ (w := ((w.alloc (.cells cs 26)).alloc (.cells #[.bool a, .bool false] 32)).alloc (.cells #[.bool false, .bool false] 32)) (B := w.heap.size + 1 + 1 + 1) 64 (lineA a false cs (.slice none 0 0)) (by simp)).ext E1
        have E01 : Ext w w1 := (by repeat (first | with_reducible exact Ext.refl _ | refine Ext.drewN ?_ _ | refine Ext.drew ?_ | refine Ext.alloc ?_ _ | assumption | (refine Below.trans ?_ (by assumption)) | (refine Ext.trans ?_ (by assumption)) | (refine Below.trans ?_ (Below.mono (by assumption) (by omega)))))
        have hg : w.heap.size + 1 + 1 + 1 < w1.heap.size := hL1.lt
        clear f0 f1 f2 f3 E1 hT hF hR
        obtain ⟨f0, f1, f2, f3⟩ := hF1.two
        have m1 := hL1.cell 1
        have m1f := hL1.frozen 1
        rw [lineA_1] at m1
        clear hF1
        have hL2 := hL1.set_ 1 (.bool true)
        rw [lineA_set1] at hL2
        have hR2 := hR1.far (p := ⟨w.heap.size + 1 + 1 + 1, 1, none⟩) (by simp) (.bool true)
        have E02 := Below.setCell E01 (p := ⟨w.heap.size + 1 + 1 + 1, 1, none⟩) (by simp; omega) (.bool true)
        have hs2 : (w1.setCell ⟨w.heap.size + 1 + 1 + 1, 1, none⟩ (.bool true)).heap.size = w1.heap.size := by simp
        go_wp2_with fail
        refine (hH _ a true _ hL2).mono ?_
        rintro e w3 ⟨rfl, A, c, hLz, RO, FRw, M3⟩
        have ROz := Lib.hid RO
        rw [hs2] at FRw
        have hRz := hR2.mod M3 (by omega)
        have E0z := Ext.modNew E02 M3 (by omega)
        have FRz : ∀ k, (Value.slice A (l9).length c).ownBlock = some k → w.heap.size ≤ k := fun k hk => Nat.le_trans (by omega) (FRw k hk)
        clear RO M3 hL2 hR2 E02 m1 m1f f0 f1 f2 f3
        go_wp2_with fail
        have l0 := hLz.cell 0
        rw [lineA_0] at l0
        have l1 := hLz.cell 1
        rw [lineA_1] at l1
        have l26 := hLz.cell 26
        rw [lineA_26 HN.out] at l26
        obtain ⟨r0, r1, r2, r3⟩ := hRz.two
        go_region_law (fail)
        all_goals go_wp2
        all_goals
          have hP := (Blk.drew (hRz.put2 (.bool a) (.bool true))).two
          refine bodyPost_ret (v := .tuple #[.agg #[.bool a, .bool true], .slice A (l9).length c]) (by simp [results, Try.results10, go_sem, hP.1, hP.2.1]) rfl ?_
          refine ⟨A, c, rfl, ?_, FRz, Ext.drew (Below.setCell (Below.setCell E0z (by simp; omega) _) (by simp; omega) _)⟩
          exact RdN.mod (S := fun k => k = w.heap.size + 1 + 1) ROz.out (((Mod.refl _ _).set1 _).set1 _).drew (fun k hk he => by have := FRw k hk; omega)
      · have e : (if (true : Bool) = true ∧ hi ≤ n then (true, l9) else (false, [])) = (false, []) := if_neg fun h => hge h.2
        show Calls _ _ _ _ (MarkPost w a (if (true : Bool) = true ∧ hi ≤ n then (true, l9) else (false, [])).1 (if (true : Bool) = true ∧ hi ≤ n then (true, l9) else (false, [])).2)
        rw [e]
        clear e
        have hbl := Lib.hid (built_line a false cs hn)
        have hT := Lib.hid (((Blk.new w 26 cs).alloc (.cells #[.bool a, .bool false] 32)).alloc (.cells #[.bool false, .bool false] 32))
        have hF := Lib.hid ((Blk.at_ (w := w.alloc (.cells cs 26)) (B := w.heap.size + 1) 32 #[.bool a, .bool false] (by simp)).alloc (.cells #[.bool false, .bool false] 32))
        have hR := Lib.hid (Blk.at_ (w := (w.alloc (.cells cs 26)).alloc (.cells #[.bool a, .bool false] 32)) (B := w.heap.size + 1 + 1) 32 #[.bool false, .bool false] (by simp))
        have HN := Lib.hid hn
        clear hn
        obtain ⟨f0, f1, f2, f3⟩ := hF.out.two
        go_enter Try.func10, Try.ntmps10
        go_wp2_with (first
          | (refine wpList_load_row rfl 26 _ rfl _ rfl 26 _ _ _ hT.out Try.underlying26 rfl hi' ?_)
          | (refine wpList_build_eq rfl 64 _ rfl (L := lineA a false cs (.slice none 0 0)) (by (try simp [go_sem]); exact hbl.out) ?_; have hT2 := hT.out.alloc (.cells (lineA a false cs (.slice none 0 0)) 64))
          | (refine wpList_load_row rfl 26 _ rfl _ rfl 26 _ _ _ hT2 Try.underlying26 rfl hi' ?_))
        refine (h40 _).mono ?_
        rintro e w1 ⟨rfl, E1⟩
        have hF1 := (hF.out.alloc (.cells (lineA a false cs (.slice none 0 0)) 64)).ext E1
        have hR1 := (hR.out.alloc (.cells (lineA a false cs (.slice none 0 0)) 64)).ext E1
        have hL1 := (Blk.at_ (w := ((w.alloc (.cells cs 26)).alloc (.cells #[.bool a, .bool false] 32)).alloc (.cells #[.bool false, .bool false] 32)) (B := w.heap.size + 1 + 1 + 1) 64 (lineA a false cs (.slice none 0 0)) (by simp)).ext E1
        have E01 : Ext w w1 := (by repeat (first | with_reducible exact Ext.refl _ | refine Ext.drewN ?_ _ | refine Ext.drew ?_ | refine Ext.alloc ?_ _ | assumption | (refine Below.trans ?_ (by assumption)) | (refine Ext.trans ?_ (by assumption)) | (refine Below.trans ?_ (Below.mono (by assumption) (by omega)))))
        have hg : w.heap.size + 1 + 1 + 1 < w1.heap.size := hL1.lt
        clear f0 f1 f2 f3 E1 hT hF hR
        obtain ⟨f0, f1, f2, f3⟩ := hF1.two
        have m1 := hL1.cell 1
        have m1f := hL1.frozen 1
        rw [lineA_1] at m1
        clear hF1
        go_wp2
        have hLz := hL1
        have hRz := hR1
        have E0z := E01
        have ROz := Lib.hid (RdN.nil w1 1)
        have FRz : ∀ k, (Value.slice none 0 0).ownBlock = some k → w.heap.size ≤ k := fun k hk => by simp [Value.ownBlock] at hk
        have FRw : ∀ k, (Value.slice none 0 0).ownBlock = some k → w1.heap.size ≤ k := fun k hk => by simp [Value.ownBlock] at hk
        have l0 := hLz.cell 0
        rw [lineA_0] at l0
        have l1 := hLz.cell 1
        rw [lineA_1] at l1
        have l26 := hLz.cell 26
        rw [lineA_26 HN.out] at l26
        obtain ⟨r0, r1, r2, r3⟩ := hRz.two
        go_region_law (fail)
        all_goals go_wp2
        all_goals
          have hP := (Blk.drew (hRz.put2 (.bool a) (.bool false))).two
          refine bodyPost_ret (v := .tuple #[.agg #[.bool a, .bool false], .slice none (([] : List Int)).length 0]) (by simp [results, Try.results10, go_sem, hP.1, hP.2.1]) rfl ?_
          refine ⟨none, 0, rfl, ?_, FRz, Ext.drew (Below.setCell (Below.setCell E0z (by simp; omega) _) (by simp; omega) _)⟩
          exact RdN.mod (S := fun k => k = w.heap.size + 1 + 1) ROz.out (((Mod.refl _ _).set1 _).set1 _).drew (fun k hk he => by have := FRw k hk; omega)
  · by_cases hle : n ≤ lo
    · have e : (if n ≤ lo then (false, if x then l8 else []) else (true, [])) = (false, if x then l8 else []) := if_pos hle
      show Calls _ _ _ _ (MarkPost w a (if n ≤ lo then (false, if x then l8 else []) else (true, [])).1 (if n ≤ lo then (false, if x then l8 else []) else (true, [])).2)
      rw [e]
      clear e
      cases x
      · show Calls _ _ _ _ (MarkPost w a false [])
        have hbl := Lib.hid (built_line a true cs hn)
        have hT := Lib.hid (((Blk.new w 26 cs).alloc (.cells #[.bool a, .bool true] 32)).alloc (.cells #[.bool false, .bool false] 32))
        have hF := Lib.hid ((Blk.at_ (w := w.alloc (.cells cs 26)) (B := w.heap.size + 1) 32 #[.bool a, .bool true] (by simp)).alloc (.cells #[.bool false, .bool false] 32))
        have hR := Lib.hid (Blk.at_ (w := (w.alloc (.cells cs 26)).alloc (.cells #[.bool a, .bool true] 32)) (B := w.heap.size + 1 + 1) 32 #[.bool false, .bool false] (by simp))
        have HN := Lib.hid hn
        clear hn
        obtain ⟨f0, f1, f2, f3⟩ := hF.out.two
        go_enter Try.func10, Try.ntmps10
        go_wp2_with (first
          | (refine wpList_load_row rfl 26 _ rfl _ rfl 26 _ _ _ hT.out Try.underlying26 rfl hi' ?_)
          | (refine wpList_build_eq rfl 64 _ rfl (L := lineA a true cs (.slice none 0 0)) (by (try simp [go_sem]); exact hbl.out) ?_; have hT2 := hT.out.alloc (.cells (lineA a true cs (.slice none 0 0)) 64))
          | (refine wpList_load_row rfl 26 _ rfl _ rfl 26 _ _ _ hT2 Try.underlying26 rfl hi' ?_))
        refine (h40 _).mono ?_
        rintro e w1 ⟨rfl, E1⟩
        have hF1 := (hF.out.alloc (.cells (lineA a true cs (.slice none 0 0)) 64)).ext E1
        have hR1 := (hR.out.alloc (.cells (lineA a true cs (.slice none 0 0)) 64)).ext E1
        have hL1 := (Blk.at_ (w := ((w.alloc (.cells cs 26)).alloc (.cells #[.bool a, .bool true] 32)).alloc (.cells #[.bool false, .bool false] 32)) (B := w.heap.size + 1 + 1 + 1) 64 (lineA a true cs (.slice none 0 0)) (by simp)).ext E1
        have E01 : Ext w w1 := (by repeat (first | with_reducible exact Ext.refl _ | refine Ext.drewN ?_ _ | refine Ext.drew ?_ | refine Ext.alloc ?_ _ | assumption | (refine Below.trans ?_ (by assumption)) | (refine Ext.trans ?_ (by assumption)) | (refine Below.trans ?_ (Below.mono (by assumption) (by omega)))))
        have hg : w.heap.size + 1 + 1 + 1 < w1.heap.size := hL1.lt
        clear f0 f1 f2 f3 E1 hT hF hR
        obtain ⟨f0, f1, f2, f3⟩ := hF1.two
        have m1 := hL1.cell 1
        have m1f := hL1.frozen 1
        rw [lineA_1] at m1
        clear hF1
        go_wp2
        have hLz := hL1.set_ 1 (.bool false)
        rw [lineA_set1] at hLz
        have hRz := hR1.far (p := ⟨w.heap.size + 1 + 1 + 1, 1, none⟩) (by simp) (.bool false)
        have E0z := Below.setCell E01 (p := ⟨w.heap.size + 1 + 1 + 1, 1, none⟩) (by simp; omega) (.bool false)
        clear m1 m1f
        have ROz := Lib.hid (RdN.nil (w1.setCell ⟨w.heap.size + 1 + 1 + 1, 1, none⟩ (.bool false)) 1)
        have FRz : ∀ k, (Value.slice none 0 0).ownBlock = some k → w.heap.size ≤ k := fun k hk => by simp [Value.ownBlock] at hk
        have FRw : ∀ k, (Value.slice none 0 0).ownBlock = some k → w1.heap.size ≤ k := fun k hk => by simp [Value.ownBlock] at hk
        have l0 := hLz.cell 0
        rw [lineA_0] at l0
        have l1 := hLz.cell 1
        rw [lineA_1] at l1
        have l26 := hLz.cell 26
        rw [lineA_26 HN.out] at l26
        obtain ⟨r0, r1, r2, r3⟩ := hRz.two
        go_region_law (fail)
        all_goals go_wp2
        all_goals
          have hP := (Blk.drew (hRz.put2 (.bool a) (.bool false))).two
          refine bodyPost_ret (v := .tuple #[.agg #[.bool a, .bool false], .slice none (([] : List Int)).length 0]) (by simp [results, Try.results10, go_sem, hP.1, hP.2.1]) rfl ?_
          refine ⟨none, 0, rfl, ?_, FRz, Ext.drew (Below.setCell (Below.setCell E0z (by simp; omega) _) (by simp; omega) _)⟩
          exact RdN.mod (S := fun k => k = w.heap.size + 1 + 1) ROz.out (((Mod.refl _ _).set1 _).set1 _).drew (fun k hk he => by have := FRw k hk; omega)
      · show Calls _ _ _ _ (MarkPost w a false l8)
        have hbl := Lib.hid (built_line a true cs hn)
        have hT := Lib.hid (((Blk.new w 26 cs).alloc (.cells #[.bool a, .bool true] 32)).alloc (.cells #[.bool false, .bool false] 32))
        have hF := Lib.hid ((Blk.at_ (w := w.alloc (.cells cs 26)) (B := w.heap.size + 1) 32 #[.bool a, .bool true] (by simp)).alloc (.cells #[.bool false, .bool false] 32))
        have hR := Lib.hid (Blk.at_ (w := (w.alloc (.cells cs 26)).alloc (.cells #[.bool a, .bool true] 32)) (B := w.heap.size + 1 + 1) 32 #[.bool false, .bool false] (by simp))
        have HN := Lib.hid hn
        clear hn
        obtain ⟨f0, f1, f2, f3⟩ := hF.out.two
        go_enter Try.func10, Try.ntmps10
        go_wp2_with (first
          | (refine wpList_load_row rfl 26 _ rfl _ rfl 26 _ _ _ hT.out Try.underlying26 rfl hi' ?_)
          | (refine wpList_build_eq rfl 64 _ rfl (L := lineA a true cs (.slice none 0 0)) (by (try simp [go_sem]); exact hbl.out) ?_; have hT2 := hT.out.alloc (.cells (lineA a true cs (.slice none 0 0)) 64))
          | (refine wpList_load_row rfl 26 _ rfl _ rfl 26 _ _ _ hT2 Try.underlying26 rfl hi' ?_))
        refine (h40 _).mono ?_
        rintro e w1 ⟨rfl, E1⟩
        have hF1 := (hF.out.alloc (.cells (lineA a true cs (.slice none 0 0)) 64)).ext E1
        have hR1 := (hR.out.alloc (.cells (lineA a true cs (.slice none 0 0)) 64)).ext E1
        have hL1 := (Blk.at_ (w := ((w.alloc (.cells cs 26)).alloc (.cells #[.bool a, .bool true] 32)).alloc (.cells #[.bool false, .bool false] 32)) (B := w.heap.size + 1 + 1 + 1) 64 (lineA a true cs (.slice none 0 0)) (by simp)).ext E1
        have E01 : Ext w w1 := (by repeat (first | with_reducible exact Ext.refl _ | refine Ext.drewN ?_ _ | refine Ext.drew ?_ | refine Ext.alloc ?_ _ | assumption | (refine Below.trans ?_ (by assumption)) | (refine Ext.trans ?_ (by assumption)) | (refine Below.trans ?_ (Below.mono (by assumption) (by omega)))))
        have hg : w.heap.size + 1 + 1 + 1 < w1.heap.size := hL1.lt
        clear f0 f1 f2 f3 E1 hT hF hR
        obtain ⟨f0, f1, f2, f3⟩ := hF1.two
        have m1 := hL1.cell 1
        have m1f := hL1.frozen 1
        rw [lineA_1] at m1
        clear hF1
        have hL2 := hL1.set_ 1 (.bool false)
        rw [lineA_set1] at hL2
        have hR2 := hR1.far (p := ⟨w.heap.size + 1 + 1 + 1, 1, none⟩) (by simp) (.bool false)
        have E02 := Below.setCell E01 (p := ⟨w.heap.size + 1 + 1 + 1, 1, none⟩) (by simp; omega) (.bool false)
        have hs2 : (w1.setCell ⟨w.heap.size + 1 + 1 + 1, 1, none⟩ (.bool false)).heap.size = w1.heap.size := by simp
        go_wp2_with fail
        refine (hG _ a false _ hL2).mono ?_
        rintro e w3 ⟨rfl, A, c, hLz, RO, FRw, M3⟩
        have ROz := Lib.hid RO
        rw [hs2] at FRw
        have hRz := hR2.mod M3 (by omega)
        have E0z := Ext.modNew E02 M3 (by omega)
        have FRz : ∀ k, (Value.slice A (l8).length c).ownBlock = some k → w.heap.size ≤ k := fun k hk => Nat.le_trans (by omega) (FRw k hk)
        clear RO M3 hL2 hR2 E02 m1 m1f f0 f1 f2 f3
        go_wp2_with fail
        have l0 := hLz.cell 0
        rw [lineA_0] at l0
        have l1 := hLz.cell 1
        rw [lineA_1] at l1
        have l26 := hLz.cell 26
        rw [lineA_26 HN.out] at l26
        obtain ⟨r0, r1, r2, r3⟩ := hRz.two
        go_region_law (fail)
        all_goals go_wp2
        all_goals
          have hP := (Blk.drew (hRz.put2 (.bool a) (.bool false))).two
          refine bodyPost_ret (v := .tuple #[.agg #[.bool a, .bool false], .slice A (l8).length c]) (by simp [results, Try.results10, go_sem, hP.1, hP.2.1]) rfl ?_
          refine ⟨A, c, rfl, ?_, FRz, Ext.drew (Below.setCell (Below.setCell E0z (by simp; omega) _) (by simp; omega) _)⟩
          exact RdN.mod (S := fun k => k = w.heap.size + 1 + 1) ROz.out (((Mod.refl _ _).set1 _).set1 _).drew (fun k hk he => by have := FRw k hk; omega)
    · have e : (if n ≤ lo then (false, if x then l8 else []) else (true, [])) = (true, []) := if_neg hle
      show Calls _ _ _ _ (MarkPost w a (if n ≤ lo then (false, if x then l8 else []) else (true, [])).1 (if n ≤ lo then (false, if x then l8 else []) else (true, [])).2)
      rw [e]
      clear e
      have hbl := Lib.hid (built_line a true cs hn)
      have hT := Lib.hid (((Blk.new w 26 cs).alloc (.cells #[.bool a, .bool true] 32)).alloc (.cells #[.bool false, .bool false] 32))
      have hF := Lib.hid ((Blk.at_ (w := w.alloc (.cells cs 26)) (B := w.heap.size + 1) 32 #[.bool a, .bool true] (by simp)).alloc (.cells #[.bool false, .bool false] 32))
      have hR := Lib.hid (Blk.at_ (w := (w.alloc (.cells cs 26)).alloc (.cells #[.bool a, .bool true] 32)) (B := w.heap.size + 1 + 1) 32 #[.bool false, .bool false] (by simp))
      have HN := Lib.hid hn
      clear hn
      obtain ⟨f0, f1, f2, f3⟩ := hF.out.two
      go_enter Try.func10, Try.ntmps10
      go_wp2_with (first
        | (refine wpList_load_row rfl 26 _ rfl _ rfl 26 _ _ _ hT.out Try.underlying26 rfl hi' ?_)
        | (refine wpList_build_eq rfl 64 _ rfl (L := lineA a true cs (.slice none 0 0)) (by (try simp [go_sem]); exact hbl.out) ?_; have hT2 := hT.out.alloc (.cells (lineA a true cs (.slice none 0 0)) 64))
        | (refine wpList_load_row rfl 26 _ rfl _ rfl 26 _ _ _ hT2 Try.underlying26 rfl hi' ?_))
      refine (h40 _).mono ?_
      rintro e w1 ⟨rfl, E1⟩
      have hF1 := (hF.out.alloc (.cells (lineA a true cs (.slice none 0 0)) 64)).ext E1
      have hR1 := (hR.out.alloc (.cells (lineA a true cs (.slice none 0 0)) 64)).ext E1
      have hL1 := (Blk.at_ (w := ((w.alloc (.cells cs 26)).alloc (.cells #[.bool a, .bool true] 32)).alloc (.cells #[.bool false, .bool false] 32)) (B := w.heap.size + 1 + 1 + 1) 64 (lineA a true cs (.slice none 0 0)) (by simp)).ext E1
      have E01 : Ext w w1 := (by repeat (first | with_reducible exact Ext.refl _ | refine Ext.drewN ?_ _ | refine Ext.drew ?_ | refine Ext.alloc ?_ _ | assumption | (refine Below.trans ?_ (by assumption)) | (refine Ext.trans ?_ (by assumption)) | (refine Below.trans ?_ (Below.mono (by assumption) (by omega)))))
      have hg : w.heap.size + 1 + 1 + 1 < w1.heap.size := hL1.lt
      clear f0 f1 f2 f3 E1 hT hF hR
      obtain ⟨f0, f1, f2, f3⟩ := hF1.two
      have m1 := hL1.cell 1
      have m1f := hL1.frozen 1
      rw [lineA_1] at m1
      clear hF1
      go_wp2
      have hLz := hL1
      have hRz := hR1
      have E0z := E01
      have ROz := Lib.hid (RdN.nil w1 1)
      have FRz : ∀ k, (Value.slice none 0 0).ownBlock = some k → w.heap.size ≤ k := fun k hk => by simp [Value.ownBlock] at hk
      have FRw : ∀ k, (Value.slice none 0 0).ownBlock = some k → w1.heap.size ≤ k := fun k hk => by simp [Value.ownBlock] at hk
      have l0 := hLz.cell 0
      rw [lineA_0] at l0
      have l1 := hLz.cell 1
      rw [lineA_1] at l1
      have l26 := hLz.cell 26
      rw [lineA_26 HN.out] at l26
      obtain ⟨r0, r1, r2, r3⟩ := hRz.two
      go_region_law (fail)
      all_goals go_wp2
      all_goals
        have hP := (Blk.drew (hRz.put2 (.bool a) (.bool true))).two
        refine bodyPost_ret (v := .tuple #[.agg #[.bool a, .bool true], .slice none (([] : List Int)).length 0]) (by simp [results, Try.results10, go_sem, hP.1, hP.2.1]) rfl ?_
        refine ⟨none, 0, rfl, ?_, FRz, Ext.drew (Below.setCell (Below.setCell E0z (by simp; omega) _) (by simp; omega) _)⟩
        exact RdN.mod (S := fun k => k = w.heap.size + 1 + 1) ROz.out (((Mod.refl _ _).set1 _).set1 _).drew (fun k hk he => by have := FRw k hk; omega)
end Go.Proofs.Ytiknogkopfhoiaa
