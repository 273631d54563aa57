/- What a program's wish does to a flow, by contract. Conditions: the setting is one. -/
import Derived.Test.YtiknogkopfhoiaaD15
namespace Go.Proofs.Ytiknogkopfhoiaa
open Go.RowKit Go.Kb

/-- stopped, held, what the other end is told, the error -/
def askL (t : Tm) (a b : Bool) (what : Int) : Bool × Bool × List Int × Int :=
  if what = 1 then (true, b, [], 0) else if what = 2 then (false, b, [], 0) else if what = 3 then (a, b, tellL t 9, 0) else if what = 4 then (a, b, tellL t 8, 0) else (false, false, [], 2)
def AskPost (w : World) (r : Bool × Bool × List Int × Int) (e : Ending) (w' : World) : Prop :=
  ∃ A c, e = .returned (.tuple #[.agg #[.bool r.1, .bool r.2.1], .slice A r.2.2.1.length c, .int .i64 r.2.2.2]) ∧ RI .u8 w' (.slice A r.2.2.1.length c) r.2.2.1 ∧ Ext w w'
set_option maxHeartbeats 800000 in
theorem ask_bad (t : Tm) (a b : Bool) (what : Int) (w : World) (hw : what < 1 ∨ 4 < what) :
    Calls Try.prog 12 #[.agg t.arr, .agg #[.bool a, .bool b], .int .i64 what] w (AskPost w (false, false, [], 2)) := by
  generalize t.arr = cs
  have E0 : Ext w (((w.alloc (.cells cs 26)).alloc (.cells #[.bool a, .bool b] 32)).alloc (.cells #[.bool false, .bool false] 32)) := (by repeat (first | with_reducible exact Ext.refl _ | refine Ext.drewN ?_ _ | refine Ext.drew ?_ | refine Ext.alloc ?_ _ | assumption | (refine Below.trans ?_ (by assumption)) | (refine Ext.trans ?_ (by assumption)) | (refine Below.trans ?_ (Below.mono (by assumption) (by omega)))))
  rcases hw with h | h
  · go_enter Try.func12, Try.ntmps12
    go_wp2
    refine bodyPost_ret (v := .tuple #[.agg #[.bool false, .bool false], .slice none 0 0, .int .i64 2]) (by simp [results, Try.results12, go_sem]) rfl ?_
    exact ⟨none, 0, rfl, RdN.nil _ _, E0⟩
  · have h' : ¬ what < 1 := by omega
    go_enter Try.func12, Try.ntmps12
    go_wp2
    refine bodyPost_ret (v := .tuple #[.agg #[.bool false, .bool false], .slice none 0 0, .int .i64 2]) (by simp [results, Try.results12, go_sem]) rfl ?_
    exact ⟨none, 0, rfl, RdN.nil _ _, E0⟩
set_option maxHeartbeats 800000 in
theorem ask_any (t : Tm) (a b : Bool) (what : Int) (w : World) (ht : t.Ok) :
    Calls Try.prog 12 #[.agg t.arr, .agg #[.bool a, .bool b], .int .i64 what] w (AskPost w (askL t a b what)) := by
  by_cases hw : what < 1 ∨ 4 < what
  · have e : askL t a b what = (false, false, [], 2) := by
      unfold askL
      rw [if_neg (by omega), if_neg (by omega), if_neg (by omega), if_neg (by omega)]
    rw [e]
    exact ask_bad t a b what w hw
  · have hn := t.size ht
    have hH := fun (g : Nat) (a b : Bool) (w' : World) h => holdIn_any (g := g) (a := a) (b := b) t w' ht h
    have hG := fun (g : Nat) (a b : Bool) (w' : World) h => goOnIn_any (g := g) (a := a) (b := b) t w' ht h
    have hw' : what = 1 ∨ what = 2 ∨ what = 3 ∨ what = 4 := by omega
    have e3 : askL t a b 3 = (a, b, tellL t 9, 0) := rfl
    have e4 : askL t a b 4 = (a, b, tellL t 8, 0) := rfl
    have e1 : askL t a b 1 = (true, b, [], 0) := rfl
    have e2 : askL t a b 2 = (false, b, [], 0) := rfl
    rcases hw' with rfl | rfl | rfl | rfl
    · rw [e1]
      clear hH hG e1 e2 e3 e4 hw
      generalize t.arr = cs at *
      have hi' : (Try.prog.info? 26).map (·.size) = some cs.size := by rw [hn]; kernel_rfl
      clear ht
      have hbl := Lib.hid (built_line a b cs hn)
      have hT := Lib.hid (((Blk.new w 26 cs).alloc (.cells #[.bool a, .bool b] 32)).alloc (.cells #[.bool false, .bool false] 32))
      have hF := Lib.hid ((Blk.at_ (w := w.alloc (.cells cs 26)) (B := w.heap.size + 1) 32 #[.bool a, .bool b] (by simp)).alloc (.cells #[.bool false, .bool false] 32))
      have hR := Lib.hid (Blk.at_ (w := (w.alloc (.cells cs 26)).alloc (.cells #[.bool a, .bool b] 32)) (B := w.heap.size + 1 + 1) 32 #[.bool false, .bool false] (by simp))
      have ix : ∀ w, (Instr.index 67 (.agg #[.func (.func 20) #[] #[], .func (.func 22) #[] #[], .func (.func 23) #[] #[], .func (.func 26) #[] #[], .func (.func 27) #[] #[]]) (.int .i64 1)).run Try.prog w = .ok (.func (.func 22) #[] #[]) w := fun _ => by kernel_rfl
      have HN := Lib.hid hn
      clear hn
      obtain ⟨f0, f1, f2, f3⟩ := hF.out.two
      go_enter Try.func12, Try.ntmps12
      go_wp2_with (first
        | (refine wpList_load_row rfl 26 _ rfl _ rfl 26 _ _ _ hT.out Try.underlying26 rfl hi' ?_)
        | (refine wpList_build_eq rfl 64 _ rfl (L := lineA a b cs (.slice none 0 0)) (by (try simp [go_sem]); exact hbl.out) ?_; have hT2 := hT.out.alloc (.cells (lineA a b cs (.slice none 0 0)) 64)))
      refine (wishes_any _).mono ?_
      rintro e w1 ⟨rfl, E1⟩
      have hR1 := (hR.out.alloc (.cells (lineA a b cs (.slice none 0 0)) 64)).ext E1
      have hL1 := (Blk.at_ (w := ((w.alloc (.cells cs 26)).alloc (.cells #[.bool a, .bool b] 32)).alloc (.cells #[.bool false, .bool false] 32)) (B := w.heap.size + 1 + 1 + 1) 64 (lineA a b cs (.slice none 0 0)) (by simp)).ext E1
      have E01 : Ext w w1 := (by repeat (first | with_reducible exact Ext.refl _ | refine Ext.drewN ?_ _ | refine Ext.drew ?_ | refine Ext.alloc ?_ _ | assumption | (refine Below.trans ?_ (by assumption)) | (refine Ext.trans ?_ (by assumption)) | (refine Below.trans ?_ (Below.mono (by assumption) (by omega)))))
      have hg : w.heap.size + 1 + 1 + 1 < w1.heap.size := hL1.lt
      clear f0 f1 f2 f3 E1 hT hF hR
      go_wp2_with fail
      refine (stop_any _ hL1).mono ?_
      rintro e w3 ⟨rfl, hLz, M3⟩
      have ROz := Lib.hid (RdN.nil w3 1)
      have FRw : ∀ k, (Value.slice none 0 0).ownBlock = some k → w1.heap.size ≤ k := fun k hk => by simp [Value.ownBlock] at hk
      have hRz := hR1.mod M3 (by omega)
      have E0z := Ext.modNew E01 M3 (by omega)
      clear M3
      have l0 := hLz.cell 0
      rw [lineA_0] at l0
      have l1 := hLz.cell 1
      rw [lineA_1] at l1
      have l26 := hLz.cell 26
      rw [lineA_26 HN.out] at l26
      obtain ⟨r0, r1, r2, r3⟩ := hRz.two
      go_wp2_with fail
      go_region_law (fail)
      all_goals go_wp2
      all_goals
        have hP := (Blk.drew (hRz.put2 (.bool true) (.bool b))).two
        refine bodyPost_ret (v := .tuple #[.agg #[.bool true, .bool b], .slice none (([] : List Int)).length 0, .int .i64 0]) (by simp [results, Try.results12, go_sem, hP.1, hP.2.1]) rfl ?_
        refine ⟨none, 0, rfl, ?_, Ext.drew (Below.setCell (Below.setCell E0z (by simp; omega) _) (by simp; omega) _)⟩
        exact RdN.mod (S := fun k => k = w.heap.size + 1 + 1) ROz.out (((Mod.refl _ _).set1 _).set1 _).drew (fun k hk he => by have := FRw k hk; omega)
    · rw [e2]
      clear hH hG e1 e2 e3 e4 hw
      generalize t.arr = cs at *
      have hi' : (Try.prog.info? 26).map (·.size) = some cs.size := by rw [hn]; kernel_rfl
      clear ht
      have hbl := Lib.hid (built_line a b cs hn)
      have hT := Lib.hid (((Blk.new w 26 cs).alloc (.cells #[.bool a, .bool b] 32)).alloc (.cells #[.bool false, .bool false] 32))
      have hF := Lib.hid ((Blk.at_ (w := w.alloc (.cells cs 26)) (B := w.heap.size + 1) 32 #[.bool a, .bool b] (by simp)).alloc (.cells #[.bool false, .bool false] 32))
      have hR := Lib.hid (Blk.at_ (w := (w.alloc (.cells cs 26)).alloc (.cells #[.bool a, .bool b] 32)) (B := w.heap.size + 1 + 1) 32 #[.bool false, .bool false] (by simp))
      have ix : ∀ w, (Instr.index 67 (.agg #[.func (.func 20) #[] #[], .func (.func 22) #[] #[], .func (.func 23) #[] #[], .func (.func 26) #[] #[], .func (.func 27) #[] #[]]) (.int .i64 2)).run Try.prog w = .ok (.func (.func 23) #[] #[]) w := fun _ => by kernel_rfl
      have HN := Lib.hid hn
      clear hn
      obtain ⟨f0, f1, f2, f3⟩ := hF.out.two
      go_enter Try.func12, Try.ntmps12
      go_wp2_with (first
        | (refine wpList_load_row rfl 26 _ rfl _ rfl 26 _ _ _ hT.out Try.underlying26 rfl hi' ?_)
        | (refine wpList_build_eq rfl 64 _ rfl (L := lineA a b cs (.slice none 0 0)) (by (try simp [go_sem]); exact hbl.out) ?_; have hT2 := hT.out.alloc (.cells (lineA a b cs (.slice none 0 0)) 64)))
      refine (wishes_any _).mono ?_
      rintro e w1 ⟨rfl, E1⟩
      have hR1 := (hR.out.alloc (.cells (lineA a b cs (.slice none 0 0)) 64)).ext E1
      have hL1 := (Blk.at_ (w := ((w.alloc (.cells cs 26)).alloc (.cells #[.bool a, .bool b] 32)).alloc (.cells #[.bool false, .bool false] 32)) (B := w.heap.size + 1 + 1 + 1) 64 (lineA a b cs (.slice none 0 0)) (by simp)).ext E1
      have E01 : Ext w w1 := (by repeat (first | with_reducible exact Ext.refl _ | refine Ext.drewN ?_ _ | refine Ext.drew ?_ | refine Ext.alloc ?_ _ | assumption | (refine Below.trans ?_ (by assumption)) | (refine Ext.trans ?_ (by assumption)) | (refine Below.trans ?_ (Below.mono (by assumption) (by omega)))))
      have hg : w.heap.size + 1 + 1 + 1 < w1.heap.size := hL1.lt
      clear f0 f1 f2 f3 E1 hT hF hR
      go_wp2_with fail
      refine (start_any _ hL1).mono ?_
      rintro e w3 ⟨rfl, hLz, M3⟩
      have ROz := Lib.hid (RdN.nil w3 1)
      have FRw : ∀ k, (Value.slice none 0 0).ownBlock = some k → w1.heap.size ≤ k := fun k hk => by simp [Value.ownBlock] at hk
      have hRz := hR1.mod M3 (by omega)
      have E0z := Ext.modNew E01 M3 (by omega)
      clear M3
      have l0 := hLz.cell 0
      rw [lineA_0] at l0
      have l1 := hLz.cell 1
      rw [lineA_1] at l1
      have l26 := hLz.cell 26
      rw [lineA_26 HN.out] at l26
      obtain ⟨r0, r1, r2, r3⟩ := hRz.two
      go_wp2_with fail
      go_region_law (fail)
      all_goals go_wp2
      all_goals
        have hP := (Blk.drew (hRz.put2 (.bool false) (.bool b))).two
        refine bodyPost_ret (v := .tuple #[.agg #[.bool false, .bool b], .slice none (([] : List Int)).length 0, .int .i64 0]) (by simp [results, Try.results12, go_sem, hP.1, hP.2.1]) rfl ?_
        refine ⟨none, 0, rfl, ?_, Ext.drew (Below.setCell (Below.setCell E0z (by simp; omega) _) (by simp; omega) _)⟩
        exact RdN.mod (S := fun k => k = w.heap.size + 1 + 1) ROz.out (((Mod.refl _ _).set1 _).set1 _).drew (fun k hk he => by have := FRw k hk; omega)
    · rw [e3]
      clear hG e1 e2 e3 e4 hw
      generalize tellL t 9 = l9 at *
      generalize t.arr = cs at *
      have hi' : (Try.prog.info? 26).map (·.size) = some cs.size := by rw [hn]; kernel_rfl
      clear ht
      have hbl := Lib.hid (built_line a b cs hn)
      have hT := Lib.hid (((Blk.new w 26 cs).alloc (.cells #[.bool a, .bool b] 32)).alloc (.cells #[.bool false, .bool false] 32))
      have hF := Lib.hid ((Blk.at_ (w := w.alloc (.cells cs 26)) (B := w.heap.size + 1) 32 #[.bool a, .bool b] (by simp)).alloc (.cells #[.bool false, .bool false] 32))
      have hR := Lib.hid (Blk.at_ (w := (w.alloc (.cells cs 26)).alloc (.cells #[.bool a, .bool b] 32)) (B := w.heap.size + 1 + 1) 32 #[.bool false, .bool false] (by simp))
      have ix : ∀ w, (Instr.index 67 (.agg #[.func (.func 20) #[] #[], .func (.func 22) #[] #[], .func (.func 23) #[] #[], .func (.func 26) #[] #[], .func (.func 27) #[] #[]]) (.int .i64 3)).run Try.prog w = .ok (.func (.func 26) #[] #[]) w := fun _ => by kernel_rfl
      have HN := Lib.hid hn
      clear hn
      obtain ⟨f0, f1, f2, f3⟩ := hF.out.two
      go_enter Try.func12, Try.ntmps12
      go_wp2_with (first
        | (refine wpList_load_row rfl 26 _ rfl _ rfl 26 _ _ _ hT.out Try.underlying26 rfl hi' ?_)
        | (refine wpList_build_eq rfl 64 _ rfl (L := lineA a b cs (.slice none 0 0)) (by (try simp [go_sem]); exact hbl.out) ?_; have hT2 := hT.out.alloc (.cells (lineA a b cs (.slice none 0 0)) 64)))
      refine (wishes_any _).mono ?_
      rintro e w1 ⟨rfl, E1⟩
      have hR1 := (hR.out.alloc (.cells (lineA a b cs (.slice none 0 0)) 64)).ext E1
      have hL1 := (Blk.at_ (w := ((w.alloc (.cells cs 26)).alloc (.cells #[.bool a, .bool b] 32)).alloc (.cells #[.bool false, .bool false] 32)) (B := w.heap.size + 1 + 1 + 1) 64 (lineA a b cs (.slice none 0 0)) (by simp)).ext E1
      have E01 : Ext w w1 := (by repeat (first | with_reducible exact Ext.refl _ | refine Ext.drewN ?_ _ | refine Ext.drew ?_ | refine Ext.alloc ?_ _ | assumption | (refine Below.trans ?_ (by assumption)) | (refine Ext.trans ?_ (by assumption)) | (refine Below.trans ?_ (Below.mono (by assumption) (by omega)))))
      have hg : w.heap.size + 1 + 1 + 1 < w1.heap.size := hL1.lt
      clear f0 f1 f2 f3 E1 hT hF hR
      go_wp2_with fail
      refine (hH _ a b _ hL1).mono ?_
      rintro e w3 ⟨rfl, A, c, hLz, RO, FRw, M3⟩
      have ROz := Lib.hid RO
      clear RO
      have hRz := hR1.mod M3 (by omega)
      have E0z := Ext.modNew E01 M3 (by omega)
      clear M3
      have l0 := hLz.cell 0
      rw [lineA_0] at l0
      have l1 := hLz.cell 1
      rw [lineA_1] at l1
      have l26 := hLz.cell 26
      rw [lineA_26 HN.out] at l26
      obtain ⟨r0, r1, r2, r3⟩ := hRz.two
      go_wp2_with fail
      go_region_law (fail)
      all_goals go_wp2
      all_goals
        have hP := (Blk.drew (hRz.put2 (.bool a) (.bool b))).two
        refine bodyPost_ret (v := .tuple #[.agg #[.bool a, .bool b], .slice A (l9).length c, .int .i64 0]) (by simp [results, Try.results12, go_sem, hP.1, hP.2.1]) rfl ?_
        refine ⟨A, c, rfl, ?_, Ext.drew (Below.setCell (Below.setCell E0z (by simp; omega) _) (by simp; omega) _)⟩
        exact RdN.mod (S := fun k => k = w.heap.size + 1 + 1) ROz.out (((Mod.refl _ _).set1 _).set1 _).drew (fun k hk he => by have := FRw k hk; omega)
    · rw [e4]
      clear hH e1 e2 e3 e4 hw
      generalize tellL t 8 = l8 at *
      generalize t.arr = cs at *
      have hi' : (Try.prog.info? 26).map (·.size) = some cs.size := by rw [hn]; kernel_rfl
      clear ht
      have hbl := Lib.hid (built_line a b cs hn)
      have hT := Lib.hid (((Blk.new w 26 cs).alloc (.cells #[.bool a, .bool b] 32)).alloc (.cells #[.bool false, .bool false] 32))
      have hF := Lib.hid ((Blk.at_ (w := w.alloc (.cells cs 26)) (B := w.heap.size + 1) 32 #[.bool a, .bool b] (by simp)).alloc (.cells #[.bool false, .bool false] 32))
      have hR := Lib.hid (Blk.at_ (w := (w.alloc (.cells cs 26)).alloc (.cells #[.bool a, .bool b] 32)) (B := w.heap.size + 1 + 1) 32 #[.bool false, .bool false] (by simp))
      have ix : ∀ w, (Instr.index 67 (.agg #[.func (.func 20) #[] #[], .func (.func 22) #[] #[], .func (.func 23) #[] #[], .func (.func 26) #[] #[], .func (.func 27) #[] #[]]) (.int .i64 4)).run Try.prog w = .ok (.func (.func 27) #[] #[]) w := fun _ => by kernel_rfl
      have HN := Lib.hid hn
      clear hn
      obtain ⟨f0, f1, f2, f3⟩ := hF.out.two
      go_enter Try.func12, Try.ntmps12
      go_wp2_with (first
        | (refine wpList_load_row rfl 26 _ rfl _ rfl 26 _ _ _ hT.out Try.underlying26 rfl hi' ?_)
        | (refine wpList_build_eq rfl 64 _ rfl (L := lineA a b cs (.slice none 0 0)) (by (try simp [go_sem]); exact hbl.out) ?_; have hT2 := hT.out.alloc (.cells (lineA a b cs (.slice none 0 0)) 64)))
      refine (wishes_any _).mono ?_
      rintro e w1 ⟨rfl, E1⟩
      have hR1 := (hR.out.alloc (.cells (lineA a b cs (.slice none 0 0)) 64)).ext E1
      have hL1 := (Blk.at_ (w := ((w.alloc (.cells cs 26)).alloc (.cells #[.bool a, .bool b] 32)).alloc (.cells #[.bool false, .bool false] 32)) (B := w.heap.size + 1 + 1 + 1) 64 (lineA a b cs (.slice none 0 0)) (by simp)).ext E1
      have E01 : Ext w w1 := (by repeat (first | with_reducible exact Ext.refl _ | refine Ext.drewN ?_ _ | refine Ext.drew ?_ | refine Ext.alloc ?_ _ | assumption | (refine Below.trans ?_ (by assumption)) | (refine Ext.trans ?_ (by assumption)) | (refine Below.trans ?_ (Below.mono (by assumption) (by omega)))))
      have hg : w.heap.size + 1 + 1 + 1 < w1.heap.size := hL1.lt
      clear f0 f1 f2 f3 E1 hT hF hR
      go_wp2_with fail
      refine (hG _ a b _ hL1).mono ?_
      rintro e w3 ⟨rfl, A, c, hLz, RO, FRw, M3⟩
      have ROz := Lib.hid RO
      clear RO
      have hRz := hR1.mod M3 (by omega)
      have E0z := Ext.modNew E01 M3 (by omega)
      clear M3
      have l0 := hLz.cell 0
      rw [lineA_0] at l0
      have l1 := hLz.cell 1
      rw [lineA_1] at l1
      have l26 := hLz.cell 26
      rw [lineA_26 HN.out] at l26
      obtain ⟨r0, r1, r2, r3⟩ := hRz.two
      go_wp2_with fail
      go_region_law (fail)
      all_goals go_wp2
      all_goals
        have hP := (Blk.drew (hRz.put2 (.bool a) (.bool b))).two
        refine bodyPost_ret (v := .tuple #[.agg #[.bool a, .bool b], .slice A (l8).length c, .int .i64 0]) (by simp [results, Try.results12, go_sem, hP.1, hP.2.1]) rfl ?_
        refine ⟨A, c, rfl, ?_, Ext.drew (Below.setCell (Below.setCell E0z (by simp; omega) _) (by simp; omega) _)⟩
        exact RdN.mod (S := fun k => k = w.heap.size + 1 + 1) ROz.out (((Mod.refl _ _).set1 _).set1 _).drew (fun k hk he => by have := FRw k hk; omega)
end Go.Proofs.Ytiknogkopfhoiaa
