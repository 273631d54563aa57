/- FlowAsks, walked: for every setting, flow and wish the law answers true. Conditions: the setting is one. -/
import Derived.Test.YtiknogkopfhoiaaF15
namespace Go.Proofs.Ytiknogkopfhoiaa
open Go.RowKit Go.Kb

set_option maxRecDepth 100000 in
set_option maxHeartbeats 800000 in
theorem flowAsks_walk (t : Tm) (a b : Bool) (what : Int) (w : World) (ht : t.Ok) : Calls Try.prog 6 #[.agg t.arr, .agg #[.bool a, .bool b], .int .i64 what] w fun e w' => e = .returned (.bool true) ∧ Ext w w' := by
  have hA := fun w' => ask_any t a b 1 w' ht
  have hB := fun w' => ask_any t true b 2 w' ht
  have e1 : ∀ a b, askL t a b 1 = (true, b, [], 0) := fun _ _ => rfl
  have e2 : ∀ a b, askL t a b 2 = (false, b, [], 0) := fun _ _ => rfl
  rw [e1] at hA
  rw [e2] at hB
  have hn := t.size ht
  have hi : (Try.prog.info? 26).map (·.size) = some t.arr.size := by rw [hn]; kernel_rfl
  have hiF : (Try.prog.info? 32).map (·.size) = some 2 := by kernel_rfl
  have hiG : (Try.prog.info? 28).map (·.size) = some 2 := by kernel_rfl
  have hT := Lib.hid ((Blk.new w 26 t.arr).alloc (.cells #[.bool a, .bool b] 28))
  have hF := Lib.hid (Blk.at_ (w := w.alloc (.cells t.arr 26)) (B := w.heap.size + 1) 28 #[.bool a, .bool b] (by simp))
  generalize hcs : t.arr = cs at hA hB hn hi hT hF ⊢
  have HCS := Lib.hid hcs
  clear hcs
  go_enter Try.func6, Try.ntmps6
  (go_wp2_with fail; refine (alive_any _).mono ?_; rintro e w1 ⟨rfl, E1⟩)
  have T1 := Lib.hid (hT.out.ext E1)
  have F1 := Lib.hid (hF.out.ext E1)
  have E01 : Ext w w1 := (by repeat (first | with_reducible exact Ext.refl _ | refine Ext.drewN ?_ _ | refine Ext.drew ?_ | refine Ext.alloc ?_ _ | assumption | (refine Below.trans ?_ (by assumption)) | (refine Ext.trans ?_ (by assumption)) | (refine Below.trans ?_ (Below.mono (by assumption) (by omega)))))
  clear E1 hT hF
  go_wp2_with (first | (refine wpList_load_row rfl 28 _ rfl _ rfl 28 _ _ _ F1.out Try.underlying28 rfl hiG ?_) | ((refine wpList_store_A rfl 32 _ _ rfl w1.heap.size _ rfl rfl 32 _ (show Blk _ _ _ _ from Blk.at_ _ _ (by simp)) hiF rfl (by simp [Value.oneCell']) ?_; intro w2 Hw2 Ew2; have Ew2 := Ew2 w1.heap.size w1 (by repeat (first | with_reducible exact Ext.refl _ | refine Ext.drewN ?_ _ | refine Ext.drew ?_ | refine Ext.alloc ?_ _ | assumption | (refine Below.trans ?_ (by assumption)) | (refine Ext.trans ?_ (by assumption)) | (refine Below.trans ?_ (Below.mono (by assumption) (by omega))))) (Nat.le_refl _); have Hw2 := Lib.hid Hw2); have T2 := Lib.hid (T1.out.ext Ew2)) | (refine wpList_load_row rfl 26 _ rfl _ rfl 26 _ _ _ T2.out Try.underlying26 rfl hi ?_) | (refine wpList_load_row rfl 32 _ rfl _ rfl 32 _ _ _ Hw2.out Try.underlying32 rfl hiF ?_))
  refine (hA _).mono ?_
  rintro e w3 ⟨A3, c3, rfl, _, E3⟩
  have T3 := Lib.hid (T2.out.ext E3)
  have F3 := Lib.hid ((F1.out.ext Ew2).ext E3)
  have X3 := Lib.hid (Hw2.out.ext E3)
  have E03 : Ext w w3 := Ext.trans E01 (Ext.trans Ew2 E3)
  clear E01 Ew2 E3 T1 T2 F1 Hw2
  go_wp2_with (first | ((refine wpList_store_A rfl 32 _ _ rfl w3.heap.size _ rfl rfl 32 _ (show Blk _ _ _ _ from Blk.at_ _ _ (by simp)) hiF rfl (by simp [Value.oneCell']) ?_; intro w4 Hw4 Ew4; have Ew4 := Ew4 w3.heap.size w3 (by repeat (first | with_reducible exact Ext.refl _ | refine Ext.drewN ?_ _ | refine Ext.drew ?_ | refine Ext.alloc ?_ _ | assumption | (refine Below.trans ?_ (by assumption)) | (refine Ext.trans ?_ (by assumption)) | (refine Below.trans ?_ (Below.mono (by assumption) (by omega))))) (Nat.le_refl _); have Hw4 := Lib.hid Hw4); have T4 := Lib.hid (T3.out.ext Ew4)) | (refine wpList_load_row rfl 26 _ rfl _ rfl 26 _ _ _ T4.out Try.underlying26 rfl hi ?_) | (refine wpList_load_row rfl 32 _ rfl _ rfl 32 _ _ _ Hw4.out Try.underlying32 rfl hiF ?_))
  refine (hB _).mono ?_
  rintro e w5 ⟨A5, c5, rfl, _, E5⟩
  have T5 := Lib.hid (T4.out.ext E5)
  have F5 := Lib.hid ((F3.out.ext Ew4).ext E5)
  have X5 := Lib.hid ((X3.out.ext Ew4).ext E5)
  have O5 := Lib.hid (Hw4.out.ext E5)
  have E05 : Ext w w5 := Ext.trans E03 (Ext.trans Ew4 E5)
  clear E03 Ew4 E5 T3 T4 F3 X3 Hw4
  go_wp2_with (first | ((refine wpList_store_A rfl 32 _ _ rfl w5.heap.size _ rfl rfl 32 _ (show Blk _ _ _ _ from Blk.at_ _ _ (by simp)) hiF rfl (by simp [Value.oneCell']) ?_; intro w8 Hw8 Ew8; have Ew8 := Ew8 w5.heap.size w5 (by repeat (first | with_reducible exact Ext.refl _ | refine Ext.drewN ?_ _ | refine Ext.drew ?_ | refine Ext.alloc ?_ _ | assumption | (refine Below.trans ?_ (by assumption)) | (refine Ext.trans ?_ (by assumption)) | (refine Below.trans ?_ (Below.mono (by assumption) (by omega))))) (Nat.le_refl _); have Hw8 := Lib.hid Hw8); have T8 := Lib.hid (T5.out.ext Ew8); have X8 := Lib.hid (X5.out.ext Ew8); obtain ⟨f0, f1, -, -⟩ := (F5.out.ext Ew8).two; obtain ⟨o0, o1, -, -⟩ := (O5.out.ext Ew8).two; obtain ⟨n0, n1, -, -⟩ := Hw8.out.two) | (refine wpList_load_row rfl 26 _ rfl _ rfl 26 _ _ _ T8.out Try.underlying26 rfl hi ?_) | (refine wpList_load_row rfl 32 _ rfl _ rfl 32 _ _ _ X8.out Try.underlying32 rfl hiF ?_))
  have E08 : Ext w w8 := Ext.trans E05 Ew8
  clear E05 Ew8 T5 F5 X5 O5 Hw8 hA hB f0 f1 o0 o1 n0 n1
  have hcs := HCS.out
  subst hcs
  by_cases h1 : what = 1
  · subst h1
    have hK := fun w' => ask_any t a b 1 w' ht
    rw [e1] at hK
    generalize t.arr = cs at *
    refine (hK _).mono ?_
    rintro e w9 ⟨A9, c9, rfl, R9, E9⟩
    clear R9
    go_wp2_with ((refine wpList_store_A rfl 32 _ _ rfl w9.heap.size _ rfl rfl 32 _ (show Blk _ _ _ _ from Blk.at_ _ _ (by simp)) hiF rfl (by simp [Value.oneCell']) ?_; intro w10 Hw10 Ew10; have Ew10 := Ew10 w9.heap.size w9 (by repeat (first | with_reducible exact Ext.refl _ | refine Ext.drewN ?_ _ | refine Ext.drew ?_ | refine Ext.alloc ?_ _ | assumption | (refine Below.trans ?_ (by assumption)) | (refine Ext.trans ?_ (by assumption)) | (refine Below.trans ?_ (Below.mono (by assumption) (by omega))))) (Nat.le_refl _); have Hw10 := Lib.hid Hw10))
    go_ret
    exact ⟨by simp, Ext.trans E08 (Ext.trans E9 Ew10)⟩
  · by_cases h2 : what = 2
    · subst h2
      have hK := fun w' => ask_any t a b 2 w' ht
      rw [e2] at hK
      generalize t.arr = cs at *
      refine (hK _).mono ?_
      rintro e w9 ⟨A9, c9, rfl, R9, E9⟩
      clear R9
      go_wp2_with ((refine wpList_store_A rfl 32 _ _ rfl w9.heap.size _ rfl rfl 32 _ (show Blk _ _ _ _ from Blk.at_ _ _ (by simp)) hiF rfl (by simp [Value.oneCell']) ?_; intro w10 Hw10 Ew10; have Ew10 := Ew10 w9.heap.size w9 (by repeat (first | with_reducible exact Ext.refl _ | refine Ext.drewN ?_ _ | refine Ext.drew ?_ | refine Ext.alloc ?_ _ | assumption | (refine Below.trans ?_ (by assumption)) | (refine Ext.trans ?_ (by assumption)) | (refine Below.trans ?_ (Below.mono (by assumption) (by omega))))) (Nat.le_refl _); have Hw10 := Lib.hid Hw10))
      go_ret
      exact ⟨by simp, Ext.trans E08 (Ext.trans E9 Ew10)⟩
    · have i1 : (what == 1) = false := by simpa using h1
      have i2 : (what == 2) = false := by simpa using h2
      by_cases h3 : what = 3
      · subst h3
        have hK := fun w' => ask_any t a b 3 w' ht
        have e3 : askL t a b 3 = (a, b, tellL t 9, 0) := rfl
        rw [e3] at hK
        clear e1 e2 e3
        rw [tellL_eq] at hK
        have hC := fun w' => char_any t 9 w' ht
        have hK := hK w8
        generalize charL t 9 = xf at *
        obtain ⟨xc, xb⟩ := xf
        generalize t.arr = cs at *
        simp only at hK hC
        cases xb
        · refine hK.mono ?_
          rintro e w9 ⟨A9, c9, rfl, R9, E9⟩
          have T9 := Lib.hid (T8.out.ext E9)
          have X9 := Lib.hid (X8.out.ext E9)
          clear R9
          go_wp2_with (first | ((refine wpList_store_A rfl 32 _ _ rfl w9.heap.size _ rfl rfl 32 _ (show Blk _ _ _ _ from Blk.at_ _ _ (by simp)) hiF rfl (by simp [Value.oneCell']) ?_; intro w10 Hw10 Ew10; have Ew10 := Ew10 w9.heap.size w9 (by repeat (first | with_reducible exact Ext.refl _ | refine Ext.drewN ?_ _ | refine Ext.drew ?_ | refine Ext.alloc ?_ _ | assumption | (refine Below.trans ?_ (by assumption)) | (refine Ext.trans ?_ (by assumption)) | (refine Below.trans ?_ (Below.mono (by assumption) (by omega))))) (Nat.le_refl _); have Hw10 := Lib.hid Hw10); have T10 := Lib.hid (T9.out.ext Ew10); obtain ⟨x0, x1, -, -⟩ := (X9.out.ext Ew10).two; obtain ⟨y0, y1, -, -⟩ := Hw10.out.two) | (refine wpList_load_row rfl 26 _ rfl _ rfl 26 _ _ _ T10.out Try.underlying26 rfl hi ?_))
          refine (hC _).mono ?_
          rintro e w11 ⟨rfl, E11⟩
          obtain ⟨x0, x1, -, -⟩ := ((X9.out.ext Ew10).ext E11).two
          obtain ⟨y0, y1, -, -⟩ := (Hw10.out.ext E11).two
          go_wp2
          go_ret
          exact ⟨by simp, Ext.trans E08 (Ext.trans E9 (Ext.trans Ew10 E11))⟩
        · refine hK.mono ?_
          rintro e w9 ⟨A9, c9, rfl, R9, E9⟩
          have T9 := Lib.hid (T8.out.ext E9)
          have X9 := Lib.hid (X8.out.ext E9)
          have R9 := Lib.hid R9
          go_wp2_with (first | ((refine wpList_store_A rfl 32 _ _ rfl w9.heap.size _ rfl rfl 32 _ (show Blk _ _ _ _ from Blk.at_ _ _ (by simp)) hiF rfl (by simp [Value.oneCell']) ?_; intro w10 Hw10 Ew10; have Ew10 := Ew10 w9.heap.size w9 (by repeat (first | with_reducible exact Ext.refl _ | refine Ext.drewN ?_ _ | refine Ext.drew ?_ | refine Ext.alloc ?_ _ | assumption | (refine Below.trans ?_ (by assumption)) | (refine Ext.trans ?_ (by assumption)) | (refine Below.trans ?_ (Below.mono (by assumption) (by omega))))) (Nat.le_refl _); have Hw10 := Lib.hid Hw10); have T10 := Lib.hid (T9.out.ext Ew10); obtain ⟨x0, x1, -, -⟩ := (X9.out.ext Ew10).two; obtain ⟨y0, y1, -, -⟩ := Hw10.out.two) | (refine wpList_load_row rfl 26 _ rfl _ rfl 26 _ _ _ T10.out Try.underlying26 rfl hi ?_))
          refine (hC _).mono ?_
          rintro e w11 ⟨rfl, E11⟩
          obtain ⟨x0, x1, -, -⟩ := ((X9.out.ext Ew10).ext E11).two
          obtain ⟨y0, y1, -, -⟩ := (Hw10.out.ext E11).two
          obtain ⟨b7, off7, x7, hA7, hx7, hd7⟩ := (RdN.ext (RdN.ext R9.out Ew10) E11).icell (j := 0) (by simp)
          have hd7 := hd7.out
          simp at hd7
          subst hd7 hA7
          rw [Nat.add_zero] at hx7
          go_wp2
          go_ret
          exact ⟨by simp, Ext.trans E08 (Ext.trans E9 (Ext.trans Ew10 E11))⟩
      · by_cases h4 : what = 4
        · subst h4
          have hK := fun w' => ask_any t a b 4 w' ht
          have e3 : askL t a b 4 = (a, b, tellL t 8, 0) := rfl
          rw [e3] at hK
          clear e1 e2 e3
          rw [tellL_eq] at hK
          have hC := fun w' => char_any t 8 w' ht
          have hK := hK w8
          generalize charL t 8 = xf at *
          obtain ⟨xc, xb⟩ := xf
          generalize t.arr = cs at *
          simp only at hK hC
          cases xb
          · refine hK.mono ?_
            rintro e w9 ⟨A9, c9, rfl, R9, E9⟩
            have T9 := Lib.hid (T8.out.ext E9)
            have X9 := Lib.hid (X8.out.ext E9)
            clear R9
            go_wp2_with (first | ((refine wpList_store_A rfl 32 _ _ rfl w9.heap.size _ rfl rfl 32 _ (show Blk _ _ _ _ from Blk.at_ _ _ (by simp)) hiF rfl (by simp [Value.oneCell']) ?_; intro w10 Hw10 Ew10; have Ew10 := Ew10 w9.heap.size w9 (by repeat (first | with_reducible exact Ext.refl _ | refine Ext.drewN ?_ _ | refine Ext.drew ?_ | refine Ext.alloc ?_ _ | assumption | (refine Below.trans ?_ (by assumption)) | (refine Ext.trans ?_ (by assumption)) | (refine Below.trans ?_ (Below.mono (by assumption) (by omega))))) (Nat.le_refl _); have Hw10 := Lib.hid Hw10); have T10 := Lib.hid (T9.out.ext Ew10); obtain ⟨x0, x1, -, -⟩ := (X9.out.ext Ew10).two; obtain ⟨y0, y1, -, -⟩ := Hw10.out.two) | (refine wpList_load_row rfl 26 _ rfl _ rfl 26 _ _ _ T10.out Try.underlying26 rfl hi ?_))
            refine (hC _).mono ?_
            rintro e w11 ⟨rfl, E11⟩
            obtain ⟨x0, x1, -, -⟩ := ((X9.out.ext Ew10).ext E11).two
            obtain ⟨y0, y1, -, -⟩ := (Hw10.out.ext E11).two
            go_wp2
            go_ret
            exact ⟨by simp, Ext.trans E08 (Ext.trans E9 (Ext.trans Ew10 E11))⟩
          · refine hK.mono ?_
            rintro e w9 ⟨A9, c9, rfl, R9, E9⟩
            have T9 := Lib.hid (T8.out.ext E9)
            have X9 := Lib.hid (X8.out.ext E9)
            have R9 := Lib.hid R9
            go_wp2_with (first | ((refine wpList_store_A rfl 32 _ _ rfl w9.heap.size _ rfl rfl 32 _ (show Blk _ _ _ _ from Blk.at_ _ _ (by simp)) hiF rfl (by simp [Value.oneCell']) ?_; intro w10 Hw10 Ew10; have Ew10 := Ew10 w9.heap.size w9 (by repeat (first | with_reducible exact Ext.refl _ | refine Ext.drewN ?_ _ | refine Ext.drew ?_ | refine Ext.alloc ?_ _ | assumption | (refine Below.trans ?_ (by assumption)) | (refine Ext.trans ?_ (by assumption)) | (refine Below.trans ?_ (Below.mono (by assumption) (by omega))))) (Nat.le_refl _); have Hw10 := Lib.hid Hw10); have T10 := Lib.hid (T9.out.ext Ew10); obtain ⟨x0, x1, -, -⟩ := (X9.out.ext Ew10).two; obtain ⟨y0, y1, -, -⟩ := Hw10.out.two) | (refine wpList_load_row rfl 26 _ rfl _ rfl 26 _ _ _ T10.out Try.underlying26 rfl hi ?_))
            refine (hC _).mono ?_
            rintro e w11 ⟨rfl, E11⟩
            obtain ⟨x0, x1, -, -⟩ := ((X9.out.ext Ew10).ext E11).two
            obtain ⟨y0, y1, -, -⟩ := (Hw10.out.ext E11).two
            obtain ⟨b7, off7, x7, hA7, hx7, hd7⟩ := (RdN.ext (RdN.ext R9.out Ew10) E11).icell (j := 0) (by simp)
            have hd7 := hd7.out
            simp at hd7
            subst hd7 hA7
            rw [Nat.add_zero] at hx7
            go_wp2
            go_ret
            exact ⟨by simp, Ext.trans E08 (Ext.trans E9 (Ext.trans Ew10 E11))⟩
        · have i3 : (what == 3) = false := by simpa using h3
          have i4 : (what == 4) = false := by simpa using h4
          have hK := fun w' => ask_any t a b what w' ht
          have e3 : askL t a b what = (false, false, [], 2) := by
            unfold askL
            rw [if_neg h1, if_neg h2, if_neg h3, if_neg h4]
          rw [e3] at hK
          clear e1 e2 e3 h1 h2 h3 h4
          generalize t.arr = cs at *
          refine (hK _).mono ?_
          rintro e w9 ⟨A9, c9, rfl, R9, E9⟩
          clear R9
          go_wp2_with ((refine wpList_store_A rfl 32 _ _ rfl w9.heap.size _ rfl rfl 32 _ (show Blk _ _ _ _ from Blk.at_ _ _ (by simp)) hiF rfl (by simp [Value.oneCell']) ?_; intro w10 Hw10 Ew10; have Ew10 := Ew10 w9.heap.size w9 (by repeat (first | with_reducible exact Ext.refl _ | refine Ext.drewN ?_ _ | refine Ext.drew ?_ | refine Ext.alloc ?_ _ | assumption | (refine Below.trans ?_ (by assumption)) | (refine Ext.trans ?_ (by assumption)) | (refine Below.trans ?_ (Below.mono (by assumption) (by omega))))) (Nat.le_refl _); have Hw10 := Lib.hid Hw10))
          go_ret
          exact ⟨by simp, Ext.trans E08 (Ext.trans E9 Ew10)⟩
end Go.Proofs.Ytiknogkopfhoiaa
