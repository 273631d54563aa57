/- Flow: the document's examples answer true. No condition. -/
import Derived.Test.YtiknogkopfhoiaaE15
namespace Go.Proofs.Ytiknogkopfhoiaa
open Go.RowKit Go.Kb

/- the same bytes -/
theorem take_ne {xs ys : List Int} {k : Nat} {x y : Int} (h1 : xs[k]? = some x) (h2 : ys[k]? = some y) (hne : x ≠ y) : xs ≠ ys := by
  rintro rfl
  rw [h1] at h2
  exact hne (Option.some.inj h2)
theorem take_all {xs ys : List Int} {k : Nat} (hk : k ≤ xs.length) (hn : ¬ k < xs.length) (hl : xs.length = ys.length) (ht : xs.take k = ys.take k) : xs = ys := by
  have : k = xs.length := by omega
  subst this
  rw [List.take_of_length_le (Nat.le_refl _), List.take_of_length_le (by omega)] at ht
  exact ht
set_option maxHeartbeats 400000 in
theorem bytes_q (va vb : Value) (xs ys : List Int) (w : World) (ha : RI .u8 w va xs) (hb : RI .u8 w vb ys) :
    Calls Try.prog 14 #[va, vb] w fun e w' => e = .returned (.bool (decide (xs = ys))) ∧ Qt w w' := by
  have ha' := ha
  have hb' := hb
  obtain ⟨_, A, c, rfl, hnc, hcm, _⟩ := ha'
  obtain ⟨_, A2, c2, rfl, hnc2, hcm2, _⟩ := hb'
  have Ha := Lib.hid ha
  have Hb := Lib.hid hb
  clear ha hb
  unfold maxLen at hcm hcm2
  by_cases hl : xs.length = ys.length
  · have HL := Lib.hid hl
    have hl2 : ((xs.length : Int) == (ys.length : Int)) = true := by simp [hl]
    have hl3 : ((xs.length : Int) != (ys.length : Int)) = false := by simp [hl]
    clear hl
    go_enter Try.func14, Try.ntmps14
    go_wp2
    clear hl2 hl3
    go_loopw [13] (fun i wr => ∃ k : Nat, k ≤ xs.length ∧ i = .int .i64 k ∧ xs.take k = ys.take k ∧ Qt w wr) (fun i _ => xs.length - (intOf i).toNat)
    case atStart => exact ⟨0, Nat.zero_le _, rfl, by simp, Qt.refl _⟩
    case round =>
      obtain ⟨k, hk, rfl, htake, hq⟩ := hrel
      have HT := Lib.hid htake
      have Ha := Lib.hid (Ha.out.ext hq.ext)
      have Hb := Lib.hid (Hb.out.ext hq.ext)
      clear htake
      by_cases hlt : k < xs.length
      · have hlt2 : k < ys.length := by have := HL.out; omega
        obtain ⟨b, off, x, rfl, hc1, hx⟩ := Ha.out.icell hlt
        obtain ⟨b2, off2, y, rfl, hc2, hy⟩ := Hb.out.icell hlt2
        by_cases he : x = y
        · subst he
          go_wp2
          go_quiet (fail)
          go_wp2
          go_roundw
          case rel => exact ⟨k + 1, by omega, by go_num, by rw [take_succ_of hx.out, take_succ_of hy.out, HT.out], (by repeat (first | with_reducible exact Qt.refl _ | refine Qt.drewN ?_ _ | assumption | refine Qt.trans ?_ (by assumption)))⟩
          case measure => simp [intOf]; omega
        · have he2 : (x == y) = false := by simp [he]
          have he3 : (x != y) = true := by simp [he]
          go_wp2
          go_quiet (fail)
          go_wp2
          go_ret
          exact ⟨by simp [take_ne hx.out hy.out he], (by repeat (first | with_reducible exact Qt.refl _ | refine Qt.drewN ?_ _ | assumption | refine Qt.trans ?_ (by assumption)))⟩
      · go_wp2
        go_ret
        exact ⟨by simp [take_all hk hlt HL.out HT.out], (by repeat (first | with_reducible exact Qt.refl _ | refine Qt.drewN ?_ _ | assumption | refine Qt.trans ?_ (by assumption)))⟩
  · have hl2 : ((xs.length : Int) == (ys.length : Int)) = false := by simp; omega
    have hl3 : ((xs.length : Int) != (ys.length : Int)) = true := by simp; omega
    have hne : xs ≠ ys := fun h => hl (by rw [h])
    have HN := Lib.hid hne
    clear hne hl
    go_enter Try.func14, Try.ntmps14
    go_wp2
    go_ret
    exact ⟨by simp [HN.out], Qt.refl _⟩

theorem bytes_any (va vb : Value) (xs ys : List Int) (w : World) (ha : RI .u8 w va xs) (hb : RI .u8 w vb ys) :
    Calls Try.prog 14 #[va, vb] w fun e w' => e = .returned (.bool (decide (xs = ys))) ∧ Ext w w' :=
  (bytes_q va vb xs ys w ha hb).mono fun _ _ ⟨he, hq⟩ => ⟨he, hq.ext⟩
theorem bytes_same (va vb : Value) (xs : List Int) (w : World) (ha : RI .u8 w va xs) (hb : RI .u8 w vb xs) :
    Calls Try.prog 14 #[va, vb] w fun e w' => e = .returned (.bool true) ∧ Ext w w' :=
  (bytes_any va vb xs xs w ha hb).mono fun e w' h => by simpa using h
theorem exA : typedL defT false false 19 = (true, false, true) := by decide +kernel
theorem exB : typedL defT true false 17 = (false, false, true) := by decide +kernel
theorem exC : markL (setL defT 40 true) false 8 3 8 = (true, [19]) := by decide +kernel
theorem exD : markL (setL defT 40 true) true 3 3 8 = (false, [17]) := by decide +kernel
theorem exE : askL defT true false 9 = (false, false, [], 2) := by decide +kernel
set_option maxRecDepth 100000 in
set_option maxHeartbeats 800000 in
theorem alive_any (w : World) : Calls Try.prog 7 #[] w fun e w' => e = .returned (.bool true) ∧ Ext w w' := by
  have hD := default_any
  have hA := fun w' => typed_any defT false false 19 w' defT_ok
  have hB := fun w' => typed_any defT true false 17 w' defT_ok
  have hS := fun w' => set_any defT 40 true w' defT_ok
  have hC := fun w' => mark_any (setL defT 40 true) false false 8 3 8 w' (setL_ok defT_ok 40 true)
  have hM := fun w' => mark_any (setL defT 40 true) false true 3 3 8 w' (setL_ok defT_ok 40 true)
  have hK := fun w' => ask_any defT true false 9 w' defT_ok
  rw [exA] at hA
  rw [exB] at hB
  rw [exC] at hC
  rw [exD] at hM
  rw [exE] at hK
  have h1 := Lib.hid defT.one
  have hn := Tm.size defT_ok
  have g1 := Lib.hid (setL defT 40 true).one
  have gn := Tm.size (setL_ok defT_ok 40 true)
  generalize (setL defT 40 true).arr = ct at hS hC hM g1 gn
  generalize defT.arr = cs at hD hA hB hS hK h1 hn
  have hi : (Try.prog.info? 26).map (·.size) = some cs.size := by rw [hn]; kernel_rfl
  have gi : (Try.prog.info? 26).map (·.size) = some ct.size := by rw [gn]; kernel_rfl
  have hiF : (Try.prog.info? 32).map (·.size) = some 2 := by kernel_rfl
  have hn24 := Lib.hid hn
  have gn24 := Lib.hid gn
  go_enter Try.func7, Try.ntmps7
  (go_wp2_with fail; refine (hD _).mono ?_; rintro e w1 ⟨rfl, E1⟩)
  go_wp2_with (first | (refine wpList_store_A rfl 26 _ _ rfl w1.heap.size _ rfl rfl 26 _ (show Blk _ _ _ _ from Blk.at_ _ _ (by simp)) hi (by first | rfl | (rw [hn24.out]; rfl)) h1.out ?_; intro w2 Hw2 Ew2; have Ew2 := Ew2 w1.heap.size w1 (by repeat (first | with_reducible exact Ext.refl _ | refine Ext.drewN ?_ _ | refine Ext.drew ?_ | refine Ext.alloc ?_ _ | assumption | (refine Below.trans ?_ (by assumption)) | (refine Ext.trans ?_ (by assumption)) | (refine Below.trans ?_ (Below.mono (by assumption) (by omega))))) (Nat.le_refl _); have Hw2 := Lib.hid Hw2) | (refine wpList_load_row rfl 26 _ rfl _ rfl 26 _ _ _ Hw2.out Try.underlying26 rfl hi ?_))
  refine (hA _).mono ?_
  rintro e w3 ⟨rfl, E3⟩
  have T3 := Lib.hid (Hw2.out.ext E3)
  have E03 : Ext w w3 := (by repeat (first | with_reducible exact Ext.refl _ | refine Ext.drewN ?_ _ | refine Ext.drew ?_ | refine Ext.alloc ?_ _ | assumption | (refine Below.trans ?_ (by assumption)) | (refine Ext.trans ?_ (by assumption)) | (refine Below.trans ?_ (Below.mono (by assumption) (by omega)))))
  clear E1 Ew2 E3 Hw2
  go_wp2_with (first | ((refine wpList_store_A rfl 32 _ _ rfl w3.heap.size _ rfl rfl 32 _ (show Blk _ _ _ _ from Blk.at_ _ _ (by simp)) hiF rfl (by simp [Value.oneCell']) ?_; intro w4 Hw4 Ew4; have Ew4 := Ew4 w3.heap.size w3 (by repeat (first | with_reducible exact Ext.refl _ | refine Ext.drewN ?_ _ | refine Ext.drew ?_ | refine Ext.alloc ?_ _ | assumption | (refine Below.trans ?_ (by assumption)) | (refine Ext.trans ?_ (by assumption)) | (refine Below.trans ?_ (Below.mono (by assumption) (by omega))))) (Nat.le_refl _); have Hw4 := Lib.hid Hw4); have T4 := Lib.hid (T3.out.ext Ew4)) | (refine wpList_load_row rfl 26 _ rfl _ rfl 26 _ _ _ T4.out Try.underlying26 rfl hi ?_) | (refine wpList_load_row rfl 32 _ rfl _ rfl 32 _ _ _ Hw4.out Try.underlying32 rfl hiF ?_))
  refine (hB _).mono ?_
  rintro e w5 ⟨rfl, E5⟩
  have T5 := Lib.hid (T4.out.ext E5)
  have A5 := Lib.hid (Hw4.out.ext E5)
  have E05 : Ext w w5 := (E03.trans Ew4).trans E5
  clear E03 Ew4 E5 Hw4 T4 T3
  go_wp2_with (first | ((refine wpList_store_A rfl 32 _ _ rfl w5.heap.size _ rfl rfl 32 _ (show Blk _ _ _ _ from Blk.at_ _ _ (by simp)) hiF rfl (by simp [Value.oneCell']) ?_; intro w6 Hw6 Ew6; have Ew6 := Ew6 w5.heap.size w5 (by repeat (first | with_reducible exact Ext.refl _ | refine Ext.drewN ?_ _ | refine Ext.drew ?_ | refine Ext.alloc ?_ _ | assumption | (refine Below.trans ?_ (by assumption)) | (refine Ext.trans ?_ (by assumption)) | (refine Below.trans ?_ (Below.mono (by assumption) (by omega))))) (Nat.le_refl _); have Hw6 := Lib.hid Hw6); have T6 := Lib.hid (T5.out.ext Ew6); have A6 := Lib.hid (A5.out.ext Ew6)) | (refine wpList_load_row rfl 26 _ rfl _ rfl 26 _ _ _ T6.out Try.underlying26 rfl hi ?_))
  refine (hS _).mono ?_
  rintro e w7 ⟨rfl, E7⟩
  have T7 := Lib.hid (T6.out.ext E7)
  have A7 := Lib.hid (A6.out.ext E7)
  have G7 := Lib.hid (Hw6.out.ext E7)
  have E07 : Ext w w7 := (E05.trans Ew6).trans E7
  clear E05 Ew6 E7 Hw6 T6 T5 A6 A5
  go_wp2_with (first | ((refine wpList_store_A rfl 26 _ _ rfl w7.heap.size _ rfl rfl 26 _ (show Blk _ _ _ _ from Blk.at_ _ _ (by simp)) gi (by first | rfl | (rw [gn24.out]; rfl)) g1.out ?_; intro w8 Hw8 Ew8; have Ew8 := Ew8 w7.heap.size w7 (by repeat (first | with_reducible exact Ext.refl _ | refine Ext.drewN ?_ _ | refine Ext.drew ?_ | refine Ext.alloc ?_ _ | assumption | (refine Below.trans ?_ (by assumption)) | (refine Ext.trans ?_ (by assumption)) | (refine Below.trans ?_ (Below.mono (by assumption) (by omega))))) (Nat.le_refl _); have Hw8 := Lib.hid Hw8)) | (refine wpList_load_row rfl 26 _ rfl _ rfl 26 _ _ _ Hw8.out Try.underlying26 rfl gi ?_))
  refine (hC _).mono ?_
  rintro e w9 ⟨Ac, cc, rfl, Rc, _, E9⟩
  have T9 := Lib.hid ((T7.out.ext Ew8).ext E9)
  have A9 := Lib.hid ((A7.out.ext Ew8).ext E9)
  have G9 := Lib.hid ((G7.out.ext Ew8).ext E9)
  have X9 := Lib.hid (Hw8.out.ext E9)
  have RC := Lib.hid Rc
  have E09 : Ext w w9 := (E07.trans Ew8).trans E9
  clear E07 Ew8 E9 Hw8 T7 A7 G7 Rc
  go_wp2_with (first | ((refine wpList_store_A rfl 32 _ _ rfl w9.heap.size _ rfl rfl 32 _ (show Blk _ _ _ _ from Blk.at_ _ _ (by simp)) hiF rfl (by simp [Value.oneCell']) ?_; intro w10 Hw10 Ew10; have Ew10 := Ew10 w9.heap.size w9 (by repeat (first | with_reducible exact Ext.refl _ | refine Ext.drewN ?_ _ | refine Ext.drew ?_ | refine Ext.alloc ?_ _ | assumption | (refine Below.trans ?_ (by assumption)) | (refine Ext.trans ?_ (by assumption)) | (refine Below.trans ?_ (Below.mono (by assumption) (by omega))))) (Nat.le_refl _); have Hw10 := Lib.hid Hw10); have X10 := Lib.hid (X9.out.ext Ew10)) | (refine wpList_load_row rfl 26 _ rfl _ rfl 26 _ _ _ X10.out Try.underlying26 rfl gi ?_) | (refine wpList_load_row rfl 32 _ rfl _ rfl 32 _ _ _ Hw10.out Try.underlying32 rfl hiF ?_))
  refine (hM _).mono ?_
  rintro e w11 ⟨Ad, cd, rfl, Rd, _, E11⟩
  have T11 := Lib.hid ((T9.out.ext Ew10).ext E11)
  have A11 := Lib.hid ((A9.out.ext Ew10).ext E11)
  have G11 := Lib.hid ((G9.out.ext Ew10).ext E11)
  have H11 := Lib.hid (Hw10.out.ext E11)
  have RC11 := Lib.hid ((RdN.ext RC.out Ew10).ext E11)
  have RD11 := Lib.hid Rd
  have E011 : Ext w w11 := (E09.trans Ew10).trans E11
  clear E09 Ew10 E11 Hw10 T9 A9 G9 RC Rd X9 X10
  go_wp2_with (first | ((refine wpList_store_A rfl 32 _ _ rfl w11.heap.size _ rfl rfl 32 _ (show Blk _ _ _ _ from Blk.at_ _ _ (by simp)) hiF rfl (by simp [Value.oneCell']) ?_; intro w12 Hw12 Ew12; have Ew12 := Ew12 w11.heap.size w11 (by repeat (first | with_reducible exact Ext.refl _ | refine Ext.drewN ?_ _ | refine Ext.drew ?_ | refine Ext.alloc ?_ _ | assumption | (refine Below.trans ?_ (by assumption)) | (refine Ext.trans ?_ (by assumption)) | (refine Below.trans ?_ (Below.mono (by assumption) (by omega))))) (Nat.le_refl _); have Hw12 := Lib.hid Hw12); have T12 := Lib.hid (T11.out.ext Ew12); have A12 := Lib.hid (A11.out.ext Ew12)) | (refine wpList_load_row rfl 26 _ rfl _ rfl 26 _ _ _ T12.out Try.underlying26 rfl hi ?_) | (refine wpList_load_row rfl 32 _ rfl _ rfl 32 _ _ _ A12.out Try.underlying32 rfl hiF ?_))
  refine (hK _).mono ?_
  rintro e w13 ⟨Ae, ce, rfl, Re, E13⟩
  have A13 := Lib.hid (A12.out.ext E13)
  have G13 := Lib.hid ((G11.out.ext Ew12).ext E13)
  have H13 := Lib.hid ((H11.out.ext Ew12).ext E13)
  have RC13 := Lib.hid ((RdN.ext RC11.out Ew12).ext E13)
  have RD13 := Lib.hid ((RdN.ext RD11.out Ew12).ext E13)
  have E013 : Ext w w13 := (E011.trans Ew12).trans E13
  clear E011 Ew12 E13 Hw12 T11 A11 G11 RC11 RD11 Re T12 A12 H11
  go_wp2_with ((refine wpList_store_A rfl 32 _ _ rfl w13.heap.size _ rfl rfl 32 _ (show Blk _ _ _ _ from Blk.at_ _ _ (by simp)) hiF rfl (by simp [Value.oneCell']) ?_; intro w14 Hw14 Ew14; have Ew14 := Ew14 w13.heap.size w13 (by repeat (first | with_reducible exact Ext.refl _ | refine Ext.drewN ?_ _ | refine Ext.drew ?_ | refine Ext.alloc ?_ _ | assumption | (refine Below.trans ?_ (by assumption)) | (refine Ext.trans ?_ (by assumption)) | (refine Below.trans ?_ (Below.mono (by assumption) (by omega))))) (Nat.le_refl _); have Hw14 := Lib.hid Hw14); obtain ⟨a0, -, -, -⟩ := (A13.out.ext Ew14).two; obtain ⟨b0, -, -, -⟩ := (G13.out.ext Ew14).two; obtain ⟨-, c1, -, -⟩ := (H13.out.ext Ew14).two)
  refine (bytes_same _ _ [19] _ (RdN.alloc (RdN.ext RC13.out Ew14) _) (RI.lit .u8 [19] _ rfl (by simp))).mono ?_
  rintro e w15 ⟨rfl, E15⟩
  have E1415 : Ext w14 w15 := (by repeat (first | with_reducible exact Ext.refl _ | refine Ext.drewN ?_ _ | refine Ext.drew ?_ | refine Ext.alloc ?_ _ | assumption | (refine Below.trans ?_ (by assumption)) | (refine Ext.trans ?_ (by assumption)) | (refine Below.trans ?_ (Below.mono (by assumption) (by omega)))))
  go_wp2_with fail
  refine (bytes_same _ _ [17] _ (RdN.alloc (RdN.ext (RdN.ext RD13.out Ew14) E1415) _) (RI.lit .u8 [17] _ rfl (by simp))).mono ?_
  rintro e w16 ⟨rfl, E16⟩
  have E1516 : Ext w15 w16 := (by repeat (first | with_reducible exact Ext.refl _ | refine Ext.drewN ?_ _ | refine Ext.drew ?_ | refine Ext.alloc ?_ _ | assumption | (refine Below.trans ?_ (by assumption)) | (refine Ext.trans ?_ (by assumption)) | (refine Below.trans ?_ (Below.mono (by assumption) (by omega)))))
  go_wp2
  go_ret
  exact ⟨rfl, Ext.trans E013 (Ext.trans Ew14 (Ext.trans E1415 E1516))⟩
end Go.Proofs.Ytiknogkopfhoiaa
