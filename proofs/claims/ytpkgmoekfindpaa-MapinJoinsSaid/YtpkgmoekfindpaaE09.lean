/- Mapin: the document's examples answer true; the same bytes. No condition. -/
import Derived.Test.YtpkgmoekfindpaaD09
namespace Go.Proofs.Ytpkgmoekfindpaa
open Go.RowKit Go.Kb

/- the same bytes -/
theorem take_ne {xs ys : List Int} {k : Nat} {x y : Int} (h1 : xs[k]? = some x) (h2 : ys[k]? = some y) (hne : x ≠ y) : xs ≠ ys := by
  rintro rfl
  rw [h1] at h2
  exact hne (Option.some.inj h2)
theorem take_all {xs ys : List Int} {k : Nat} (hk : k ≤ xs.length) (hn : ¬ k < xs.length) (hl : xs.length = ys.length) (ht : xs.take k = ys.take k) : xs = ys := by
  have : k = xs.length := by omega
  subst this
  rw [List.take_of_length_le (Nat.le_refl _), List.take_of_length_le (by omega)] at ht
  exact ht
set_option maxHeartbeats 400000 in
theorem bytes_q (va vb : Value) (xs ys : List Int) (w : World) (ha : RI .u8 w va xs) (hb : RI .u8 w vb ys) :
    Calls Try.prog 8 #[va, vb] w fun e w' => e = .returned (.bool (decide (xs = ys))) ∧ Qt w w' := by
  have ha' := ha
  have hb' := hb
  obtain ⟨_, A, c, rfl, hnc, hcm, _⟩ := ha'
  obtain ⟨_, A2, c2, rfl, hnc2, hcm2, _⟩ := hb'
  have Ha := Lib.hid ha
  have Hb := Lib.hid hb
  clear ha hb
  unfold maxLen at hcm hcm2
  by_cases hl : xs.length = ys.length
  · have HL := Lib.hid hl
    have hl2 : ((xs.length : Int) == (ys.length : Int)) = true := by simp [hl]
    have hl3 : ((xs.length : Int) != (ys.length : Int)) = false := by simp [hl]
    clear hl
    go_enter Try.func8, Try.ntmps8
    go_wp2
    clear hl2 hl3
    go_loopw [13] (fun i wr => ∃ k : Nat, k ≤ xs.length ∧ i = .int .i64 k ∧ xs.take k = ys.take k ∧ Qt w wr) (fun i _ => xs.length - (intOf i).toNat)
    case atStart => exact ⟨0, Nat.zero_le _, rfl, by simp, Qt.refl _⟩
    case round =>
      obtain ⟨k, hk, rfl, htake, hq⟩ := hrel
      have HT := Lib.hid htake
      have Ha := Lib.hid (Ha.out.ext hq.ext)
      have Hb := Lib.hid (Hb.out.ext hq.ext)
      clear htake
      by_cases hlt : k < xs.length
      · have hlt2 : k < ys.length := by have := HL.out; omega
        obtain ⟨b, off, x, rfl, hc1, hx⟩ := Ha.out.icell hlt
        obtain ⟨b2, off2, y, rfl, hc2, hy⟩ := Hb.out.icell hlt2
        by_cases he : x = y
        · subst he
          go_wp2
          go_quiet (fail)
          go_wp2
          go_roundw
          case rel => exact ⟨k + 1, by omega, by go_num, by rw [take_succ_of hx.out, take_succ_of hy.out, HT.out], (by repeat (first | with_reducible exact Qt.refl _ | refine Qt.drewN ?_ _ | assumption | refine Qt.trans ?_ (by assumption)))⟩
          case measure => simp [intOf]; omega
        · have he2 : (x == y) = false := by simp [he]
          have he3 : (x != y) = true := by simp [he]
          go_wp2
          go_quiet (fail)
          go_wp2
          go_ret
          exact ⟨by simp [take_ne hx.out hy.out he], (by repeat (first | with_reducible exact Qt.refl _ | refine Qt.drewN ?_ _ | assumption | refine Qt.trans ?_ (by assumption)))⟩
      · go_wp2
        go_ret
        exact ⟨by simp [take_all hk hlt HL.out HT.out], (by repeat (first | with_reducible exact Qt.refl _ | refine Qt.drewN ?_ _ | assumption | refine Qt.trans ?_ (by assumption)))⟩
  · have hl2 : ((xs.length : Int) == (ys.length : Int)) = false := by simp; omega
    have hl3 : ((xs.length : Int) != (ys.length : Int)) = true := by simp; omega
    have hne : xs ≠ ys := fun h => hl (by rw [h])
    have HN := Lib.hid hne
    clear hne hl
    go_enter Try.func8, Try.ntmps8
    go_wp2
    go_ret
    exact ⟨by simp [HN.out], Qt.refl _⟩

theorem bytes_any (va vb : Value) (xs ys : List Int) (w : World) (ha : RI .u8 w va xs) (hb : RI .u8 w vb ys) :
    Calls Try.prog 8 #[va, vb] w fun e w' => e = .returned (.bool (decide (xs = ys))) ∧ Ext w w' :=
  (bytes_q va vb xs ys w ha hb).mono fun _ _ ⟨he, hq⟩ => ⟨he, hq.ext⟩
theorem bytes_same (va vb : Value) (xs : List Int) (w : World) (ha : RI .u8 w va xs) (hb : RI .u8 w vb xs) :
    Calls Try.prog 8 #[va, vb] w fun e w' => e = .returned (.bool true) ∧ Ext w w' :=
  (bytes_any va vb xs xs w ha hb).mono fun e w' h => by simpa using h
theorem exA : mapL (mfL defT) [97, 13, 10, 255] = [97, 10, 10, 255] := by decide +kernel
theorem exB : mapL (mfL (setL defT 31 true)) [255] = [255, 255] := by decide +kernel
theorem exC : mapL (mfL (setL defT 33 true)) [225] = [97] := by decide +kernel
theorem exD : endsL (mfL (setL defT 35 true)) 13 = (0, false) := by decide +kernel
set_option maxHeartbeats 800000 in
theorem alive_any (w : World) : Calls Try.prog 7 #[] w fun e w' => e = .returned (.bool true) ∧ Ext w w' := by
  have hD := default_any
  have hA := fun v w' hr => map_any defT v [97, 13, 10, 255] w' defT_ok hr (by simp [Bs]) (by simp)
  have hS1 := fun w' => set_any defT 31 true w' defT_ok
  have hS3 := fun w' => set_any defT 33 true w' defT_ok
  have hS5 := fun w' => set_any defT 35 true w' defT_ok
  have hB := fun v w' hr => map_any (setL defT 31 true) v [255] w' (setL_ok defT_ok 31 true) hr (by simp [Bs]) (by simp)
  have hC := fun v w' hr => map_any (setL defT 33 true) v [225] w' (setL_ok defT_ok 33 true) hr (by simp [Bs]) (by simp)
  have hU := fun w' => turn_any (setL defT 35 true) 13 w' (setL_ok defT_ok 35 true) (by decide)
  rw [exA] at hA
  rw [exB] at hB
  rw [exC] at hC
  rw [exD] at hU
  have h1 := Lib.hid defT.one
  have hn := Tm.size defT_ok
  generalize (setL defT 31 true).arr = c1 at *
  generalize (setL defT 33 true).arr = c3 at *
  generalize (setL defT 35 true).arr = c5 at *
  generalize defT.arr = cs at *
  have hi : (Try.prog.info? 26).map (·.size) = some cs.size := by rw [hn]; kernel_rfl
  have hn24 := Lib.hid hn
  go_enter Try.func7, Try.ntmps7
  (go_wp2_with fail; refine (hD _).mono ?_; rintro e w1 ⟨rfl, E1⟩)
  go_wp2_with (first | (refine wpList_store_A rfl 26 _ _ rfl w1.heap.size _ rfl rfl 26 _ (show Blk _ _ _ _ from Blk.at_ _ _ (by simp)) hi (by first | rfl | (rw [hn24.out]; rfl)) h1.out ?_; intro w2 Hw2 Ew2; have Ew2 := Ew2 w1.heap.size w1 (by repeat (first | with_reducible exact Ext.refl _ | refine Ext.drewN ?_ _ | refine Ext.drew ?_ | refine Ext.alloc ?_ _ | assumption | (refine Below.trans ?_ (by assumption)) | (refine Ext.trans ?_ (by assumption)) | (refine Below.trans ?_ (Below.mono (by assumption) (by omega))))) (Nat.le_refl _); have Hw2 := Lib.hid Hw2) | (refine wpList_load_row rfl 26 _ rfl _ rfl 26 _ _ _ Hw2.out Try.underlying26 rfl hi ?_))
  refine (hA _ _ (RI.lit .u8 [97, 13, 10, 255] _ rfl (by simp))).mono ?_
  rintro e w3 ⟨A3, n3, k3, l3, rfl, o3, E3⟩
  have hT := Lib.hid (Blk.ext Hw2.out (show Ext w2 w3 from (by repeat (first | with_reducible exact Ext.refl _ | refine Ext.drewN ?_ _ | refine Ext.drew ?_ | refine Ext.alloc ?_ _ | assumption | (refine Below.trans ?_ (by assumption)) | (refine Ext.trans ?_ (by assumption)) | (refine Below.trans ?_ (Below.mono (by assumption) (by omega)))))))
  have E03 : Ext w w3 := (by repeat (first | with_reducible exact Ext.refl _ | refine Ext.drewN ?_ _ | refine Ext.drew ?_ | refine Ext.alloc ?_ _ | assumption | (refine Below.trans ?_ (by assumption)) | (refine Ext.trans ?_ (by assumption)) | (refine Below.trans ?_ (Below.mono (by assumption) (by omega)))))
  have O3 := Lib.hid o3
  obtain rfl : 4 = n3 := l3
  clear E3 Hw2 o3 Ew2 E1
  go_wp2_with (first | (refine wpList_load_row rfl 26 _ rfl _ rfl 26 _ _ _ (Blk.ext hT.out (by repeat (first | with_reducible exact Ext.refl _ | refine Ext.drewN ?_ _ | refine Ext.drew ?_ | refine Ext.alloc ?_ _ | assumption | (refine Below.trans ?_ (by assumption)) | (refine Ext.trans ?_ (by assumption)) | (refine Below.trans ?_ (Below.mono (by assumption) (by omega)))))) Try.underlying26 rfl hi ?_) | (go_at_call 11; refine (hS1 _).mono ?_; rintro e w4 ⟨rfl, E4⟩))
  refine (hB _ _ (RI.lit .u8 [255] _ rfl (by simp))).mono ?_
  rintro e w5 ⟨A5, n5, k5, l5, rfl, o5, E5⟩
  obtain rfl : 2 = n5 := l5
  clear o5
  go_wp2_with (first | (refine wpList_load_row rfl 26 _ rfl _ rfl 26 _ _ _ (Blk.ext hT.out (by repeat (first | with_reducible exact Ext.refl _ | refine Ext.drewN ?_ _ | refine Ext.drew ?_ | refine Ext.alloc ?_ _ | assumption | (refine Below.trans ?_ (by assumption)) | (refine Ext.trans ?_ (by assumption)) | (refine Below.trans ?_ (Below.mono (by assumption) (by omega)))))) Try.underlying26 rfl hi ?_) | (go_at_call 11; refine (hS3 _).mono ?_; rintro e w6 ⟨rfl, E6⟩))
  refine (hC _ _ (RI.lit .u8 [225] _ rfl (by simp))).mono ?_
  rintro e w7 ⟨A7, n7, k7, l7, rfl, o7, E7⟩
  obtain rfl : 1 = n7 := l7
  have O7 := Lib.hid o7
  clear o7
  go_wp2_with (first | (refine wpList_load_row rfl 26 _ rfl _ rfl 26 _ _ _ (Blk.ext hT.out (by repeat (first | with_reducible exact Ext.refl _ | refine Ext.drewN ?_ _ | refine Ext.drew ?_ | refine Ext.alloc ?_ _ | assumption | (refine Below.trans ?_ (by assumption)) | (refine Ext.trans ?_ (by assumption)) | (refine Below.trans ?_ (Below.mono (by assumption) (by omega)))))) Try.underlying26 rfl hi ?_) | (go_at_call 11; refine (hS5 _).mono ?_; rintro e w8 ⟨rfl, E8⟩))
  refine (hU _).mono ?_
  rintro e w9 ⟨rfl, E9⟩
  have R3 : Hid (RI .u8 w9 (.slice A3 4 k3) [97, 10, 10, 255]) := Lib.hid (O3.out.ext (by repeat (first | with_reducible exact Ext.refl _ | refine Ext.drewN ?_ _ | refine Ext.drew ?_ | refine Ext.alloc ?_ _ | assumption | (refine Below.trans ?_ (by assumption)) | (refine Ext.trans ?_ (by assumption)) | (refine Below.trans ?_ (Below.mono (by assumption) (by omega)))))).rdT.ri
  have R7 : Hid (RI .u8 w9 (.slice A7 1 k7) [97]) := Lib.hid (O7.out.ext (by repeat (first | with_reducible exact Ext.refl _ | refine Ext.drewN ?_ _ | refine Ext.drew ?_ | refine Ext.alloc ?_ _ | assumption | (refine Below.trans ?_ (by assumption)) | (refine Ext.trans ?_ (by assumption)) | (refine Below.trans ?_ (Below.mono (by assumption) (by omega)))))).rdT.ri
  have E09 : Ext w w9 := Ext.trans E03 (by repeat (first | with_reducible exact Ext.refl _ | refine Ext.drewN ?_ _ | refine Ext.drew ?_ | refine Ext.alloc ?_ _ | assumption | (refine Below.trans ?_ (by assumption)) | (refine Ext.trans ?_ (by assumption)) | (refine Below.trans ?_ (Below.mono (by assumption) (by omega)))))
  clear O3 O7 E4 E5 E6 E7 E8 E9
  go_wp2_with fail
  refine (bytes_same _ _ [97, 10, 10, 255] _ (RdN.alloc R3.out _) (RI.lit .u8 [97, 10, 10, 255] _ rfl (by simp))).mono ?_
  rintro e w10 ⟨rfl, E10⟩
  have R7 := Lib.hid (RdN.ext R7.out (show Ext w9 w10 from (by repeat (first | with_reducible exact Ext.refl _ | refine Ext.drewN ?_ _ | refine Ext.drew ?_ | refine Ext.alloc ?_ _ | assumption | (refine Below.trans ?_ (by assumption)) | (refine Ext.trans ?_ (by assumption)) | (refine Below.trans ?_ (Below.mono (by assumption) (by omega)))))))
  have E010 : Ext w w10 := Ext.trans E09 (by repeat (first | with_reducible exact Ext.refl _ | refine Ext.drewN ?_ _ | refine Ext.drew ?_ | refine Ext.alloc ?_ _ | assumption | (refine Below.trans ?_ (by assumption)) | (refine Ext.trans ?_ (by assumption)) | (refine Below.trans ?_ (Below.mono (by assumption) (by omega)))))
  go_wp2_with fail
  refine (bytes_same _ _ [97] _ (RdN.alloc R7.out _) (RI.lit .u8 [97] _ rfl (by simp))).mono ?_
  rintro e w11 ⟨rfl, E11⟩
  go_wp2
  go_ret
  exact ⟨rfl, Ext.trans E010 (by repeat (first | with_reducible exact Ext.refl _ | refine Ext.drewN ?_ _ | refine Ext.drew ?_ | refine Ext.alloc ?_ _ | assumption | (refine Below.trans ?_ (by assumption)) | (refine Ext.trans ?_ (by assumption)) | (refine Below.trans ?_ (Below.mono (by assumption) (by omega)))))⟩
end Go.Proofs.Ytpkgmoekfindpaa
