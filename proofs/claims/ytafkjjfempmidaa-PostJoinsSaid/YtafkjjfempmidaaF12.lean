/- Post: the document's examples answer true; the same bytes. No condition. -/
import Derived.Test.YtafkjjfempmidaaE12
namespace Go.Proofs.Ytafkjjfempmidaa
open Go.RowKit Go.Kb

/- the same bytes -/
theorem take_ne {xs ys : List Int} {k : Nat} {x y : Int} (h1 : xs[k]? = some x) (h2 : ys[k]? = some y) (hne : x ≠ y) : xs ≠ ys := by
  rintro rfl
  rw [h1] at h2
  exact hne (Option.some.inj h2)
theorem take_all {xs ys : List Int} {k : Nat} (hk : k ≤ xs.length) (hn : ¬ k < xs.length) (hl : xs.length = ys.length) (ht : xs.take k = ys.take k) : xs = ys := by
  have : k = xs.length := by omega
  subst this
  rw [List.take_of_length_le (Nat.le_refl _), List.take_of_length_le (by omega)] at ht
  exact ht
set_option maxHeartbeats 400000 in
theorem bytes_q (va vb : Value) (xs ys : List Int) (w : World) (ha : RI .u8 w va xs) (hb : RI .u8 w vb ys) :
    Calls Try.prog 10 #[va, vb] w fun e w' => e = .returned (.bool (decide (xs = ys))) ∧ Qt w w' := by
  have ha' := ha
  have hb' := hb
  obtain ⟨_, A, c, rfl, hnc, hcm, _⟩ := ha'
  obtain ⟨_, A2, c2, rfl, hnc2, hcm2, _⟩ := hb'
  have Ha := Lib.hid ha
  have Hb := Lib.hid hb
  clear ha hb
  unfold maxLen at hcm hcm2
  by_cases hl : xs.length = ys.length
  · have HL := Lib.hid hl
    have hl2 : ((xs.length : Int) == (ys.length : Int)) = true := by simp [hl]
    have hl3 : ((xs.length : Int) != (ys.length : Int)) = false := by simp [hl]
    clear hl
    go_enter Try.func10, Try.ntmps10
    go_wp2
    clear hl2 hl3
    go_loopw [13] (fun i wr => ∃ k : Nat, k ≤ xs.length ∧ i = .int .i64 k ∧ xs.take k = ys.take k ∧ Qt w wr) (fun i _ => xs.length - (intOf i).toNat)
    case atStart => exact ⟨0, Nat.zero_le _, rfl, by simp, Qt.refl _⟩
    case round =>
      obtain ⟨k, hk, rfl, htake, hq⟩ := hrel
      have HT := Lib.hid htake
      have Ha := Lib.hid (Ha.out.ext hq.ext)
      have Hb := Lib.hid (Hb.out.ext hq.ext)
      clear htake
      by_cases hlt : k < xs.length
      · have hlt2 : k < ys.length := by have := HL.out; omega
        obtain ⟨b, off, x, rfl, hc1, hx⟩ := Ha.out.icell hlt
        obtain ⟨b2, off2, y, rfl, hc2, hy⟩ := Hb.out.icell hlt2
        by_cases he : x = y
        · subst he
          go_wp2
          go_quiet (fail)
          go_wp2
          go_roundw
          case rel => exact ⟨k + 1, by omega, by go_num, by rw [take_succ_of hx.out, take_succ_of hy.out, HT.out], (by repeat (first | with_reducible exact Qt.refl _ | refine Qt.drewN ?_ _ | assumption | refine Qt.trans ?_ (by assumption)))⟩
          case measure => simp [intOf]; omega
        · have he2 : (x == y) = false := by simp [he]
          have he3 : (x != y) = true := by simp [he]
          go_wp2
          go_quiet (fail)
          go_wp2
          go_ret
          exact ⟨by simp [take_ne hx.out hy.out he], (by repeat (first | with_reducible exact Qt.refl _ | refine Qt.drewN ?_ _ | assumption | refine Qt.trans ?_ (by assumption)))⟩
      · go_wp2
        go_ret
        exact ⟨by simp [take_all hk hlt HL.out HT.out], (by repeat (first | with_reducible exact Qt.refl _ | refine Qt.drewN ?_ _ | assumption | refine Qt.trans ?_ (by assumption)))⟩
  · have hl2 : ((xs.length : Int) == (ys.length : Int)) = false := by simp; omega
    have hl3 : ((xs.length : Int) != (ys.length : Int)) = true := by simp; omega
    have hne : xs ≠ ys := fun h => hl (by rw [h])
    have HN := Lib.hid hne
    clear hne hl
    go_enter Try.func10, Try.ntmps10
    go_wp2
    go_ret
    exact ⟨by simp [HN.out], Qt.refl _⟩

theorem bytes_any (va vb : Value) (xs ys : List Int) (w : World) (ha : RI .u8 w va xs) (hb : RI .u8 w vb ys) :
    Calls Try.prog 10 #[va, vb] w fun e w' => e = .returned (.bool (decide (xs = ys))) ∧ Ext w w' :=
  (bytes_q va vb xs ys w ha hb).mono fun _ _ ⟨he, hq⟩ => ⟨he, hq.ext⟩
theorem bytes_same (va vb : Value) (xs : List Int) (w : World) (ha : RI .u8 w va xs) (hb : RI .u8 w vb xs) :
    Calls Try.prog 10 #[va, vb] w fun e w' => e = .returned (.bool true) ∧ Ext w w' :=
  (bytes_any va vb xs xs w ha hb).mono fun e w' h => by simpa using h
theorem exA : bytesL (pfL defT) 0 [97, 10] = ([97, 13, 10], 0) := by decide +kernel
theorem exB : byteL (pfL (setL defT 74 true)) (colL 0) 13 = ([], 0) := by decide +kernel
theorem exC : FitIs (pfL defT) 0 [10, 10, 10] 5 2 := ⟨by decide, .inr (by decide +kernel), .inr (by decide +kernel)⟩
set_option maxHeartbeats 800000 in
theorem alive_any (w : World) : Calls Try.prog 7 #[] w fun e w' => e = .returned (.bool true) ∧ Ext w w' := by
  have kc := fun (u : World) (C : Array Value) (n c : Nat) => Lib.run_convert_bytes_const (P := Try.prog) u 27 5 C n c Try.underlying27 Try.underlying5
  have hD := default_any
  have hW := fun v w' hr => pbytes_any defT 0 v [97, 10] w' defT_ok hr (by simp [Bs]) (by simp)
  have hS := fun w' => set_any defT 74 true w' defT_ok
  have hE := fun w' => pbyte_any (setL defT 74 true) 0 13 w' (setL_ok defT_ok 74 true) (by decide)
  have hF := fun v w' hr => pfit_any defT 0 v [10, 10, 10] 5 w' defT_ok hr (by simp [Bs]) (by simp)
  rw [exA] at hW
  rw [exB] at hE
  have h1 := Lib.hid defT.one
  have hn := Tm.size defT_ok
  have hC := Lib.hid exC
  generalize pfL defT = p at *
  generalize (setL defT 74 true).arr = ct at hS hE
  generalize defT.arr = cs at hD hW hE hS h1 hn hF
  have hi : (Try.prog.info? 26).map (·.size) = some cs.size := by rw [hn]; kernel_rfl
  have hn24 := Lib.hid hn
  go_enter Try.func7, Try.ntmps7
  (go_wp2_with fail; refine (hD _).mono ?_; rintro e w1 ⟨rfl, E1⟩)
  go_wp2_with (first | (refine wpList_store_A rfl 26 _ _ rfl w1.heap.size _ rfl rfl 26 _ (show Blk _ _ _ _ from Blk.at_ _ _ (by simp)) hi (by first | rfl | (rw [hn24.out]; rfl)) h1.out ?_; intro w2 Hw2 Ew2; have Ew2 := Ew2 w1.heap.size w1 (by repeat (first | with_reducible exact Ext.refl _ | refine Ext.drewN ?_ _ | refine Ext.drew ?_ | refine Ext.alloc ?_ _ | assumption | (refine Below.trans ?_ (by assumption)) | (refine Ext.trans ?_ (by assumption)) | (refine Below.trans ?_ (Below.mono (by assumption) (by omega))))) (Nat.le_refl _); have Hw2 := Lib.hid Hw2) | (refine wpList_load_row rfl 26 _ rfl _ rfl 26 _ _ _ Hw2.out Try.underlying26 rfl hi ?_))
  refine (hW _ _ (RI.lit .u8 [97, 10] _ rfl (by simp))).mono ?_
  rintro e w3 ⟨A3, n3, c3, l3, rfl, o3, E3⟩
  have hT := Lib.hid (Blk.ext Hw2.out (show Ext w2 w3 from (by repeat (first | with_reducible exact Ext.refl _ | refine Ext.drewN ?_ _ | refine Ext.drew ?_ | refine Ext.alloc ?_ _ | assumption | (refine Below.trans ?_ (by assumption)) | (refine Ext.trans ?_ (by assumption)) | (refine Below.trans ?_ (Below.mono (by assumption) (by omega)))))))
  have E03 : Ext w w3 := (by repeat (first | with_reducible exact Ext.refl _ | refine Ext.drewN ?_ _ | refine Ext.drew ?_ | refine Ext.alloc ?_ _ | assumption | (refine Below.trans ?_ (by assumption)) | (refine Ext.trans ?_ (by assumption)) | (refine Below.trans ?_ (Below.mono (by assumption) (by omega)))))
  have O3 := Lib.hid o3
  obtain rfl : 3 = n3 := l3
  clear E3 Hw2 o3 Ew2 E1
  go_wp2_with (first | (refine wpList_load_row rfl 26 _ rfl _ rfl 26 _ _ _ (Blk.ext hT.out (by repeat (first | with_reducible exact Ext.refl _ | refine Ext.drewN ?_ _ | refine Ext.drew ?_ | refine Ext.alloc ?_ _ | assumption | (refine Below.trans ?_ (by assumption)) | (refine Ext.trans ?_ (by assumption)) | (refine Below.trans ?_ (Below.mono (by assumption) (by omega)))))) Try.underlying26 rfl hi ?_) | (go_at_call 15; refine (hS _).mono ?_; rintro e w4 ⟨rfl, E4⟩))
  refine (hE _).mono ?_
  rintro e w5 ⟨A5, n5, c5, l5, rfl, o5, E5⟩
  obtain rfl : 0 = n5 := l5
  go_wp2_with fail
  have R3 : RI .u8 w5 (.slice A3 3 c3) [97, 13, 10] := (O3.out.ext (by repeat (first | with_reducible exact Ext.refl _ | refine Ext.drewN ?_ _ | refine Ext.drew ?_ | refine Ext.alloc ?_ _ | assumption | (refine Below.trans ?_ (by assumption)) | (refine Ext.trans ?_ (by assumption)) | (refine Below.trans ?_ (Below.mono (by assumption) (by omega)))))).rdT.ri
  refine (bytes_same _ _ [97, 13, 10] _ (RdN.alloc R3 _) (RI.lit .u8 [97, 13, 10] _ rfl (by simp))).mono ?_
  rintro e w6 ⟨rfl, E6⟩
  go_wp2_with (first | (refine wpList_openG rfl rfl ?_; (refine wpList_load_row rfl 26 _ rfl _ rfl 26 _ _ _ (Blk.ext hT.out (by repeat (first | with_reducible exact Ext.refl _ | refine Ext.drewN ?_ _ | refine Ext.drew ?_ | refine Ext.alloc ?_ _ | assumption | (refine Below.trans ?_ (by assumption)) | (refine Ext.trans ?_ (by assumption)) | (refine Below.trans ?_ (Below.mono (by assumption) (by omega)))))) Try.underlying26 rfl hi ?_)))
  refine (hF _ _ (RI.lit .u8 [10, 10, 10] _ rfl (by simp))).mono ?_
  rintro e w7 ⟨k7, f7, rfl, E7⟩
  obtain rfl : k7 = 2 := f7.uniq hC.out
  go_wp2
  go_ret
  exact ⟨rfl, Ext.trans E03 (by repeat (first | with_reducible exact Ext.refl _ | refine Ext.drewN ?_ _ | refine Ext.drew ?_ | refine Ext.alloc ?_ _ | assumption | (refine Below.trans ?_ (by assumption)) | (refine Ext.trans ?_ (by assumption)) | (refine Below.trans ?_ (Below.mono (by assumption) (by omega)))))⟩
end Go.Proofs.Ytafkjjfempmidaa
