/- Echo: the document's examples answer true; the same bytes; what is near the bound. No condition. -/
import Derived.Test.YtjgheofaflgagaaD11
namespace Go.Proofs.Ytjgheofaflgagaa
open Go.RowKit Go.Kb

/- the same bytes -/
theorem take_ne {xs ys : List Int} {k : Nat} {x y : Int} (h1 : xs[k]? = some x) (h2 : ys[k]? = some y) (hne : x ≠ y) : xs ≠ ys := by
  rintro rfl
  rw [h1] at h2
  exact hne (Option.some.inj h2)
theorem take_all {xs ys : List Int} {k : Nat} (hk : k ≤ xs.length) (hn : ¬ k < xs.length) (hl : xs.length = ys.length) (ht : xs.take k = ys.take k) : xs = ys := by
  have : k = xs.length := by omega
  subst this
  rw [List.take_of_length_le (Nat.le_refl _), List.take_of_length_le (by omega)] at ht
  exact ht
set_option maxHeartbeats 400000 in
theorem bytes_q (va vb : Value) (xs ys : List Int) (w : World) (ha : RI .u8 w va xs) (hb : RI .u8 w vb ys) :
    Calls Try.prog 14 #[va, vb] w fun e w' => e = .returned (.bool (decide (xs = ys))) ∧ Qt w w' := by
  have ha' := ha
  have hb' := hb
  obtain ⟨_, A, c, rfl, hnc, hcm, _⟩ := ha'
  obtain ⟨_, A2, c2, rfl, hnc2, hcm2, _⟩ := hb'
  have Ha := Lib.hid ha
  have Hb := Lib.hid hb
  clear ha hb
  unfold maxLen at hcm hcm2
  by_cases hl : xs.length = ys.length
  · have HL := Lib.hid hl
    have hl2 : ((xs.length : Int) == (ys.length : Int)) = true := by simp [hl]
    have hl3 : ((xs.length : Int) != (ys.length : Int)) = false := by simp [hl]
    clear hl
    go_enter Try.func14, Try.ntmps14
    go_wp2
    clear hl2 hl3
    go_loopw [13] (fun i wr => ∃ k : Nat, k ≤ xs.length ∧ i = .int .i64 k ∧ xs.take k = ys.take k ∧ Qt w wr) (fun i _ => xs.length - (intOf i).toNat)
    case atStart => exact ⟨0, Nat.zero_le _, rfl, by simp, Qt.refl _⟩
    case round =>
      obtain ⟨k, hk, rfl, htake, hq⟩ := hrel
      have HT := Lib.hid htake
      have Ha := Lib.hid (Ha.out.ext hq.ext)
      have Hb := Lib.hid (Hb.out.ext hq.ext)
      clear htake
      by_cases hlt : k < xs.length
      · have hlt2 : k < ys.length := by have := HL.out; omega
        obtain ⟨b, off, x, rfl, hc1, hx⟩ := Ha.out.icell hlt
        obtain ⟨b2, off2, y, rfl, hc2, hy⟩ := Hb.out.icell hlt2
        by_cases he : x = y
        · subst he
          go_wp2
          go_quiet (fail)
          go_wp2
          go_roundw
          case rel => exact ⟨k + 1, by omega, by go_num, by rw [take_succ_of hx.out, take_succ_of hy.out, HT.out], (by repeat (first | with_reducible exact Qt.refl _ | refine Qt.drewN ?_ _ | assumption | refine Qt.trans ?_ (by assumption)))⟩
          case measure => simp [intOf]; omega
        · have he2 : (x == y) = false := by simp [he]
          have he3 : (x != y) = true := by simp [he]
          go_wp2
          go_quiet (fail)
          go_wp2
          go_ret
          exact ⟨by simp [take_ne hx.out hy.out he], (by repeat (first | with_reducible exact Qt.refl _ | refine Qt.drewN ?_ _ | assumption | refine Qt.trans ?_ (by assumption)))⟩
      · go_wp2
        go_ret
        exact ⟨by simp [take_all hk hlt HL.out HT.out], (by repeat (first | with_reducible exact Qt.refl _ | refine Qt.drewN ?_ _ | assumption | refine Qt.trans ?_ (by assumption)))⟩
  · have hl2 : ((xs.length : Int) == (ys.length : Int)) = false := by simp; omega
    have hl3 : ((xs.length : Int) != (ys.length : Int)) = true := by simp; omega
    have hne : xs ≠ ys := fun h => hl (by rw [h])
    have HN := Lib.hid hne
    clear hne hl
    go_enter Try.func14, Try.ntmps14
    go_wp2
    go_ret
    exact ⟨by simp [HN.out], Qt.refl _⟩

theorem bytes_any (va vb : Value) (xs ys : List Int) (w : World) (ha : RI .u8 w va xs) (hb : RI .u8 w vb ys) :
    Calls Try.prog 14 #[va, vb] w fun e w' => e = .returned (.bool (decide (xs = ys))) ∧ Ext w w' :=
  (bytes_q va vb xs ys w ha hb).mono fun _ _ ⟨he, hq⟩ => ⟨he, hq.ext⟩
theorem bytes_same (va vb : Value) (xs : List Int) (w : World) (ha : RI .u8 w va xs) (hb : RI .u8 w vb xs) :
    Calls Try.prog 14 #[va, vb] w fun e w' => e = .returned (.bool true) ∧ Ext w w' :=
  (bytes_any va vb xs xs w ha hb).mono fun e w' h => by simpa using h
theorem exA : showL (hasL defT 60) 3 = [94, 67] := by decide +kernel
theorem exB : showL (hasL defT 60) 127 = [94, 63] := by decide +kernel
theorem exC : showL (hasL defT 60) 9 = [9] := by decide +kernel
theorem exD : goneN (hasL defT 60) (hasL defT 42) 0 [97, 98] [9] = 6 := by decide +kernel
set_option maxRecDepth 100000 in
set_option maxHeartbeats 800000 in
theorem alive_any (w : World) : Calls Try.prog 8 #[] w fun e w' => e = .returned (.bool true) ∧ Ext w w' := by
  have kc := fun (u : World) (C : Array Value) (n c : Nat) => Lib.run_convert_bytes_const (P := Try.prog) u 27 5 C n c Try.underlying27 Try.underlying5
  have hD := default_any
  have hA := fun w' => show_any defT 3 w' defT_ok (by decide)
  have hB := fun w' => show_any defT 127 w' defT_ok (by decide)
  have hC := fun w' => show_any defT 9 w' defT_ok (by decide)
  have hR := fun v1 v2 w' h1 h2 => rub_any defT 0 v1 v2 [97, 98] [9] w' defT_ok h1 (by simp [Bs]) h2 (by simp [Bs])
  rw [exA] at hA
  rw [exB] at hB
  rw [exC] at hC
  rw [exD] at hR
  have h1 := Lib.hid defT.one
  have hn := Tm.size defT_ok
  generalize defT.arr = cs at *
  have hi : (Try.prog.info? 26).map (·.size) = some cs.size := by rw [hn]; kernel_rfl
  have hn24 := Lib.hid hn
  have HR := Lib.hid hR
  clear hR
  go_enter Try.func8, Try.ntmps8
  (go_wp2_with fail; refine (hD _).mono ?_; rintro e w1 ⟨rfl, E1⟩)
  go_wp2_with (first | (refine wpList_store_A rfl 26 _ _ rfl w1.heap.size _ rfl rfl 26 _ (show Blk _ _ _ _ from Blk.at_ _ _ (by simp)) hi (by first | rfl | (rw [hn24.out]; rfl)) h1.out ?_; intro w2 Hw2 Ew2; have Ew2 := Ew2 w1.heap.size w1 (by repeat (first | with_reducible exact Ext.refl _ | refine Ext.drewN ?_ _ | refine Ext.drew ?_ | refine Ext.alloc ?_ _ | assumption | (refine Below.trans ?_ (by assumption)) | (refine Ext.trans ?_ (by assumption)) | (refine Below.trans ?_ (Below.mono (by assumption) (by omega))))) (Nat.le_refl _); have Hw2 := Lib.hid Hw2) | (refine wpList_load_row rfl 26 _ rfl _ rfl 26 _ _ _ Hw2.out Try.underlying26 rfl hi ?_))
  refine (hA _).mono ?_
  rintro e w3 ⟨A3, n3, c3, l3, rfl, r3, E3⟩
  have hT := Lib.hid (Blk.ext Hw2.out (show Ext w2 w3 from (by repeat (first | with_reducible exact Ext.refl _ | refine Ext.drewN ?_ _ | refine Ext.drew ?_ | refine Ext.alloc ?_ _ | assumption | (refine Below.trans ?_ (by assumption)) | (refine Ext.trans ?_ (by assumption)) | (refine Below.trans ?_ (Below.mono (by assumption) (by omega)))))))
  have E03 : Ext w w3 := (by repeat (first | with_reducible exact Ext.refl _ | refine Ext.drewN ?_ _ | refine Ext.drew ?_ | refine Ext.alloc ?_ _ | assumption | (refine Below.trans ?_ (by assumption)) | (refine Ext.trans ?_ (by assumption)) | (refine Below.trans ?_ (Below.mono (by assumption) (by omega)))))
  obtain rfl : 2 = n3 := l3
  have s3 : (convert 27 9 (.slice A3 2 c3)).run Try.prog w3 = .ok (.string { data := #[94, 67] }) w3 := RI.str (l := [94, 67]) Try.underlying27 Try.underlying5 Try.underlying9 r3
  clear E3 Hw2 Ew2 E1 r3
  go_wp2_with (first | (refine wpList_openG rfl rfl ?_; (refine wpList_load_row rfl 26 _ rfl _ rfl 26 _ _ _ (Blk.ext hT.out (by repeat (first | with_reducible exact Ext.refl _ | refine Ext.drewN ?_ _ | refine Ext.drew ?_ | refine Ext.alloc ?_ _ | assumption | (refine Below.trans ?_ (by assumption)) | (refine Ext.trans ?_ (by assumption)) | (refine Below.trans ?_ (Below.mono (by assumption) (by omega)))))) Try.underlying26 rfl hi ?_)))
  refine (hB _).mono ?_
  rintro e w4 ⟨A4, n4, c4, l4, rfl, r4, E4⟩
  obtain rfl : 2 = n4 := l4
  have s4 : (convert 27 9 (.slice A4 2 c4)).run Try.prog w4 = .ok (.string { data := #[94, 63] }) w4 := RI.str (l := [94, 63]) Try.underlying27 Try.underlying5 Try.underlying9 r4
  clear r4
  go_wp2_with (first | (refine wpList_openG rfl rfl ?_; (refine wpList_load_row rfl 26 _ rfl _ rfl 26 _ _ _ (Blk.ext hT.out (by repeat (first | with_reducible exact Ext.refl _ | refine Ext.drewN ?_ _ | refine Ext.drew ?_ | refine Ext.alloc ?_ _ | assumption | (refine Below.trans ?_ (by assumption)) | (refine Ext.trans ?_ (by assumption)) | (refine Below.trans ?_ (Below.mono (by assumption) (by omega)))))) Try.underlying26 rfl hi ?_)))
  refine (hC _).mono ?_
  rintro e w5 ⟨A5, n5, c5, l5, rfl, r5, E5⟩
  obtain rfl : 1 = n5 := l5
  have s5 : (convert 27 9 (.slice A5 1 c5)).run Try.prog w5 = .ok (.string { data := #[9] }) w5 := RI.str (l := [9]) Try.underlying27 Try.underlying5 Try.underlying9 r5
  clear r5
  have kd := kc (w5.alloc (Obj.cells #[.int .u8 97, .int .u8 98] 5 (2, 3))) #[.int .u8 9] 1 1
  rw [World.size_alloc] at kd
  go_wp2_with (first | (refine wpList_openG rfl rfl ?_; (refine wpList_load_row rfl 26 _ rfl _ rfl 26 _ _ _ (Blk.ext hT.out (by repeat (first | with_reducible exact Ext.refl _ | refine Ext.drewN ?_ _ | refine Ext.drew ?_ | refine Ext.alloc ?_ _ | assumption | (refine Below.trans ?_ (by assumption)) | (refine Ext.trans ?_ (by assumption)) | (refine Below.trans ?_ (Below.mono (by assumption) (by omega)))))) Try.underlying26 rfl hi ?_)))
  refine (HR.out _ _ _ (RdN.alloc (RI.lit (w := w5) .u8 [97, 98] _ rfl (by simp)) _) (RI.lit (B := w5.heap.size + 1) .u8 [9] _ (by simp) (by simp))).mono ?_
  rintro e w6 ⟨A6, n6, l6, rfl, _, _, E6⟩
  obtain rfl : 18 = n6 := l6
  go_wp2
  go_ret
  exact ⟨rfl, Ext.trans E03 (by repeat (first | with_reducible exact Ext.refl _ | refine Ext.drewN ?_ _ | refine Ext.drew ?_ | refine Ext.alloc ?_ _ | assumption | (refine Below.trans ?_ (by assumption)) | (refine Ext.trans ?_ (by assumption)) | (refine Below.trans ?_ (Below.mono (by assumption) (by omega)))))⟩
def nearL (col n : Int) : Bool := decide (n ≤ 2000 ∧ (col < 0 ∨ 65535 < col ∨ col < 30000))
theorem nearL_bd {col n : Int} (h : nearL col n = true) : n ≤ 2000 ∧ colL col ≤ 30000 := by
  unfold nearL at h
  simp only [decide_eq_true_eq] at h
  refine ⟨h.1, ?_⟩
  unfold colL
  split <;> omega
theorem near_any (col n : Int) (w : World) : Calls Try.prog 9 #[.int .i64 col, .int .i64 n] w fun e w' => e = .returned (.bool (nearL col n)) ∧ w = w' := by
  have hf : nearL col n = decide (n ≤ 2000 ∧ (col < 0 ∨ 65535 < col ∨ col < 30000)) := rfl
  obtain ⟨z, hz0⟩ : ∃ z, nearL col n = z := ⟨_, rfl⟩; rw [hz0]; have HZ := Lib.hid (hz0.symm.trans hf); clear hz0 hf
  by_cases h1 : n ≤ 2000
  · by_cases h2 : col < 0
    · have HZ : Hid (z = true) := Lib.hid (by rw [HZ.out]; exact decide_eq_true ⟨h1, .inl h2⟩)
      go_enter Try.func9, Try.ntmps9
      go_wp2
      go_ret
      exact ⟨by rw [HZ.out]; rfl, rfl⟩
    · by_cases h3 : 65535 < col
      · have HZ : Hid (z = true) := Lib.hid (by rw [HZ.out]; exact decide_eq_true ⟨h1, .inr (.inl h3)⟩)
        go_enter Try.func9, Try.ntmps9
        go_wp2
        go_ret
        exact ⟨by rw [HZ.out]; rfl, rfl⟩
      · by_cases h4 : col < 30000
        · have HZ : Hid (z = true) := Lib.hid (by rw [HZ.out]; exact decide_eq_true ⟨h1, .inr (.inr h4)⟩)
          go_enter Try.func9, Try.ntmps9
          go_wp2
          go_ret
          exact ⟨by rw [HZ.out]; simp, rfl⟩
        · have HZ : Hid (z = false) := Lib.hid (by rw [HZ.out]; exact decide_eq_false (fun h => by omega))
          go_enter Try.func9, Try.ntmps9
          go_wp2
          go_ret
          exact ⟨by rw [HZ.out]; simp; try omega, rfl⟩
  · have HZ : Hid (z = false) := Lib.hid (by rw [HZ.out]; exact decide_eq_false (fun h => h1 h.1))
    go_enter Try.func9, Try.ntmps9
    go_wp2
    go_ret
    exact ⟨by rw [HZ.out]; rfl, rfl⟩
end Go.Proofs.Ytjgheofaflgagaa
