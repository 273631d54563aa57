/- The document's answer for bytes that come in, by contract. Conditions: the setting is one, bytes are bytes, lengths below 10^7. -/
import Derived.Test.YtpkgmoekfindpaaC09
namespace Go.Proofs.Ytpkgmoekfindpaa
open Go.RowKit Go.Kb

set_option maxHeartbeats 800000 in
theorem rturn_any (t : Tm) (c : Int) (w : World) (ht : t.Ok) : Calls Try.prog 14 #[.agg t.arr, .int .u8 c] w (SPost w (endsL (mfL t) c)) := by
  have hn := t.size ht
  have h35 := fun w' => rhas_any t 35 w' ht
  have h36 := fun w' => rhas_any t 36 w' ht
  have h34 := fun w' => rhas_any t 34 w' ht
  have hf : endsL (mfL t) c = if c = 13 then (if hasL t 35 = true then (0, false) else if hasL t 36 = true then (10, true) else (13, true))
    else if c = 10 then (if hasL t 34 = true then (13, true) else (10, true)) else (c, true) := rfl
  obtain ⟨z, hz0⟩ : ∃ z, endsL (mfL t) c = z := ⟨_, rfl⟩; rw [hz0]; have HZ := Lib.hid (hz0.symm.trans hf); clear hz0 hf
  generalize hasL t 35 = f5 at *
  generalize hasL t 36 = f6 at *
  generalize hasL t 34 = f4 at *
  generalize t.arr = cs at *
  clear ht
  have hi : (Try.prog.info? 26).map (·.size) = some cs.size := by rw [hn]; kernel_rfl
  have hT := Lib.hid (Blk.new w 26 cs)
  by_cases h13 : c = 13
  · subst h13
    replace HZ := Lib.hid (HZ.out.trans (if_pos rfl))
    go_enter Try.func14, Try.ntmps14
    go_wp2_with ((refine wpList_openG rfl rfl ?_; (refine wpList_load_row rfl 26 _ rfl _ rfl 26 _ _ _ (Blk.ext hT.out (by repeat (first | with_reducible exact Ext.refl _ | refine Ext.drewN ?_ _ | refine Ext.drew ?_ | refine Ext.alloc ?_ _ | assumption | (refine Below.trans ?_ (by assumption)) | (refine Ext.trans ?_ (by assumption)) | (refine Below.trans ?_ (Below.mono (by assumption) (by omega)))))) Try.underlying26 rfl hi ?_)))
    (with_reducible refine (h35 _).mono ?_); rintro e w1 ⟨rfl, E1⟩
    cases f5
    · replace HZ := Lib.hid (HZ.out.trans (if_neg (by decide)))
      go_wp2_with ((refine wpList_openG rfl rfl ?_; (refine wpList_load_row rfl 26 _ rfl _ rfl 26 _ _ _ (Blk.ext hT.out (by repeat (first | with_reducible exact Ext.refl _ | refine Ext.drewN ?_ _ | refine Ext.drew ?_ | refine Ext.alloc ?_ _ | assumption | (refine Below.trans ?_ (by assumption)) | (refine Ext.trans ?_ (by assumption)) | (refine Below.trans ?_ (Below.mono (by assumption) (by omega)))))) Try.underlying26 rfl hi ?_)))
      (with_reducible refine (h36 _).mono ?_); rintro e w2 ⟨rfl, E2⟩
      cases f6
      · replace HZ := Lib.hid (HZ.out.trans (if_neg (by decide)))
        go_wp2
        refine bodyPost_ret (v := .tuple #[.int .u8 13, .bool true]) (by simp [results, Try.results14, go_sem]) rfl ?_
        exact ⟨by rw [HZ.out], (by repeat (first | with_reducible exact Ext.refl _ | refine Ext.drewN ?_ _ | refine Ext.drew ?_ | refine Ext.alloc ?_ _ | assumption | (refine Below.trans ?_ (by assumption)) | (refine Ext.trans ?_ (by assumption)) | (refine Below.trans ?_ (Below.mono (by assumption) (by omega)))))⟩
      · replace HZ := Lib.hid (HZ.out.trans (if_pos rfl))
        go_wp2
        refine bodyPost_ret (v := .tuple #[.int .u8 10, .bool true]) (by simp [results, Try.results14, go_sem]) rfl ?_
        exact ⟨by rw [HZ.out], (by repeat (first | with_reducible exact Ext.refl _ | refine Ext.drewN ?_ _ | refine Ext.drew ?_ | refine Ext.alloc ?_ _ | assumption | (refine Below.trans ?_ (by assumption)) | (refine Ext.trans ?_ (by assumption)) | (refine Below.trans ?_ (Below.mono (by assumption) (by omega)))))⟩
    · replace HZ := Lib.hid (HZ.out.trans (if_pos rfl))
      go_wp2
      refine bodyPost_ret (v := .tuple #[.int .u8 0, .bool false]) (by simp [results, Try.results14, go_sem]) rfl ?_
      exact ⟨by rw [HZ.out], (by repeat (first | with_reducible exact Ext.refl _ | refine Ext.drewN ?_ _ | refine Ext.drew ?_ | refine Ext.alloc ?_ _ | assumption | (refine Below.trans ?_ (by assumption)) | (refine Ext.trans ?_ (by assumption)) | (refine Below.trans ?_ (Below.mono (by assumption) (by omega)))))⟩
  · replace HZ := Lib.hid (HZ.out.trans (if_neg h13))
    have i13 : (c == 13) = false := by simpa using h13
    by_cases h10 : c = 10
    · subst h10
      replace HZ := Lib.hid (HZ.out.trans (if_pos rfl))
      clear i13 h13
      go_enter Try.func14, Try.ntmps14
      go_wp2_with ((refine wpList_openG rfl rfl ?_; (refine wpList_load_row rfl 26 _ rfl _ rfl 26 _ _ _ (Blk.ext hT.out (by repeat (first | with_reducible exact Ext.refl _ | refine Ext.drewN ?_ _ | refine Ext.drew ?_ | refine Ext.alloc ?_ _ | assumption | (refine Below.trans ?_ (by assumption)) | (refine Ext.trans ?_ (by assumption)) | (refine Below.trans ?_ (Below.mono (by assumption) (by omega)))))) Try.underlying26 rfl hi ?_)))
      (with_reducible refine (h34 _).mono ?_); rintro e w1 ⟨rfl, E1⟩
      cases f4
      · replace HZ := Lib.hid (HZ.out.trans (if_neg (by decide)))
        go_wp2
        refine bodyPost_ret (v := .tuple #[.int .u8 10, .bool true]) (by simp [results, Try.results14, go_sem]) rfl ?_
        exact ⟨by rw [HZ.out], (by repeat (first | with_reducible exact Ext.refl _ | refine Ext.drewN ?_ _ | refine Ext.drew ?_ | refine Ext.alloc ?_ _ | assumption | (refine Below.trans ?_ (by assumption)) | (refine Ext.trans ?_ (by assumption)) | (refine Below.trans ?_ (Below.mono (by assumption) (by omega)))))⟩
      · replace HZ := Lib.hid (HZ.out.trans (if_pos rfl))
        go_wp2
        refine bodyPost_ret (v := .tuple #[.int .u8 13, .bool true]) (by simp [results, Try.results14, go_sem]) rfl ?_
        exact ⟨by rw [HZ.out], (by repeat (first | with_reducible exact Ext.refl _ | refine Ext.drewN ?_ _ | refine Ext.drew ?_ | refine Ext.alloc ?_ _ | assumption | (refine Below.trans ?_ (by assumption)) | (refine Ext.trans ?_ (by assumption)) | (refine Below.trans ?_ (Below.mono (by assumption) (by omega)))))⟩
    · replace HZ := Lib.hid (HZ.out.trans (if_neg h10))
      have i10 : (c == 10) = false := by simpa using h10
      clear h13 h10
      go_enter Try.func14, Try.ntmps14
      go_wp2
      refine bodyPost_ret (v := .tuple #[.int .u8 c, .bool true]) (by simp [results, Try.results14, go_sem]) rfl ?_
      exact ⟨by rw [HZ.out], (by repeat (first | with_reducible exact Ext.refl _ | refine Ext.drewN ?_ _ | refine Ext.drew ?_ | refine Ext.alloc ?_ _ | assumption | (refine Below.trans ?_ (by assumption)) | (refine Ext.trans ?_ (by assumption)) | (refine Below.trans ?_ (Below.mono (by assumption) (by omega)))))⟩
set_option maxHeartbeats 800000 in
theorem rstrip_any (t : Tm) (c : Int) (w : World) (ht : t.Ok) (hc : 0 ≤ c ∧ c ≤ 255) : Calls Try.prog 16 #[.agg t.arr, .int .u8 c] w fun e w' => e = .returned (.int .u8 (stripL (mfL t) c)) ∧ Ext w w' := by
  have hn := t.size ht
  have h33 := fun w' => rhas_any t 33 w' ht
  have h37 := fun w' => rhas_any t 37 w' ht
  have h59 := fun w' => rhas_any t 59 w' ht
  have hf : ∀ x, smallL (mfL t) x = if 65 ≤ x ∧ x ≤ 90 ∧ hasL t 37 = true ∧ hasL t 59 = true then x + 32 else x := fun _ => rfl
  have hg : lowL (mfL t) c = if hasL t 33 = true then c % 128 else c := rfl
  have hs : stripL (mfL t) c = smallL (mfL t) (lowL (mfL t) c) := rfl
  rw [hf] at hs
  clear hf
  generalize lowL (mfL t) c = y at hs hg
  obtain ⟨z, hz0⟩ : ∃ z, stripL (mfL t) c = z := ⟨_, rfl⟩; rw [hz0]; have HZ := Lib.hid (hz0.symm.trans hs); clear hz0 hs
  have HY := Lib.hid hg
  obtain ⟨hc0, hc1⟩ := hc
  generalize hasL t 33 = f3 at *
  generalize hasL t 37 = f7 at *
  generalize hasL t 59 = f9 at *
  generalize t.arr = cs at *
  clear ht hg
  have hi : (Try.prog.info? 26).map (·.size) = some cs.size := by rw [hn]; kernel_rfl
  have hT := Lib.hid (Blk.new w 26 cs)
  go_enter Try.func16, Try.ntmps16
  go_wp2_with ((refine wpList_load_row rfl 26 _ rfl _ rfl 26 _ _ _ (Blk.ext hT.out (by repeat (first | with_reducible exact Ext.refl _ | refine Ext.drewN ?_ _ | refine Ext.drew ?_ | refine Ext.alloc ?_ _ | assumption | (refine Below.trans ?_ (by assumption)) | (refine Ext.trans ?_ (by assumption)) | (refine Below.trans ?_ (Below.mono (by assumption) (by omega)))))) Try.underlying26 rfl hi ?_))
  (with_reducible refine (h33 _).mono ?_); rintro e w1 ⟨rfl, E1⟩
  cases f3
  · have hy : y = c := HY.out.trans (if_neg (by decide))
    subst hy
    clear HY
    go_wp2_with ((refine wpList_load_row rfl 26 _ rfl _ rfl 26 _ _ _ (Blk.ext hT.out (by repeat (first | with_reducible exact Ext.refl _ | refine Ext.drewN ?_ _ | refine Ext.drew ?_ | refine Ext.alloc ?_ _ | assumption | (refine Below.trans ?_ (by assumption)) | (refine Ext.trans ?_ (by assumption)) | (refine Below.trans ?_ (Below.mono (by assumption) (by omega)))))) Try.underlying26 rfl hi ?_))
    (with_reducible refine (h37 _).mono ?_); rintro e w2 ⟨rfl, E2⟩
    cases f7
    · replace HZ := Lib.hid (HZ.out.trans (if_neg (fun h => by cases h.2.2.1)))
      go_wp2
      go_ret
      exact ⟨by rw [HZ.out]; rfl, (by repeat (first | with_reducible exact Ext.refl _ | refine Ext.drewN ?_ _ | refine Ext.drew ?_ | refine Ext.alloc ?_ _ | assumption | (refine Below.trans ?_ (by assumption)) | (refine Ext.trans ?_ (by assumption)) | (refine Below.trans ?_ (Below.mono (by assumption) (by omega)))))⟩
    · go_wp2_with ((refine wpList_openG rfl rfl ?_; (refine wpList_load_row rfl 26 _ rfl _ rfl 26 _ _ _ (Blk.ext hT.out (by repeat (first | with_reducible exact Ext.refl _ | refine Ext.drewN ?_ _ | refine Ext.drew ?_ | refine Ext.alloc ?_ _ | assumption | (refine Below.trans ?_ (by assumption)) | (refine Ext.trans ?_ (by assumption)) | (refine Below.trans ?_ (Below.mono (by assumption) (by omega)))))) Try.underlying26 rfl hi ?_)))
      (with_reducible refine (h59 _).mono ?_); rintro e w3 ⟨rfl, E3⟩
      cases f9
      · replace HZ := Lib.hid (HZ.out.trans (if_neg (fun h => by cases h.2.2.2)))
        go_wp2
        go_ret
        exact ⟨by rw [HZ.out]; rfl, (by repeat (first | with_reducible exact Ext.refl _ | refine Ext.drewN ?_ _ | refine Ext.drew ?_ | refine Ext.alloc ?_ _ | assumption | (refine Below.trans ?_ (by assumption)) | (refine Ext.trans ?_ (by assumption)) | (refine Below.trans ?_ (Below.mono (by assumption) (by omega)))))⟩
      · by_cases l1 : 65 ≤ y
        · by_cases l2 : y ≤ 90
          · replace HZ := Lib.hid (HZ.out.trans (if_pos ⟨l1, l2, by trivial, by trivial⟩))
            go_wp2
            go_ret
            exact ⟨ret_int (by rw [HZ.out]; omega), (by repeat (first | with_reducible exact Ext.refl _ | refine Ext.drewN ?_ _ | refine Ext.drew ?_ | refine Ext.alloc ?_ _ | assumption | (refine Below.trans ?_ (by assumption)) | (refine Ext.trans ?_ (by assumption)) | (refine Below.trans ?_ (Below.mono (by assumption) (by omega)))))⟩
          · replace HZ := Lib.hid (HZ.out.trans (if_neg (fun h => l2 h.2.1)))
            go_wp2
            go_ret
            exact ⟨by rw [HZ.out]; rfl, (by repeat (first | with_reducible exact Ext.refl _ | refine Ext.drewN ?_ _ | refine Ext.drew ?_ | refine Ext.alloc ?_ _ | assumption | (refine Below.trans ?_ (by assumption)) | (refine Ext.trans ?_ (by assumption)) | (refine Below.trans ?_ (Below.mono (by assumption) (by omega)))))⟩
        · replace HZ := Lib.hid (HZ.out.trans (if_neg (fun h => l1 h.1)))
          go_wp2
          go_ret
          exact ⟨by rw [HZ.out]; rfl, (by repeat (first | with_reducible exact Ext.refl _ | refine Ext.drewN ?_ _ | refine Ext.drew ?_ | refine Ext.alloc ?_ _ | assumption | (refine Below.trans ?_ (by assumption)) | (refine Ext.trans ?_ (by assumption)) | (refine Below.trans ?_ (Below.mono (by assumption) (by omega)))))⟩
  · have hy : y = c % 128 := HY.out.trans (if_pos rfl)
    subst hy
    clear HY
    have hc2 : 0 ≤ c % 128 := by omega
    have hc3 : c % 128 ≤ 127 := by omega
    go_wp2_with ((refine wpList_load_row rfl 26 _ rfl _ rfl 26 _ _ _ (Blk.ext hT.out (by repeat (first | with_reducible exact Ext.refl _ | refine Ext.drewN ?_ _ | refine Ext.drew ?_ | refine Ext.alloc ?_ _ | assumption | (refine Below.trans ?_ (by assumption)) | (refine Ext.trans ?_ (by assumption)) | (refine Below.trans ?_ (Below.mono (by assumption) (by omega)))))) Try.underlying26 rfl hi ?_))
    (with_reducible refine (h37 _).mono ?_); rintro e w2 ⟨rfl, E2⟩
    cases f7
    · replace HZ := Lib.hid (HZ.out.trans (if_neg (fun h => by cases h.2.2.1)))
      go_wp2
      go_ret
      exact ⟨by rw [HZ.out]; rfl, (by repeat (first | with_reducible exact Ext.refl _ | refine Ext.drewN ?_ _ | refine Ext.drew ?_ | refine Ext.alloc ?_ _ | assumption | (refine Below.trans ?_ (by assumption)) | (refine Ext.trans ?_ (by assumption)) | (refine Below.trans ?_ (Below.mono (by assumption) (by omega)))))⟩
    · go_wp2_with ((refine wpList_openG rfl rfl ?_; (refine wpList_load_row rfl 26 _ rfl _ rfl 26 _ _ _ (Blk.ext hT.out (by repeat (first | with_reducible exact Ext.refl _ | refine Ext.drewN ?_ _ | refine Ext.drew ?_ | refine Ext.alloc ?_ _ | assumption | (refine Below.trans ?_ (by assumption)) | (refine Ext.trans ?_ (by assumption)) | (refine Below.trans ?_ (Below.mono (by assumption) (by omega)))))) Try.underlying26 rfl hi ?_)))
      (with_reducible refine (h59 _).mono ?_); rintro e w3 ⟨rfl, E3⟩
      cases f9
      · replace HZ := Lib.hid (HZ.out.trans (if_neg (fun h => by cases h.2.2.2)))
        go_wp2
        go_ret
        exact ⟨by rw [HZ.out]; rfl, (by repeat (first | with_reducible exact Ext.refl _ | refine Ext.drewN ?_ _ | refine Ext.drew ?_ | refine Ext.alloc ?_ _ | assumption | (refine Below.trans ?_ (by assumption)) | (refine Ext.trans ?_ (by assumption)) | (refine Below.trans ?_ (Below.mono (by assumption) (by omega)))))⟩
      · by_cases l1 : 65 ≤ (c % 128)
        · by_cases l2 : (c % 128) ≤ 90
          · replace HZ := Lib.hid (HZ.out.trans (if_pos ⟨l1, l2, by trivial, by trivial⟩))
            go_wp2
            go_ret
            exact ⟨ret_int (by rw [HZ.out]; omega), (by repeat (first | with_reducible exact Ext.refl _ | refine Ext.drewN ?_ _ | refine Ext.drew ?_ | refine Ext.alloc ?_ _ | assumption | (refine Below.trans ?_ (by assumption)) | (refine Ext.trans ?_ (by assumption)) | (refine Below.trans ?_ (Below.mono (by assumption) (by omega)))))⟩
          · replace HZ := Lib.hid (HZ.out.trans (if_neg (fun h => l2 h.2.1)))
            go_wp2
            go_ret
            exact ⟨by rw [HZ.out]; rfl, (by repeat (first | with_reducible exact Ext.refl _ | refine Ext.drewN ?_ _ | refine Ext.drew ?_ | refine Ext.alloc ?_ _ | assumption | (refine Below.trans ?_ (by assumption)) | (refine Ext.trans ?_ (by assumption)) | (refine Below.trans ?_ (Below.mono (by assumption) (by omega)))))⟩
        · replace HZ := Lib.hid (HZ.out.trans (if_neg (fun h => l1 h.1)))
          go_wp2
          go_ret
          exact ⟨by rw [HZ.out]; rfl, (by repeat (first | with_reducible exact Ext.refl _ | refine Ext.drewN ?_ _ | refine Ext.drew ?_ | refine Ext.alloc ?_ _ | assumption | (refine Below.trans ?_ (by assumption)) | (refine Ext.trans ?_ (by assumption)) | (refine Below.trans ?_ (Below.mono (by assumption) (by omega)))))⟩
set_option maxHeartbeats 400000 in
theorem rmark_any (t : Tm) (c : Int) (w : World) (ht : t.Ok) : Calls Try.prog 18 #[.agg t.arr, .int .u8 c] w (RPost w (markL (mfL t) c)) := by
  have hn := t.size ht
  have h31 := fun w' => rhas_any t 31 w' ht
  have h33 := fun w' => rhas_any t 33 w' ht
  have hf : markL (mfL t) c = if c = 255 ∧ hasL t 31 = true ∧ hasL t 33 = false then [255, 255] else [c] := rfl
  obtain ⟨z, hz0⟩ : ∃ z, markL (mfL t) c = z := ⟨_, rfl⟩; rw [hz0]; have HZ := Lib.hid (hz0.symm.trans hf); clear hz0 hf
  generalize hasL t 31 = f1 at *
  generalize hasL t 33 = f3 at *
  generalize t.arr = cs at *
  clear ht
  have hi : (Try.prog.info? 26).map (·.size) = some cs.size := by rw [hn]; kernel_rfl
  have hT := Lib.hid (Blk.new w 26 cs)
  by_cases hc : c = 255
  · subst hc
    go_enter Try.func18, Try.ntmps18
    go_wp2_with ((refine wpList_openG rfl rfl ?_; (refine wpList_load_row rfl 26 _ rfl _ rfl 26 _ _ _ (Blk.ext hT.out (by repeat (first | with_reducible exact Ext.refl _ | refine Ext.drewN ?_ _ | refine Ext.drew ?_ | refine Ext.alloc ?_ _ | assumption | (refine Below.trans ?_ (by assumption)) | (refine Ext.trans ?_ (by assumption)) | (refine Below.trans ?_ (Below.mono (by assumption) (by omega)))))) Try.underlying26 rfl hi ?_)))
    (with_reducible refine (h31 _).mono ?_); rintro e w3 ⟨rfl, E3⟩
    cases f1
    · replace HZ := Lib.hid (HZ.out.trans (if_neg (fun h => by cases h.2.1)))
      go_wp2
      go_ret
      exact ⟨_, 1, 1, by rw [HZ.out]; rfl, rfl, by rw [HZ.out]; exact RI.lit .u8 [255] _ rfl (by simp), (by repeat (first | with_reducible exact Ext.refl _ | refine Ext.drewN ?_ _ | refine Ext.drew ?_ | refine Ext.alloc ?_ _ | assumption | (refine Below.trans ?_ (by assumption)) | (refine Ext.trans ?_ (by assumption)) | (refine Below.trans ?_ (Below.mono (by assumption) (by omega)))))⟩
    · go_wp2_with ((refine wpList_openG rfl rfl ?_; (refine wpList_load_row rfl 26 _ rfl _ rfl 26 _ _ _ (Blk.ext hT.out (by repeat (first | with_reducible exact Ext.refl _ | refine Ext.drewN ?_ _ | refine Ext.drew ?_ | refine Ext.alloc ?_ _ | assumption | (refine Below.trans ?_ (by assumption)) | (refine Ext.trans ?_ (by assumption)) | (refine Below.trans ?_ (Below.mono (by assumption) (by omega)))))) Try.underlying26 rfl hi ?_)))
      (with_reducible refine (h33 _).mono ?_); rintro e w4 ⟨rfl, E4⟩
      cases f3
      · replace HZ := Lib.hid (HZ.out.trans (if_pos ⟨by trivial, by trivial, by trivial⟩))
        go_wp2
        go_ret
        exact ⟨_, 2, 2, by rw [HZ.out]; rfl, rfl, by rw [HZ.out]; exact RI.lit .u8 [255, 255] _ rfl (by simp), (by repeat (first | with_reducible exact Ext.refl _ | refine Ext.drewN ?_ _ | refine Ext.drew ?_ | refine Ext.alloc ?_ _ | assumption | (refine Below.trans ?_ (by assumption)) | (refine Ext.trans ?_ (by assumption)) | (refine Below.trans ?_ (Below.mono (by assumption) (by omega)))))⟩
      · replace HZ := Lib.hid (HZ.out.trans (if_neg (fun h => by cases h.2.2)))
        go_wp2
        go_ret
        exact ⟨_, 1, 1, by rw [HZ.out]; rfl, rfl, by rw [HZ.out]; exact RI.lit .u8 [255] _ rfl (by simp), (by repeat (first | with_reducible exact Ext.refl _ | refine Ext.drewN ?_ _ | refine Ext.drew ?_ | refine Ext.alloc ?_ _ | assumption | (refine Below.trans ?_ (by assumption)) | (refine Ext.trans ?_ (by assumption)) | (refine Below.trans ?_ (Below.mono (by assumption) (by omega)))))⟩
  · replace HZ := Lib.hid (HZ.out.trans (if_neg (fun h => hc h.1)))
    have hc0 : (c == 255) = false := by simpa using hc
    clear hc
    go_enter Try.func18, Try.ntmps18
    go_wp2
    go_ret
    exact ⟨_, 1, 1, by rw [HZ.out]; rfl, rfl, by rw [HZ.out]; exact RI.lit .u8 [c] _ (by simp) (by simp), (by repeat (first | with_reducible exact Ext.refl _ | refine Ext.drewN ?_ _ | refine Ext.drew ?_ | refine Ext.alloc ?_ _ | assumption | (refine Below.trans ?_ (by assumption)) | (refine Ext.trans ?_ (by assumption)) | (refine Below.trans ?_ (Below.mono (by assumption) (by omega)))))⟩
set_option maxHeartbeats 800000 in
theorem rmap_any (t : Tm) (v : Value) (l : List Int) (w : World) (ht : t.Ok) (hl : RI .u8 w v l) (hB : Bs l) (hlen : l.length ≤ 10000000) : Calls Try.prog 10 #[.agg t.arr, v] w (OPost w (mapL (mfL t) l)) := by
  have hn := t.size ht
  have hF := fun c w' hc => rstrip_any t c w' ht hc
  have hE := fun c w' (_ : 0 ≤ c ∧ c ≤ 255) => rturn_any t c w' ht
  have hM := fun c w' => rmark_any t c w' ht
  generalize mfL t = f at *
  generalize t.arr = cs at *
  clear ht
  obtain ⟨Ad, c, rfl, h1, h2⟩ := hl.shape
  have H := Lib.hid hl
  have HB := Lib.hid hB
  have HF := Lib.hid hF
  have HE := Lib.hid hE
  have HM := Lib.hid hM
  clear hF hM hl hB hE
  have hi : (Try.prog.info? 26).map (·.size) = some cs.size := by rw [hn]; kernel_rfl
  have hT := Lib.hid (Blk.new w 26 cs)
  go_enter Try.func10, Try.ntmps10
  go_wp2
  go_loopw [5, 12] (fun o i wr => ∃ (k n c : Nat) (A : Option Addr), k ≤ l.length ∧ i = .int .i64 k ∧ o = .slice A n c ∧ Hid ((mapL f (l.take k)).length = n) ∧ Hid (OwnS Ub 5 (w.heap.size + 1) (fun _ => False) wr (.slice A n c) (mapL f (l.take k))) ∧ Ext (w.alloc (.cells cs 26)) wr) (fun _ i _ => l.length - (intOf i).toNat)
  case atStart => exact ⟨0, 0, 0, none, Nat.zero_le _, rfl, rfl, Lib.hid rfl, Lib.hid (OwnS.nil _ _ _ _ _), (by repeat (first | with_reducible exact Ext.refl _ | refine Ext.drewN ?_ _ | refine Ext.drew ?_ | refine Ext.alloc ?_ _ | assumption | (refine Below.trans ?_ (by assumption)) | (refine Ext.trans ?_ (by assumption)) | (refine Below.trans ?_ (Below.mono (by assumption) (by omega)))))⟩
  case round =>
    obtain ⟨k, n, c', A, hk, rfl, rfl, HN, HO, hE⟩ := hrel
    by_cases hlt : k < l.length
    · obtain ⟨b, off, x, rfl, hx, hd⟩ := (RdN.ext H.out (Ext.trans ((Ext.refl w).alloc _) hE)).icell hlt
      have hxb := HB.out x (List.mem_of_getElem? hd.out)
      have hml := mapL_len f (l.take k)
      have htl : (l.take k).length = k := by rw [List.length_take]; omega
      have hnn := HN.out
      have hbn : n ≤ 20000000 := by omega
      have HS := Lib.hid (mapL_succ (f := f) hd.out)
      have hsz := hE.size
      simp at hsz
      have hY : byteL f x = if (endsL f (stripL f x)).2 = true then markL f (endsL f (stripL f x)).1 else [] := rfl
      have hyb := endsL_bd (f := f) (stripL_bd (f := f) hxb)
      have HZ := Lib.hid hY
      clear hY hml htl hnn
      have HX := Lib.hid fun w' => HE.out (stripL f x) w' (stripL_bd hxb)
      have HY := Lib.hid fun w' => HF.out x w' hxb
      generalize byteL f x = z at HS HZ
      generalize mapL f (l.take k) = out at HS HN HO
      generalize endsL f (stripL f x) = y at HZ hyb HX
      generalize stripL f x = sx at HX HY
      obtain ⟨yx, yb⟩ := y
      simp only at hyb
      go_wp2
      refine wp_region_held_drew (S := fun w' => Ext wr w') (by kernel_rfl) (by repeat (first | with_reducible exact Ext.refl _ | refine Ext.drewN ?_ _ | refine Ext.drew ?_ | refine Ext.alloc ?_ _ | assumption | (refine Below.trans ?_ (by assumption)) | (refine Ext.trans ?_ (by assumption)) | (refine Below.trans ?_ (Below.mono (by assumption) (by omega))))) (fun hHeld => ?_)
      (refine wpAnyH_take (i := 0) (v := .agg cs) rfl (by kernel_rfl) (by kernel_rfl) (by kernel_rfl) (fun _ _ _ h => h) (yieldsIf_load_row (by rfl) 26 _ rfl _ rfl 26 cs _ _ (fun w' hw' => Blk.ext (Blk.ext hT.out hE) hw') Try.underlying26 rfl hi) (by assumption) ?_; (try simp only [Act.put]); (try simp only [List.getElem_toArray]); (try simp only [List.getElem_cons_succ]); (try simp only [List.getElem_cons_zero]); (try simp only [List.setIfInBounds_toArray]); (try simp only [List.set_cons_succ]); (try simp only [List.set_cons_zero]))
      (refine wpAnyH_take (i := 1) (v := .agg cs) rfl (by kernel_rfl) (by kernel_rfl) (by kernel_rfl) (fun _ _ _ h => h) (yieldsIf_load_row (by rfl) 26 _ rfl _ rfl 26 cs _ _ (fun w' hw' => Blk.ext (Blk.ext hT.out hE) hw') Try.underlying26 rfl hi) (by assumption) ?_; (try simp only [Act.put]); (try simp only [List.getElem_toArray]); (try simp only [List.getElem_cons_succ]); (try simp only [List.getElem_cons_zero]); (try simp only [List.setIfInBounds_toArray]); (try simp only [List.set_cons_succ]); (try simp only [List.set_cons_zero]))
      (refine wpAnyH_take (i := 2) (v := ?_) rfl (by kernel_rfl) (by kernel_rfl) (by kernel_rfl) (fun _ _ _ h => h) (Or.inl ⟨by rfl, ?_⟩) (by assumption) ?_; rotate_left; (focus (intro w' hSw; go_simp; try with_reducible rfl)); (try simp only [List.getElem_toArray]); (try simp only [List.getElem_cons_succ]); (try simp only [List.getElem_cons_zero]); (try simp only [Act.put]); (try simp only [List.setIfInBounds_toArray]); (try simp only [List.set_cons_succ]); (try simp only [List.set_cons_zero]))
      (refine wpAnyH_ready (rs := [3]) (by kernel_rfl) (by simp) ?_; refine AllReadyH.cons rfl (fun K hK => ?_) AllReadyH.nil; go_simp; go_at_call 16; refine (HY.out _).mono ?_; rintro e w6 ⟨rfl, E6⟩; (try dsimp only); refine hK.out _ _ (by repeat (first | with_reducible exact Ext.refl _ | refine Ext.drewN ?_ _ | refine Ext.drew ?_ | refine Ext.alloc ?_ _ | assumption | (refine Below.trans ?_ (by assumption)) | (refine Ext.trans ?_ (by assumption)) | (refine Below.trans ?_ (Below.mono (by assumption) (by omega))))) (fun hHeld => ?_); clear hK K; (try simp only [Act.put]); (try simp only [List.getElem_toArray]); (try simp only [List.getElem_cons_succ]); (try simp only [List.getElem_cons_zero]); (try simp only [List.setIfInBounds_toArray]); (try simp only [List.set_cons_succ]); (try simp only [List.set_cons_zero]))
      (refine wpAnyH_ready (rs := [4]) (by kernel_rfl) (by simp) ?_; refine AllReadyH.cons rfl (fun K hK => ?_) AllReadyH.nil; go_simp; go_at_call 14; refine (HX.out _).mono ?_; rintro e w3 ⟨rfl, E3⟩; (try dsimp only); refine hK.out _ _ (by repeat (first | with_reducible exact Ext.refl _ | refine Ext.drewN ?_ _ | refine Ext.drew ?_ | refine Ext.alloc ?_ _ | assumption | (refine Below.trans ?_ (by assumption)) | (refine Ext.trans ?_ (by assumption)) | (refine Below.trans ?_ (Below.mono (by assumption) (by omega))))) (fun hHeld => ?_); clear hK K; (try simp only [Act.put]); (try simp only [List.getElem_toArray]); (try simp only [List.getElem_cons_succ]); (try simp only [List.getElem_cons_zero]); (try simp only [List.setIfInBounds_toArray]); (try simp only [List.set_cons_succ]); (try simp only [List.set_cons_zero]))
      (refine wpAnyH_take (i := 5) (v := ?_) rfl (by kernel_rfl) (by kernel_rfl) (by kernel_rfl) (fun _ _ _ h => h) (Or.inl ⟨by rfl, ?_⟩) (by assumption) ?_; rotate_left; (focus (intro w' hSw; go_simp; try with_reducible rfl)); (try simp only [List.getElem_toArray]); (try simp only [List.getElem_cons_succ]); (try simp only [List.getElem_cons_zero]); (try simp only [Act.put]); (try simp only [List.setIfInBounds_toArray]); (try simp only [List.set_cons_succ]); (try simp only [List.set_cons_zero]))
      (refine wpAnyH_take (i := 6) (v := ?_) rfl (by kernel_rfl) (by kernel_rfl) (by kernel_rfl) (fun _ _ _ h => h) (Or.inl ⟨by rfl, ?_⟩) (by assumption) ?_; rotate_left; (focus (intro w' hSw; go_simp; try with_reducible rfl)); (try simp only [List.getElem_toArray]); (try simp only [List.getElem_cons_succ]); (try simp only [List.getElem_cons_zero]); (try simp only [Act.put]); (try simp only [List.setIfInBounds_toArray]); (try simp only [List.set_cons_succ]); (try simp only [List.set_cons_zero]))
      (refine wpAnyH_take (i := 7) (v := ?_) rfl (by kernel_rfl) (by kernel_rfl) (by kernel_rfl) (fun _ _ _ h => h) (Or.inl ⟨by rfl, ?_⟩) (by assumption) ?_; rotate_left; (focus (intro w' hSw; go_simp; try with_reducible rfl)); (try simp only [List.getElem_toArray]); (try simp only [List.getElem_cons_succ]); (try simp only [List.getElem_cons_zero]); (try simp only [Act.put]); (try simp only [List.setIfInBounds_toArray]); (try simp only [List.set_cons_succ]); (try simp only [List.set_cons_zero]))
      (refine wpAnyH_take (i := 8) (v := ?_) rfl (by kernel_rfl) (by kernel_rfl) (by kernel_rfl) (fun _ _ _ h => h) (Or.inl ⟨by rfl, ?_⟩) (by assumption) ?_; rotate_left; (focus (intro w' hSw; go_simp; try with_reducible rfl)); (try simp only [List.getElem_toArray]); (try simp only [List.getElem_cons_succ]); (try simp only [List.getElem_cons_zero]); (try simp only [Act.put]); (try simp only [List.setIfInBounds_toArray]); (try simp only [List.set_cons_succ]); (try simp only [List.set_cons_zero]))
      (refine wpAnyH_take (i := 9) (v := ?_) rfl (by kernel_rfl) (by kernel_rfl) (by kernel_rfl) (fun _ _ _ h => h) (Or.inl ⟨by rfl, ?_⟩) (by assumption) ?_; rotate_left; (focus (intro w' hSw; go_simp; try with_reducible rfl)); (try simp only [List.getElem_toArray]); (try simp only [List.getElem_cons_succ]); (try simp only [List.getElem_cons_zero]); (try simp only [Act.put]); (try simp only [List.setIfInBounds_toArray]); (try simp only [List.set_cons_succ]); (try simp only [List.set_cons_zero]))
      refine wpAnyH_done (by kernel_rfl) ?_ _
      have E3 : Ext wr w3 := (by repeat (first | with_reducible exact Ext.refl _ | refine Ext.drewN ?_ _ | refine Ext.drew ?_ | refine Ext.alloc ?_ _ | assumption | (refine Below.trans ?_ (by assumption)) | (refine Ext.trans ?_ (by assumption)) | (refine Below.trans ?_ (Below.mono (by assumption) (by omega)))))
      clear E6 hHeld
      cases yb
      · replace HZ : Hid (z = []) := Lib.hid (HZ.out.trans (if_neg (by decide)))
        go_wp2
        go_roundw
        case rel => exact ⟨k + 1, n, c', A, by omega, by go_num, rfl, Lib.hid (by rw [HS.out, HZ.out, List.append_nil]; exact HN.out), Lib.hid (by rw [HS.out, HZ.out, List.append_nil]; exact HO.out.ext (by repeat (first | with_reducible exact Ext.refl _ | refine Ext.drewN ?_ _ | refine Ext.drew ?_ | refine Ext.alloc ?_ _ | assumption | (refine Below.trans ?_ (by assumption)) | (refine Ext.trans ?_ (by assumption)) | (refine Below.trans ?_ (Below.mono (by assumption) (by omega)))))), hE.trans (by repeat (first | with_reducible exact Ext.refl _ | refine Ext.drewN ?_ _ | refine Ext.drew ?_ | refine Ext.alloc ?_ _ | assumption | (refine Below.trans ?_ (by assumption)) | (refine Ext.trans ?_ (by assumption)) | (refine Below.trans ?_ (Below.mono (by assumption) (by omega)))))⟩
        case measure => simp [intOf]; omega
      · replace HZ : Hid (z = markL f yx) := Lib.hid (HZ.out.trans (if_pos (by trivial)))
        have hm2 := markL_len f yx
        have HM2 := Lib.hid fun w' => HM.out yx w'
        generalize markL f yx = mk at HZ hm2 HM2
        go_wp2_with ((refine wpList_load_row rfl 26 _ rfl _ rfl 26 _ _ _ (Blk.ext hT.out (by repeat (first | with_reducible exact Ext.refl _ | refine Ext.drewN ?_ _ | refine Ext.drew ?_ | refine Ext.alloc ?_ _ | assumption | (refine Below.trans ?_ (by assumption)) | (refine Ext.trans ?_ (by assumption)) | (refine Below.trans ?_ (Below.mono (by assumption) (by omega)))))) Try.underlying26 rfl hi ?_))
        (with_reducible refine (HM2.out _).mono ?_); rintro e w4 ⟨A4, n4, c4, l4, rfl, R4, E4⟩
        have L4 := Lib.hid l4
        have R4 := Lib.hid R4
        have hn4 : n4 ≤ 2 := by rw [← l4]; exact hm2
        have E34 : Ext wr w4 := (by repeat (first | with_reducible exact Ext.refl _ | refine Ext.drewN ?_ _ | refine Ext.drew ?_ | refine Ext.alloc ?_ _ | assumption | (refine Below.trans ?_ (by assumption)) | (refine Ext.trans ?_ (by assumption)) | (refine Below.trans ?_ (Below.mono (by assumption) (by omega)))))
        clear l4 hm2 HM2
        go_wp2_with (at_builtin; refine wpList_app (e := Ub) (base := w.heap.size + 1) (B := fun _ => False) (A := fun _ => False) rfl (.tmp 25) (.tmp 28) rfl Try.underlying27 info_u8 rfl (HO.out.ext E34) rfl (RI.y R4.out) rfl (fun _ _ h => h.elim) (N := n + n4) (by rw [HN.out, L4.out]) (by simp [maxLen]; omega) (by omega) (by have := E34.size; omega) ?_; intro A5 c5 w5 o5 M5 B5)
        go_roundw
        case rel => exact ⟨k + 1, n + n4, c5, A5, by omega, by go_num, rfl, Lib.hid (by rw [HS.out, HZ.out, List.length_append, HN.out, L4.out]), Lib.hid (by rw [HS.out, HZ.out]; exact o5), Below.trans (hE.trans E34) (B5.mono (by simp))⟩
        case measure => simp [intOf]; omega
    · obtain rfl : k = l.length := by omega
      rw [List.take_length] at HN HO
      generalize mapL f l = z at *
      go_wp2
      go_ret
      exact ⟨A, n, c', HN.out, rfl, HO.out.lower (by simp), Ext.trans ((Ext.refl w).alloc _) hE⟩
end Go.Proofs.Ytpkgmoekfindpaa
