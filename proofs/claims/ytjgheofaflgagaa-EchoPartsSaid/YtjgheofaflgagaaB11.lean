/- How bytes are shown, and where the column is behind them: the program's functions and the document's, by contract. Conditions: the setting is one, bytes are bytes, lengths below 10^6. -/
import Derived.Test.YtjgheofaflgagaaP11
namespace Go.Proofs.Ytjgheofaflgagaa
open Go.RowKit Go.Kb

theorem quiet_any (c : Int) (w : World) : Calls Try.prog 25 #[.int .u8 c] w fun e w' => e = .returned (.bool (quietL c)) ∧ w = w' := by
  by_cases h1 : c < 32
  · have e : quietL c = true := by simp [quietL, h1]
    rw [e]
    go_enter Try.func25, Try.ntmps25
    go_wp2
    go_ret
    exact ⟨rfl, rfl⟩
  · by_cases h2 : c = 127
    · subst h2
      go_enter Try.func25, Try.ntmps25
      go_wp2
      go_ret
      exact ⟨rfl, rfl⟩
    · have e : quietL c = false := by simp [quietL, h1, h2]
      have i2 : (c == 127) = false := by simpa using h2
      rw [e]
      clear h2
      go_enter Try.func25, Try.ntmps25
      go_wp2
      go_ret
      exact ⟨rfl, rfl⟩
set_option maxHeartbeats 400000 in
theorem hat_any (t : Tm) (c : Int) (w : World) (ht : t.Ok) : Calls Try.prog 24 #[.agg t.arr, .int .u8 c] w fun e w' => e = .returned (.bool (hatL (hasL t 60) c)) ∧ Ext w w' := by
  have hn := t.size ht
  have h60 := fun w' => has_any t 60 w' ht
  have hq := fun w' => quiet_any c w'
  have hf : hatL (hasL t 60) c = (quietL c && c != 9 && c != 10 && hasL t 60) := rfl
  obtain ⟨z, hz0⟩ : ∃ z, hatL (hasL t 60) c = z := ⟨_, rfl⟩; rw [hz0]; have HZ := Lib.hid (hz0.symm.trans hf); clear hz0 hf
  generalize hasL t 60 = e at *
  generalize quietL c = q at *
  generalize t.arr = cs at *
  clear ht
  have hi : (Try.prog.info? 26).map (·.size) = some cs.size := by rw [hn]; kernel_rfl
  have hT := Lib.hid (Blk.new w 26 cs)
  cases q
  · have HZ : Hid (z = false) := Lib.hid (by rw [HZ.out]; rfl)
    go_enter Try.func24, Try.ntmps24
    go_wp2_with ((go_at_call 25; (with_reducible refine (hq _).mono ?_); rintro e w1 ⟨rfl, rfl⟩))
    go_ret
    exact ⟨by rw [HZ.out]; rfl, (by repeat (first | with_reducible exact Ext.refl _ | refine Ext.drewN ?_ _ | refine Ext.drew ?_ | refine Ext.alloc ?_ _ | assumption | (refine Below.trans ?_ (by assumption)) | (refine Ext.trans ?_ (by assumption)) | (refine Below.trans ?_ (Below.mono (by assumption) (by omega)))))⟩
  · by_cases h9 : c = 9
    · subst h9
      have HZ : Hid (z = false) := Lib.hid (by rw [HZ.out]; rfl)
      go_enter Try.func24, Try.ntmps24
      go_wp2_with ((go_at_call 25; (with_reducible refine (hq _).mono ?_); rintro e w1 ⟨rfl, rfl⟩))
      go_ret
      exact ⟨by rw [HZ.out]; rfl, (by repeat (first | with_reducible exact Ext.refl _ | refine Ext.drewN ?_ _ | refine Ext.drew ?_ | refine Ext.alloc ?_ _ | assumption | (refine Below.trans ?_ (by assumption)) | (refine Ext.trans ?_ (by assumption)) | (refine Below.trans ?_ (Below.mono (by assumption) (by omega)))))⟩
    · have i9 : (c != 9) = true := by simpa using h9
      by_cases h10 : c = 10
      · subst h10
        have HZ : Hid (z = false) := Lib.hid (by rw [HZ.out]; rfl)
        clear h9 i9
        go_enter Try.func24, Try.ntmps24
        go_wp2_with ((go_at_call 25; (with_reducible refine (hq _).mono ?_); rintro e w1 ⟨rfl, rfl⟩))
        go_ret
        exact ⟨by rw [HZ.out]; rfl, (by repeat (first | with_reducible exact Ext.refl _ | refine Ext.drewN ?_ _ | refine Ext.drew ?_ | refine Ext.alloc ?_ _ | assumption | (refine Below.trans ?_ (by assumption)) | (refine Ext.trans ?_ (by assumption)) | (refine Below.trans ?_ (Below.mono (by assumption) (by omega)))))⟩
      · have i10 : (c != 10) = true := by simpa using h10
        have HZ : Hid (z = e) := Lib.hid (by rw [HZ.out, i9, i10]; rfl)
        clear h9 h10
        go_enter Try.func24, Try.ntmps24
        go_wp2_with (first | ((go_at_call 25; (with_reducible refine (hq _).mono ?_); rintro e w1 ⟨rfl, rfl⟩)) | (refine wpList_openG rfl rfl ?_; (refine wpList_load_row rfl 26 _ rfl _ rfl 26 _ _ _ (Blk.ext hT.out (by repeat (first | with_reducible exact Ext.refl _ | refine Ext.drewN ?_ _ | refine Ext.drew ?_ | refine Ext.alloc ?_ _ | assumption | (refine Below.trans ?_ (by assumption)) | (refine Ext.trans ?_ (by assumption)) | (refine Below.trans ?_ (Below.mono (by assumption) (by omega)))))) Try.underlying26 rfl hi ?_)))
        (with_reducible refine (h60 _).mono ?_); rintro e w2 ⟨rfl, E2⟩
        go_wp2
        go_ret
        exact ⟨by rw [HZ.out]; simp, (by repeat (first | with_reducible exact Ext.refl _ | refine Ext.drewN ?_ _ | refine Ext.drew ?_ | refine Ext.alloc ?_ _ | assumption | (refine Below.trans ?_ (by assumption)) | (refine Ext.trans ?_ (by assumption)) | (refine Below.trans ?_ (Below.mono (by assumption) (by omega)))))⟩
set_option maxHeartbeats 800000 in
theorem rhat_any (t : Tm) (c : Int) (w : World) (ht : t.Ok) : Calls Try.prog 27 #[.agg t.arr, .int .u8 c] w fun e w' => e = .returned (.bool (hatL (hasL t 60) c)) ∧ Ext w w' := by
  have hn := t.size ht
  have h60 := fun w' => rhas_any t 60 w' ht
  have hf := hatL_eq (hasL t 60) c
  obtain ⟨z, hz0⟩ : ∃ z, hatL (hasL t 60) c = z := ⟨_, rfl⟩; rw [hz0]; have HZ := Lib.hid (hz0.symm.trans hf); clear hz0 hf
  generalize hasL t 60 = e at *
  generalize t.arr = cs at *
  clear ht
  have hi : (Try.prog.info? 26).map (·.size) = some cs.size := by rw [hn]; kernel_rfl
  have hT := Lib.hid (Blk.new w 26 cs)
  by_cases h127 : c = 127
  · subst h127
    go_enter Try.func27, Try.ntmps27
    go_wp2_with ((refine wpList_load_row rfl 26 _ rfl _ rfl 26 _ _ _ (Blk.ext hT.out (by repeat (first | with_reducible exact Ext.refl _ | refine Ext.drewN ?_ _ | refine Ext.drew ?_ | refine Ext.alloc ?_ _ | assumption | (refine Below.trans ?_ (by assumption)) | (refine Ext.trans ?_ (by assumption)) | (refine Below.trans ?_ (Below.mono (by assumption) (by omega)))))) Try.underlying26 rfl hi ?_))
    (with_reducible refine (h60 _).mono ?_); rintro e w1 ⟨rfl, E1⟩
    cases e
    · go_wp2
      go_ret
      exact ⟨by rw [HZ.out]; rfl, (by repeat (first | with_reducible exact Ext.refl _ | refine Ext.drewN ?_ _ | refine Ext.drew ?_ | refine Ext.alloc ?_ _ | assumption | (refine Below.trans ?_ (by assumption)) | (refine Ext.trans ?_ (by assumption)) | (refine Below.trans ?_ (Below.mono (by assumption) (by omega)))))⟩
    · go_wp2
      go_ret
      exact ⟨by rw [HZ.out]; rfl, (by repeat (first | with_reducible exact Ext.refl _ | refine Ext.drewN ?_ _ | refine Ext.drew ?_ | refine Ext.alloc ?_ _ | assumption | (refine Below.trans ?_ (by assumption)) | (refine Ext.trans ?_ (by assumption)) | (refine Below.trans ?_ (Below.mono (by assumption) (by omega)))))⟩
  · have i127 : (c == 127) = false := by simpa using h127
    by_cases h32 : c < 32
    · by_cases h9 : c = 9
      · subst h9
        clear i127 h127
        go_enter Try.func27, Try.ntmps27
        go_wp2_with ((refine wpList_load_row rfl 26 _ rfl _ rfl 26 _ _ _ (Blk.ext hT.out (by repeat (first | with_reducible exact Ext.refl _ | refine Ext.drewN ?_ _ | refine Ext.drew ?_ | refine Ext.alloc ?_ _ | assumption | (refine Below.trans ?_ (by assumption)) | (refine Ext.trans ?_ (by assumption)) | (refine Below.trans ?_ (Below.mono (by assumption) (by omega)))))) Try.underlying26 rfl hi ?_))
        (with_reducible refine (h60 _).mono ?_); rintro e w1 ⟨rfl, E1⟩
        cases e
        · go_wp2
          go_ret
          exact ⟨by rw [HZ.out]; rfl, (by repeat (first | with_reducible exact Ext.refl _ | refine Ext.drewN ?_ _ | refine Ext.drew ?_ | refine Ext.alloc ?_ _ | assumption | (refine Below.trans ?_ (by assumption)) | (refine Ext.trans ?_ (by assumption)) | (refine Below.trans ?_ (Below.mono (by assumption) (by omega)))))⟩
        · go_wp2
          go_ret
          exact ⟨by rw [HZ.out]; rfl, (by repeat (first | with_reducible exact Ext.refl _ | refine Ext.drewN ?_ _ | refine Ext.drew ?_ | refine Ext.alloc ?_ _ | assumption | (refine Below.trans ?_ (by assumption)) | (refine Ext.trans ?_ (by assumption)) | (refine Below.trans ?_ (Below.mono (by assumption) (by omega)))))⟩
      · have i9 : (c != 9) = true := by simpa using h9
        by_cases h10 : c = 10
        · subst h10
          clear i127 h127 h9 i9
          go_enter Try.func27, Try.ntmps27
          go_wp2_with ((refine wpList_load_row rfl 26 _ rfl _ rfl 26 _ _ _ (Blk.ext hT.out (by repeat (first | with_reducible exact Ext.refl _ | refine Ext.drewN ?_ _ | refine Ext.drew ?_ | refine Ext.alloc ?_ _ | assumption | (refine Below.trans ?_ (by assumption)) | (refine Ext.trans ?_ (by assumption)) | (refine Below.trans ?_ (Below.mono (by assumption) (by omega)))))) Try.underlying26 rfl hi ?_))
          (with_reducible refine (h60 _).mono ?_); rintro e w1 ⟨rfl, E1⟩
          cases e
          · go_wp2
            go_ret
            exact ⟨by rw [HZ.out]; rfl, (by repeat (first | with_reducible exact Ext.refl _ | refine Ext.drewN ?_ _ | refine Ext.drew ?_ | refine Ext.alloc ?_ _ | assumption | (refine Below.trans ?_ (by assumption)) | (refine Ext.trans ?_ (by assumption)) | (refine Below.trans ?_ (Below.mono (by assumption) (by omega)))))⟩
          · go_wp2
            go_ret
            exact ⟨by rw [HZ.out]; rfl, (by repeat (first | with_reducible exact Ext.refl _ | refine Ext.drewN ?_ _ | refine Ext.drew ?_ | refine Ext.alloc ?_ _ | assumption | (refine Below.trans ?_ (by assumption)) | (refine Ext.trans ?_ (by assumption)) | (refine Below.trans ?_ (Below.mono (by assumption) (by omega)))))⟩
        · have i10 : (c != 10) = true := by simpa using h10
          have H9 := Lib.hid h9
          have H10 := Lib.hid h10
          clear h127 h9 h10
          go_enter Try.func27, Try.ntmps27
          go_wp2_with ((refine wpList_load_row rfl 26 _ rfl _ rfl 26 _ _ _ (Blk.ext hT.out (by repeat (first | with_reducible exact Ext.refl _ | refine Ext.drewN ?_ _ | refine Ext.drew ?_ | refine Ext.alloc ?_ _ | assumption | (refine Below.trans ?_ (by assumption)) | (refine Ext.trans ?_ (by assumption)) | (refine Below.trans ?_ (Below.mono (by assumption) (by omega)))))) Try.underlying26 rfl hi ?_))
          (with_reducible refine (h60 _).mono ?_); rintro e w1 ⟨rfl, E1⟩
          cases e
          · replace HZ := Lib.hid (HZ.out.trans (if_neg (fun h => by cases h.2.2.2)))
            go_wp2
            go_ret
            exact ⟨by rw [HZ.out]; rfl, (by repeat (first | with_reducible exact Ext.refl _ | refine Ext.drewN ?_ _ | refine Ext.drew ?_ | refine Ext.alloc ?_ _ | assumption | (refine Below.trans ?_ (by assumption)) | (refine Ext.trans ?_ (by assumption)) | (refine Below.trans ?_ (Below.mono (by assumption) (by omega)))))⟩
          · replace HZ := Lib.hid (HZ.out.trans (if_pos ⟨.inl h32, H9.out, H10.out, by trivial⟩))
            go_wp2
            go_ret
            exact ⟨by rw [HZ.out]; rfl, (by repeat (first | with_reducible exact Ext.refl _ | refine Ext.drewN ?_ _ | refine Ext.drew ?_ | refine Ext.alloc ?_ _ | assumption | (refine Below.trans ?_ (by assumption)) | (refine Ext.trans ?_ (by assumption)) | (refine Below.trans ?_ (Below.mono (by assumption) (by omega)))))⟩
    · replace HZ := Lib.hid (HZ.out.trans (if_neg (fun h => by have := h.1; omega)))
      clear h127
      go_enter Try.func27, Try.ntmps27
      go_wp2_with ((refine wpList_load_row rfl 26 _ rfl _ rfl 26 _ _ _ (Blk.ext hT.out (by repeat (first | with_reducible exact Ext.refl _ | refine Ext.drewN ?_ _ | refine Ext.drew ?_ | refine Ext.alloc ?_ _ | assumption | (refine Below.trans ?_ (by assumption)) | (refine Ext.trans ?_ (by assumption)) | (refine Below.trans ?_ (Below.mono (by assumption) (by omega)))))) Try.underlying26 rfl hi ?_))
      (with_reducible refine (h60 _).mono ?_); rintro e w1 ⟨rfl, E1⟩
      cases e
      · go_wp2
        go_ret
        exact ⟨by rw [HZ.out]; rfl, (by repeat (first | with_reducible exact Ext.refl _ | refine Ext.drewN ?_ _ | refine Ext.drew ?_ | refine Ext.alloc ?_ _ | assumption | (refine Below.trans ?_ (by assumption)) | (refine Ext.trans ?_ (by assumption)) | (refine Below.trans ?_ (Below.mono (by assumption) (by omega)))))⟩
      · go_wp2
        go_ret
        exact ⟨by rw [HZ.out]; rfl, (by repeat (first | with_reducible exact Ext.refl _ | refine Ext.drewN ?_ _ | refine Ext.drew ?_ | refine Ext.alloc ?_ _ | assumption | (refine Below.trans ?_ (by assumption)) | (refine Ext.trans ?_ (by assumption)) | (refine Below.trans ?_ (Below.mono (by assumption) (by omega)))))⟩
/-- bytes that may be read -/
def RPost (w : World) (l : List Int) (e : Ending) (w' : World) : Prop := ∃ A n c, l.length = n ∧ e = .returned (.slice A n c) ∧ RI .u8 w' (.slice A n c) l ∧ Ext w w'
/-- bytes of the call's own -/
def OPost (w : World) (l : List Int) (e : Ending) (w' : World) : Prop :=
  ∃ A n c, l.length = n ∧ e = .returned (.slice A n c) ∧ OwnS Ub 5 w.heap.size (fun _ => False) w' (.slice A n c) l ∧ Ext w w'
theorem xor64 : ∀ n : Nat, n < 256 → (n < 32 ∨ n = 127) → bits .xor .u8 (n : Int) 64 = if (n : Int) = 127 then 63 else (n : Int) + 64 := by decide +kernel
theorem hat_q {e : Bool} {c : Int} (h : hatL e c = true) : c < 32 ∨ c = 127 := by
  rw [hatL_eq] at h
  by_cases g : (c < 32 ∨ c = 127) ∧ c ≠ 9 ∧ c ≠ 10 ∧ e = true
  · exact g.1
  · rw [if_neg g] at h; cases h
set_option maxHeartbeats 400000 in
theorem show_any (t : Tm) (c : Int) (w : World) (ht : t.Ok) (hc : 0 ≤ c ∧ c ≤ 255) : Calls Try.prog 17 #[.agg t.arr, .int .u8 c] w (RPost w (showL (hasL t 60) c)) := by
  have hn := t.size ht
  have hh := fun w' => hat_any t c w' ht
  have hq := hat_q (e := hasL t 60) (c := c)
  have hf : showL (hasL t 60) c = if hatL (hasL t 60) c = true then [94, if c = 127 then 63 else c + 64] else [c] := rfl
  obtain ⟨z, hz0⟩ : ∃ z, showL (hasL t 60) c = z := ⟨_, rfl⟩; rw [hz0]; have HZ := Lib.hid (hz0.symm.trans hf); clear hz0 hf
  generalize hatL (hasL t 60) c = q at *
  generalize t.arr = cs at *
  clear ht
  have hi : (Try.prog.info? 26).map (·.size) = some cs.size := by rw [hn]; kernel_rfl
  have hT := Lib.hid (Blk.new w 26 cs)
  cases q
  · replace HZ := Lib.hid (HZ.out.trans (if_neg (by decide)))
    clear hq
    go_enter Try.func17, Try.ntmps17
    go_wp2_with ((refine wpList_load_row rfl 26 _ rfl _ rfl 26 _ _ _ (Blk.ext hT.out (by repeat (first | with_reducible exact Ext.refl _ | refine Ext.drewN ?_ _ | refine Ext.drew ?_ | refine Ext.alloc ?_ _ | assumption | (refine Below.trans ?_ (by assumption)) | (refine Ext.trans ?_ (by assumption)) | (refine Below.trans ?_ (Below.mono (by assumption) (by omega)))))) Try.underlying26 rfl hi ?_))
    (with_reducible refine (hh _).mono ?_); rintro e w1 ⟨rfl, E1⟩
    go_wp2
    go_ret
    exact ⟨_, 1, 1, by rw [HZ.out]; rfl, rfl, by rw [HZ.out]; exact RI.lit .u8 [c] _ (by simp) (by simp), (by repeat (first | with_reducible exact Ext.refl _ | refine Ext.drewN ?_ _ | refine Ext.drew ?_ | refine Ext.alloc ?_ _ | assumption | (refine Below.trans ?_ (by assumption)) | (refine Ext.trans ?_ (by assumption)) | (refine Below.trans ?_ (Below.mono (by assumption) (by omega)))))⟩
  · replace HZ := Lib.hid (HZ.out.trans (if_pos rfl))
    have hx : bits .xor .u8 c 64 = if c = 127 then 63 else c + 64 := by
      have := hq rfl
      obtain ⟨n, rfl⟩ := Int.eq_ofNat_of_zero_le hc.1
      exact xor64 n (by omega) (by omega)
    generalize (if c = 127 then 63 else c + 64 : Int) = x at *
    have HX := Lib.hid hx
    clear hq hx
    go_enter Try.func17, Try.ntmps17
    go_wp2_with ((refine wpList_load_row rfl 26 _ rfl _ rfl 26 _ _ _ (Blk.ext hT.out (by repeat (first | with_reducible exact Ext.refl _ | refine Ext.drewN ?_ _ | refine Ext.drew ?_ | refine Ext.alloc ?_ _ | assumption | (refine Below.trans ?_ (by assumption)) | (refine Ext.trans ?_ (by assumption)) | (refine Below.trans ?_ (Below.mono (by assumption) (by omega)))))) Try.underlying26 rfl hi ?_))
    (with_reducible refine (hh _).mono ?_); rintro e w1 ⟨rfl, E1⟩
    go_wp2
    go_ret
    exact ⟨_, 2, 2, by rw [HZ.out]; rfl, rfl, by rw [HZ.out, ← HX.out]; exact RI.lit .u8 [94, bits .xor .u8 c 64] _ (by simp) (by simp), (by repeat (first | with_reducible exact Ext.refl _ | refine Ext.drewN ?_ _ | refine Ext.drew ?_ | refine Ext.alloc ?_ _ | assumption | (refine Below.trans ?_ (by assumption)) | (refine Ext.trans ?_ (by assumption)) | (refine Below.trans ?_ (Below.mono (by assumption) (by omega)))))⟩
set_option maxHeartbeats 400000 in
theorem rshow_any (t : Tm) (c : Int) (w : World) (ht : t.Ok) (hc : 0 ≤ c ∧ c ≤ 255) : Calls Try.prog 18 #[.agg t.arr, .int .u8 c] w (RPost w (showL (hasL t 60) c)) := by
  have hn := t.size ht
  have hh := fun w' => rhat_any t c w' ht
  have hq := hat_q (e := hasL t 60) (c := c)
  have hf : showL (hasL t 60) c = if hatL (hasL t 60) c = true then [94, if c = 127 then 63 else c + 64] else [c] := rfl
  obtain ⟨z, hz0⟩ : ∃ z, showL (hasL t 60) c = z := ⟨_, rfl⟩; rw [hz0]; have HZ := Lib.hid (hz0.symm.trans hf); clear hz0 hf
  generalize hatL (hasL t 60) c = q at *
  generalize t.arr = cs at *
  clear ht
  have hi : (Try.prog.info? 26).map (·.size) = some cs.size := by rw [hn]; kernel_rfl
  have hT := Lib.hid (Blk.new w 26 cs)
  cases q
  · replace HZ := Lib.hid (HZ.out.trans (if_neg (by decide)))
    clear hq
    go_enter Try.func18, Try.ntmps18
    go_wp2_with ((refine wpList_load_row rfl 26 _ rfl _ rfl 26 _ _ _ (Blk.ext hT.out (by repeat (first | with_reducible exact Ext.refl _ | refine Ext.drewN ?_ _ | refine Ext.drew ?_ | refine Ext.alloc ?_ _ | assumption | (refine Below.trans ?_ (by assumption)) | (refine Ext.trans ?_ (by assumption)) | (refine Below.trans ?_ (Below.mono (by assumption) (by omega)))))) Try.underlying26 rfl hi ?_))
    (with_reducible refine (hh _).mono ?_); rintro e w1 ⟨rfl, E1⟩
    go_wp2
    go_ret
    exact ⟨_, 1, 1, by rw [HZ.out]; rfl, rfl, by rw [HZ.out]; exact RI.lit .u8 [c] _ (by simp) (by simp), (by repeat (first | with_reducible exact Ext.refl _ | refine Ext.drewN ?_ _ | refine Ext.drew ?_ | refine Ext.alloc ?_ _ | assumption | (refine Below.trans ?_ (by assumption)) | (refine Ext.trans ?_ (by assumption)) | (refine Below.trans ?_ (Below.mono (by assumption) (by omega)))))⟩
  · replace HZ := Lib.hid (HZ.out.trans (if_pos rfl))
    have hq := hq rfl
    by_cases h127 : c = 127
    · subst h127
      have HZ : Hid (z = [94, 63]) := Lib.hid (by rw [HZ.out]; rfl)
      clear hq
      go_enter Try.func18, Try.ntmps18
      go_wp2_with ((refine wpList_load_row rfl 26 _ rfl _ rfl 26 _ _ _ (Blk.ext hT.out (by repeat (first | with_reducible exact Ext.refl _ | refine Ext.drewN ?_ _ | refine Ext.drew ?_ | refine Ext.alloc ?_ _ | assumption | (refine Below.trans ?_ (by assumption)) | (refine Ext.trans ?_ (by assumption)) | (refine Below.trans ?_ (Below.mono (by assumption) (by omega)))))) Try.underlying26 rfl hi ?_))
      (with_reducible refine (hh _).mono ?_); rintro e w1 ⟨rfl, E1⟩
      go_wp2
      go_ret
      exact ⟨_, 2, 2, by rw [HZ.out]; rfl, rfl, by rw [HZ.out]; exact RI.lit .u8 [94, 63] _ (by simp) (by simp), (by repeat (first | with_reducible exact Ext.refl _ | refine Ext.drewN ?_ _ | refine Ext.drew ?_ | refine Ext.alloc ?_ _ | assumption | (refine Below.trans ?_ (by assumption)) | (refine Ext.trans ?_ (by assumption)) | (refine Below.trans ?_ (Below.mono (by assumption) (by omega)))))⟩
    · have HZ : Hid (z = [94, c + 64]) := Lib.hid (by rw [HZ.out, if_neg h127])
      have i127 : (c == 127) = false := by simpa using h127
      have hc32 : c < 32 := by omega
      obtain ⟨hc0, hc1⟩ := hc
      clear hq h127
      go_enter Try.func18, Try.ntmps18
      go_wp2_with ((refine wpList_load_row rfl 26 _ rfl _ rfl 26 _ _ _ (Blk.ext hT.out (by repeat (first | with_reducible exact Ext.refl _ | refine Ext.drewN ?_ _ | refine Ext.drew ?_ | refine Ext.alloc ?_ _ | assumption | (refine Below.trans ?_ (by assumption)) | (refine Ext.trans ?_ (by assumption)) | (refine Below.trans ?_ (Below.mono (by assumption) (by omega)))))) Try.underlying26 rfl hi ?_))
      (with_reducible refine (hh _).mono ?_); rintro e w1 ⟨rfl, E1⟩
      go_wp2
      go_ret
      exact ⟨_, 2, 2, by rw [HZ.out]; rfl, rfl, by rw [HZ.out]; exact RI.lit .u8 [94, c + 64] _ (by simp) (by simp), (by repeat (first | with_reducible exact Ext.refl _ | refine Ext.drewN ?_ _ | refine Ext.drew ?_ | refine Ext.alloc ?_ _ | assumption | (refine Below.trans ?_ (by assumption)) | (refine Ext.trans ?_ (by assumption)) | (refine Below.trans ?_ (Below.mono (by assumption) (by omega)))))⟩
end Go.Proofs.Ytjgheofaflgagaa
