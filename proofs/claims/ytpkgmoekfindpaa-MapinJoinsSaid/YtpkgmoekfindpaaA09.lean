/- The steps that a byte goes through which comes in, by contract. Conditions: the setting is one, bytes are bytes. -/
import Derived.Test.YtpkgmoekfindpaaP09
import Derived.Test.YtpkgmoekfindpaaMoT
namespace Go.Proofs.Ytpkgmoekfindpaa
open Go.RowKit Go.Kb

abbrev Ub : Rep Int := Rep.int .u8
theorem info_u8 : (Try.prog.info? 5).map (fun i => (i.zero, i.size, i.bytes)) = some (some (.int .u8 0), Ub.size, 1) := by kernel_rfl
theorem ihas_any (t : Tm) (op : Int) (w : World) (ht : t.Ok) : Calls Try.prog 24 #[.agg t.arr, .int .i64 op] w fun e w' => e = .returned (.bool (hasL t op)) ∧ Ext w w' := by
  have hn := t.size ht
  have hc := fun w' => has_any t op w' ht
  generalize hasL t op = f at *
  generalize t.arr = cs at *
  clear ht
  have hi : (Try.prog.info? 26).map (·.size) = some cs.size := by rw [hn]; kernel_rfl
  have hT := Lib.hid (Blk.new w 47 cs)
  go_enter Try.func24, Try.ntmps24
  go_wp2_with (refine wpList_load_row rfl 26 _ rfl _ rfl 47 _ _ _ (Blk.ext hT.out (by repeat (first | with_reducible exact Ext.refl _ | refine Ext.drewN ?_ _ | refine Ext.drew ?_ | refine Ext.alloc ?_ _ | assumption | (refine Below.trans ?_ (by assumption)) | (refine Ext.trans ?_ (by assumption)) | (refine Below.trans ?_ (Below.mono (by assumption) (by omega)))))) Try.underlying26 rfl hi ?_)
  (with_reducible refine (hc _).mono ?_); rintro e w1 ⟨rfl, E1⟩
  go_wp2
  go_ret
  exact ⟨rfl, (by repeat (first | with_reducible exact Ext.refl _ | refine Ext.drewN ?_ _ | refine Ext.drew ?_ | refine Ext.alloc ?_ _ | assumption | (refine Below.trans ?_ (by assumption)) | (refine Ext.trans ?_ (by assumption)) | (refine Below.trans ?_ (Below.mono (by assumption) (by omega)))))⟩
set_option maxHeartbeats 400000 in
theorem all_any (t : Tm) (v : Value) (a b : Int) (w : World) (ht : t.Ok) (hv : RI .i64 w v [a, b]) : Calls Try.prog 32 #[.agg t.arr, v] w fun e w' => e = .returned (.bool (hasL t a && hasL t b)) ∧ Ext w w' := by
  have hn := t.size ht
  have ha := fun w' => ihas_any t a w' ht
  have hb := fun w' => ihas_any t b w' ht
  generalize hasL t a = fa at *
  generalize hasL t b = fb at *
  generalize t.arr = cs at *
  clear ht
  obtain ⟨Ad, c, rfl, h1, h2⟩ := hv.shape
  have HV := Lib.hid hv
  clear hv
  have hi : (Try.prog.info? 47).map (·.size) = some cs.size := by rw [hn]; kernel_rfl
  have hT := Lib.hid (Blk.new w 47 cs)
  go_enter Try.func32, Try.ntmps32
  go_wp2
  go_loopw [9] (fun i wr => (i = .int .i64 0 ∨ (i = .int .i64 1 ∧ fa = true) ∨ (i = .int .i64 2 ∧ fa = true ∧ fb = true)) ∧ Ext (w.alloc (.cells cs 47)) wr) (fun i _ => 2 - (intOf i).toNat)
  case atStart => exact ⟨.inl rfl, (by repeat (first | with_reducible exact Ext.refl _ | refine Ext.drewN ?_ _ | refine Ext.drew ?_ | refine Ext.alloc ?_ _ | assumption | (refine Below.trans ?_ (by assumption)) | (refine Ext.trans ?_ (by assumption)) | (refine Below.trans ?_ (Below.mono (by assumption) (by omega)))))⟩
  case round =>
    obtain ⟨hk, hE⟩ := hrel
    have E0 : Ext w wr := Ext.trans ((Ext.refl w).alloc _) hE
    rcases hk with rfl | ⟨rfl, rfl⟩ | ⟨rfl, rfl, rfl⟩
    · obtain ⟨b0, off, x, rfl, hx, hd⟩ := (RdN.ext HV.out E0).icell (j := 0) (by simp)
      have hd := hd.out
      simp at hd
      subst hd
      try rw [Nat.add_zero] at hx
      clear E0
      go_wp2_with ((refine wpList_load_row rfl 47 _ rfl _ rfl 47 _ _ _ (Blk.ext hT.out (by repeat (first | with_reducible exact Ext.refl _ | refine Ext.drewN ?_ _ | refine Ext.drew ?_ | refine Ext.alloc ?_ _ | assumption | (refine Below.trans ?_ (by assumption)) | (refine Ext.trans ?_ (by assumption)) | (refine Below.trans ?_ (Below.mono (by assumption) (by omega)))))) Try.underlying47 rfl hi ?_))
      (with_reducible refine (ha _).mono ?_); rintro e w1 ⟨rfl, E1⟩
      cases fa
      · go_wp2
        go_ret
        exact ⟨rfl, Ext.trans ((Ext.refl w).alloc _) (hE.trans E1)⟩
      · go_wp2
        go_roundw
        case rel => exact ⟨.inr (.inl ⟨rfl, by trivial⟩), hE.trans E1⟩
        case measure => simp [intOf]
    · obtain ⟨b0, off, x, rfl, hx, hd⟩ := (RdN.ext HV.out E0).icell (j := 1) (by simp)
      have hd := hd.out
      simp at hd
      subst hd
      try rw [Nat.add_zero] at hx
      clear E0
      go_wp2_with ((refine wpList_load_row rfl 47 _ rfl _ rfl 47 _ _ _ (Blk.ext hT.out (by repeat (first | with_reducible exact Ext.refl _ | refine Ext.drewN ?_ _ | refine Ext.drew ?_ | refine Ext.alloc ?_ _ | assumption | (refine Below.trans ?_ (by assumption)) | (refine Ext.trans ?_ (by assumption)) | (refine Below.trans ?_ (Below.mono (by assumption) (by omega)))))) Try.underlying47 rfl hi ?_))
      (with_reducible refine (hb _).mono ?_); rintro e w1 ⟨rfl, E1⟩
      cases fb
      · go_wp2
        go_ret
        exact ⟨rfl, Ext.trans ((Ext.refl w).alloc _) (hE.trans E1)⟩
      · go_wp2
        go_roundw
        case rel => exact ⟨.inr (.inr ⟨rfl, by trivial, by trivial⟩), hE.trans E1⟩
        case measure => simp [intOf]
    · go_wp2
      go_ret
      exact ⟨rfl, E0⟩
theorem and127 : ∀ n : Nat, n < 256 → bits .and .u8 (n : Int) 127 = (n : Int) % 128 := by decide +kernel
theorem or32 : ∀ n : Nat, n < 256 → 65 ≤ n ∧ n ≤ 90 → bits .or .u8 (n : Int) 32 = (n : Int) + 32 := by decide +kernel
/-- a byte and whether it is read -/
def SPost (w : World) (x : Int × Bool) (e : Ending) (w' : World) : Prop := e = .returned (.tuple #[.int .u8 x.1, .bool x.2]) ∧ Ext w w'
theorem low_any (t : Tm) (c : Int) (w : World) (ht : t.Ok) (hc : 0 ≤ c ∧ c ≤ 255) : Calls Try.prog 29 #[.agg t.arr, .int .u8 c] w (SPost w (lowL (mfL t) c, true)) := by
  have hn := t.size ht
  have ha := fun w' => ihas_any t 33 w' ht
  have hf : lowL (mfL t) c = if hasL t 33 = true then c % 128 else c := rfl
  obtain ⟨z, hz0⟩ : ∃ z, lowL (mfL t) c = z := ⟨_, rfl⟩; rw [hz0]; have HZ := Lib.hid (hz0.symm.trans hf); clear hz0 hf
  have h127 : bits .and .u8 c 127 = c % 128 := by
    obtain ⟨n, rfl⟩ := Int.eq_ofNat_of_zero_le hc.1
    exact and127 n (by omega)
  generalize hasL t 33 = f at *
  generalize t.arr = cs at *
  clear ht
  have hi : (Try.prog.info? 47).map (·.size) = some cs.size := by rw [hn]; kernel_rfl
  have hT := Lib.hid (Blk.new w 47 cs)
  go_enter Try.func29, Try.ntmps29
  go_wp2_with ((refine wpList_load_row rfl 47 _ rfl _ rfl 47 _ _ _ (Blk.ext hT.out (by repeat (first | with_reducible exact Ext.refl _ | refine Ext.drewN ?_ _ | refine Ext.drew ?_ | refine Ext.alloc ?_ _ | assumption | (refine Below.trans ?_ (by assumption)) | (refine Ext.trans ?_ (by assumption)) | (refine Below.trans ?_ (Below.mono (by assumption) (by omega)))))) Try.underlying47 rfl hi ?_))
  (with_reducible refine (ha _).mono ?_); rintro e w1 ⟨rfl, E1⟩
  cases f
  · replace HZ := Lib.hid (HZ.out.trans (if_neg (by decide)))
    go_wp2
    refine bodyPost_ret (v := .tuple #[.int .u8 c, .bool true]) (by simp [results, Try.results29, go_sem]) rfl ?_
    exact ⟨by rw [HZ.out], (by repeat (first | with_reducible exact Ext.refl _ | refine Ext.drewN ?_ _ | refine Ext.drew ?_ | refine Ext.alloc ?_ _ | assumption | (refine Below.trans ?_ (by assumption)) | (refine Ext.trans ?_ (by assumption)) | (refine Below.trans ?_ (Below.mono (by assumption) (by omega)))))⟩
  · replace HZ := Lib.hid (HZ.out.trans (if_pos rfl))
    have H127 := Lib.hid h127
    clear h127
    go_wp2
    refine bodyPost_ret (v := .tuple #[.int .u8 (bits .and .u8 c 127), .bool true]) (by simp [results, Try.results29, go_sem]) rfl ?_
    exact ⟨by rw [HZ.out, H127.out], (by repeat (first | with_reducible exact Ext.refl _ | refine Ext.drewN ?_ _ | refine Ext.drew ?_ | refine Ext.alloc ?_ _ | assumption | (refine Below.trans ?_ (by assumption)) | (refine Ext.trans ?_ (by assumption)) | (refine Below.trans ?_ (Below.mono (by assumption) (by omega)))))⟩
set_option maxHeartbeats 400000 in
theorem small_any (t : Tm) (c : Int) (w : World) (ht : t.Ok) (hc : 0 ≤ c ∧ c ≤ 255) : Calls Try.prog 30 #[.agg t.arr, .int .u8 c] w (SPost w (smallL (mfL t) c, true)) := by
  have hn := t.size ht
  have ha := fun v w' hv => all_any t v 37 59 w' ht hv
  have hf : smallL (mfL t) c = if 65 ≤ c ∧ c ≤ 90 ∧ hasL t 37 = true ∧ hasL t 59 = true then c + 32 else c := rfl
  obtain ⟨z, hz0⟩ : ∃ z, smallL (mfL t) c = z := ⟨_, rfl⟩; rw [hz0]; have HZ := Lib.hid (hz0.symm.trans hf); clear hz0 hf
  generalize hasL t 37 = fa at *
  generalize hasL t 59 = fb at *
  generalize t.arr = cs at *
  clear ht
  have hi : (Try.prog.info? 47).map (·.size) = some cs.size := by rw [hn]; kernel_rfl
  have hT := Lib.hid (Blk.new w 47 cs)
  by_cases h65 : 65 ≤ c
  · by_cases h90 : c ≤ 90
    · have h32 : bits .or .u8 c 32 = c + 32 := by
        obtain ⟨n, rfl⟩ := Int.eq_ofNat_of_zero_le hc.1
        exact or32 n (by omega) (by omega)
      have H32 := Lib.hid h32
      clear h32
      go_enter Try.func30, Try.ntmps30
      go_wp2_with ((refine wpList_openG rfl rfl ?_; (refine wpList_load_row rfl 47 _ rfl _ rfl 47 _ _ _ (Blk.ext hT.out (by repeat (first | with_reducible exact Ext.refl _ | refine Ext.drewN ?_ _ | refine Ext.drew ?_ | refine Ext.alloc ?_ _ | assumption | (refine Below.trans ?_ (by assumption)) | (refine Ext.trans ?_ (by assumption)) | (refine Below.trans ?_ (Below.mono (by assumption) (by omega)))))) Try.underlying47 rfl hi ?_)))
      refine (ha _ _ (RI.lit .i64 [37, 59] _ (by simp) (by simp))).mono ?_; rintro e w1 ⟨rfl, E1⟩
      cases fa
      · replace HZ := Lib.hid (HZ.out.trans (if_neg (fun h => by cases h.2.2.1)))
        go_wp2
        refine bodyPost_ret (v := .tuple #[.int .u8 c, .bool true]) (by simp [results, Try.results30, go_sem]) rfl ?_
        exact ⟨by rw [HZ.out], (by repeat (first | with_reducible exact Ext.refl _ | refine Ext.drewN ?_ _ | refine Ext.drew ?_ | refine Ext.alloc ?_ _ | assumption | (refine Below.trans ?_ (by assumption)) | (refine Ext.trans ?_ (by assumption)) | (refine Below.trans ?_ (Below.mono (by assumption) (by omega)))))⟩
      · cases fb
        · replace HZ := Lib.hid (HZ.out.trans (if_neg (fun h => by cases h.2.2.2)))
          go_wp2
          refine bodyPost_ret (v := .tuple #[.int .u8 c, .bool true]) (by simp [results, Try.results30, go_sem]) rfl ?_
          exact ⟨by rw [HZ.out], (by repeat (first | with_reducible exact Ext.refl _ | refine Ext.drewN ?_ _ | refine Ext.drew ?_ | refine Ext.alloc ?_ _ | assumption | (refine Below.trans ?_ (by assumption)) | (refine Ext.trans ?_ (by assumption)) | (refine Below.trans ?_ (Below.mono (by assumption) (by omega)))))⟩
        · replace HZ := Lib.hid (HZ.out.trans (if_pos ⟨h65, h90, rfl, rfl⟩))
          go_wp2
          refine bodyPost_ret (v := .tuple #[.int .u8 (bits .or .u8 c 32), .bool true]) (by simp [results, Try.results30, go_sem]) rfl ?_
          exact ⟨by rw [HZ.out, H32.out], (by repeat (first | with_reducible exact Ext.refl _ | refine Ext.drewN ?_ _ | refine Ext.drew ?_ | refine Ext.alloc ?_ _ | assumption | (refine Below.trans ?_ (by assumption)) | (refine Ext.trans ?_ (by assumption)) | (refine Below.trans ?_ (Below.mono (by assumption) (by omega)))))⟩
    · replace HZ := Lib.hid (HZ.out.trans (if_neg (fun h => h90 h.2.1)))
      go_enter Try.func30, Try.ntmps30
      go_wp2
      refine bodyPost_ret (v := .tuple #[.int .u8 c, .bool true]) (by simp [results, Try.results30, go_sem]) rfl ?_
      exact ⟨by rw [HZ.out], (by repeat (first | with_reducible exact Ext.refl _ | refine Ext.drewN ?_ _ | refine Ext.drew ?_ | refine Ext.alloc ?_ _ | assumption | (refine Below.trans ?_ (by assumption)) | (refine Ext.trans ?_ (by assumption)) | (refine Below.trans ?_ (Below.mono (by assumption) (by omega)))))⟩
  · replace HZ := Lib.hid (HZ.out.trans (if_neg (fun h => h65 h.1)))
    go_enter Try.func30, Try.ntmps30
    go_wp2
    refine bodyPost_ret (v := .tuple #[.int .u8 c, .bool true]) (by simp [results, Try.results30, go_sem]) rfl ?_
    exact ⟨by rw [HZ.out], (by repeat (first | with_reducible exact Ext.refl _ | refine Ext.drewN ?_ _ | refine Ext.drew ?_ | refine Ext.alloc ?_ _ | assumption | (refine Below.trans ?_ (by assumption)) | (refine Ext.trans ?_ (by assumption)) | (refine Below.trans ?_ (Below.mono (by assumption) (by omega)))))⟩
set_option maxHeartbeats 400000 in
theorem ends_any (t : Tm) (c : Int) (w : World) (ht : t.Ok) : Calls Try.prog 31 #[.agg t.arr, .int .u8 c] w (SPost w (endsL (mfL t) c)) := by
  have hn := t.size ht
  have h35 := fun w' => ihas_any t 35 w' ht
  have h36 := fun w' => ihas_any t 36 w' ht
  have h34 := fun w' => ihas_any t 34 w' ht
  have hf : endsL (mfL t) c = if c = 13 then (if hasL t 35 = true then (0, false) else if hasL t 36 = true then (10, true) else (13, true))
    else if c = 10 then (if hasL t 34 = true then (13, true) else (10, true)) else (c, true) := rfl
  obtain ⟨z, hz0⟩ : ∃ z, endsL (mfL t) c = z := ⟨_, rfl⟩; rw [hz0]; have HZ := Lib.hid (hz0.symm.trans hf); clear hz0 hf
  generalize hasL t 35 = f5 at *
  generalize hasL t 36 = f6 at *
  generalize hasL t 34 = f4 at *
  generalize t.arr = cs at *
  clear ht
  have hi : (Try.prog.info? 47).map (·.size) = some cs.size := by rw [hn]; kernel_rfl
  have hT := Lib.hid (Blk.new w 47 cs)
  by_cases h13 : c = 13
  · subst h13
    replace HZ := Lib.hid (HZ.out.trans (if_pos rfl))
    go_enter Try.func31, Try.ntmps31
    go_wp2_with ((refine wpList_load_row rfl 47 _ rfl _ rfl 47 _ _ _ (Blk.ext hT.out (by repeat (first | with_reducible exact Ext.refl _ | refine Ext.drewN ?_ _ | refine Ext.drew ?_ | refine Ext.alloc ?_ _ | assumption | (refine Below.trans ?_ (by assumption)) | (refine Ext.trans ?_ (by assumption)) | (refine Below.trans ?_ (Below.mono (by assumption) (by omega)))))) Try.underlying47 rfl hi ?_))
    (with_reducible refine (h35 _).mono ?_); rintro e w1 ⟨rfl, E1⟩
    cases f5
    · replace HZ := Lib.hid (HZ.out.trans (if_neg (by decide)))
      go_wp2_with ((refine wpList_load_row rfl 47 _ rfl _ rfl 47 _ _ _ (Blk.ext hT.out (by repeat (first | with_reducible exact Ext.refl _ | refine Ext.drewN ?_ _ | refine Ext.drew ?_ | refine Ext.alloc ?_ _ | assumption | (refine Below.trans ?_ (by assumption)) | (refine Ext.trans ?_ (by assumption)) | (refine Below.trans ?_ (Below.mono (by assumption) (by omega)))))) Try.underlying47 rfl hi ?_))
      (with_reducible refine (h36 _).mono ?_); rintro e w2 ⟨rfl, E2⟩
      cases f6
      · replace HZ := Lib.hid (HZ.out.trans (if_neg (by decide)))
        go_wp2
        refine bodyPost_ret (v := .tuple #[.int .u8 13, .bool true]) (by simp [results, Try.results31, go_sem]) rfl ?_
        exact ⟨by rw [HZ.out], (by repeat (first | with_reducible exact Ext.refl _ | refine Ext.drewN ?_ _ | refine Ext.drew ?_ | refine Ext.alloc ?_ _ | assumption | (refine Below.trans ?_ (by assumption)) | (refine Ext.trans ?_ (by assumption)) | (refine Below.trans ?_ (Below.mono (by assumption) (by omega)))))⟩
      · replace HZ := Lib.hid (HZ.out.trans (if_pos rfl))
        go_wp2
        refine bodyPost_ret (v := .tuple #[.int .u8 10, .bool true]) (by simp [results, Try.results31, go_sem]) rfl ?_
        exact ⟨by rw [HZ.out], (by repeat (first | with_reducible exact Ext.refl _ | refine Ext.drewN ?_ _ | refine Ext.drew ?_ | refine Ext.alloc ?_ _ | assumption | (refine Below.trans ?_ (by assumption)) | (refine Ext.trans ?_ (by assumption)) | (refine Below.trans ?_ (Below.mono (by assumption) (by omega)))))⟩
    · replace HZ := Lib.hid (HZ.out.trans (if_pos rfl))
      go_wp2
      refine bodyPost_ret (v := .tuple #[.int .u8 0, .bool false]) (by simp [results, Try.results31, go_sem]) rfl ?_
      exact ⟨by rw [HZ.out], (by repeat (first | with_reducible exact Ext.refl _ | refine Ext.drewN ?_ _ | refine Ext.drew ?_ | refine Ext.alloc ?_ _ | assumption | (refine Below.trans ?_ (by assumption)) | (refine Ext.trans ?_ (by assumption)) | (refine Below.trans ?_ (Below.mono (by assumption) (by omega)))))⟩
  · replace HZ := Lib.hid (HZ.out.trans (if_neg h13))
    have i13 : (c == 13) = false := by simpa using h13
    by_cases h10 : c = 10
    · subst h10
      replace HZ := Lib.hid (HZ.out.trans (if_pos rfl))
      clear i13 h13
      go_enter Try.func31, Try.ntmps31
      go_wp2_with ((refine wpList_load_row rfl 47 _ rfl _ rfl 47 _ _ _ (Blk.ext hT.out (by repeat (first | with_reducible exact Ext.refl _ | refine Ext.drewN ?_ _ | refine Ext.drew ?_ | refine Ext.alloc ?_ _ | assumption | (refine Below.trans ?_ (by assumption)) | (refine Ext.trans ?_ (by assumption)) | (refine Below.trans ?_ (Below.mono (by assumption) (by omega)))))) Try.underlying47 rfl hi ?_))
      (with_reducible refine (h34 _).mono ?_); rintro e w1 ⟨rfl, E1⟩
      cases f4
      · replace HZ := Lib.hid (HZ.out.trans (if_neg (by decide)))
        go_wp2
        refine bodyPost_ret (v := .tuple #[.int .u8 10, .bool true]) (by simp [results, Try.results31, go_sem]) rfl ?_
        exact ⟨by rw [HZ.out], (by repeat (first | with_reducible exact Ext.refl _ | refine Ext.drewN ?_ _ | refine Ext.drew ?_ | refine Ext.alloc ?_ _ | assumption | (refine Below.trans ?_ (by assumption)) | (refine Ext.trans ?_ (by assumption)) | (refine Below.trans ?_ (Below.mono (by assumption) (by omega)))))⟩
      · replace HZ := Lib.hid (HZ.out.trans (if_pos rfl))
        go_wp2
        refine bodyPost_ret (v := .tuple #[.int .u8 13, .bool true]) (by simp [results, Try.results31, go_sem]) rfl ?_
        exact ⟨by rw [HZ.out], (by repeat (first | with_reducible exact Ext.refl _ | refine Ext.drewN ?_ _ | refine Ext.drew ?_ | refine Ext.alloc ?_ _ | assumption | (refine Below.trans ?_ (by assumption)) | (refine Ext.trans ?_ (by assumption)) | (refine Below.trans ?_ (Below.mono (by assumption) (by omega)))))⟩
    · replace HZ := Lib.hid (HZ.out.trans (if_neg h10))
      have i10 : (c == 10) = false := by simpa using h10
      clear h13 h10
      go_enter Try.func31, Try.ntmps31
      go_wp2
      refine bodyPost_ret (v := .tuple #[.int .u8 c, .bool true]) (by simp [results, Try.results31, go_sem]) rfl ?_
      exact ⟨by rw [HZ.out], (by repeat (first | with_reducible exact Ext.refl _ | refine Ext.drewN ?_ _ | refine Ext.drew ?_ | refine Ext.alloc ?_ _ | assumption | (refine Below.trans ?_ (by assumption)) | (refine Ext.trans ?_ (by assumption)) | (refine Below.trans ?_ (Below.mono (by assumption) (by omega)))))⟩
end Go.Proofs.Ytpkgmoekfindpaa
