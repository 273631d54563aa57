/- What becomes of bytes that come in: the program's functions, by contract. Conditions: the setting is one, bytes are bytes, lengths below 10^7. -/
import Derived.Test.YtpkgmoekfindpaaB09
namespace Go.Proofs.Ytpkgmoekfindpaa
open Go.RowKit Go.Kb

theorem built_is {cs : Array Value} (h : cs.size = 24) : Try.prog.built 47 [(0, .agg cs)] = some cs := by
  have e := arr24 h
  conv => rhs; rw [← e]
  conv => lhs; rw [← e]
  kernel_rfl
theorem strip_any (t : Tm) (c : Int) (w : World) (ht : t.Ok) (hc : 0 ≤ c ∧ c ≤ 255) : Calls Try.prog 15 #[.agg t.arr, .int .u8 c] w fun e w' => e = .returned (.int .u8 (stripL (mfL t) c)) ∧ Ext w w' := by
  have hn := t.size ht
  have hF := fun w' => through02_any t c w' ht hc
  generalize stripL (mfL t) c = z at *
  generalize t.arr = cs at *
  clear ht hc
  have HF := Lib.hid hF
  clear hF
  have hbi := built_is hn
  have hi : (Try.prog.info? 26).map (·.size) = some cs.size := by rw [hn]; kernel_rfl
  have hT := Lib.hid (Blk.new w 26 cs)
  go_enter Try.func15, Try.ntmps15
  go_wp2_with (first | (refine wpList_load_row rfl 26 _ rfl _ rfl 26 _ _ _ (Blk.ext hT.out (by repeat (first | with_reducible exact Ext.refl _ | refine Ext.drewN ?_ _ | refine Ext.drew ?_ | refine Ext.alloc ?_ _ | assumption | (refine Below.trans ?_ (by assumption)) | (refine Ext.trans ?_ (by assumption)) | (refine Below.trans ?_ (Below.mono (by assumption) (by omega)))))) Try.underlying26 rfl hi ?_) | (refine wpList_build_eq rfl 47 _ rfl (L := cs) (by simp [go_sem]; exact hbi) ?_))
  (with_reducible refine (HF.out _).mono ?_); rintro e w1 ⟨rfl, E1⟩
  go_wp2
  go_ret
  exact ⟨rfl, (by repeat (first | with_reducible exact Ext.refl _ | refine Ext.drewN ?_ _ | refine Ext.drew ?_ | refine Ext.alloc ?_ _ | assumption | (refine Below.trans ?_ (by assumption)) | (refine Ext.trans ?_ (by assumption)) | (refine Below.trans ?_ (Below.mono (by assumption) (by omega)))))⟩
theorem turn_any (t : Tm) (c : Int) (w : World) (ht : t.Ok) (hc : 0 ≤ c ∧ c ≤ 255) : Calls Try.prog 13 #[.agg t.arr, .int .u8 c] w (SPost w (endsL (mfL t) c)) := by
  have hn := t.size ht
  have hF := fun w' => through23_any t c w' ht hc
  generalize endsL (mfL t) c = z at *
  obtain ⟨zx, zb⟩ := z
  generalize t.arr = cs at *
  clear ht hc
  have HF := Lib.hid hF
  clear hF
  have hbi := built_is hn
  have hi : (Try.prog.info? 26).map (·.size) = some cs.size := by rw [hn]; kernel_rfl
  have hT := Lib.hid (Blk.new w 26 cs)
  go_enter Try.func13, Try.ntmps13
  go_wp2_with (first | (refine wpList_load_row rfl 26 _ rfl _ rfl 26 _ _ _ (Blk.ext hT.out (by repeat (first | with_reducible exact Ext.refl _ | refine Ext.drewN ?_ _ | refine Ext.drew ?_ | refine Ext.alloc ?_ _ | assumption | (refine Below.trans ?_ (by assumption)) | (refine Ext.trans ?_ (by assumption)) | (refine Below.trans ?_ (Below.mono (by assumption) (by omega)))))) Try.underlying26 rfl hi ?_) | (refine wpList_build_eq rfl 47 _ rfl (L := cs) (by simp [go_sem]; exact hbi) ?_))
  (with_reducible refine (HF.out _).mono ?_); rintro e w1 ⟨rfl, E1⟩
  go_wp2
  refine bodyPost_ret (v := .tuple #[.int .u8 zx, .bool zb]) (by simp [results, Try.results13, go_sem]) rfl ?_
  exact ⟨rfl, (by repeat (first | with_reducible exact Ext.refl _ | refine Ext.drewN ?_ _ | refine Ext.drew ?_ | refine Ext.alloc ?_ _ | assumption | (refine Below.trans ?_ (by assumption)) | (refine Ext.trans ?_ (by assumption)) | (refine Below.trans ?_ (Below.mono (by assumption) (by omega)))))⟩
/-- bytes that may be read -/
def RPost (w : World) (l : List Int) (e : Ending) (w' : World) : Prop := ∃ A n c, l.length = n ∧ e = .returned (.slice A n c) ∧ RI .u8 w' (.slice A n c) l ∧ Ext w w'
/-- bytes of the call's own -/
def OPost (w : World) (l : List Int) (e : Ending) (w' : World) : Prop :=
  ∃ A n c, l.length = n ∧ e = .returned (.slice A n c) ∧ OwnS Ub 5 w.heap.size (fun _ => False) w' (.slice A n c) l ∧ Ext w w'
set_option maxHeartbeats 400000 in
theorem mark_any (t : Tm) (c : Int) (w : World) (ht : t.Ok) : Calls Try.prog 17 #[.agg t.arr, .int .u8 c] w (RPost w (markL (mfL t) c)) := by
  have hn := t.size ht
  have h31 := fun w' => ihas_any t 31 w' ht
  have h33 := fun w' => ihas_any t 33 w' ht
  have hf : markL (mfL t) c = if c = 255 ∧ hasL t 31 = true ∧ hasL t 33 = false then [255, 255] else [c] := rfl
  obtain ⟨z, hz0⟩ : ∃ z, markL (mfL t) c = z := ⟨_, rfl⟩; rw [hz0]; have HZ := Lib.hid (hz0.symm.trans hf); clear hz0 hf
  have h1 := Lib.hid t.one
  generalize hasL t 31 = f1 at *
  generalize hasL t 33 = f3 at *
  generalize t.arr = cs at *
  clear ht
  have hbi := built_is hn
  have hi : (Try.prog.info? 26).map (·.size) = some cs.size := by rw [hn]; kernel_rfl
  have hj : (Try.prog.info? 47).map (·.size) = some cs.size := by rw [hn]; kernel_rfl
  have hT := Lib.hid (Blk.new w 26 cs)
  have hn24 := Lib.hid hn
  by_cases hc : c = 255
  · subst hc
    go_enter Try.func17, Try.ntmps17
    go_wp2_with (first | (refine wpList_load_row rfl 26 _ rfl _ rfl 26 _ _ _ (Blk.ext hT.out (by repeat (first | with_reducible exact Ext.refl _ | refine Ext.drewN ?_ _ | refine Ext.drew ?_ | refine Ext.alloc ?_ _ | assumption | (refine Below.trans ?_ (by assumption)) | (refine Ext.trans ?_ (by assumption)) | (refine Below.trans ?_ (Below.mono (by assumption) (by omega)))))) Try.underlying26 rfl hi ?_) | (refine wpList_build_eq rfl 47 _ rfl (L := cs) (by simp [go_sem]; exact hbi) ?_) | (refine wpList_store_A rfl 47 _ _ rfl (w.heap.size + 1) _ rfl rfl 47 _ (show Blk _ _ _ _ from Blk.at_ _ _ (by simp)) hj (by rw [hn24.out]; rfl) h1.out ?_; intro w2 H2 E2; have E2 := E2 w.heap.size w (by repeat (first | with_reducible exact Ext.refl _ | refine Ext.drewN ?_ _ | refine Ext.drew ?_ | refine Ext.alloc ?_ _ | assumption | (refine Below.trans ?_ (by assumption)) | (refine Ext.trans ?_ (by assumption)) | (refine Below.trans ?_ (Below.mono (by assumption) (by omega))))) (Nat.le_succ _); have H2 := Lib.hid H2) | (refine wpList_openG rfl rfl ?_; (refine wpList_load_row rfl 47 _ rfl _ rfl 47 _ _ _ (Blk.ext H2.out (by repeat (first | with_reducible exact Ext.refl _ | refine Ext.drewN ?_ _ | refine Ext.drew ?_ | refine Ext.alloc ?_ _ | assumption | (refine Below.trans ?_ (by assumption)) | (refine Ext.trans ?_ (by assumption)) | (refine Below.trans ?_ (Below.mono (by assumption) (by omega)))))) Try.underlying47 rfl hj ?_)))
    (with_reducible refine (h31 _).mono ?_); rintro e w3 ⟨rfl, E3⟩
    cases f1
    · replace HZ := Lib.hid (HZ.out.trans (if_neg (fun h => by cases h.2.1)))
      go_wp2
      go_ret
      exact ⟨_, 1, 1, by rw [HZ.out]; rfl, rfl, by rw [HZ.out]; exact RI.lit .u8 [255] _ rfl (by simp), (by repeat (first | with_reducible exact Ext.refl _ | refine Ext.drewN ?_ _ | refine Ext.drew ?_ | refine Ext.alloc ?_ _ | assumption | (refine Below.trans ?_ (by assumption)) | (refine Ext.trans ?_ (by assumption)) | (refine Below.trans ?_ (Below.mono (by assumption) (by omega)))))⟩
    · go_wp2_with (first | (refine wpList_load_row rfl 26 _ rfl _ rfl 26 _ _ _ (Blk.ext hT.out (by repeat (first | with_reducible exact Ext.refl _ | refine Ext.drewN ?_ _ | refine Ext.drew ?_ | refine Ext.alloc ?_ _ | assumption | (refine Below.trans ?_ (by assumption)) | (refine Ext.trans ?_ (by assumption)) | (refine Below.trans ?_ (Below.mono (by assumption) (by omega)))))) Try.underlying26 rfl hi ?_) | (refine wpList_build_eq rfl 47 _ rfl (L := cs) (by simp [go_sem]; exact hbi) ?_) | (refine wpList_store_A rfl 47 _ _ rfl (w.heap.size + 1) _ rfl rfl 47 _ (show Blk _ _ _ _ from Blk.at_ _ _ (by simp)) hj (by rw [hn24.out]; rfl) h1.out ?_; intro w2 H2 E2; have E2 := E2 w.heap.size w (by repeat (first | with_reducible exact Ext.refl _ | refine Ext.drewN ?_ _ | refine Ext.drew ?_ | refine Ext.alloc ?_ _ | assumption | (refine Below.trans ?_ (by assumption)) | (refine Ext.trans ?_ (by assumption)) | (refine Below.trans ?_ (Below.mono (by assumption) (by omega))))) (Nat.le_succ _); have H2 := Lib.hid H2) | (refine wpList_openG rfl rfl ?_; (refine wpList_load_row rfl 47 _ rfl _ rfl 47 _ _ _ (Blk.ext H2.out (by repeat (first | with_reducible exact Ext.refl _ | refine Ext.drewN ?_ _ | refine Ext.drew ?_ | refine Ext.alloc ?_ _ | assumption | (refine Below.trans ?_ (by assumption)) | (refine Ext.trans ?_ (by assumption)) | (refine Below.trans ?_ (Below.mono (by assumption) (by omega)))))) Try.underlying47 rfl hj ?_)))
      (with_reducible refine (h33 _).mono ?_); rintro e w4 ⟨rfl, E4⟩
      cases f3
      · replace HZ := Lib.hid (HZ.out.trans (if_pos ⟨by trivial, by trivial, by trivial⟩))
        go_wp2
        go_ret
        exact ⟨_, 2, 2, by rw [HZ.out]; rfl, rfl, by rw [HZ.out]; exact RI.lit .u8 [255, 255] _ rfl (by simp), (by repeat (first | with_reducible exact Ext.refl _ | refine Ext.drewN ?_ _ | refine Ext.drew ?_ | refine Ext.alloc ?_ _ | assumption | (refine Below.trans ?_ (by assumption)) | (refine Ext.trans ?_ (by assumption)) | (refine Below.trans ?_ (Below.mono (by assumption) (by omega)))))⟩
      · replace HZ := Lib.hid (HZ.out.trans (if_neg (fun h => by cases h.2.2)))
        go_wp2
        go_ret
        exact ⟨_, 1, 1, by rw [HZ.out]; rfl, rfl, by rw [HZ.out]; exact RI.lit .u8 [255] _ rfl (by simp), (by repeat (first | with_reducible exact Ext.refl _ | refine Ext.drewN ?_ _ | refine Ext.drew ?_ | refine Ext.alloc ?_ _ | assumption | (refine Below.trans ?_ (by assumption)) | (refine Ext.trans ?_ (by assumption)) | (refine Below.trans ?_ (Below.mono (by assumption) (by omega)))))⟩
  · replace HZ := Lib.hid (HZ.out.trans (if_neg (fun h => hc h.1)))
    have hc0 : (c == 255) = false := by simpa using hc
    clear hc
    go_enter Try.func17, Try.ntmps17
    go_wp2_with (first | (refine wpList_load_row rfl 26 _ rfl _ rfl 26 _ _ _ (Blk.ext hT.out (by repeat (first | with_reducible exact Ext.refl _ | refine Ext.drewN ?_ _ | refine Ext.drew ?_ | refine Ext.alloc ?_ _ | assumption | (refine Below.trans ?_ (by assumption)) | (refine Ext.trans ?_ (by assumption)) | (refine Below.trans ?_ (Below.mono (by assumption) (by omega)))))) Try.underlying26 rfl hi ?_) | (refine wpList_build_eq rfl 47 _ rfl (L := cs) (by simp [go_sem]; exact hbi) ?_) | (refine wpList_store_A rfl 47 _ _ rfl (w.heap.size + 1) _ rfl rfl 47 _ (show Blk _ _ _ _ from Blk.at_ _ _ (by simp)) hj (by rw [hn24.out]; rfl) h1.out ?_; intro w2 H2 E2; have E2 := E2 w.heap.size w (by repeat (first | with_reducible exact Ext.refl _ | refine Ext.drewN ?_ _ | refine Ext.drew ?_ | refine Ext.alloc ?_ _ | assumption | (refine Below.trans ?_ (by assumption)) | (refine Ext.trans ?_ (by assumption)) | (refine Below.trans ?_ (Below.mono (by assumption) (by omega))))) (Nat.le_succ _); have H2 := Lib.hid H2) | (refine wpList_openG rfl rfl ?_; (refine wpList_load_row rfl 47 _ rfl _ rfl 47 _ _ _ (Blk.ext H2.out (by repeat (first | with_reducible exact Ext.refl _ | refine Ext.drewN ?_ _ | refine Ext.drew ?_ | refine Ext.alloc ?_ _ | assumption | (refine Below.trans ?_ (by assumption)) | (refine Ext.trans ?_ (by assumption)) | (refine Below.trans ?_ (Below.mono (by assumption) (by omega)))))) Try.underlying47 rfl hj ?_)))
    go_ret
    exact ⟨_, 1, 1, by rw [HZ.out]; rfl, rfl, by rw [HZ.out]; exact RI.lit .u8 [c] _ rfl (by simp), (by repeat (first | with_reducible exact Ext.refl _ | refine Ext.drewN ?_ _ | refine Ext.drew ?_ | refine Ext.alloc ?_ _ | assumption | (refine Below.trans ?_ (by assumption)) | (refine Ext.trans ?_ (by assumption)) | (refine Below.trans ?_ (Below.mono (by assumption) (by omega)))))⟩
set_option maxHeartbeats 800000 in
theorem map_any (t : Tm) (v : Value) (l : List Int) (w : World) (ht : t.Ok) (hl : RI .u8 w v l) (hB : Bs l) (hlen : l.length ≤ 10000000) : Calls Try.prog 9 #[.agg t.arr, v] w (OPost w (mapL (mfL t) l)) := by
  have hn := t.size ht
  have hF := fun c w' hc => through03_any t c w' ht hc
  have hM := fun c w' => mark_any t c w' ht
  generalize mfL t = f at *
  generalize t.arr = cs at *
  clear ht
  obtain ⟨Ad, c, rfl, h1, h2⟩ := hl.shape
  have H := Lib.hid hl
  have HB := Lib.hid hB
  have HF := Lib.hid hF
  have HM := Lib.hid hM
  clear hF hM hl hB
  have hbi := built_is hn
  have hi : (Try.prog.info? 26).map (·.size) = some cs.size := by rw [hn]; kernel_rfl
  have hT := Lib.hid (Blk.new w 26 cs)
  go_enter Try.func9, Try.ntmps9
  go_wp2
  go_loopw [5, 12] (fun o i wr => ∃ (k n c : Nat) (A : Option Addr), k ≤ l.length ∧ i = .int .i64 k ∧ o = .slice A n c ∧ Hid ((mapL f (l.take k)).length = n) ∧ Hid (OwnS Ub 5 (w.heap.size + 1) (fun _ => False) wr (.slice A n c) (mapL f (l.take k))) ∧ Ext (w.alloc (.cells cs 26)) wr) (fun _ i _ => l.length - (intOf i).toNat)
  case atStart => exact ⟨0, 0, 0, none, Nat.zero_le _, rfl, rfl, Lib.hid rfl, Lib.hid (OwnS.nil _ _ _ _ _), (by repeat (first | with_reducible exact Ext.refl _ | refine Ext.drewN ?_ _ | refine Ext.drew ?_ | refine Ext.alloc ?_ _ | assumption | (refine Below.trans ?_ (by assumption)) | (refine Ext.trans ?_ (by assumption)) | (refine Below.trans ?_ (Below.mono (by assumption) (by omega)))))⟩
  case round =>
    obtain ⟨k, n, c', A, hk, rfl, rfl, HN, HO, hE⟩ := hrel
    by_cases hlt : k < l.length
    · obtain ⟨b, off, x, rfl, hx, hd⟩ := (RdN.ext H.out (Ext.trans ((Ext.refl w).alloc _) hE)).icell hlt
      have hxb := HB.out x (List.mem_of_getElem? hd.out)
      have hml := mapL_len f (l.take k)
      have htl : (l.take k).length = k := by rw [List.length_take]; omega
      have hnn := HN.out
      have hbn : n ≤ 20000000 := by omega
      have HS := Lib.hid (mapL_succ (f := f) hd.out)
      have hsz := hE.size
      simp at hsz
      have hY : byteL f x = if (endsL f (stripL f x)).2 = true then markL f (endsL f (stripL f x)).1 else [] := rfl
      have hyb := endsL_bd (f := f) (stripL_bd (f := f) hxb)
      have HZ := Lib.hid hY
      clear hY hml htl hnn
      have HX := Lib.hid fun w' => HF.out x w' hxb
      generalize byteL f x = z at HS HZ
      generalize mapL f (l.take k) = out at HS HN HO
      generalize endsL f (stripL f x) = y at HZ hyb HX
      obtain ⟨yx, yb⟩ := y
      simp only at hyb
      go_wp2_with (first | (refine wpList_load_row rfl 26 _ rfl _ rfl 26 _ _ _ (Blk.ext hT.out (by repeat (first | with_reducible exact Ext.refl _ | refine Ext.drewN ?_ _ | refine Ext.drew ?_ | refine Ext.alloc ?_ _ | assumption | (refine Below.trans ?_ (by assumption)) | (refine Ext.trans ?_ (by assumption)) | (refine Below.trans ?_ (Below.mono (by assumption) (by omega)))))) Try.underlying26 rfl hi ?_) | (refine wpList_build_eq rfl 47 _ rfl (L := cs) (by simp [go_sem]; exact hbi) ?_))
      (with_reducible refine (HX.out _).mono ?_); rintro e w3 ⟨rfl, E3⟩
      cases yb
      · replace HZ : Hid (z = []) := Lib.hid (HZ.out.trans (if_neg (by decide)))
        go_wp2
        go_roundw
        case rel => exact ⟨k + 1, n, c', A, by omega, by go_num, rfl, Lib.hid (by rw [HS.out, HZ.out, List.append_nil]; exact HN.out), Lib.hid (by rw [HS.out, HZ.out, List.append_nil]; exact HO.out.ext (by repeat (first | with_reducible exact Ext.refl _ | refine Ext.drewN ?_ _ | refine Ext.drew ?_ | refine Ext.alloc ?_ _ | assumption | (refine Below.trans ?_ (by assumption)) | (refine Ext.trans ?_ (by assumption)) | (refine Below.trans ?_ (Below.mono (by assumption) (by omega)))))), hE.trans (by repeat (first | with_reducible exact Ext.refl _ | refine Ext.drewN ?_ _ | refine Ext.drew ?_ | refine Ext.alloc ?_ _ | assumption | (refine Below.trans ?_ (by assumption)) | (refine Ext.trans ?_ (by assumption)) | (refine Below.trans ?_ (Below.mono (by assumption) (by omega)))))⟩
        case measure => simp [intOf]; omega
      · replace HZ : Hid (z = markL f yx) := Lib.hid (HZ.out.trans (if_pos (by trivial)))
        have hm2 := markL_len f yx
        have HM2 := Lib.hid fun w' => HM.out yx w'
        generalize markL f yx = mk at HZ hm2 HM2
        go_wp2_with ((refine wpList_load_row rfl 26 _ rfl _ rfl 26 _ _ _ (Blk.ext hT.out (by repeat (first | with_reducible exact Ext.refl _ | refine Ext.drewN ?_ _ | refine Ext.drew ?_ | refine Ext.alloc ?_ _ | assumption | (refine Below.trans ?_ (by assumption)) | (refine Ext.trans ?_ (by assumption)) | (refine Below.trans ?_ (Below.mono (by assumption) (by omega)))))) Try.underlying26 rfl hi ?_))
        (with_reducible refine (HM2.out _).mono ?_); rintro e w4 ⟨A4, n4, c4, l4, rfl, R4, E4⟩
        have L4 := Lib.hid l4
        have R4 := Lib.hid R4
        have hn4 : n4 ≤ 2 := by rw [← l4]; exact hm2
        have E34 : Ext wr w4 := (by repeat (first | with_reducible exact Ext.refl _ | refine Ext.drewN ?_ _ | refine Ext.drew ?_ | refine Ext.alloc ?_ _ | assumption | (refine Below.trans ?_ (by assumption)) | (refine Ext.trans ?_ (by assumption)) | (refine Below.trans ?_ (Below.mono (by assumption) (by omega)))))
        clear l4 hm2 HM2
        go_wp2_with (at_builtin; refine wpList_app (e := Ub) (base := w.heap.size + 1) (B := fun _ => False) (A := fun _ => False) rfl (.tmp 24) (.tmp 27) rfl Try.underlying27 info_u8 rfl (HO.out.ext E34) rfl (RI.y R4.out) rfl (fun _ _ h => h.elim) (N := n + n4) (by rw [HN.out, L4.out]) (by simp [maxLen]; omega) (by omega) (by have := E34.size; omega) ?_; intro A5 c5 w5 o5 M5 B5)
        go_roundw
        case rel => exact ⟨k + 1, n + n4, c5, A5, by omega, by go_num, rfl, Lib.hid (by rw [HS.out, HZ.out, List.length_append, HN.out, L4.out]), Lib.hid (by rw [HS.out, HZ.out]; exact o5), Below.trans (hE.trans E34) (B5.mono (by simp))⟩
        case measure => simp [intOf]; omega
    · obtain rfl : k = l.length := by omega
      rw [List.take_length] at HN HO
      generalize mapL f l = z at *
      go_wp2
      go_ret
      exact ⟨A, n, c', HN.out, rfl, HO.out.lower (by simp), Ext.trans ((Ext.refl w).alloc _) hE⟩
end Go.Proofs.Ytpkgmoekfindpaa
