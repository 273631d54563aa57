/- Lines as they are shown, and the column behind them, by contract. Conditions: the setting is one, bytes are bytes, lengths below 10^6. -/
import Derived.Test.YtjgheofaflgagaaB11
namespace Go.Proofs.Ytjgheofaflgagaa
open Go.RowKit Go.Kb

set_option maxHeartbeats 800000 in
theorem line_any (t : Tm) (v : Value) (l : List Int) (w : World) (ht : t.Ok) (hl : RI .u8 w v l) (hB : Bs l) (hlen : l.length ≤ 1000000) : Calls Try.prog 19 #[.agg t.arr, v] w (OPost w (lineL (hasL t 60) l)) := by
  have hS := fun c w' hc => show_any t c w' ht hc
  have hn := t.size ht
  generalize hasL t 60 = f at *
  generalize t.arr = cs at *
  clear ht
  obtain ⟨Ad, c, rfl, h1, h2⟩ := hl.shape
  have H := Lib.hid hl
  have HB := Lib.hid hB
  have HM := Lib.hid hS
  clear hS hl hB
  have hi : (Try.prog.info? 26).map (·.size) = some cs.size := by rw [hn]; kernel_rfl
  have hT := Lib.hid (Blk.new w 26 cs)
  go_enter Try.func19, Try.ntmps19
  go_wp2
  go_loopw [5, 10] (fun o i wr => ∃ (k n c : Nat) (A : Option Addr), k ≤ l.length ∧ i = .int .i64 k ∧ o = .slice A n c ∧ Hid ((lineL f (l.take k)).length = n) ∧ Hid (OwnS Ub 5 (w.heap.size + 1) (fun _ => False) wr (.slice A n c) (lineL f (l.take k))) ∧ Ext (w.alloc (.cells cs 26)) wr) (fun _ i _ => l.length - (intOf i).toNat)
  case atStart => exact ⟨0, 0, 0, none, Nat.zero_le _, rfl, rfl, Lib.hid rfl, Lib.hid (OwnS.nil _ _ _ _ _), (by repeat (first | with_reducible exact Ext.refl _ | refine Ext.drewN ?_ _ | refine Ext.drew ?_ | refine Ext.alloc ?_ _ | assumption | (refine Below.trans ?_ (by assumption)) | (refine Ext.trans ?_ (by assumption)) | (refine Below.trans ?_ (Below.mono (by assumption) (by omega)))))⟩
  case round =>
    obtain ⟨k, n, c', A, hk, rfl, rfl, HN, HO, hE⟩ := hrel
    by_cases hlt : k < l.length
    · obtain ⟨b, off, x, rfl, hx, hd⟩ := (RdN.ext H.out (Ext.trans ((Ext.refl w).alloc _) hE)).icell hlt
      have hxb := HB.out x (List.mem_of_getElem? hd.out)
      have hml := lineL_len f (l.take k)
      have htl : (l.take k).length = k := by rw [List.length_take]; omega
      have hnn := HN.out
      have hbn : n ≤ 2000000 := by omega
      have HS := Lib.hid (lineL_succ (e := f) hd.out)
      have hsz := hE.size
      simp at hsz
      have hm2 := showL_len f x
      have HM2 := Lib.hid fun w' => HM.out x w' hxb
      clear hml htl hnn
      generalize showL f x = mk at HS hm2 HM2
      generalize lineL f (l.take k) = out at HS HN HO
      go_wp2_with ((refine wpList_load_row rfl 26 _ rfl _ rfl 26 _ _ _ (Blk.ext hT.out (by repeat (first | with_reducible exact Ext.refl _ | refine Ext.drewN ?_ _ | refine Ext.drew ?_ | refine Ext.alloc ?_ _ | assumption | (refine Below.trans ?_ (by assumption)) | (refine Ext.trans ?_ (by assumption)) | (refine Below.trans ?_ (Below.mono (by assumption) (by omega)))))) Try.underlying26 rfl hi ?_))
      (with_reducible refine (HM2.out _).mono ?_); rintro e w4 ⟨A4, n4, c4, l4, rfl, R4, E4⟩
      have L4 := Lib.hid l4
      have R4 := Lib.hid R4
      have hn4 : n4 ≤ 2 := by rw [← l4]; exact hm2
      clear l4 hm2 HM2
      go_wp2_with (at_builtin; refine wpList_app (e := Ub) (base := w.heap.size + 1) (B := fun _ => False) (A := fun _ => False) rfl (.tmp 14) (.tmp 17) rfl Try.underlying27 info_u8 rfl (HO.out.ext E4) rfl (RI.y R4.out) rfl (fun _ _ h => h.elim) (N := n + n4) (by rw [HN.out, L4.out]) (by simp [maxLen]; omega) (by omega) (by have := E4.size; omega) ?_; intro A5 c5 w5 o5 M5 B5)
      go_roundw
      case rel => exact ⟨k + 1, n + n4, c5, A5, by omega, by go_num, rfl, Lib.hid (by rw [HS.out, List.length_append, HN.out, L4.out]), Lib.hid (by rw [HS.out]; exact o5), Below.trans (hE.trans E4) (B5.mono (by simp))⟩
      case measure => simp [intOf]; omega
    · obtain rfl : k = l.length := by omega
      rw [List.take_length] at HN HO
      generalize lineL f l = z at *
      go_wp2
      go_ret
      exact ⟨A, n, c', HN.out, rfl, HO.out.lower (by simp), Ext.trans ((Ext.refl w).alloc _) hE⟩
set_option maxHeartbeats 800000 in
theorem rline_any (t : Tm) (v : Value) (l : List Int) (w : World) (ht : t.Ok) (hl : RI .u8 w v l) (hB : Bs l) (hlen : l.length ≤ 1000000) : Calls Try.prog 20 #[.agg t.arr, v] w (OPost w (lineL (hasL t 60) l)) := by
  have hS := fun c w' hc => rshow_any t c w' ht hc
  have hn := t.size ht
  generalize hasL t 60 = f at *
  generalize t.arr = cs at *
  clear ht
  obtain ⟨Ad, c, rfl, h1, h2⟩ := hl.shape
  have H := Lib.hid hl
  have HB := Lib.hid hB
  have HM := Lib.hid hS
  clear hS hl hB
  have hi : (Try.prog.info? 26).map (·.size) = some cs.size := by rw [hn]; kernel_rfl
  have hT := Lib.hid (Blk.new w 26 cs)
  go_enter Try.func20, Try.ntmps20
  go_wp2
  go_loopw [5, 10] (fun o i wr => ∃ (k n c : Nat) (A : Option Addr), k ≤ l.length ∧ i = .int .i64 k ∧ o = .slice A n c ∧ Hid ((lineL f (l.take k)).length = n) ∧ Hid (OwnS Ub 5 (w.heap.size + 1) (fun _ => False) wr (.slice A n c) (lineL f (l.take k))) ∧ Ext (w.alloc (.cells cs 26)) wr) (fun _ i _ => l.length - (intOf i).toNat)
  case atStart => exact ⟨0, 0, 0, none, Nat.zero_le _, rfl, rfl, Lib.hid rfl, Lib.hid (OwnS.nil _ _ _ _ _), (by repeat (first | with_reducible exact Ext.refl _ | refine Ext.drewN ?_ _ | refine Ext.drew ?_ | refine Ext.alloc ?_ _ | assumption | (refine Below.trans ?_ (by assumption)) | (refine Ext.trans ?_ (by assumption)) | (refine Below.trans ?_ (Below.mono (by assumption) (by omega)))))⟩
  case round =>
    obtain ⟨k, n, c', A, hk, rfl, rfl, HN, HO, hE⟩ := hrel
    by_cases hlt : k < l.length
    · obtain ⟨b, off, x, rfl, hx, hd⟩ := (RdN.ext H.out (Ext.trans ((Ext.refl w).alloc _) hE)).icell hlt
      have hxb := HB.out x (List.mem_of_getElem? hd.out)
      have hml := lineL_len f (l.take k)
      have htl : (l.take k).length = k := by rw [List.length_take]; omega
      have hnn := HN.out
      have hbn : n ≤ 2000000 := by omega
      have HS := Lib.hid (lineL_succ (e := f) hd.out)
      have hsz := hE.size
      simp at hsz
      have hm2 := showL_len f x
      have HM2 := Lib.hid fun w' => HM.out x w' hxb
      clear hml htl hnn
      generalize showL f x = mk at HS hm2 HM2
      generalize lineL f (l.take k) = out at HS HN HO
      go_wp2_with ((refine wpList_load_row rfl 26 _ rfl _ rfl 26 _ _ _ (Blk.ext hT.out (by repeat (first | with_reducible exact Ext.refl _ | refine Ext.drewN ?_ _ | refine Ext.drew ?_ | refine Ext.alloc ?_ _ | assumption | (refine Below.trans ?_ (by assumption)) | (refine Ext.trans ?_ (by assumption)) | (refine Below.trans ?_ (Below.mono (by assumption) (by omega)))))) Try.underlying26 rfl hi ?_))
      (with_reducible refine (HM2.out _).mono ?_); rintro e w4 ⟨A4, n4, c4, l4, rfl, R4, E4⟩
      have L4 := Lib.hid l4
      have R4 := Lib.hid R4
      have hn4 : n4 ≤ 2 := by rw [← l4]; exact hm2
      clear l4 hm2 HM2
      go_wp2_with (at_builtin; refine wpList_app (e := Ub) (base := w.heap.size + 1) (B := fun _ => False) (A := fun _ => False) rfl (.tmp 14) (.tmp 17) rfl Try.underlying27 info_u8 rfl (HO.out.ext E4) rfl (RI.y R4.out) rfl (fun _ _ h => h.elim) (N := n + n4) (by rw [HN.out, L4.out]) (by simp [maxLen]; omega) (by omega) (by have := E4.size; omega) ?_; intro A5 c5 w5 o5 M5 B5)
      go_roundw
      case rel => exact ⟨k + 1, n + n4, c5, A5, by omega, by go_num, rfl, Lib.hid (by rw [HS.out, List.length_append, HN.out, L4.out]), Lib.hid (by rw [HS.out]; exact o5), Below.trans (hE.trans E4) (B5.mono (by simp))⟩
      case measure => simp [intOf]; omega
    · obtain rfl : k = l.length := by omega
      rw [List.take_length] at HN HO
      generalize lineL f l = z at *
      go_wp2
      go_ret
      exact ⟨A, n, c', HN.out, rfl, HO.out.lower (by simp), Ext.trans ((Ext.refl w).alloc _) hE⟩
theorem column_any (col : Int) (w : World) : Calls Try.prog 23 #[.int .i64 col] w fun e w' => e = .returned (.int .i64 (colL col)) ∧ w = w' := by
  unfold colL
  by_cases h : col < 0 ∨ 65535 < col
  · rw [if_pos h]
    rcases h with h | h
    · go_enter Try.func23, Try.ntmps23
      go_wp2
      go_ret
      exact ⟨rfl, rfl⟩
    · have h0 : ¬ col < 0 := by omega
      go_enter Try.func23, Try.ntmps23
      go_wp2
      go_ret
      exact ⟨rfl, rfl⟩
  · rw [if_neg h]
    have h0 : ¬ col < 0 := by omega
    have h1 : ¬ 65535 < col := by omega
    clear h
    go_enter Try.func23, Try.ntmps23
    go_wp2
    go_ret
    exact ⟨rfl, rfl⟩
theorem and192 : ∀ n : Nat, n < 256 → (bits .and .u8 (n : Int) 192 == 128) = decide (128 ≤ (n : Int) ∧ (n : Int) ≤ 191) := by decide +kernel
set_option maxHeartbeats 800000 in
theorem step_any (t : Tm) (col c : Int) (w : World) (ht : t.Ok) (hc : 0 ≤ c ∧ c ≤ 255) : Calls Try.prog 10 #[.agg t.arr, .int .i64 col, .int .u8 c] w fun e w' => e = .returned (.int .i64 (stepL (hasL t 60) (hasL t 42) col c)) ∧ Ext w w' := by
  have hn := t.size ht
  have hh := fun w' => hat_any t c w' ht
  have h42 := fun w' => has_any t 42 w' ht
  have hcl := fun w' => column_any col w'
  have hqu := fun w' => quiet_any c w'
  have hqd : quietL c = decide (c < 32 ∨ c = 127) := rfl
  have hkb := colL_bd col
  have hf : stepL (hasL t 60) (hasL t 42) col c = if c = 9 then (colL col / 8 + 1) * 8 else if hatL (hasL t 60) c = true then colL col + 2 else if c < 32 ∨ c = 127 then colL col else if hasL t 42 = true ∧ 128 ≤ c ∧ c ≤ 191 then colL col else colL col + 1 := rfl
  obtain ⟨z, hz0⟩ : ∃ z, stepL (hasL t 60) (hasL t 42) col c = z := ⟨_, rfl⟩; rw [hz0]; have HZ := Lib.hid (hz0.symm.trans hf); clear hz0 hf
  generalize hatL (hasL t 60) c = q at *
  generalize hasL t 42 = u at *
  generalize colL col = k at *
  generalize t.arr = cs at *
  clear ht
  obtain ⟨hk0, hk1⟩ := hkb
  have hi : (Try.prog.info? 26).map (·.size) = some cs.size := by rw [hn]; kernel_rfl
  have hT := Lib.hid (Blk.new w 26 cs)
  by_cases h9 : c = 9
  · subst h9
    replace HZ := Lib.hid (HZ.out.trans (if_pos rfl))
    clear hqd hqu
    go_enter Try.func10, Try.ntmps10
    go_wp2_with ((go_at_call 23; (with_reducible refine (hcl _).mono ?_); rintro e w1 ⟨rfl, rfl⟩))
    go_ret
    exact ⟨ret_int (by rw [HZ.out]; omega), (by repeat (first | with_reducible exact Ext.refl _ | refine Ext.drewN ?_ _ | refine Ext.drew ?_ | refine Ext.alloc ?_ _ | assumption | (refine Below.trans ?_ (by assumption)) | (refine Ext.trans ?_ (by assumption)) | (refine Below.trans ?_ (Below.mono (by assumption) (by omega)))))⟩
  · replace HZ := Lib.hid (HZ.out.trans (if_neg h9))
    have i9 : (c == 9) = false := by simpa using h9
    clear h9
    cases q
    · replace HZ := Lib.hid (HZ.out.trans (if_neg (by decide)))
      by_cases hq : c < 32 ∨ c = 127
      · replace HZ := Lib.hid (HZ.out.trans (if_pos hq))
        rw [decide_eq_true hq] at hqd
        rw [hqd] at hqu
        clear hqd hq
        go_enter Try.func10, Try.ntmps10
        go_wp2_with (first | ((go_at_call 23; (with_reducible refine (hcl _).mono ?_); rintro e w1 ⟨rfl, rfl⟩)) | (refine wpList_load_row rfl 26 _ rfl _ rfl 26 _ _ _ (Blk.ext hT.out (by repeat (first | with_reducible exact Ext.refl _ | refine Ext.drewN ?_ _ | refine Ext.drew ?_ | refine Ext.alloc ?_ _ | assumption | (refine Below.trans ?_ (by assumption)) | (refine Ext.trans ?_ (by assumption)) | (refine Below.trans ?_ (Below.mono (by assumption) (by omega)))))) Try.underlying26 rfl hi ?_))
        (with_reducible refine (hh _).mono ?_); rintro e w2 ⟨rfl, E2⟩
        go_wp2_with ((go_at_call 25; (with_reducible refine (hqu _).mono ?_); rintro e w3 ⟨rfl, rfl⟩))
        go_ret
        exact ⟨by rw [HZ.out]; rfl, (by repeat (first | with_reducible exact Ext.refl _ | refine Ext.drewN ?_ _ | refine Ext.drew ?_ | refine Ext.alloc ?_ _ | assumption | (refine Below.trans ?_ (by assumption)) | (refine Ext.trans ?_ (by assumption)) | (refine Below.trans ?_ (Below.mono (by assumption) (by omega)))))⟩
      · replace HZ := Lib.hid (HZ.out.trans (if_neg hq))
        rw [decide_eq_false hq] at hqd
        rw [hqd] at hqu
        have h192 : (bits .and .u8 c 192 == 128) = decide (128 ≤ c ∧ c ≤ 191) := by
          obtain ⟨n, rfl⟩ := Int.eq_ofNat_of_zero_le hc.1
          exact and192 n (by omega)
        clear hqd hq
        by_cases hin : 128 ≤ c ∧ c ≤ 191
        · rw [decide_eq_true hin] at h192
          go_enter Try.func10, Try.ntmps10
          go_wp2_with (first | ((go_at_call 23; (with_reducible refine (hcl _).mono ?_); rintro e w1 ⟨rfl, rfl⟩)) | (refine wpList_load_row rfl 26 _ rfl _ rfl 26 _ _ _ (Blk.ext hT.out (by repeat (first | with_reducible exact Ext.refl _ | refine Ext.drewN ?_ _ | refine Ext.drew ?_ | refine Ext.alloc ?_ _ | assumption | (refine Below.trans ?_ (by assumption)) | (refine Ext.trans ?_ (by assumption)) | (refine Below.trans ?_ (Below.mono (by assumption) (by omega)))))) Try.underlying26 rfl hi ?_))
          (with_reducible refine (hh _).mono ?_); rintro e w2 ⟨rfl, E2⟩
          go_wp2_with (first | ((go_at_call 25; (with_reducible refine (hqu _).mono ?_); rintro e w3 ⟨rfl, rfl⟩)) | (refine wpList_openG rfl rfl ?_; (refine wpList_load_row rfl 26 _ rfl _ rfl 26 _ _ _ (Blk.ext hT.out (by repeat (first | with_reducible exact Ext.refl _ | refine Ext.drewN ?_ _ | refine Ext.drew ?_ | refine Ext.alloc ?_ _ | assumption | (refine Below.trans ?_ (by assumption)) | (refine Ext.trans ?_ (by assumption)) | (refine Below.trans ?_ (Below.mono (by assumption) (by omega)))))) Try.underlying26 rfl hi ?_)))
          (with_reducible refine (h42 _).mono ?_); rintro e w4 ⟨rfl, E4⟩
          cases u
          · replace HZ := Lib.hid (HZ.out.trans (if_neg (fun h => by cases h.1)))
            go_wp2
            go_ret
            exact ⟨by rw [HZ.out]; rfl, (by repeat (first | with_reducible exact Ext.refl _ | refine Ext.drewN ?_ _ | refine Ext.drew ?_ | refine Ext.alloc ?_ _ | assumption | (refine Below.trans ?_ (by assumption)) | (refine Ext.trans ?_ (by assumption)) | (refine Below.trans ?_ (Below.mono (by assumption) (by omega)))))⟩
          · replace HZ := Lib.hid (HZ.out.trans (if_pos ⟨by trivial, hin.1, hin.2⟩))
            go_wp2
            go_ret
            exact ⟨by rw [HZ.out]; rfl, (by repeat (first | with_reducible exact Ext.refl _ | refine Ext.drewN ?_ _ | refine Ext.drew ?_ | refine Ext.alloc ?_ _ | assumption | (refine Below.trans ?_ (by assumption)) | (refine Ext.trans ?_ (by assumption)) | (refine Below.trans ?_ (Below.mono (by assumption) (by omega)))))⟩
        · rw [decide_eq_false hin] at h192
          replace HZ := Lib.hid (HZ.out.trans (if_neg (fun h => hin h.2)))
          clear hin
          go_enter Try.func10, Try.ntmps10
          go_wp2_with (first | ((go_at_call 23; (with_reducible refine (hcl _).mono ?_); rintro e w1 ⟨rfl, rfl⟩)) | (refine wpList_load_row rfl 26 _ rfl _ rfl 26 _ _ _ (Blk.ext hT.out (by repeat (first | with_reducible exact Ext.refl _ | refine Ext.drewN ?_ _ | refine Ext.drew ?_ | refine Ext.alloc ?_ _ | assumption | (refine Below.trans ?_ (by assumption)) | (refine Ext.trans ?_ (by assumption)) | (refine Below.trans ?_ (Below.mono (by assumption) (by omega)))))) Try.underlying26 rfl hi ?_))
          (with_reducible refine (hh _).mono ?_); rintro e w2 ⟨rfl, E2⟩
          go_wp2_with ((go_at_call 25; (with_reducible refine (hqu _).mono ?_); rintro e w3 ⟨rfl, rfl⟩))
          go_ret
          exact ⟨by rw [HZ.out]; rfl, (by repeat (first | with_reducible exact Ext.refl _ | refine Ext.drewN ?_ _ | refine Ext.drew ?_ | refine Ext.alloc ?_ _ | assumption | (refine Below.trans ?_ (by assumption)) | (refine Ext.trans ?_ (by assumption)) | (refine Below.trans ?_ (Below.mono (by assumption) (by omega)))))⟩
    · replace HZ := Lib.hid (HZ.out.trans (if_pos rfl))
      clear hqd hqu
      go_enter Try.func10, Try.ntmps10
      go_wp2_with (first | ((go_at_call 23; (with_reducible refine (hcl _).mono ?_); rintro e w1 ⟨rfl, rfl⟩)) | (refine wpList_load_row rfl 26 _ rfl _ rfl 26 _ _ _ (Blk.ext hT.out (by repeat (first | with_reducible exact Ext.refl _ | refine Ext.drewN ?_ _ | refine Ext.drew ?_ | refine Ext.alloc ?_ _ | assumption | (refine Below.trans ?_ (by assumption)) | (refine Ext.trans ?_ (by assumption)) | (refine Below.trans ?_ (Below.mono (by assumption) (by omega)))))) Try.underlying26 rfl hi ?_))
      (with_reducible refine (hh _).mono ?_); rintro e w2 ⟨rfl, E2⟩
      go_wp2
      go_ret
      exact ⟨by rw [HZ.out]; rfl, (by repeat (first | with_reducible exact Ext.refl _ | refine Ext.drewN ?_ _ | refine Ext.drew ?_ | refine Ext.alloc ?_ _ | assumption | (refine Below.trans ?_ (by assumption)) | (refine Ext.trans ?_ (by assumption)) | (refine Below.trans ?_ (Below.mono (by assumption) (by omega)))))⟩
set_option maxHeartbeats 3000000 in
theorem rstep_any (t : Tm) (col c : Int) (w : World) (ht : t.Ok) : Calls Try.prog 11 #[.agg t.arr, .int .i64 col, .int .u8 c] w fun e w' => e = .returned (.int .i64 (stepL (hasL t 60) (hasL t 42) col c)) ∧ Ext w w' := by
  have hn := t.size ht
  have hh := fun w' => rhat_any t c w' ht
  have h42 := fun w' => rhas_any t 42 w' ht
  have hf : stepL (hasL t 60) (hasL t 42) col c = if c = 9 then (colL col / 8 + 1) * 8 else if hatL (hasL t 60) c = true then colL col + 2 else if c < 32 ∨ c = 127 then colL col else if hasL t 42 = true ∧ 128 ≤ c ∧ c ≤ 191 then colL col else colL col + 1 := rfl
  obtain ⟨z, hz0⟩ : ∃ z, stepL (hasL t 60) (hasL t 42) col c = z := ⟨_, rfl⟩; rw [hz0]; have HZ := Lib.hid (hz0.symm.trans hf); clear hz0 hf
  generalize hatL (hasL t 60) c = q at *
  generalize hasL t 42 = u at *
  generalize t.arr = cs at *
  clear ht
  have hi : (Try.prog.info? 26).map (·.size) = some cs.size := by rw [hn]; kernel_rfl
  have hT := Lib.hid (Blk.new w 26 cs)
  by_cases hc0 : col < 0
  · have hk : colL col = 0 := if_pos (.inl hc0)
    rw [hk] at HZ
    clear hk
    by_cases h9 : c = 9
    · subst h9
      replace HZ := Lib.hid (HZ.out.trans (if_pos rfl))
      go_enter Try.func11, Try.ntmps11
      go_wp2
      go_ret
      exact ⟨ret_int (by rw [HZ.out] <;> omega), (by repeat (first | with_reducible exact Ext.refl _ | refine Ext.drewN ?_ _ | refine Ext.drew ?_ | refine Ext.alloc ?_ _ | assumption | (refine Below.trans ?_ (by assumption)) | (refine Ext.trans ?_ (by assumption)) | (refine Below.trans ?_ (Below.mono (by assumption) (by omega)))))⟩
    · replace HZ := Lib.hid (HZ.out.trans (if_neg h9))
      have i9 : (c == 9) = false := by simpa using h9
      clear h9
      cases q
      · replace HZ := Lib.hid (HZ.out.trans (if_neg (by decide)))
        by_cases h32 : c < 32
        · replace HZ := Lib.hid (HZ.out.trans (if_pos (.inl h32)))
          go_enter Try.func11, Try.ntmps11
          go_wp2_with ((refine wpList_load_row rfl 26 _ rfl _ rfl 26 _ _ _ (Blk.ext hT.out (by repeat (first | with_reducible exact Ext.refl _ | refine Ext.drewN ?_ _ | refine Ext.drew ?_ | refine Ext.alloc ?_ _ | assumption | (refine Below.trans ?_ (by assumption)) | (refine Ext.trans ?_ (by assumption)) | (refine Below.trans ?_ (Below.mono (by assumption) (by omega)))))) Try.underlying26 rfl hi ?_))
          (with_reducible refine (hh _).mono ?_); rintro e w2 ⟨rfl, E2⟩
          go_wp2
          go_ret
          exact ⟨by rw [HZ.out]; rfl, (by repeat (first | with_reducible exact Ext.refl _ | refine Ext.drewN ?_ _ | refine Ext.drew ?_ | refine Ext.alloc ?_ _ | assumption | (refine Below.trans ?_ (by assumption)) | (refine Ext.trans ?_ (by assumption)) | (refine Below.trans ?_ (Below.mono (by assumption) (by omega)))))⟩
        · by_cases h127 : c = 127
          · subst h127
            replace HZ := Lib.hid (HZ.out.trans (if_pos (.inr rfl)))
            clear i9
            go_enter Try.func11, Try.ntmps11
            go_wp2_with ((refine wpList_load_row rfl 26 _ rfl _ rfl 26 _ _ _ (Blk.ext hT.out (by repeat (first | with_reducible exact Ext.refl _ | refine Ext.drewN ?_ _ | refine Ext.drew ?_ | refine Ext.alloc ?_ _ | assumption | (refine Below.trans ?_ (by assumption)) | (refine Ext.trans ?_ (by assumption)) | (refine Below.trans ?_ (Below.mono (by assumption) (by omega)))))) Try.underlying26 rfl hi ?_))
            (with_reducible refine (hh _).mono ?_); rintro e w2 ⟨rfl, E2⟩
            go_wp2
            go_ret
            exact ⟨by rw [HZ.out]; rfl, (by repeat (first | with_reducible exact Ext.refl _ | refine Ext.drewN ?_ _ | refine Ext.drew ?_ | refine Ext.alloc ?_ _ | assumption | (refine Below.trans ?_ (by assumption)) | (refine Ext.trans ?_ (by assumption)) | (refine Below.trans ?_ (Below.mono (by assumption) (by omega)))))⟩
          · replace HZ := Lib.hid (HZ.out.trans (if_neg (fun h => by omega)))
            have i127 : (c == 127) = false := by simpa using h127
            clear h127
            go_enter Try.func11, Try.ntmps11
            go_wp2_with ((refine wpList_load_row rfl 26 _ rfl _ rfl 26 _ _ _ (Blk.ext hT.out (by repeat (first | with_reducible exact Ext.refl _ | refine Ext.drewN ?_ _ | refine Ext.drew ?_ | refine Ext.alloc ?_ _ | assumption | (refine Below.trans ?_ (by assumption)) | (refine Ext.trans ?_ (by assumption)) | (refine Below.trans ?_ (Below.mono (by assumption) (by omega)))))) Try.underlying26 rfl hi ?_))
            (with_reducible refine (hh _).mono ?_); rintro e w2 ⟨rfl, E2⟩
            go_wp2_with ((refine wpList_load_row rfl 26 _ rfl _ rfl 26 _ _ _ (Blk.ext hT.out (by repeat (first | with_reducible exact Ext.refl _ | refine Ext.drewN ?_ _ | refine Ext.drew ?_ | refine Ext.alloc ?_ _ | assumption | (refine Below.trans ?_ (by assumption)) | (refine Ext.trans ?_ (by assumption)) | (refine Below.trans ?_ (Below.mono (by assumption) (by omega)))))) Try.underlying26 rfl hi ?_))
            (with_reducible refine (h42 _).mono ?_); rintro e w3 ⟨rfl, E3⟩
            cases u
            · replace HZ := Lib.hid (HZ.out.trans (if_neg (fun h => by cases h.1)))
              go_wp2
              go_ret
              exact ⟨by rw [HZ.out]; rfl, (by repeat (first | with_reducible exact Ext.refl _ | refine Ext.drewN ?_ _ | refine Ext.drew ?_ | refine Ext.alloc ?_ _ | assumption | (refine Below.trans ?_ (by assumption)) | (refine Ext.trans ?_ (by assumption)) | (refine Below.trans ?_ (Below.mono (by assumption) (by omega)))))⟩
            · by_cases h128 : 128 ≤ c
              · by_cases h191 : c ≤ 191
                · replace HZ := Lib.hid (HZ.out.trans (if_pos ⟨by trivial, h128, h191⟩))
                  go_wp2
                  go_ret
                  exact ⟨by rw [HZ.out]; rfl, (by repeat (first | with_reducible exact Ext.refl _ | refine Ext.drewN ?_ _ | refine Ext.drew ?_ | refine Ext.alloc ?_ _ | assumption | (refine Below.trans ?_ (by assumption)) | (refine Ext.trans ?_ (by assumption)) | (refine Below.trans ?_ (Below.mono (by assumption) (by omega)))))⟩
                · replace HZ := Lib.hid (HZ.out.trans (if_neg (fun h => h191 h.2.2)))
                  go_wp2
                  go_ret
                  exact ⟨by rw [HZ.out]; rfl, (by repeat (first | with_reducible exact Ext.refl _ | refine Ext.drewN ?_ _ | refine Ext.drew ?_ | refine Ext.alloc ?_ _ | assumption | (refine Below.trans ?_ (by assumption)) | (refine Ext.trans ?_ (by assumption)) | (refine Below.trans ?_ (Below.mono (by assumption) (by omega)))))⟩
              · replace HZ := Lib.hid (HZ.out.trans (if_neg (fun h => h128 h.2.1)))
                go_wp2
                go_ret
                exact ⟨by rw [HZ.out]; rfl, (by repeat (first | with_reducible exact Ext.refl _ | refine Ext.drewN ?_ _ | refine Ext.drew ?_ | refine Ext.alloc ?_ _ | assumption | (refine Below.trans ?_ (by assumption)) | (refine Ext.trans ?_ (by assumption)) | (refine Below.trans ?_ (Below.mono (by assumption) (by omega)))))⟩
      · replace HZ := Lib.hid (HZ.out.trans (if_pos rfl))
        go_enter Try.func11, Try.ntmps11
        go_wp2_with ((refine wpList_load_row rfl 26 _ rfl _ rfl 26 _ _ _ (Blk.ext hT.out (by repeat (first | with_reducible exact Ext.refl _ | refine Ext.drewN ?_ _ | refine Ext.drew ?_ | refine Ext.alloc ?_ _ | assumption | (refine Below.trans ?_ (by assumption)) | (refine Ext.trans ?_ (by assumption)) | (refine Below.trans ?_ (Below.mono (by assumption) (by omega)))))) Try.underlying26 rfl hi ?_))
        (with_reducible refine (hh _).mono ?_); rintro e w2 ⟨rfl, E2⟩
        go_wp2
        go_ret
        exact ⟨by rw [HZ.out]; rfl, (by repeat (first | with_reducible exact Ext.refl _ | refine Ext.drewN ?_ _ | refine Ext.drew ?_ | refine Ext.alloc ?_ _ | assumption | (refine Below.trans ?_ (by assumption)) | (refine Ext.trans ?_ (by assumption)) | (refine Below.trans ?_ (Below.mono (by assumption) (by omega)))))⟩
  · by_cases hc1 : 65535 < col
    · have hk : colL col = 0 := if_pos (.inr hc1)
      rw [hk] at HZ
      clear hk
      by_cases h9 : c = 9
      · subst h9
        replace HZ := Lib.hid (HZ.out.trans (if_pos rfl))
        go_enter Try.func11, Try.ntmps11
        go_wp2
        go_ret
        exact ⟨ret_int (by rw [HZ.out] <;> omega), (by repeat (first | with_reducible exact Ext.refl _ | refine Ext.drewN ?_ _ | refine Ext.drew ?_ | refine Ext.alloc ?_ _ | assumption | (refine Below.trans ?_ (by assumption)) | (refine Ext.trans ?_ (by assumption)) | (refine Below.trans ?_ (Below.mono (by assumption) (by omega)))))⟩
      · replace HZ := Lib.hid (HZ.out.trans (if_neg h9))
        have i9 : (c == 9) = false := by simpa using h9
        clear h9
        cases q
        · replace HZ := Lib.hid (HZ.out.trans (if_neg (by decide)))
          by_cases h32 : c < 32
          · replace HZ := Lib.hid (HZ.out.trans (if_pos (.inl h32)))
            go_enter Try.func11, Try.ntmps11
            go_wp2_with ((refine wpList_load_row rfl 26 _ rfl _ rfl 26 _ _ _ (Blk.ext hT.out (by repeat (first | with_reducible exact Ext.refl _ | refine Ext.drewN ?_ _ | refine Ext.drew ?_ | refine Ext.alloc ?_ _ | assumption | (refine Below.trans ?_ (by assumption)) | (refine Ext.trans ?_ (by assumption)) | (refine Below.trans ?_ (Below.mono (by assumption) (by omega)))))) Try.underlying26 rfl hi ?_))
            (with_reducible refine (hh _).mono ?_); rintro e w2 ⟨rfl, E2⟩
            go_wp2
            go_ret
            exact ⟨by rw [HZ.out]; rfl, (by repeat (first | with_reducible exact Ext.refl _ | refine Ext.drewN ?_ _ | refine Ext.drew ?_ | refine Ext.alloc ?_ _ | assumption | (refine Below.trans ?_ (by assumption)) | (refine Ext.trans ?_ (by assumption)) | (refine Below.trans ?_ (Below.mono (by assumption) (by omega)))))⟩
          · by_cases h127 : c = 127
            · subst h127
              replace HZ := Lib.hid (HZ.out.trans (if_pos (.inr rfl)))
              clear i9
              go_enter Try.func11, Try.ntmps11
              go_wp2_with ((refine wpList_load_row rfl 26 _ rfl _ rfl 26 _ _ _ (Blk.ext hT.out (by repeat (first | with_reducible exact Ext.refl _ | refine Ext.drewN ?_ _ | refine Ext.drew ?_ | refine Ext.alloc ?_ _ | assumption | (refine Below.trans ?_ (by assumption)) | (refine Ext.trans ?_ (by assumption)) | (refine Below.trans ?_ (Below.mono (by assumption) (by omega)))))) Try.underlying26 rfl hi ?_))
              (with_reducible refine (hh _).mono ?_); rintro e w2 ⟨rfl, E2⟩
              go_wp2
              go_ret
              exact ⟨by rw [HZ.out]; rfl, (by repeat (first | with_reducible exact Ext.refl _ | refine Ext.drewN ?_ _ | refine Ext.drew ?_ | refine Ext.alloc ?_ _ | assumption | (refine Below.trans ?_ (by assumption)) | (refine Ext.trans ?_ (by assumption)) | (refine Below.trans ?_ (Below.mono (by assumption) (by omega)))))⟩
            · replace HZ := Lib.hid (HZ.out.trans (if_neg (fun h => by omega)))
              have i127 : (c == 127) = false := by simpa using h127
              clear h127
              go_enter Try.func11, Try.ntmps11
              go_wp2_with ((refine wpList_load_row rfl 26 _ rfl _ rfl 26 _ _ _ (Blk.ext hT.out (by repeat (first | with_reducible exact Ext.refl _ | refine Ext.drewN ?_ _ | refine Ext.drew ?_ | refine Ext.alloc ?_ _ | assumption | (refine Below.trans ?_ (by assumption)) | (refine Ext.trans ?_ (by assumption)) | (refine Below.trans ?_ (Below.mono (by assumption) (by omega)))))) Try.underlying26 rfl hi ?_))
              (with_reducible refine (hh _).mono ?_); rintro e w2 ⟨rfl, E2⟩
              go_wp2_with ((refine wpList_load_row rfl 26 _ rfl _ rfl 26 _ _ _ (Blk.ext hT.out (by repeat (first | with_reducible exact Ext.refl _ | refine Ext.drewN ?_ _ | refine Ext.drew ?_ | refine Ext.alloc ?_ _ | assumption | (refine Below.trans ?_ (by assumption)) | (refine Ext.trans ?_ (by assumption)) | (refine Below.trans ?_ (Below.mono (by assumption) (by omega)))))) Try.underlying26 rfl hi ?_))
              (with_reducible refine (h42 _).mono ?_); rintro e w3 ⟨rfl, E3⟩
              cases u
              · replace HZ := Lib.hid (HZ.out.trans (if_neg (fun h => by cases h.1)))
                go_wp2
                go_ret
                exact ⟨by rw [HZ.out]; rfl, (by repeat (first | with_reducible exact Ext.refl _ | refine Ext.drewN ?_ _ | refine Ext.drew ?_ | refine Ext.alloc ?_ _ | assumption | (refine Below.trans ?_ (by assumption)) | (refine Ext.trans ?_ (by assumption)) | (refine Below.trans ?_ (Below.mono (by assumption) (by omega)))))⟩
              · by_cases h128 : 128 ≤ c
                · by_cases h191 : c ≤ 191
                  · replace HZ := Lib.hid (HZ.out.trans (if_pos ⟨by trivial, h128, h191⟩))
                    go_wp2
                    go_ret
                    exact ⟨by rw [HZ.out]; rfl, (by repeat (first | with_reducible exact Ext.refl _ | refine Ext.drewN ?_ _ | refine Ext.drew ?_ | refine Ext.alloc ?_ _ | assumption | (refine Below.trans ?_ (by assumption)) | (refine Ext.trans ?_ (by assumption)) | (refine Below.trans ?_ (Below.mono (by assumption) (by omega)))))⟩
                  · replace HZ := Lib.hid (HZ.out.trans (if_neg (fun h => h191 h.2.2)))
                    go_wp2
                    go_ret
                    exact ⟨by rw [HZ.out]; rfl, (by repeat (first | with_reducible exact Ext.refl _ | refine Ext.drewN ?_ _ | refine Ext.drew ?_ | refine Ext.alloc ?_ _ | assumption | (refine Below.trans ?_ (by assumption)) | (refine Ext.trans ?_ (by assumption)) | (refine Below.trans ?_ (Below.mono (by assumption) (by omega)))))⟩
                · replace HZ := Lib.hid (HZ.out.trans (if_neg (fun h => h128 h.2.1)))
                  go_wp2
                  go_ret
                  exact ⟨by rw [HZ.out]; rfl, (by repeat (first | with_reducible exact Ext.refl _ | refine Ext.drewN ?_ _ | refine Ext.drew ?_ | refine Ext.alloc ?_ _ | assumption | (refine Below.trans ?_ (by assumption)) | (refine Ext.trans ?_ (by assumption)) | (refine Below.trans ?_ (Below.mono (by assumption) (by omega)))))⟩
        · replace HZ := Lib.hid (HZ.out.trans (if_pos rfl))
          go_enter Try.func11, Try.ntmps11
          go_wp2_with ((refine wpList_load_row rfl 26 _ rfl _ rfl 26 _ _ _ (Blk.ext hT.out (by repeat (first | with_reducible exact Ext.refl _ | refine Ext.drewN ?_ _ | refine Ext.drew ?_ | refine Ext.alloc ?_ _ | assumption | (refine Below.trans ?_ (by assumption)) | (refine Ext.trans ?_ (by assumption)) | (refine Below.trans ?_ (Below.mono (by assumption) (by omega)))))) Try.underlying26 rfl hi ?_))
          (with_reducible refine (hh _).mono ?_); rintro e w2 ⟨rfl, E2⟩
          go_wp2
          go_ret
          exact ⟨by rw [HZ.out]; rfl, (by repeat (first | with_reducible exact Ext.refl _ | refine Ext.drewN ?_ _ | refine Ext.drew ?_ | refine Ext.alloc ?_ _ | assumption | (refine Below.trans ?_ (by assumption)) | (refine Ext.trans ?_ (by assumption)) | (refine Below.trans ?_ (Below.mono (by assumption) (by omega)))))⟩
    · have hk : colL col = col := colL_id ⟨by omega, by omega⟩
      rw [hk] at HZ
      clear hk
      by_cases h9 : c = 9
      · subst h9
        replace HZ := Lib.hid (HZ.out.trans (if_pos rfl))
        go_enter Try.func11, Try.ntmps11
        go_wp2
        go_ret
        exact ⟨ret_int (by rw [HZ.out] <;> omega), (by repeat (first | with_reducible exact Ext.refl _ | refine Ext.drewN ?_ _ | refine Ext.drew ?_ | refine Ext.alloc ?_ _ | assumption | (refine Below.trans ?_ (by assumption)) | (refine Ext.trans ?_ (by assumption)) | (refine Below.trans ?_ (Below.mono (by assumption) (by omega)))))⟩
      · replace HZ := Lib.hid (HZ.out.trans (if_neg h9))
        have i9 : (c == 9) = false := by simpa using h9
        clear h9
        cases q
        · replace HZ := Lib.hid (HZ.out.trans (if_neg (by decide)))
          by_cases h32 : c < 32
          · replace HZ := Lib.hid (HZ.out.trans (if_pos (.inl h32)))
            go_enter Try.func11, Try.ntmps11
            go_wp2_with ((refine wpList_load_row rfl 26 _ rfl _ rfl 26 _ _ _ (Blk.ext hT.out (by repeat (first | with_reducible exact Ext.refl _ | refine Ext.drewN ?_ _ | refine Ext.drew ?_ | refine Ext.alloc ?_ _ | assumption | (refine Below.trans ?_ (by assumption)) | (refine Ext.trans ?_ (by assumption)) | (refine Below.trans ?_ (Below.mono (by assumption) (by omega)))))) Try.underlying26 rfl hi ?_))
            (with_reducible refine (hh _).mono ?_); rintro e w2 ⟨rfl, E2⟩
            go_wp2
            go_ret
            exact ⟨by rw [HZ.out]; rfl, (by repeat (first | with_reducible exact Ext.refl _ | refine Ext.drewN ?_ _ | refine Ext.drew ?_ | refine Ext.alloc ?_ _ | assumption | (refine Below.trans ?_ (by assumption)) | (refine Ext.trans ?_ (by assumption)) | (refine Below.trans ?_ (Below.mono (by assumption) (by omega)))))⟩
          · by_cases h127 : c = 127
            · subst h127
              replace HZ := Lib.hid (HZ.out.trans (if_pos (.inr rfl)))
              clear i9
              go_enter Try.func11, Try.ntmps11
              go_wp2_with ((refine wpList_load_row rfl 26 _ rfl _ rfl 26 _ _ _ (Blk.ext hT.out (by repeat (first | with_reducible exact Ext.refl _ | refine Ext.drewN ?_ _ | refine Ext.drew ?_ | refine Ext.alloc ?_ _ | assumption | (refine Below.trans ?_ (by assumption)) | (refine Ext.trans ?_ (by assumption)) | (refine Below.trans ?_ (Below.mono (by assumption) (by omega)))))) Try.underlying26 rfl hi ?_))
              (with_reducible refine (hh _).mono ?_); rintro e w2 ⟨rfl, E2⟩
              go_wp2
              go_ret
              exact ⟨by rw [HZ.out]; rfl, (by repeat (first | with_reducible exact Ext.refl _ | refine Ext.drewN ?_ _ | refine Ext.drew ?_ | refine Ext.alloc ?_ _ | assumption | (refine Below.trans ?_ (by assumption)) | (refine Ext.trans ?_ (by assumption)) | (refine Below.trans ?_ (Below.mono (by assumption) (by omega)))))⟩
            · replace HZ := Lib.hid (HZ.out.trans (if_neg (fun h => by omega)))
              have i127 : (c == 127) = false := by simpa using h127
              clear h127
              go_enter Try.func11, Try.ntmps11
              go_wp2_with ((refine wpList_load_row rfl 26 _ rfl _ rfl 26 _ _ _ (Blk.ext hT.out (by repeat (first | with_reducible exact Ext.refl _ | refine Ext.drewN ?_ _ | refine Ext.drew ?_ | refine Ext.alloc ?_ _ | assumption | (refine Below.trans ?_ (by assumption)) | (refine Ext.trans ?_ (by assumption)) | (refine Below.trans ?_ (Below.mono (by assumption) (by omega)))))) Try.underlying26 rfl hi ?_))
              (with_reducible refine (hh _).mono ?_); rintro e w2 ⟨rfl, E2⟩
              go_wp2_with ((refine wpList_load_row rfl 26 _ rfl _ rfl 26 _ _ _ (Blk.ext hT.out (by repeat (first | with_reducible exact Ext.refl _ | refine Ext.drewN ?_ _ | refine Ext.drew ?_ | refine Ext.alloc ?_ _ | assumption | (refine Below.trans ?_ (by assumption)) | (refine Ext.trans ?_ (by assumption)) | (refine Below.trans ?_ (Below.mono (by assumption) (by omega)))))) Try.underlying26 rfl hi ?_))
              (with_reducible refine (h42 _).mono ?_); rintro e w3 ⟨rfl, E3⟩
              cases u
              · replace HZ := Lib.hid (HZ.out.trans (if_neg (fun h => by cases h.1)))
                go_wp2
                go_ret
                exact ⟨by rw [HZ.out]; rfl, (by repeat (first | with_reducible exact Ext.refl _ | refine Ext.drewN ?_ _ | refine Ext.drew ?_ | refine Ext.alloc ?_ _ | assumption | (refine Below.trans ?_ (by assumption)) | (refine Ext.trans ?_ (by assumption)) | (refine Below.trans ?_ (Below.mono (by assumption) (by omega)))))⟩
              · by_cases h128 : 128 ≤ c
                · by_cases h191 : c ≤ 191
                  · replace HZ := Lib.hid (HZ.out.trans (if_pos ⟨by trivial, h128, h191⟩))
                    go_wp2
                    go_ret
                    exact ⟨by rw [HZ.out]; rfl, (by repeat (first | with_reducible exact Ext.refl _ | refine Ext.drewN ?_ _ | refine Ext.drew ?_ | refine Ext.alloc ?_ _ | assumption | (refine Below.trans ?_ (by assumption)) | (refine Ext.trans ?_ (by assumption)) | (refine Below.trans ?_ (Below.mono (by assumption) (by omega)))))⟩
                  · replace HZ := Lib.hid (HZ.out.trans (if_neg (fun h => h191 h.2.2)))
                    go_wp2
                    go_ret
                    exact ⟨by rw [HZ.out]; rfl, (by repeat (first | with_reducible exact Ext.refl _ | refine Ext.drewN ?_ _ | refine Ext.drew ?_ | refine Ext.alloc ?_ _ | assumption | (refine Below.trans ?_ (by assumption)) | (refine Ext.trans ?_ (by assumption)) | (refine Below.trans ?_ (Below.mono (by assumption) (by omega)))))⟩
                · replace HZ := Lib.hid (HZ.out.trans (if_neg (fun h => h128 h.2.1)))
                  go_wp2
                  go_ret
                  exact ⟨by rw [HZ.out]; rfl, (by repeat (first | with_reducible exact Ext.refl _ | refine Ext.drewN ?_ _ | refine Ext.drew ?_ | refine Ext.alloc ?_ _ | assumption | (refine Below.trans ?_ (by assumption)) | (refine Ext.trans ?_ (by assumption)) | (refine Below.trans ?_ (Below.mono (by assumption) (by omega)))))⟩
        · replace HZ := Lib.hid (HZ.out.trans (if_pos rfl))
          go_enter Try.func11, Try.ntmps11
          go_wp2_with ((refine wpList_load_row rfl 26 _ rfl _ rfl 26 _ _ _ (Blk.ext hT.out (by repeat (first | with_reducible exact Ext.refl _ | refine Ext.drewN ?_ _ | refine Ext.drew ?_ | refine Ext.alloc ?_ _ | assumption | (refine Below.trans ?_ (by assumption)) | (refine Ext.trans ?_ (by assumption)) | (refine Below.trans ?_ (Below.mono (by assumption) (by omega)))))) Try.underlying26 rfl hi ?_))
          (with_reducible refine (hh _).mono ?_); rintro e w2 ⟨rfl, E2⟩
          go_wp2
          go_ret
          exact ⟨by rw [HZ.out]; rfl, (by repeat (first | with_reducible exact Ext.refl _ | refine Ext.drewN ?_ _ | refine Ext.drew ?_ | refine Ext.alloc ?_ _ | assumption | (refine Below.trans ?_ (by assumption)) | (refine Ext.trans ?_ (by assumption)) | (refine Below.trans ?_ (Below.mono (by assumption) (by omega)))))⟩
set_option maxHeartbeats 800000 in
theorem cols_any (t : Tm) (col : Int) (v : Value) (l : List Int) (w : World) (ht : t.Ok) (hl : RI .u8 w v l) (hB : Bs l) : Calls Try.prog 12 #[.agg t.arr, .int .i64 col, v] w fun e w' => e = .returned (.int .i64 (colsL (hasL t 60) (hasL t 42) col l)) ∧ Ext w w' := by
  have hn := t.size ht
  have hS := fun col c w' hc => step_any t col c w' ht hc
  generalize hasL t 60 = e at *
  generalize hasL t 42 = u at *
  generalize t.arr = cs at *
  clear ht
  obtain ⟨Ad, c, rfl, h1, h2⟩ := hl.shape
  have H := Lib.hid hl
  have HB := Lib.hid hB
  have HS := Lib.hid hS
  clear hS hl hB
  have hi : (Try.prog.info? 26).map (·.size) = some cs.size := by rw [hn]; kernel_rfl
  have hT := Lib.hid (Blk.new w 26 cs)
  go_enter Try.func12, Try.ntmps12
  go_wp2_with ((go_at_call 23; (with_reducible refine (column_any _ _).mono ?_); rintro e w1 ⟨rfl, rfl⟩))
  go_loopw [1, 13] (fun x i wr => ∃ k : Nat, k ≤ l.length ∧ i = .int .i64 k ∧ x = .int .i64 (colsL e u col (l.take k)) ∧ Ext (w.alloc (.cells cs 26)) wr) (fun _ i _ => l.length - (intOf i).toNat)
  case atStart => exact ⟨0, Nat.zero_le _, rfl, rfl, (by repeat (first | with_reducible exact Ext.refl _ | refine Ext.drewN ?_ _ | refine Ext.drew ?_ | refine Ext.alloc ?_ _ | assumption | (refine Below.trans ?_ (by assumption)) | (refine Ext.trans ?_ (by assumption)) | (refine Below.trans ?_ (Below.mono (by assumption) (by omega)))))⟩
  case round =>
    obtain ⟨k, hk', rfl, rfl, hE⟩ := hrel
    by_cases hlt : k < l.length
    · obtain ⟨b, off, x, rfl, hx, hd⟩ := (RdN.ext H.out (Ext.trans ((Ext.refl w).alloc _) hE)).icell hlt
      have hxb := HB.out x (List.mem_of_getElem? hd.out)
      have HSu := Lib.hid (colsL_succ (e := e) (u := u) (col := col) hd.out)
      have HS2 := Lib.hid fun w' => HS.out (colsL e u col (l.take k)) x w' hxb
      generalize colsL e u col (l.take k) = y at HSu HS2
      go_wp2_with ((refine wpList_load_row rfl 26 _ rfl _ rfl 26 _ _ _ (Blk.ext hT.out (by repeat (first | with_reducible exact Ext.refl _ | refine Ext.drewN ?_ _ | refine Ext.drew ?_ | refine Ext.alloc ?_ _ | assumption | (refine Below.trans ?_ (by assumption)) | (refine Ext.trans ?_ (by assumption)) | (refine Below.trans ?_ (Below.mono (by assumption) (by omega)))))) Try.underlying26 rfl hi ?_))
      (with_reducible refine (HS2.out _).mono ?_); rintro e w3 ⟨rfl, E3⟩
      go_wp2
      go_roundw
      case rel => exact ⟨k + 1, by omega, by go_num, by rw [HSu.out], (by repeat (first | with_reducible exact Ext.refl _ | refine Ext.drewN ?_ _ | refine Ext.drew ?_ | refine Ext.alloc ?_ _ | assumption | (refine Below.trans ?_ (by assumption)) | (refine Ext.trans ?_ (by assumption)) | (refine Below.trans ?_ (Below.mono (by assumption) (by omega)))))⟩
      case measure => simp [intOf]; omega
    · obtain rfl : k = l.length := by omega
      rw [List.take_length]
      go_wp2
      go_ret
      exact ⟨rfl, Ext.trans ((Ext.refl w).alloc _) hE⟩
set_option maxHeartbeats 800000 in
theorem rcols_any (t : Tm) (col : Int) (v : Value) (l : List Int) (w : World) (ht : t.Ok) (hl : RI .u8 w v l) (hB : Bs l) : Calls Try.prog 13 #[.agg t.arr, .int .i64 col, v] w fun e w' => e = .returned (.int .i64 (colsL (hasL t 60) (hasL t 42) col l)) ∧ Ext w w' := by
  have hn := t.size ht
  have hS := fun col c w' (_ : 0 ≤ c ∧ c ≤ 255) => rstep_any t col c w' ht
  generalize hasL t 60 = e at *
  generalize hasL t 42 = u at *
  generalize t.arr = cs at *
  clear ht
  obtain ⟨Ad, c, rfl, h1, h2⟩ := hl.shape
  have H := Lib.hid hl
  have HB := Lib.hid hB
  have HS := Lib.hid hS
  clear hS hl hB
  have hi : (Try.prog.info? 26).map (·.size) = some cs.size := by rw [hn]; kernel_rfl
  have hT := Lib.hid (Blk.new w 26 cs)
  have hkid : ∀ k, colL col = k → Hid (colsL e u col [] = k) := fun k hk => Lib.hid hk
  by_cases hc0 : col < 0
  · have hk := hkid 0 (if_pos (.inl hc0))
    clear hkid
    go_enter Try.func13, Try.ntmps13
    go_wp2
    go_loopw [1, 17] (fun x i wr => ∃ k : Nat, k ≤ l.length ∧ i = .int .i64 k ∧ x = .int .i64 (colsL e u col (l.take k)) ∧ Ext (w.alloc (.cells cs 26)) wr) (fun _ i _ => l.length - (intOf i).toNat)
    case atStart => exact ⟨0, Nat.zero_le _, rfl, by rw [List.take_zero, hk.out], (by repeat (first | with_reducible exact Ext.refl _ | refine Ext.drewN ?_ _ | refine Ext.drew ?_ | refine Ext.alloc ?_ _ | assumption | (refine Below.trans ?_ (by assumption)) | (refine Ext.trans ?_ (by assumption)) | (refine Below.trans ?_ (Below.mono (by assumption) (by omega)))))⟩
    case round =>
      obtain ⟨k, hk', rfl, rfl, hE⟩ := hrel
      by_cases hlt : k < l.length
      · obtain ⟨b, off, x, rfl, hx, hd⟩ := (RdN.ext H.out (Ext.trans ((Ext.refl w).alloc _) hE)).icell hlt
        have hxb := HB.out x (List.mem_of_getElem? hd.out)
        have HSu := Lib.hid (colsL_succ (e := e) (u := u) (col := col) hd.out)
        have HS2 := Lib.hid fun w' => HS.out (colsL e u col (l.take k)) x w' hxb
        generalize colsL e u col (l.take k) = y at HSu HS2
        go_wp2_with ((refine wpList_load_row rfl 26 _ rfl _ rfl 26 _ _ _ (Blk.ext hT.out (by repeat (first | with_reducible exact Ext.refl _ | refine Ext.drewN ?_ _ | refine Ext.drew ?_ | refine Ext.alloc ?_ _ | assumption | (refine Below.trans ?_ (by assumption)) | (refine Ext.trans ?_ (by assumption)) | (refine Below.trans ?_ (Below.mono (by assumption) (by omega)))))) Try.underlying26 rfl hi ?_))
        (with_reducible refine (HS2.out _).mono ?_); rintro e w3 ⟨rfl, E3⟩
        go_wp2
        go_roundw
        case rel => exact ⟨k + 1, by omega, by go_num, by rw [HSu.out], (by repeat (first | with_reducible exact Ext.refl _ | refine Ext.drewN ?_ _ | refine Ext.drew ?_ | refine Ext.alloc ?_ _ | assumption | (refine Below.trans ?_ (by assumption)) | (refine Ext.trans ?_ (by assumption)) | (refine Below.trans ?_ (Below.mono (by assumption) (by omega)))))⟩
        case measure => simp [intOf]; omega
      · obtain rfl : k = l.length := by omega
        rw [List.take_length]
        go_wp2
        go_ret
        exact ⟨rfl, Ext.trans ((Ext.refl w).alloc _) hE⟩
  · by_cases hc1 : 65535 < col
    · have hk := hkid 0 (if_pos (.inr hc1))
      clear hkid
      go_enter Try.func13, Try.ntmps13
      go_wp2
      go_loopw [1, 17] (fun x i wr => ∃ k : Nat, k ≤ l.length ∧ i = .int .i64 k ∧ x = .int .i64 (colsL e u col (l.take k)) ∧ Ext (w.alloc (.cells cs 26)) wr) (fun _ i _ => l.length - (intOf i).toNat)
      case atStart => exact ⟨0, Nat.zero_le _, rfl, by rw [List.take_zero, hk.out], (by repeat (first | with_reducible exact Ext.refl _ | refine Ext.drewN ?_ _ | refine Ext.drew ?_ | refine Ext.alloc ?_ _ | assumption | (refine Below.trans ?_ (by assumption)) | (refine Ext.trans ?_ (by assumption)) | (refine Below.trans ?_ (Below.mono (by assumption) (by omega)))))⟩
      case round =>
        obtain ⟨k, hk', rfl, rfl, hE⟩ := hrel
        by_cases hlt : k < l.length
        · obtain ⟨b, off, x, rfl, hx, hd⟩ := (RdN.ext H.out (Ext.trans ((Ext.refl w).alloc _) hE)).icell hlt
          have hxb := HB.out x (List.mem_of_getElem? hd.out)
          have HSu := Lib.hid (colsL_succ (e := e) (u := u) (col := col) hd.out)
          have HS2 := Lib.hid fun w' => HS.out (colsL e u col (l.take k)) x w' hxb
          generalize colsL e u col (l.take k) = y at HSu HS2
          go_wp2_with ((refine wpList_load_row rfl 26 _ rfl _ rfl 26 _ _ _ (Blk.ext hT.out (by repeat (first | with_reducible exact Ext.refl _ | refine Ext.drewN ?_ _ | refine Ext.drew ?_ | refine Ext.alloc ?_ _ | assumption | (refine Below.trans ?_ (by assumption)) | (refine Ext.trans ?_ (by assumption)) | (refine Below.trans ?_ (Below.mono (by assumption) (by omega)))))) Try.underlying26 rfl hi ?_))
          (with_reducible refine (HS2.out _).mono ?_); rintro e w3 ⟨rfl, E3⟩
          go_wp2
          go_roundw
          case rel => exact ⟨k + 1, by omega, by go_num, by rw [HSu.out], (by repeat (first | with_reducible exact Ext.refl _ | refine Ext.drewN ?_ _ | refine Ext.drew ?_ | refine Ext.alloc ?_ _ | assumption | (refine Below.trans ?_ (by assumption)) | (refine Ext.trans ?_ (by assumption)) | (refine Below.trans ?_ (Below.mono (by assumption) (by omega)))))⟩
          case measure => simp [intOf]; omega
        · obtain rfl : k = l.length := by omega
          rw [List.take_length]
          go_wp2
          go_ret
          exact ⟨rfl, Ext.trans ((Ext.refl w).alloc _) hE⟩
    · have hk := hkid col (colL_id ⟨by omega, by omega⟩)
      clear hkid
      go_enter Try.func13, Try.ntmps13
      go_wp2
      go_loopw [1, 17] (fun x i wr => ∃ k : Nat, k ≤ l.length ∧ i = .int .i64 k ∧ x = .int .i64 (colsL e u col (l.take k)) ∧ Ext (w.alloc (.cells cs 26)) wr) (fun _ i _ => l.length - (intOf i).toNat)
      case atStart => exact ⟨0, Nat.zero_le _, rfl, by rw [List.take_zero, hk.out], (by repeat (first | with_reducible exact Ext.refl _ | refine Ext.drewN ?_ _ | refine Ext.drew ?_ | refine Ext.alloc ?_ _ | assumption | (refine Below.trans ?_ (by assumption)) | (refine Ext.trans ?_ (by assumption)) | (refine Below.trans ?_ (Below.mono (by assumption) (by omega)))))⟩
      case round =>
        obtain ⟨k, hk', rfl, rfl, hE⟩ := hrel
        by_cases hlt : k < l.length
        · obtain ⟨b, off, x, rfl, hx, hd⟩ := (RdN.ext H.out (Ext.trans ((Ext.refl w).alloc _) hE)).icell hlt
          have hxb := HB.out x (List.mem_of_getElem? hd.out)
          have HSu := Lib.hid (colsL_succ (e := e) (u := u) (col := col) hd.out)
          have HS2 := Lib.hid fun w' => HS.out (colsL e u col (l.take k)) x w' hxb
          generalize colsL e u col (l.take k) = y at HSu HS2
          go_wp2_with ((refine wpList_load_row rfl 26 _ rfl _ rfl 26 _ _ _ (Blk.ext hT.out (by repeat (first | with_reducible exact Ext.refl _ | refine Ext.drewN ?_ _ | refine Ext.drew ?_ | refine Ext.alloc ?_ _ | assumption | (refine Below.trans ?_ (by assumption)) | (refine Ext.trans ?_ (by assumption)) | (refine Below.trans ?_ (Below.mono (by assumption) (by omega)))))) Try.underlying26 rfl hi ?_))
          (with_reducible refine (HS2.out _).mono ?_); rintro e w3 ⟨rfl, E3⟩
          go_wp2
          go_roundw
          case rel => exact ⟨k + 1, by omega, by go_num, by rw [HSu.out], (by repeat (first | with_reducible exact Ext.refl _ | refine Ext.drewN ?_ _ | refine Ext.drew ?_ | refine Ext.alloc ?_ _ | assumption | (refine Below.trans ?_ (by assumption)) | (refine Ext.trans ?_ (by assumption)) | (refine Below.trans ?_ (Below.mono (by assumption) (by omega)))))⟩
          case measure => simp [intOf]; omega
        · obtain rfl : k = l.length := by omega
          rw [List.take_length]
          go_wp2
          go_ret
          exact ⟨rfl, Ext.trans ((Ext.refl w).alloc _) hE⟩
end Go.Proofs.Ytjgheofaflgagaa
