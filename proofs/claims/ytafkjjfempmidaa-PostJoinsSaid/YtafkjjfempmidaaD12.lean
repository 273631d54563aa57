/- The document's answer for what goes out of bytes, by contract. Conditions: the setting is one, bytes are bytes, lengths below 10^7. -/
import Derived.Test.YtafkjjfempmidaaC12
import Derived.Test.YtafkjjfempmidaaMoR
namespace Go.Proofs.Ytafkjjfempmidaa
open Go.RowKit Go.Kb

set_option maxHeartbeats 800000 in
theorem rmoved_any (t : Tm) (col c : Int) (w : World) (ht : t.Ok) (hcol : 0 ≤ col ∧ col ≤ 65535) : Calls Try.prog 20 #[.agg t.arr, .int .i64 col, .int .u8 c] w fun e w' => e = .returned (.int .i64 (movedL (hasL t 42) col c)) ∧ Ext w w' := by
  have hn := t.size ht
  have h42 := fun w' => rhas_any t 42 w' ht
  obtain ⟨hc0, hc1⟩ := hcol
  generalize hasL t 42 = u at *
  generalize t.arr = cs at *
  clear ht
  have hi : (Try.prog.info? 26).map (·.size) = some cs.size := by rw [hn]; kernel_rfl
  have hT := Lib.hid (Blk.new w 26 cs)
  by_cases h9 : c = 9
  · subst h9
    have hm : movedL u col 9 = colL ((col / 8 + 1) * 8) := by simp [movedL]
    rw [hm]
    go_enter Try.func20, Try.ntmps20
    go_wp2_with ((go_at_call 18; (with_reducible refine (column_any _ _).mono ?_); rintro e w1 ⟨rfl, rfl⟩))
    go_ret
    exact ⟨rfl, (by repeat (first | with_reducible exact Ext.refl _ | refine Ext.drewN ?_ _ | refine Ext.drew ?_ | refine Ext.alloc ?_ _ | assumption | (refine Below.trans ?_ (by assumption)) | (refine Ext.trans ?_ (by assumption)) | (refine Below.trans ?_ (Below.mono (by assumption) (by omega)))))⟩
  · have i9 : (c == 9) = false := by simpa using h9
    by_cases h8 : c = 8
    · subst h8
      have hm : movedL u col 8 = max 0 (col - 1) := by simp [movedL]
      have HM := Lib.hid hm
      clear hm i9 h9
      go_enter Try.func20, Try.ntmps20
      go_wp2
      all_goals go_ret
      all_goals exact ⟨ret_int (by have := HM.out; omega), (by repeat (first | with_reducible exact Ext.refl _ | refine Ext.drewN ?_ _ | refine Ext.drew ?_ | refine Ext.alloc ?_ _ | assumption | (refine Below.trans ?_ (by assumption)) | (refine Ext.trans ?_ (by assumption)) | (refine Below.trans ?_ (Below.mono (by assumption) (by omega)))))⟩
    · have i8 : (c == 8) = false := by simpa using h8
      by_cases h13 : c = 13
      · subst h13
        rw [moved13]
        clear i9 i8 h9 h8
        go_enter Try.func20, Try.ntmps20
        go_wp2
        go_ret
        exact ⟨rfl, (by repeat (first | with_reducible exact Ext.refl _ | refine Ext.drewN ?_ _ | refine Ext.drew ?_ | refine Ext.alloc ?_ _ | assumption | (refine Below.trans ?_ (by assumption)) | (refine Ext.trans ?_ (by assumption)) | (refine Below.trans ?_ (Below.mono (by assumption) (by omega)))))⟩
      · have i13 : (c == 13) = false := by simpa using h13
        by_cases h32 : c < 32
        · have hm : movedL u col c = col := by unfold movedL; rw [if_neg h9, if_neg h8, if_neg h13, if_pos (.inl h32)]
          rw [hm]
          clear hm h9 h8 h13
          go_enter Try.func20, Try.ntmps20
          go_wp2
          go_ret
          exact ⟨rfl, (by repeat (first | with_reducible exact Ext.refl _ | refine Ext.drewN ?_ _ | refine Ext.drew ?_ | refine Ext.alloc ?_ _ | assumption | (refine Below.trans ?_ (by assumption)) | (refine Ext.trans ?_ (by assumption)) | (refine Below.trans ?_ (Below.mono (by assumption) (by omega)))))⟩
        · by_cases h127 : c = 127
          · subst h127
            have hm : movedL u col 127 = col := by simp [movedL]
            rw [hm]
            clear hm h9 h8 h13 i9 i8 i13
            go_enter Try.func20, Try.ntmps20
            go_wp2
            go_ret
            exact ⟨rfl, (by repeat (first | with_reducible exact Ext.refl _ | refine Ext.drewN ?_ _ | refine Ext.drew ?_ | refine Ext.alloc ?_ _ | assumption | (refine Below.trans ?_ (by assumption)) | (refine Ext.trans ?_ (by assumption)) | (refine Below.trans ?_ (Below.mono (by assumption) (by omega)))))⟩
          · have i127 : (c == 127) = false := by simpa using h127
            have hm : movedL u col c = if u = true ∧ 128 ≤ c ∧ c ≤ 191 then col else colL (col + 1) := by
              unfold movedL; rw [if_neg h9, if_neg h8, if_neg h13, if_neg (by omega)]
            obtain ⟨z, hz0⟩ : ∃ z, movedL u col c = z := ⟨_, rfl⟩; rw [hz0]; have HZ := Lib.hid (hz0.symm.trans hm); clear hz0 hm
            clear h9 h8 h13 h127
            go_enter Try.func20, Try.ntmps20
            go_wp2_with ((refine wpList_load_row rfl 26 _ rfl _ rfl 26 _ _ _ hT.out Try.underlying26 rfl hi ?_))
            refine (h42 _).mono ?_
            rintro e w1 ⟨rfl, E1⟩
            cases u
            · replace HZ := Lib.hid (HZ.out.trans (if_neg (fun h => by cases h.1)))
              go_wp2_with ((go_at_call 18; (with_reducible refine (column_any _ _).mono ?_); rintro e w2 ⟨rfl, rfl⟩))
              go_ret
              exact ⟨by rw [HZ.out]; rfl, (by repeat (first | with_reducible exact Ext.refl _ | refine Ext.drewN ?_ _ | refine Ext.drew ?_ | refine Ext.alloc ?_ _ | assumption | (refine Below.trans ?_ (by assumption)) | (refine Ext.trans ?_ (by assumption)) | (refine Below.trans ?_ (Below.mono (by assumption) (by omega)))))⟩
            · by_cases h128 : 128 ≤ c
              · by_cases h191 : c ≤ 191
                · replace HZ := Lib.hid (HZ.out.trans (if_pos ⟨rfl, h128, h191⟩))
                  go_wp2
                  go_ret
                  exact ⟨by rw [HZ.out]; rfl, (by repeat (first | with_reducible exact Ext.refl _ | refine Ext.drewN ?_ _ | refine Ext.drew ?_ | refine Ext.alloc ?_ _ | assumption | (refine Below.trans ?_ (by assumption)) | (refine Ext.trans ?_ (by assumption)) | (refine Below.trans ?_ (Below.mono (by assumption) (by omega)))))⟩
                · replace HZ := Lib.hid (HZ.out.trans (if_neg (fun h => h191 h.2.2)))
                  go_wp2_with ((go_at_call 18; (with_reducible refine (column_any _ _).mono ?_); rintro e w2 ⟨rfl, rfl⟩))
                  go_ret
                  exact ⟨by rw [HZ.out]; rfl, (by repeat (first | with_reducible exact Ext.refl _ | refine Ext.drewN ?_ _ | refine Ext.drew ?_ | refine Ext.alloc ?_ _ | assumption | (refine Below.trans ?_ (by assumption)) | (refine Ext.trans ?_ (by assumption)) | (refine Below.trans ?_ (Below.mono (by assumption) (by omega)))))⟩
              · replace HZ := Lib.hid (HZ.out.trans (if_neg (fun h => h128 h.2.1)))
                go_wp2_with ((go_at_call 18; (with_reducible refine (column_any _ _).mono ?_); rintro e w2 ⟨rfl, rfl⟩))
                go_ret
                exact ⟨by rw [HZ.out]; rfl, (by repeat (first | with_reducible exact Ext.refl _ | refine Ext.drewN ?_ _ | refine Ext.drew ?_ | refine Ext.alloc ?_ _ | assumption | (refine Below.trans ?_ (by assumption)) | (refine Ext.trans ?_ (by assumption)) | (refine Below.trans ?_ (Below.mono (by assumption) (by omega)))))⟩
/-- bytes that may be read, and the column -/
def RPost (w : World) (l : List Int) (col : Int) (e : Ending) (w' : World) : Prop :=
  ∃ A n c, l.length = n ∧ e = .returned (.tuple #[.slice A n c, .int .i64 col]) ∧ RI .u8 w' (.slice A n c) l ∧ Ext w w'
set_option maxHeartbeats 800000 in
theorem rbyte_any (t : Tm) (col c : Int) (w : World) (ht : t.Ok) (hc : 0 ≤ c ∧ c ≤ 255) :
    Calls Try.prog 9 #[.agg t.arr, .int .i64 col, .int .u8 c] w (RPost w (byteL (pfL t) (colL col) c).1 (byteL (pfL t) (colL col) c).2) := by
  have hn := t.size ht
  have h70 := fun w' => rhas_any t 70 w' ht
  have h71 := fun w' => rhas_any t 71 w' ht
  have h72 := fun w' => rhas_any t 72 w' ht
  have h73 := fun w' => rhas_any t 73 w' ht
  have h74 := fun w' => rhas_any t 74 w' ht
  have h75 := fun w' => rhas_any t 75 w' ht
  have hS := fun w' => rset_any t 72 false w' ht
  have hok := setL_ok ht 72 false
  have hn' := Tm.size hok
  have g72 := fun w' => rhas_any (setL t 72 false) 72 w' hok
  have g75 := fun w' => rhas_any (setL t 72 false) 75 w' hok
  have e72 : hasL (setL t 72 false) 72 = false := by rw [hasL_setL ht]; simp [flagL]
  have e75 : hasL (setL t 72 false) 75 = hasL t 75 := by rw [hasL_setL ht]; simp
  rw [e72] at g72
  rw [e75] at g75
  have hone := Lib.hid (setL t 72 false).one
  have hM := fun c w' => rmoved_any t (colL col) c w' ht (colL_bd col)
  have hbf : byteL (pfL t) (colL col) c = if hasL t 70 = false then ([c], movedL (hasL t 42) (colL col) c)
    else if c = 13 then (if hasL t 74 = true ∧ colL col = 0 then ([], 0) else if hasL t 73 = false then ([13], 0) else if hasL t 75 = true then ([10], 0) else ([10], colL col))
    else if c = 10 then (if hasL t 72 = true then ([13, 10], 0) else if hasL t 75 = true then ([10], 0) else ([10], colL col))
    else if 97 ≤ c ∧ c ≤ 122 ∧ hasL t 71 = true then ([c - 32], movedL (hasL t 42) (colL col) (c - 32)) else ([c], movedL (hasL t 42) (colL col) c) := rfl
  have hcl := fun w' => column_any col w'
  obtain ⟨z, hz0⟩ : ∃ z, byteL (pfL t) (colL col) c = z := ⟨_, rfl⟩; rw [hz0]; have HZ := Lib.hid (hz0.symm.trans hbf); clear hz0 hbf
  clear e72 e75 hok
  generalize colL col = k at *
  generalize hasL t 70 = u0 at *
  generalize hasL t 71 = u1 at *
  generalize hasL t 72 = u2 at *
  generalize hasL t 73 = u3 at *
  generalize hasL t 74 = u4 at *
  generalize hasL t 75 = u5 at *
  generalize hasL t 42 = u at *
  generalize (setL t 72 false).arr = ct at *
  generalize t.arr = cs at *
  clear ht
  have hi : (Try.prog.info? 26).map (·.size) = some cs.size := by rw [hn]; kernel_rfl
  have hj : (Try.prog.info? 26).map (·.size) = some ct.size := by rw [hn']; kernel_rfl
  have hsz := Lib.hid (hn.trans hn'.symm)
  have hT := Lib.hid (Blk.new w 26 cs)
  have HM := Lib.hid hM
  clear hM hn hn'
  cases u0
  · replace HZ := Lib.hid (HZ.out.trans (if_pos rfl))
    go_enter Try.func9, Try.ntmps9
    go_wp2_with (first | ((go_at_call 18; (with_reducible refine (hcl _).mono ?_); rintro e w1 ⟨rfl, rfl⟩)) | (refine wpList_load_row rfl 26 _ rfl _ rfl 26 _ _ _ (Blk.ext hT.out (by repeat (first | with_reducible exact Ext.refl _ | refine Ext.drewN ?_ _ | refine Ext.drew ?_ | refine Ext.alloc ?_ _ | assumption | (refine Below.trans ?_ (by assumption)) | (refine Ext.trans ?_ (by assumption)) | (refine Below.trans ?_ (Below.mono (by assumption) (by omega)))))) Try.underlying26 rfl hi ?_))
    refine (h70 _).mono ?_
    rintro e w2 ⟨rfl, E2⟩
    go_wp2_with ((refine wpList_load_row rfl 26 _ rfl _ rfl 26 _ _ _ (Blk.ext hT.out (by repeat (first | with_reducible exact Ext.refl _ | refine Ext.drewN ?_ _ | refine Ext.drew ?_ | refine Ext.alloc ?_ _ | assumption | (refine Below.trans ?_ (by assumption)) | (refine Ext.trans ?_ (by assumption)) | (refine Below.trans ?_ (Below.mono (by assumption) (by omega)))))) Try.underlying26 rfl hi ?_))
    with_reducible refine (HM.out c _).mono ?_
    rintro e w8 ⟨rfl, E8⟩
    go_wp2
    rw [HZ.out]
    refine bodyPost_ret (by simp [results, Try.results9, go_sem]; rfl) rfl ?_
    exact ⟨_, 1, 1, rfl, rfl, RdN.ext (RI.lit .u8 [c] _ rfl (by simp)) E8, (by repeat (first | with_reducible exact Ext.refl _ | refine Ext.drewN ?_ _ | refine Ext.drew ?_ | refine Ext.alloc ?_ _ | assumption | (refine Below.trans ?_ (by assumption)) | (refine Ext.trans ?_ (by assumption)) | (refine Below.trans ?_ (Below.mono (by assumption) (by omega)))))⟩
  · replace HZ := Lib.hid (HZ.out.trans (if_neg (by decide)))
    by_cases h13 : c = 13
    · subst h13
      replace HZ := Lib.hid (HZ.out.trans (if_pos rfl))
      go_enter Try.func9, Try.ntmps9
      go_wp2_with (first | ((go_at_call 18; (with_reducible refine (hcl _).mono ?_); rintro e w1 ⟨rfl, rfl⟩)) | (refine wpList_load_row rfl 26 _ rfl _ rfl 26 _ _ _ (Blk.ext hT.out (by repeat (first | with_reducible exact Ext.refl _ | refine Ext.drewN ?_ _ | refine Ext.drew ?_ | refine Ext.alloc ?_ _ | assumption | (refine Below.trans ?_ (by assumption)) | (refine Ext.trans ?_ (by assumption)) | (refine Below.trans ?_ (Below.mono (by assumption) (by omega)))))) Try.underlying26 rfl hi ?_))
      refine (h70 _).mono ?_
      rintro e w2 ⟨rfl, E2⟩
      go_wp2_with ((refine wpList_load_row rfl 26 _ rfl _ rfl 26 _ _ _ (Blk.ext hT.out (by repeat (first | with_reducible exact Ext.refl _ | refine Ext.drewN ?_ _ | refine Ext.drew ?_ | refine Ext.alloc ?_ _ | assumption | (refine Below.trans ?_ (by assumption)) | (refine Ext.trans ?_ (by assumption)) | (refine Below.trans ?_ (Below.mono (by assumption) (by omega)))))) Try.underlying26 rfl hi ?_))
      refine (h74 _).mono ?_
      rintro e w3 ⟨rfl, E3⟩
      by_cases hq : u4 = true ∧ k = 0
      · obtain ⟨rfl, rfl⟩ := hq
        replace HZ := Lib.hid (HZ.out.trans (if_pos ⟨rfl, rfl⟩))
        go_wp2
        refine bodyPost_ret (v := .tuple #[.slice none 0 0, .int .i64 0]) (by simp [results, Try.results9, go_sem]) rfl ?_
        rw [HZ.out]
        exact ⟨none, 0, 0, rfl, rfl, RdN.nil _ _, (by repeat (first | with_reducible exact Ext.refl _ | refine Ext.drewN ?_ _ | refine Ext.drew ?_ | refine Ext.alloc ?_ _ | assumption | (refine Below.trans ?_ (by assumption)) | (refine Ext.trans ?_ (by assumption)) | (refine Below.trans ?_ (Below.mono (by assumption) (by omega)))))⟩
      · replace HZ := Lib.hid (HZ.out.trans (if_neg hq))
        by_cases hq4 : u4 = true
        · subst hq4
          have hk0 : (k == 0) = false := by
            rw [beq_eq_false_iff_ne]; intro h; exact hq ⟨rfl, h⟩
          clear hq
          go_wp2_with ((refine wpList_load_row rfl 26 _ rfl _ rfl 26 _ _ _ (Blk.ext hT.out (by repeat (first | with_reducible exact Ext.refl _ | refine Ext.drewN ?_ _ | refine Ext.drew ?_ | refine Ext.alloc ?_ _ | assumption | (refine Below.trans ?_ (by assumption)) | (refine Ext.trans ?_ (by assumption)) | (refine Below.trans ?_ (Below.mono (by assumption) (by omega)))))) Try.underlying26 rfl hi ?_))
          refine (h73 _).mono ?_
          rintro e w4 ⟨rfl, E4⟩
          cases u3
          · replace HZ := Lib.hid (HZ.out.trans (if_pos rfl))
            go_wp2
            rw [HZ.out]
            refine bodyPost_ret (by simp [results, Try.results9, go_sem]; rfl) rfl ?_
            exact ⟨_, _, _, rfl, rfl, RI.lit .u8 [13] _ rfl (by simp), (by repeat (first | with_reducible exact Ext.refl _ | refine Ext.drewN ?_ _ | refine Ext.drew ?_ | refine Ext.alloc ?_ _ | assumption | (refine Below.trans ?_ (by assumption)) | (refine Ext.trans ?_ (by assumption)) | (refine Below.trans ?_ (Below.mono (by assumption) (by omega)))))⟩
          · replace HZ := Lib.hid (HZ.out.trans (if_neg (by decide)))
            go_wp2_with ((refine wpList_load_row rfl 26 _ rfl _ rfl 26 _ _ _ (Blk.ext hT.out (by repeat (first | with_reducible exact Ext.refl _ | refine Ext.drewN ?_ _ | refine Ext.drew ?_ | refine Ext.alloc ?_ _ | assumption | (refine Below.trans ?_ (by assumption)) | (refine Ext.trans ?_ (by assumption)) | (refine Below.trans ?_ (Below.mono (by assumption) (by omega)))))) Try.underlying26 rfl hi ?_))
            refine (hS _).mono ?_
            rintro e w5 ⟨rfl, E5⟩
            have T5 := Lib.hid (Blk.ext hT.out (show Ext (w.alloc (.cells cs 26)) w5 from (by repeat (first | with_reducible exact Ext.refl _ | refine Ext.drewN ?_ _ | refine Ext.drew ?_ | refine Ext.alloc ?_ _ | assumption | (refine Below.trans ?_ (by assumption)) | (refine Ext.trans ?_ (by assumption)) | (refine Below.trans ?_ (Below.mono (by assumption) (by omega)))))))
            have E05 : Ext w w5 := (by repeat (first | with_reducible exact Ext.refl _ | refine Ext.drewN ?_ _ | refine Ext.drew ?_ | refine Ext.alloc ?_ _ | assumption | (refine Below.trans ?_ (by assumption)) | (refine Ext.trans ?_ (by assumption)) | (refine Below.trans ?_ (Below.mono (by assumption) (by omega)))))
            clear E2 E3 E4 E5
            go_wp2_with (first | (refine wpList_store_A rfl 26 _ _ rfl w.heap.size _ rfl rfl 26 _ T5.out hj hsz.out hone.out ?_; intro w6 H6 E6; have E6 := E6 w.heap.size w E05 (Nat.le_refl _); have H6 := Lib.hid H6) | (refine wpList_load_row rfl 26 _ rfl _ rfl 26 _ _ _ H6.out Try.underlying26 rfl hj ?_))
            refine (g72 _).mono ?_
            rintro e w7 ⟨rfl, E7⟩
            go_wp2_with ((refine wpList_load_row rfl 26 _ rfl _ rfl 26 _ _ _ (Blk.ext H6.out (by repeat (first | with_reducible exact Ext.refl _ | refine Ext.drewN ?_ _ | refine Ext.drew ?_ | refine Ext.alloc ?_ _ | assumption | (refine Below.trans ?_ (by assumption)) | (refine Ext.trans ?_ (by assumption)) | (refine Below.trans ?_ (Below.mono (by assumption) (by omega)))))) Try.underlying26 rfl hj ?_))
            refine (g75 _).mono ?_
            rintro e w8 ⟨rfl, E8⟩
            cases u5
            · replace HZ := Lib.hid (HZ.out.trans (if_neg (by decide)))
              go_wp2
              rw [HZ.out]
              refine bodyPost_ret (by simp [results, Try.results9, go_sem]; rfl) rfl ?_
              exact ⟨_, _, _, rfl, rfl, RI.lit .u8 [10] _ rfl (by simp), (by repeat (first | with_reducible exact Ext.refl _ | refine Ext.drewN ?_ _ | refine Ext.drew ?_ | refine Ext.alloc ?_ _ | assumption | (refine Below.trans ?_ (by assumption)) | (refine Ext.trans ?_ (by assumption)) | (refine Below.trans ?_ (Below.mono (by assumption) (by omega)))))⟩
            · replace HZ := Lib.hid (HZ.out.trans (if_pos rfl))
              go_wp2
              rw [HZ.out]
              refine bodyPost_ret (by simp [results, Try.results9, go_sem]; rfl) rfl ?_
              exact ⟨_, _, _, rfl, rfl, RI.lit .u8 [10] _ rfl (by simp), (by repeat (first | with_reducible exact Ext.refl _ | refine Ext.drewN ?_ _ | refine Ext.drew ?_ | refine Ext.alloc ?_ _ | assumption | (refine Below.trans ?_ (by assumption)) | (refine Ext.trans ?_ (by assumption)) | (refine Below.trans ?_ (Below.mono (by assumption) (by omega)))))⟩
        · obtain rfl : u4 = false := by simpa using hq4
          clear hq hq4
          go_wp2_with ((refine wpList_load_row rfl 26 _ rfl _ rfl 26 _ _ _ (Blk.ext hT.out (by repeat (first | with_reducible exact Ext.refl _ | refine Ext.drewN ?_ _ | refine Ext.drew ?_ | refine Ext.alloc ?_ _ | assumption | (refine Below.trans ?_ (by assumption)) | (refine Ext.trans ?_ (by assumption)) | (refine Below.trans ?_ (Below.mono (by assumption) (by omega)))))) Try.underlying26 rfl hi ?_))
          refine (h73 _).mono ?_
          rintro e w4 ⟨rfl, E4⟩
          cases u3
          · replace HZ := Lib.hid (HZ.out.trans (if_pos rfl))
            go_wp2
            rw [HZ.out]
            refine bodyPost_ret (by simp [results, Try.results9, go_sem]; rfl) rfl ?_
            exact ⟨_, _, _, rfl, rfl, RI.lit .u8 [13] _ rfl (by simp), (by repeat (first | with_reducible exact Ext.refl _ | refine Ext.drewN ?_ _ | refine Ext.drew ?_ | refine Ext.alloc ?_ _ | assumption | (refine Below.trans ?_ (by assumption)) | (refine Ext.trans ?_ (by assumption)) | (refine Below.trans ?_ (Below.mono (by assumption) (by omega)))))⟩
          · replace HZ := Lib.hid (HZ.out.trans (if_neg (by decide)))
            go_wp2_with ((refine wpList_load_row rfl 26 _ rfl _ rfl 26 _ _ _ (Blk.ext hT.out (by repeat (first | with_reducible exact Ext.refl _ | refine Ext.drewN ?_ _ | refine Ext.drew ?_ | refine Ext.alloc ?_ _ | assumption | (refine Below.trans ?_ (by assumption)) | (refine Ext.trans ?_ (by assumption)) | (refine Below.trans ?_ (Below.mono (by assumption) (by omega)))))) Try.underlying26 rfl hi ?_))
            refine (hS _).mono ?_
            rintro e w5 ⟨rfl, E5⟩
            have T5 := Lib.hid (Blk.ext hT.out (show Ext (w.alloc (.cells cs 26)) w5 from (by repeat (first | with_reducible exact Ext.refl _ | refine Ext.drewN ?_ _ | refine Ext.drew ?_ | refine Ext.alloc ?_ _ | assumption | (refine Below.trans ?_ (by assumption)) | (refine Ext.trans ?_ (by assumption)) | (refine Below.trans ?_ (Below.mono (by assumption) (by omega)))))))
            have E05 : Ext w w5 := (by repeat (first | with_reducible exact Ext.refl _ | refine Ext.drewN ?_ _ | refine Ext.drew ?_ | refine Ext.alloc ?_ _ | assumption | (refine Below.trans ?_ (by assumption)) | (refine Ext.trans ?_ (by assumption)) | (refine Below.trans ?_ (Below.mono (by assumption) (by omega)))))
            clear E2 E3 E4 E5
            go_wp2_with (first | (refine wpList_store_A rfl 26 _ _ rfl w.heap.size _ rfl rfl 26 _ T5.out hj hsz.out hone.out ?_; intro w6 H6 E6; have E6 := E6 w.heap.size w E05 (Nat.le_refl _); have H6 := Lib.hid H6) | (refine wpList_load_row rfl 26 _ rfl _ rfl 26 _ _ _ H6.out Try.underlying26 rfl hj ?_))
            refine (g72 _).mono ?_
            rintro e w7 ⟨rfl, E7⟩
            go_wp2_with ((refine wpList_load_row rfl 26 _ rfl _ rfl 26 _ _ _ (Blk.ext H6.out (by repeat (first | with_reducible exact Ext.refl _ | refine Ext.drewN ?_ _ | refine Ext.drew ?_ | refine Ext.alloc ?_ _ | assumption | (refine Below.trans ?_ (by assumption)) | (refine Ext.trans ?_ (by assumption)) | (refine Below.trans ?_ (Below.mono (by assumption) (by omega)))))) Try.underlying26 rfl hj ?_))
            refine (g75 _).mono ?_
            rintro e w8 ⟨rfl, E8⟩
            cases u5
            · replace HZ := Lib.hid (HZ.out.trans (if_neg (by decide)))
              go_wp2
              rw [HZ.out]
              refine bodyPost_ret (by simp [results, Try.results9, go_sem]; rfl) rfl ?_
              exact ⟨_, _, _, rfl, rfl, RI.lit .u8 [10] _ rfl (by simp), (by repeat (first | with_reducible exact Ext.refl _ | refine Ext.drewN ?_ _ | refine Ext.drew ?_ | refine Ext.alloc ?_ _ | assumption | (refine Below.trans ?_ (by assumption)) | (refine Ext.trans ?_ (by assumption)) | (refine Below.trans ?_ (Below.mono (by assumption) (by omega)))))⟩
            · replace HZ := Lib.hid (HZ.out.trans (if_pos rfl))
              go_wp2
              rw [HZ.out]
              refine bodyPost_ret (by simp [results, Try.results9, go_sem]; rfl) rfl ?_
              exact ⟨_, _, _, rfl, rfl, RI.lit .u8 [10] _ rfl (by simp), (by repeat (first | with_reducible exact Ext.refl _ | refine Ext.drewN ?_ _ | refine Ext.drew ?_ | refine Ext.alloc ?_ _ | assumption | (refine Below.trans ?_ (by assumption)) | (refine Ext.trans ?_ (by assumption)) | (refine Below.trans ?_ (Below.mono (by assumption) (by omega)))))⟩
    · have i13 : (c == 13) = false := by simpa using h13
      replace HZ := Lib.hid (HZ.out.trans (if_neg h13))
      by_cases h10 : c = 10
      · subst h10
        replace HZ := Lib.hid (HZ.out.trans (if_pos rfl))
        clear i13 h13
        go_enter Try.func9, Try.ntmps9
        go_wp2_with (first | ((go_at_call 18; (with_reducible refine (hcl _).mono ?_); rintro e w1 ⟨rfl, rfl⟩)) | (refine wpList_load_row rfl 26 _ rfl _ rfl 26 _ _ _ (Blk.ext hT.out (by repeat (first | with_reducible exact Ext.refl _ | refine Ext.drewN ?_ _ | refine Ext.drew ?_ | refine Ext.alloc ?_ _ | assumption | (refine Below.trans ?_ (by assumption)) | (refine Ext.trans ?_ (by assumption)) | (refine Below.trans ?_ (Below.mono (by assumption) (by omega)))))) Try.underlying26 rfl hi ?_))
        refine (h70 _).mono ?_
        rintro e w2 ⟨rfl, E2⟩
        go_wp2_with ((refine wpList_load_row rfl 26 _ rfl _ rfl 26 _ _ _ (Blk.ext hT.out (by repeat (first | with_reducible exact Ext.refl _ | refine Ext.drewN ?_ _ | refine Ext.drew ?_ | refine Ext.alloc ?_ _ | assumption | (refine Below.trans ?_ (by assumption)) | (refine Ext.trans ?_ (by assumption)) | (refine Below.trans ?_ (Below.mono (by assumption) (by omega)))))) Try.underlying26 rfl hi ?_))
        refine (h72 _).mono ?_
        rintro e w3 ⟨rfl, E3⟩
        cases u2
        · replace HZ := Lib.hid (HZ.out.trans (if_neg (by decide)))
          go_wp2_with ((refine wpList_load_row rfl 26 _ rfl _ rfl 26 _ _ _ (Blk.ext hT.out (by repeat (first | with_reducible exact Ext.refl _ | refine Ext.drewN ?_ _ | refine Ext.drew ?_ | refine Ext.alloc ?_ _ | assumption | (refine Below.trans ?_ (by assumption)) | (refine Ext.trans ?_ (by assumption)) | (refine Below.trans ?_ (Below.mono (by assumption) (by omega)))))) Try.underlying26 rfl hi ?_))
          refine (h75 _).mono ?_
          rintro e w4 ⟨rfl, E4⟩
          cases u5
          · replace HZ := Lib.hid (HZ.out.trans (if_neg (by decide)))
            go_wp2
            rw [HZ.out]
            refine bodyPost_ret (by simp [results, Try.results9, go_sem]; rfl) rfl ?_
            exact ⟨_, _, _, rfl, rfl, RI.lit .u8 [10] _ rfl (by simp), (by repeat (first | with_reducible exact Ext.refl _ | refine Ext.drewN ?_ _ | refine Ext.drew ?_ | refine Ext.alloc ?_ _ | assumption | (refine Below.trans ?_ (by assumption)) | (refine Ext.trans ?_ (by assumption)) | (refine Below.trans ?_ (Below.mono (by assumption) (by omega)))))⟩
          · replace HZ := Lib.hid (HZ.out.trans (if_pos rfl))
            go_wp2
            rw [HZ.out]
            refine bodyPost_ret (by simp [results, Try.results9, go_sem]; rfl) rfl ?_
            exact ⟨_, _, _, rfl, rfl, RI.lit .u8 [10] _ rfl (by simp), (by repeat (first | with_reducible exact Ext.refl _ | refine Ext.drewN ?_ _ | refine Ext.drew ?_ | refine Ext.alloc ?_ _ | assumption | (refine Below.trans ?_ (by assumption)) | (refine Ext.trans ?_ (by assumption)) | (refine Below.trans ?_ (Below.mono (by assumption) (by omega)))))⟩
        · replace HZ := Lib.hid (HZ.out.trans (if_pos rfl))
          go_wp2
          rw [HZ.out]
          refine bodyPost_ret (by simp [results, Try.results9, go_sem]; rfl) rfl ?_
          exact ⟨_, _, _, rfl, rfl, RI.lit .u8 [13, 10] _ rfl (by simp), (by repeat (first | with_reducible exact Ext.refl _ | refine Ext.drewN ?_ _ | refine Ext.drew ?_ | refine Ext.alloc ?_ _ | assumption | (refine Below.trans ?_ (by assumption)) | (refine Ext.trans ?_ (by assumption)) | (refine Below.trans ?_ (Below.mono (by assumption) (by omega)))))⟩
      · have i10 : (c == 10) = false := by simpa using h10
        replace HZ := Lib.hid (HZ.out.trans (if_neg h10))
        clear h13 h10
        by_cases l1 : 97 ≤ c
        · by_cases l2 : c ≤ 122
          · have hw1 : IntKind.u8.wrap (IntKind.u8.wrap (c - 97) + 65) = c - 32 := by
              simp only [IntKind.wrap, IntKind.bits, IntKind.signed]
              simp
              omega
            go_enter Try.func9, Try.ntmps9
            go_wp2_with (first | ((go_at_call 18; (with_reducible refine (hcl _).mono ?_); rintro e w1 ⟨rfl, rfl⟩)) | (refine wpList_load_row rfl 26 _ rfl _ rfl 26 _ _ _ (Blk.ext hT.out (by repeat (first | with_reducible exact Ext.refl _ | refine Ext.drewN ?_ _ | refine Ext.drew ?_ | refine Ext.alloc ?_ _ | assumption | (refine Below.trans ?_ (by assumption)) | (refine Ext.trans ?_ (by assumption)) | (refine Below.trans ?_ (Below.mono (by assumption) (by omega)))))) Try.underlying26 rfl hi ?_))
            refine (h70 _).mono ?_
            rintro e w2 ⟨rfl, E2⟩
            go_wp2_with (first | (refine wpList_openG rfl rfl ?_; (refine wpList_load_row rfl 26 _ rfl _ rfl 26 _ _ _ (Blk.ext hT.out (by repeat (first | with_reducible exact Ext.refl _ | refine Ext.drewN ?_ _ | refine Ext.drew ?_ | refine Ext.alloc ?_ _ | assumption | (refine Below.trans ?_ (by assumption)) | (refine Ext.trans ?_ (by assumption)) | (refine Below.trans ?_ (Below.mono (by assumption) (by omega)))))) Try.underlying26 rfl hi ?_)))
            refine (h71 _).mono ?_
            rintro e w3 ⟨rfl, E3⟩
            cases u1
            · replace HZ := Lib.hid (HZ.out.trans (if_neg (fun h => by cases h.2.2)))
              go_wp2_with ((refine wpList_load_row rfl 26 _ rfl _ rfl 26 _ _ _ (Blk.ext hT.out (by repeat (first | with_reducible exact Ext.refl _ | refine Ext.drewN ?_ _ | refine Ext.drew ?_ | refine Ext.alloc ?_ _ | assumption | (refine Below.trans ?_ (by assumption)) | (refine Ext.trans ?_ (by assumption)) | (refine Below.trans ?_ (Below.mono (by assumption) (by omega)))))) Try.underlying26 rfl hi ?_))
              with_reducible refine (HM.out c _).mono ?_
              rintro e w8 ⟨rfl, E8⟩
              go_wp2
              rw [HZ.out]
              refine bodyPost_ret (by simp [results, Try.results9, go_sem]; rfl) rfl ?_
              exact ⟨_, 1, 1, rfl, rfl, RdN.ext (RI.lit .u8 [c] _ rfl (by simp)) E8, (by repeat (first | with_reducible exact Ext.refl _ | refine Ext.drewN ?_ _ | refine Ext.drew ?_ | refine Ext.alloc ?_ _ | assumption | (refine Below.trans ?_ (by assumption)) | (refine Ext.trans ?_ (by assumption)) | (refine Below.trans ?_ (Below.mono (by assumption) (by omega)))))⟩
            · replace HZ := Lib.hid (HZ.out.trans (if_pos ⟨l1, l2, rfl⟩))
              replace HZ : Hid (z = ([c - 97 + 65], movedL u k (c - 97 + 65))) := by rw [show c - 97 + 65 = c - 32 by omega]; exact HZ
              go_wp2_with ((refine wpList_load_row rfl 26 _ rfl _ rfl 26 _ _ _ (Blk.ext hT.out (by repeat (first | with_reducible exact Ext.refl _ | refine Ext.drewN ?_ _ | refine Ext.drew ?_ | refine Ext.alloc ?_ _ | assumption | (refine Below.trans ?_ (by assumption)) | (refine Ext.trans ?_ (by assumption)) | (refine Below.trans ?_ (Below.mono (by assumption) (by omega)))))) Try.underlying26 rfl hi ?_))
              with_reducible refine (HM.out (c - 97 + 65) _).mono ?_
              rintro e w8 ⟨rfl, E8⟩
              go_wp2
              rw [HZ.out]
              refine bodyPost_ret (by simp [results, Try.results9, go_sem]; rfl) rfl ?_
              exact ⟨_, 1, 1, rfl, rfl, RdN.ext (RI.lit .u8 [(c - 97 + 65)] _ rfl (by simp)) E8, (by repeat (first | with_reducible exact Ext.refl _ | refine Ext.drewN ?_ _ | refine Ext.drew ?_ | refine Ext.alloc ?_ _ | assumption | (refine Below.trans ?_ (by assumption)) | (refine Ext.trans ?_ (by assumption)) | (refine Below.trans ?_ (Below.mono (by assumption) (by omega)))))⟩
          · replace HZ := Lib.hid (HZ.out.trans (if_neg (fun h => l2 h.2.1)))
            go_enter Try.func9, Try.ntmps9
            go_wp2_with (first | ((go_at_call 18; (with_reducible refine (hcl _).mono ?_); rintro e w1 ⟨rfl, rfl⟩)) | (refine wpList_load_row rfl 26 _ rfl _ rfl 26 _ _ _ (Blk.ext hT.out (by repeat (first | with_reducible exact Ext.refl _ | refine Ext.drewN ?_ _ | refine Ext.drew ?_ | refine Ext.alloc ?_ _ | assumption | (refine Below.trans ?_ (by assumption)) | (refine Ext.trans ?_ (by assumption)) | (refine Below.trans ?_ (Below.mono (by assumption) (by omega)))))) Try.underlying26 rfl hi ?_))
            refine (h70 _).mono ?_
            rintro e w2 ⟨rfl, E2⟩
            go_wp2_with ((refine wpList_load_row rfl 26 _ rfl _ rfl 26 _ _ _ (Blk.ext hT.out (by repeat (first | with_reducible exact Ext.refl _ | refine Ext.drewN ?_ _ | refine Ext.drew ?_ | refine Ext.alloc ?_ _ | assumption | (refine Below.trans ?_ (by assumption)) | (refine Ext.trans ?_ (by assumption)) | (refine Below.trans ?_ (Below.mono (by assumption) (by omega)))))) Try.underlying26 rfl hi ?_))
            with_reducible refine (HM.out c _).mono ?_
            rintro e w8 ⟨rfl, E8⟩
            go_wp2
            rw [HZ.out]
            refine bodyPost_ret (by simp [results, Try.results9, go_sem]; rfl) rfl ?_
            exact ⟨_, 1, 1, rfl, rfl, RdN.ext (RI.lit .u8 [c] _ rfl (by simp)) E8, (by repeat (first | with_reducible exact Ext.refl _ | refine Ext.drewN ?_ _ | refine Ext.drew ?_ | refine Ext.alloc ?_ _ | assumption | (refine Below.trans ?_ (by assumption)) | (refine Ext.trans ?_ (by assumption)) | (refine Below.trans ?_ (Below.mono (by assumption) (by omega)))))⟩
        · replace HZ := Lib.hid (HZ.out.trans (if_neg (fun h => l1 h.1)))
          go_enter Try.func9, Try.ntmps9
          go_wp2_with (first | ((go_at_call 18; (with_reducible refine (hcl _).mono ?_); rintro e w1 ⟨rfl, rfl⟩)) | (refine wpList_load_row rfl 26 _ rfl _ rfl 26 _ _ _ (Blk.ext hT.out (by repeat (first | with_reducible exact Ext.refl _ | refine Ext.drewN ?_ _ | refine Ext.drew ?_ | refine Ext.alloc ?_ _ | assumption | (refine Below.trans ?_ (by assumption)) | (refine Ext.trans ?_ (by assumption)) | (refine Below.trans ?_ (Below.mono (by assumption) (by omega)))))) Try.underlying26 rfl hi ?_))
          refine (h70 _).mono ?_
          rintro e w2 ⟨rfl, E2⟩
          go_wp2_with ((refine wpList_load_row rfl 26 _ rfl _ rfl 26 _ _ _ (Blk.ext hT.out (by repeat (first | with_reducible exact Ext.refl _ | refine Ext.drewN ?_ _ | refine Ext.drew ?_ | refine Ext.alloc ?_ _ | assumption | (refine Below.trans ?_ (by assumption)) | (refine Ext.trans ?_ (by assumption)) | (refine Below.trans ?_ (Below.mono (by assumption) (by omega)))))) Try.underlying26 rfl hi ?_))
          with_reducible refine (HM.out c _).mono ?_
          rintro e w8 ⟨rfl, E8⟩
          go_wp2
          rw [HZ.out]
          refine bodyPost_ret (by simp [results, Try.results9, go_sem]; rfl) rfl ?_
          exact ⟨_, 1, 1, rfl, rfl, RdN.ext (RI.lit .u8 [c] _ rfl (by simp)) E8, (by repeat (first | with_reducible exact Ext.refl _ | refine Ext.drewN ?_ _ | refine Ext.drew ?_ | refine Ext.alloc ?_ _ | assumption | (refine Below.trans ?_ (by assumption)) | (refine Ext.trans ?_ (by assumption)) | (refine Below.trans ?_ (Below.mono (by assumption) (by omega)))))⟩
end Go.Proofs.Ytafkjjfempmidaa
