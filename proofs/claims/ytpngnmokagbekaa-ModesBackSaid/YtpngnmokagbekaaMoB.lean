/- A terminal's characters and flags, looked at, by contract. Conditions: the setting is one. -/
import Derived.Test.YtpngnmokagbekaaMoA
namespace Go.Proofs.Ytpngnmokagbekaa
open Go.RowKit Go.Kb

theorem char_any (t : Tm) (op : Int) (w : World) (h : t.Ok) : Calls Try.prog 13 #[.agg t.arr, .int .i64 op] w fun e w' => e = .returned (.tuple #[.int .u8 (charL t op).1, .bool (charL t op).2]) ∧ Ext w w' := by
  have hn := t.size h
  have hat : ∀ k : Nat, k < 19 → t.arr[k]? = some (.int .u8 (t.c.getD k 0)) := fun k hk => t.at_ h hk
  generalize t.arr = cs at hn hat ⊢
  clear h
  by_cases hop : 1 ≤ op ∧ op ≤ 18
  · obtain ⟨h1, h2⟩ := hop
    obtain ⟨k, rfl⟩ := Int.eq_ofNat_of_zero_le (show 0 ≤ op by omega)
    have hc := hat k (by omega)
    have hb : (w.alloc (.cells cs 27)).cell? ⟨w.heap.size, k, none⟩ = some (.int .u8 (t.c.getD k 0)) := by rw [(Blk.new w 27 cs).cell, hc]
    by_cases hx : t.c.getD k 0 = 255
    · have hL : charL t k = (0, false) := if_neg fun h => h.2.2 hx
      rw [hL]
      rw [hx] at hb
      clear hL hat hc hx
      go_enter Try.func13, Try.ntmps13
      go_wp2
      refine bodyPost_ret (v := .tuple #[.int .u8 0, .bool false]) (by simp [results, Try.results13, go_sem]) rfl ?_
      exact ⟨rfl, (by repeat (first | with_reducible exact Ext.refl _ | refine Ext.drewN ?_ _ | refine Ext.drew ?_ | refine Ext.alloc ?_ _ | assumption | (refine Below.trans ?_ (by assumption)) | (refine Ext.trans ?_ (by assumption)) | (refine Below.trans ?_ (Below.mono (by assumption) (by omega)))))⟩
    · have hL : charL t k = (t.c.getD k 0, true) := if_pos ⟨h1, h2, hx⟩
      rw [hL]
      generalize t.c.getD k 0 = x at hb hx ⊢
      have hx' : (x == 255) = false := by simpa using hx
      clear hL hat hc hx
      go_enter Try.func13, Try.ntmps13
      go_wp2
      refine bodyPost_ret (v := .tuple #[.int .u8 x, .bool true]) (by simp [results, Try.results13, go_sem]) rfl ?_
      exact ⟨rfl, (by repeat (first | with_reducible exact Ext.refl _ | refine Ext.drewN ?_ _ | refine Ext.drew ?_ | refine Ext.alloc ?_ _ | assumption | (refine Below.trans ?_ (by assumption)) | (refine Ext.trans ?_ (by assumption)) | (refine Below.trans ?_ (Below.mono (by assumption) (by omega)))))⟩
  · have hL : charL t op = (0, false) := if_neg fun h => hop ⟨h.1, h.2.1⟩
    rw [hL]
    clear hat hL
    go_enter Try.func13, Try.ntmps13
    go_wp2
    all_goals refine bodyPost_ret (v := .tuple #[.int .u8 0, .bool false]) (by simp [results, Try.results13, go_sem]) rfl ?_
    all_goals exact ⟨rfl, (by repeat (first | with_reducible exact Ext.refl _ | refine Ext.drewN ?_ _ | refine Ext.drew ?_ | refine Ext.alloc ?_ _ | assumption | (refine Below.trans ?_ (by assumption)) | (refine Ext.trans ?_ (by assumption)) | (refine Below.trans ?_ (Below.mono (by assumption) (by omega)))))⟩
theorem rchar_any (t : Tm) (op : Int) (w : World) (h : t.Ok) : Calls Try.prog 14 #[.agg t.arr, .int .i64 op] w fun e w' => e = .returned (.tuple #[.int .u8 (charL t op).1, .bool (charL t op).2]) ∧ Ext w w' := by
  have hn := t.size h
  have hat : ∀ k : Nat, k < 19 → t.arr[k]? = some (.int .u8 (t.c.getD k 0)) := fun k hk => t.at_ h hk
  generalize t.arr = cs at hn hat ⊢
  clear h
  by_cases hop : 1 ≤ op ∧ op ≤ 18
  · obtain ⟨h1, h2⟩ := hop
    obtain ⟨k, rfl⟩ := Int.eq_ofNat_of_zero_le (show 0 ≤ op by omega)
    have hc := hat k (by omega)
    have hb : (w.alloc (.cells cs 27)).cell? ⟨w.heap.size, k, none⟩ = some (.int .u8 (t.c.getD k 0)) := by rw [(Blk.new w 27 cs).cell, hc]
    by_cases hx : t.c.getD k 0 = 255
    · have hL : charL t k = (0, false) := if_neg fun h => h.2.2 hx
      rw [hL]
      rw [hx] at hb
      clear hL hat hc hx
      go_enter Try.func14, Try.ntmps14
      go_wp2
      refine bodyPost_ret (v := .tuple #[.int .u8 0, .bool false]) (by simp [results, Try.results14, go_sem]) rfl ?_
      exact ⟨rfl, (by repeat (first | with_reducible exact Ext.refl _ | refine Ext.drewN ?_ _ | refine Ext.drew ?_ | refine Ext.alloc ?_ _ | assumption | (refine Below.trans ?_ (by assumption)) | (refine Ext.trans ?_ (by assumption)) | (refine Below.trans ?_ (Below.mono (by assumption) (by omega)))))⟩
    · have hL : charL t k = (t.c.getD k 0, true) := if_pos ⟨h1, h2, hx⟩
      rw [hL]
      generalize t.c.getD k 0 = x at hb hx ⊢
      have hx' : (x == 255) = false := by simpa using hx
      clear hL hat hc hx
      go_enter Try.func14, Try.ntmps14
      go_wp2
      refine bodyPost_ret (v := .tuple #[.int .u8 x, .bool true]) (by simp [results, Try.results14, go_sem]) rfl ?_
      exact ⟨rfl, (by repeat (first | with_reducible exact Ext.refl _ | refine Ext.drewN ?_ _ | refine Ext.drew ?_ | refine Ext.alloc ?_ _ | assumption | (refine Below.trans ?_ (by assumption)) | (refine Ext.trans ?_ (by assumption)) | (refine Below.trans ?_ (Below.mono (by assumption) (by omega)))))⟩
  · have hL : charL t op = (0, false) := if_neg fun h => hop ⟨h.1, h.2.1⟩
    rw [hL]
    clear hat hL
    go_enter Try.func14, Try.ntmps14
    go_wp2
    all_goals refine bodyPost_ret (v := .tuple #[.int .u8 0, .bool false]) (by simp [results, Try.results14, go_sem]) rfl ?_
    all_goals exact ⟨rfl, (by repeat (first | with_reducible exact Ext.refl _ | refine Ext.drewN ?_ _ | refine Ext.drew ?_ | refine Ext.alloc ?_ _ | assumption | (refine Below.trans ?_ (by assumption)) | (refine Ext.trans ?_ (by assumption)) | (refine Below.trans ?_ (Below.mono (by assumption) (by omega)))))⟩
def isL (t : Tm) (op c : Int) : Bool := (charL t op).2 && (c == (charL t op).1)
theorem isL_eq (t : Tm) (op c : Int) : isL t op c = ((charL t op).2 && (c == (charL t op).1)) := rfl
theorem is_any (t : Tm) (op c : Int) (w : World) (h : t.Ok) : Calls Try.prog 19 #[.agg t.arr, .int .i64 op, .int .u8 c] w fun e w' => e = .returned (.bool (isL t op c)) ∧ Ext w w' := by
  have hn := t.size h
  have hc := char_any t op
  have H := Lib.hid h
  have hI := isL_eq t op c
  generalize t.arr = cs at hn hc ⊢
  clear h
  have hl := Blk.new w 27 cs
  have hi : (Try.prog.info? 27).map (·.size) = some cs.size := by rw [hn]; kernel_rfl
  go_enter Try.func19, Try.ntmps19
  go_wp2_with (first
    | (refine wpList_load_row rfl 27 _ rfl _ rfl 27 cs _ _ hl Try.underlying27 rfl hi ?_)
    | (go_at_call 13; refine (hc _ H.out).mono ?_; rintro e w1 ⟨rfl, E1⟩))
  all_goals go_ret
  all_goals refine ⟨?_, (by repeat (first | with_reducible exact Ext.refl _ | refine Ext.drewN ?_ _ | refine Ext.drew ?_ | refine Ext.alloc ?_ _ | assumption | (refine Below.trans ?_ (by assumption)) | (refine Ext.trans ?_ (by assumption)) | (refine Below.trans ?_ (Below.mono (by assumption) (by omega)))))⟩
  all_goals rw [hI]
  all_goals show Ending.returned (Value.bool _) = _
  all_goals congr 2
  all_goals
    clear hc hI
    generalize (charL t op).1 = x at *
    generalize (charL t op).2 = b at *
    by_cases hq : c = x
    · subst hq
      simp_all
    · have hq2 : ¬ x = c := fun e => hq e.symm
      have hq3 : (c == x) = false := by simpa using hq
      have hq4 : (x == c) = false := by simpa using hq2
      clear hi
      cases b <;> first | (rw [hq3]; simp_all; done) | (rw [hq3, hq4]; simp_all; done) | simp_all
theorem ris_any (t : Tm) (op c : Int) (w : World) (h : t.Ok) : Calls Try.prog 20 #[.agg t.arr, .int .i64 op, .int .u8 c] w fun e w' => e = .returned (.bool (isL t op c)) ∧ Ext w w' := by
  have hn := t.size h
  have hc := rchar_any t op
  have H := Lib.hid h
  have hI := isL_eq t op c
  generalize t.arr = cs at hn hc ⊢
  clear h
  have hl := Blk.new w 27 cs
  have hi : (Try.prog.info? 27).map (·.size) = some cs.size := by rw [hn]; kernel_rfl
  go_enter Try.func20, Try.ntmps20
  go_wp2_with (first
    | (refine wpList_load_row rfl 27 _ rfl _ rfl 27 cs _ _ hl Try.underlying27 rfl hi ?_)
    | (go_at_call 14; refine (hc _ H.out).mono ?_; rintro e w1 ⟨rfl, E1⟩))
  all_goals go_ret
  all_goals refine ⟨?_, (by repeat (first | with_reducible exact Ext.refl _ | refine Ext.drewN ?_ _ | refine Ext.drew ?_ | refine Ext.alloc ?_ _ | assumption | (refine Below.trans ?_ (by assumption)) | (refine Ext.trans ?_ (by assumption)) | (refine Below.trans ?_ (Below.mono (by assumption) (by omega)))))⟩
  all_goals rw [hI]
  all_goals show Ending.returned (Value.bool _) = _
  all_goals congr 2
  all_goals
    clear hc hI
    generalize (charL t op).1 = x at *
    generalize (charL t op).2 = b at *
    by_cases hq : c = x
    · subst hq
      simp_all
    · have hq2 : ¬ x = c := fun e => hq e.symm
      have hq3 : (c == x) = false := by simpa using hq
      have hq4 : (x == c) = false := by simpa using hq2
      clear hi
      cases b <;> first | (rw [hq3]; simp_all; done) | (rw [hq3, hq4]; simp_all; done) | simp_all
end Go.Proofs.Ytpngnmokagbekaa
