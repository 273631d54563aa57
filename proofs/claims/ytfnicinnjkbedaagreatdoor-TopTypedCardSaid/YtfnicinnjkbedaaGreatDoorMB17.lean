/- A terminal's characters, looked at, by contract. Condition: the setting is one. -/
import Derived.Test.YtfnicinnjkbedaaGreatDoorMC17
namespace Go.Proofs.YtfnicinnjkbedaaGreatDoor
set_option maxRecDepth 100000
open Go.RowKit Go.Kb

theorem char_any (t : Tm) (op : Int) (w : World) (h : t.Ok) : Calls Tryz.prog 7 #[.agg t.arr, .int .i64 op] w fun e w' => e = .returned (.tuple #[.int .u8 (charL t op).1, .bool (charL t op).2]) ∧ Ext w w' := by
  have hn := t.size h
  have hat : ∀ k : Nat, k < 19 → t.arr[k]? = some (.int .u8 (t.c.getD k 0)) := fun k hk => t.at_ h hk
  generalize t.arr = cs at hn hat ⊢
  clear h
  by_cases hop : 1 ≤ op ∧ op ≤ 18
  · obtain ⟨h1, h2⟩ := hop
    obtain ⟨k, rfl⟩ := Int.eq_ofNat_of_zero_le (show 0 ≤ op by omega)
    have hc := hat k (by omega)
    have hb : (w.alloc (.cells cs 26)).cell? ⟨w.heap.size, k, none⟩ = some (.int .u8 (t.c.getD k 0)) := by rw [(Blk.new w 26 cs).cell, hc]
    by_cases hx : t.c.getD k 0 = 255
    · have hL : charL t k = (0, false) := if_neg fun h => h.2.2 hx
      rw [hL]
      rw [hx] at hb
      clear hL hat hc hx
      go_enter Tryz.func7, Tryz.ntmps7
      go_wp2
      refine bodyPost_ret (v := .tuple #[.int .u8 0, .bool false]) (by simp [results, Tryz.results7, go_sem]) rfl ?_
      exact ⟨rfl, (by repeat (first | with_reducible exact Ext.refl _ | refine Ext.drewN ?_ _ | refine Ext.drew ?_ | refine Ext.alloc ?_ _ | assumption | (refine Below.trans ?_ (by assumption)) | (refine Ext.trans ?_ (by assumption)) | (refine Below.trans ?_ (Below.mono (by assumption) (by omega)))))⟩
    · have hL : charL t k = (t.c.getD k 0, true) := if_pos ⟨h1, h2, hx⟩
      rw [hL]
      generalize t.c.getD k 0 = x at hb hx ⊢
      have hx' : (x == 255) = false := by simpa using hx
      clear hL hat hc hx
      go_enter Tryz.func7, Tryz.ntmps7
      go_wp2
      refine bodyPost_ret (v := .tuple #[.int .u8 x, .bool true]) (by simp [results, Tryz.results7, go_sem]) rfl ?_
      exact ⟨rfl, (by repeat (first | with_reducible exact Ext.refl _ | refine Ext.drewN ?_ _ | refine Ext.drew ?_ | refine Ext.alloc ?_ _ | assumption | (refine Below.trans ?_ (by assumption)) | (refine Ext.trans ?_ (by assumption)) | (refine Below.trans ?_ (Below.mono (by assumption) (by omega)))))⟩
  · have hL : charL t op = (0, false) := if_neg fun h => hop ⟨h.1, h.2.1⟩
    rw [hL]
    clear hat hL
    go_enter Tryz.func7, Tryz.ntmps7
    go_wp2
    all_goals refine bodyPost_ret (v := .tuple #[.int .u8 0, .bool false]) (by simp [results, Tryz.results7, go_sem]) rfl ?_
    all_goals exact ⟨rfl, (by repeat (first | with_reducible exact Ext.refl _ | refine Ext.drewN ?_ _ | refine Ext.drew ?_ | refine Ext.alloc ?_ _ | assumption | (refine Below.trans ?_ (by assumption)) | (refine Ext.trans ?_ (by assumption)) | (refine Below.trans ?_ (Below.mono (by assumption) (by omega)))))⟩
def isL (t : Tm) (op c : Int) : Bool := (charL t op).2 && (c == (charL t op).1)
theorem isL_eq (t : Tm) (op c : Int) : isL t op c = ((charL t op).2 && (c == (charL t op).1)) := rfl
theorem is_any (t : Tm) (op c : Int) (w : World) (h : t.Ok) : Calls Tryz.prog 9 #[.agg t.arr, .int .i64 op, .int .u8 c] w fun e w' => e = .returned (.bool (isL t op c)) ∧ Ext w w' := by
  have hn := t.size h
  have hc := char_any t op
  have H := Lib.hid h
  have hI := isL_eq t op c
  generalize t.arr = cs at hn hc ⊢
  clear h
  have hl := Blk.new w 26 cs
  have hi : (Tryz.prog.info? 26).map (·.size) = some cs.size := by rw [hn]; kernel_rfl
  go_enter Tryz.func9, Tryz.ntmps9
  go_wp2_with (first
    | (refine wpList_load_row rfl 26 _ rfl _ rfl 26 cs _ _ hl Tryz.underlying26 rfl hi ?_)
    | (go_at_call 7; refine (hc _ H.out).mono ?_; rintro e w1 ⟨rfl, E1⟩))
  all_goals go_ret
  all_goals refine ⟨?_, (by repeat (first | with_reducible exact Ext.refl _ | refine Ext.drewN ?_ _ | refine Ext.drew ?_ | refine Ext.alloc ?_ _ | assumption | (refine Below.trans ?_ (by assumption)) | (refine Ext.trans ?_ (by assumption)) | (refine Below.trans ?_ (Below.mono (by assumption) (by omega)))))⟩
  all_goals rw [hI]
  all_goals show Ending.returned (Value.bool _) = _
  all_goals congr 2
  all_goals
    clear hc hI
    generalize (charL t op).1 = x at *
    generalize (charL t op).2 = b at *
    by_cases hq : c = x
    · subst hq
      simp_all
    · have hq2 : ¬ x = c := fun e => hq e.symm
      have hq3 : (c == x) = false := by simpa using hq
      have hq4 : (x == c) = false := by simpa using hq2
      clear hi
      cases b <;> first | (rw [hq3]; simp_all; done) | (rw [hq3, hq4]; simp_all; done) | simp_all
end Go.Proofs.YtfnicinnjkbedaaGreatDoor
