/- The document's blank and Erase, by contract. Conditions: the setting is one, bytes are bytes, lengths below 10^8. -/
import Derived.Test.YtilmkghopeoipaaK10
namespace Go.Proofs.Ytilmkghopeoipaa
open Go.RowKit Go.Kb

/-- a blank -/
theorem rblank_any (v : Value) (l : List Int) (w : World) (h : RI .u8 w v l) : Calls Try.prog 31 #[v] w fun e w' => e = .returned (.bool (blankL l)) ∧ Ext w w' := by
  obtain ⟨Ad, c, rfl, h1, h2⟩ := h.shape
  by_cases hl : l.length = 1
  · obtain ⟨x, rfl⟩ := List.length_eq_one_iff.1 hl
    obtain ⟨b, off, y, rfl, hc, hy⟩ := h.icell (j := 0) (by simp)
    have hy := hy.out
    simp at hy
    subst hy
    have hB : blankL [x] = (x == 32 || x == 9) := by simp [blankL, blankc]
    rw [hB]
    rw [Nat.add_zero] at hc
    clear h hl hB
    by_cases hx : x = 32
    · subst hx
      go_enter Try.func31, Try.ntmps31
      go_wp2
      go_ret
      exact ⟨rfl, (by repeat (first | with_reducible exact Ext.refl _ | refine Ext.drewN ?_ _ | refine Ext.drew ?_ | refine Ext.alloc ?_ _ | assumption | (refine Below.trans ?_ (by assumption)) | (refine Ext.trans ?_ (by assumption)) | (refine Below.trans ?_ (Below.mono (by assumption) (by omega)))))⟩
    · have hx2 : (x == 32) = false := by simpa using hx
      rw [hx2]
      go_enter Try.func31, Try.ntmps31
      go_wp2
      go_ret
      exact ⟨by simp, (by repeat (first | with_reducible exact Ext.refl _ | refine Ext.drewN ?_ _ | refine Ext.drew ?_ | refine Ext.alloc ?_ _ | assumption | (refine Below.trans ?_ (by assumption)) | (refine Ext.trans ?_ (by assumption)) | (refine Below.trans ?_ (Below.mono (by assumption) (by omega)))))⟩
  · have hB : blankL l = false := by simp [blankL, hl]
    have hi : ((l.length : Int) == 1) = false := by rw [beq_eq_false_iff_ne]; omega
    rw [hB]
    clear h hl hB
    go_enter Try.func31, Try.ntmps31
    go_wp2
    go_ret
    exact ⟨rfl, (by repeat (first | with_reducible exact Ext.refl _ | refine Ext.drewN ?_ _ | refine Ext.drew ?_ | refine Ext.alloc ?_ _ | assumption | (refine Below.trans ?_ (by assumption)) | (refine Ext.trans ?_ (by assumption)) | (refine Below.trans ?_ (Below.mono (by assumption) (by omega)))))⟩
set_option maxHeartbeats 400000 in
theorem rerase_any (t : Tm) (v : Value) (l : List Int) (w : World) (h : t.Ok) (hl : RI .u8 w v l) (hB : Bs l) (hn : l.length ≤ 100000000) : Calls Try.prog 18 #[.agg t.arr, v] w (PartPost w l (startL (hasL t 42) l)) := by
  have hsz := t.size h
  have hS := fun w' hr => rlast_any t v l w' h hr hB
  have hle := (lastL_le (hasL t 42) l).2
  have hst : startL (hasL t 42) l = l.length - lastL (hasL t 42) l := rfl
  rw [hst]
  clear hst
  generalize lastL (hasL t 42) l = s at hS hle ⊢
  generalize t.arr = cs at hS hsz ⊢
  clear h hB
  have H := Lib.hid hl
  clear hl
  have hi : (Try.prog.info? 26).map (·.size) = some cs.size := by rw [hsz]; kernel_rfl
  have hA := Blk.new w 26 cs
  go_enter Try.func18, Try.ntmps18
  go_wp2_with (first | (refine wpList_load_row rfl 26 _ rfl _ rfl 26 _ _ _ hA Try.underlying26 rfl hi ?_) | (go_at_call 30; refine (hS _ (H.out.ext (by repeat (first | with_reducible exact Ext.refl _ | refine Ext.drewN ?_ _ | refine Ext.drew ?_ | refine Ext.alloc ?_ _ | assumption | (refine Below.trans ?_ (by assumption)) | (refine Ext.trans ?_ (by assumption)) | (refine Below.trans ?_ (Below.mono (by assumption) (by omega))))))).mono ?_; rintro e w1 ⟨rfl, E1⟩) | (go_at_call 29; refine (rcut_any _ l s _ (H.out.ext (by repeat (first | with_reducible exact Ext.refl _ | refine Ext.drewN ?_ _ | refine Ext.drew ?_ | refine Ext.alloc ?_ _ | assumption | (refine Below.trans ?_ (by assumption)) | (refine Ext.trans ?_ (by assumption)) | (refine Below.trans ?_ (Below.mono (by assumption) (by omega)))))) hle hn).mono ?_; rintro e w2 ⟨A, c, B, d, rfl, r1, r2, E2⟩))
  refine bodyPost_ret (v := .tuple #[.slice A (l.length - s) c, .slice B (l.length - (l.length - s)) d]) (by simp [results, Try.results18, go_sem]) rfl ?_
  have E01 : Ext w w1 := (by repeat (first | with_reducible exact Ext.refl _ | refine Ext.drewN ?_ _ | refine Ext.drew ?_ | refine Ext.alloc ?_ _ | assumption | (refine Below.trans ?_ (by assumption)) | (refine Ext.trans ?_ (by assumption)) | (refine Below.trans ?_ (Below.mono (by assumption) (by omega)))))
  exact ⟨A, c, B, d, rfl, NewB.low r1 E01, NewB.low r2 E01, (by repeat (first | with_reducible exact Ext.refl _ | refine Ext.drewN ?_ _ | refine Ext.drew ?_ | refine Ext.alloc ?_ _ | assumption | (refine Below.trans ?_ (by assumption)) | (refine Ext.trans ?_ (by assumption)) | (refine Below.trans ?_ (Below.mono (by assumption) (by omega)))))⟩
end Go.Proofs.Ytilmkghopeoipaa
