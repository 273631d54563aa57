/- The document's answer: Get, Live, Members, by contract. No condition. -/
import Derived.Test.YtmpmnikgbepphaaAB20
namespace Go.Proofs.Ytmpmnikgbepphaa
open Go.RowKit Go.Kb

set_option maxRecDepth 100000 in
set_option maxHeartbeats 800000 in
theorem rget_any {A : Nat → Prop} (Ad : Option Addr) (c : Nat) (l : List Pr) (nx pid : Int) (w : World) (h : RdY Rp A w (.slice Ad l.length c) l) :
    Calls Try.prog 22 #[tv Ad l.length c nx, .int .i64 pid] w fun e w' => e = .returned (.tuple #[.agg (getL l nx pid).1.cells.toArray, .bool (getL l nx pid).2]) ∧ Ext w w' := by
  have H := Lib.hid (rdy_pr (B := fun _ => False) h)
  obtain ⟨W, hW⟩ : ∃ W, W = (w.alloc (.cells #[.slice Ad l.length c, .int .i64 nx] 31)).alloc (.cells #[.int .i64 0, .int .i64 0, .int .i64 0, .int .i64 0, .int .i64 0, .int .i64 0, .int .i64 0, .int .u64 0, .int .u64 0, .int .i64 0, .int .i64 0, .int .i64 0, .int .i64 0, .int .i64 0, .int .i64 0, .int .i64 0, .int .i64 0, .int .i64 0, .int .i64 0, .int .i64 0, .int .i64 0, .int .i64 0, .int .i64 0, .int .i64 0, .int .i64 0, .int .i64 0, .int .i64 0, .int .i64 0, .int .i64 0, .int .i64 0, .int .i64 0, .int .i64 0, .int .i64 0, .int .i64 0, .int .i64 0, .int .i64 0, .int .i64 0, .int .i64 0, .int .i64 0, .int .i64 0, .int .i64 0, .int .i64 0, .bool false] 58) := ⟨_, rfl⟩
  have hz := Lib.hid (show Blk W (w.heap.size + 1) 58 zeroP.cells.toArray by rw [hW]; exact zero_rowR _ _ (by simp))
  have ha := Lib.hid (show Blk W w.heap.size 31 #[.slice Ad l.length c, .int .i64 nx] by rw [hW]; exact (Blk.new w _ _).alloc _)
  have E0 : Ext w W := by rw [hW]; exact (by repeat (first | with_reducible exact Ext.refl _ | refine Ext.drewN ?_ _ | refine Ext.drew ?_ | refine Ext.alloc ?_ _ | assumption | (refine Below.trans ?_ (by assumption)) | (refine Ext.trans ?_ (by assumption)) | (refine Below.trans ?_ (Below.mono (by assumption) (by omega)))))
  have HW := Lib.hid hW
  clear h hW
  go_enter Try.func22, Try.ntmps22
  go_wp2_with fail
  rw [← HW.out]
  refine (place_any Ad c l nx pid _ (H.out.ext E0)).mono ?_
  rintro e w1 ⟨rfl, E1⟩
  have kb := (ha.out.ext E1).two
  have E01 := E0.trans E1
  go_wp2_with fail
  refine (rright_any Ad c l nx _ (H.out.ext E01)).mono ?_
  rintro e w2 ⟨rfl, E2⟩
  have E02 := E01.trans E2
  have hz2 := Lib.hid (hz.out.ext (E1.trans E2))
  have kb2 := (ha.out.ext (E1.trans E2)).two
  clear kb
  cases hr : rightL l nx
  · have HG := Lib.hid (show getL l nx pid = (zeroP, false) by unfold getL; rw [hr]; rfl)
    clear hr
    go_wp2_with ((refine wpList_store_A rfl 58 _ _ rfl (w.heap.size + 1) _ rfl rfl 58 _ hz2.out (by rw [List.size_toArray]; exact i43r' zeroP_ok) (Eq.trans (b := 43) (by rfl) (Eq.symm (show (zeroP).cells.toArray.size = 43 from Pr.size zeroP_ok))) (Pr.one zeroP_ok) ?_); intro w5 H5 E5; have E5 : Ext w w5 := E5 w.heap.size w E02 (by omega))
    refine bodyPost_ret_by (Kb.results_cell_tmp Try.results22 _ _ (w.heap.size + 1) 58 _ _ _ rfl _ rfl H5 Try.underlying58 rfl (by rw [List.size_toArray]; exact i43r' zeroP_ok)) rfl ?_
    rw [HG.out]
    exact ⟨rfl, E5⟩
  · have hG : getL l nx pid = (match l.find? (fun p => p.pid == pid) with | some p => (p, true) | none => (zeroP, false)) := by unfold getL; rw [hr]; rfl
    clear hr
    rcases idx_lt (f := fun p => p.pid == pid) (l := l) with hx | ⟨j, hx, hlt⟩
    · rw [hx]
      rw [find_none hx] at hG
      have HG := Lib.hid hG
      clear hx hG
      go_wp2_with ((refine wpList_store_A rfl 58 _ _ rfl (w.heap.size + 1) _ rfl rfl 58 _ hz2.out (by rw [List.size_toArray]; exact i43r' zeroP_ok) (Eq.trans (b := 43) (by rfl) (Eq.symm (show (zeroP).cells.toArray.size = 43 from Pr.size zeroP_ok))) (Pr.one zeroP_ok) ?_); intro w5 H5 E5; have E5 : Ext w w5 := E5 w.heap.size w E02 (by omega))
      refine bodyPost_ret_by (Kb.results_cell_tmp Try.results22 _ _ (w.heap.size + 1) 58 _ _ _ rfl _ rfl H5 Try.underlying58 rfl (by rw [List.size_toArray]; exact i43r' zeroP_ok)) rfl ?_
      rw [HG.out]
      exact ⟨rfl, E5⟩
    · obtain ⟨b, off, p, rfl, hd, hok, hcell⟩ := pr_at (H.out.ext E02) hlt
      rw [hx]
      rw [find_some hx hd.out] at hG
      have HG := Lib.hid hG
      have j0 : ¬ ((j : Int) < 0) := by omega
      have j1 : (0 : Int) ≤ (j : Int) := by omega
      have j2 : (j : Int) < (l.length : Int) := by omega
      clear hx hG hd
      go_wp2_with (first
        | (refine wpList_load_mid rfl 58 _ rfl b (off + j * 43) rfl p.cells _ hcell.out Try.underlying58 rfl (i43r' hok) ?_)
        | ((refine wpList_store_A rfl 58 _ _ rfl (w.heap.size + 1) _ rfl rfl 58 _ hz2.out (by rw [List.size_toArray]; exact i43r' hok) (Eq.trans (b := 43) (by rfl) (Eq.symm (show (p).cells.toArray.size = 43 from Pr.size hok))) (Pr.one hok) ?_); intro w5 H5 E5; have E5 : Ext w w5 := E5 w.heap.size w E02 (by omega)))
      refine bodyPost_ret_by (Kb.results_cell_tmp Try.results22 _ _ (w.heap.size + 1) 58 _ _ _ rfl _ rfl H5 Try.underlying58 rfl (by rw [List.size_toArray]; exact i43r' hok)) rfl ?_
      rw [HG.out]
      exact ⟨rfl, E5⟩
theorem live_get {l : List Pr} {nx pid : Int} : liveL l nx pid = ((getL l nx pid).2 && liveP (getL l nx pid).1) := by
  unfold liveL getL
  cases hr : rightL l nx
  · rfl
  · simp only [Bool.true_and, if_true]
    obtain ⟨_, _, hri⟩ := right_rise hr
    cases hf : l.find? (fun p => p.pid == pid) with
    | none =>
      rw [List.find?_eq_none] at hf
      simp only [Bool.false_and, List.any_eq_false]
      intro p hp
      have := hf p hp
      simp at this
      simp [this]
    | some p =>
      have hm := List.mem_of_find?_eq_some hf
      have hp := List.find?_some hf
      simp only [beq_iff_eq] at hp
      simp only [Bool.true_and]
      cases hl : liveP p
      · rw [List.any_eq_false]
        intro q hq
        simp only [Bool.and_eq_true, beq_iff_eq, not_and, Bool.not_eq_true]
        intro hqp
        have h1 := rise_find hri q hq
        rw [hqp, hf] at h1
        cases h1
        exact hl
      · exact List.any_eq_true.2 ⟨p, hm, by simp [hp, hl]⟩
set_option maxRecDepth 100000 in
set_option maxHeartbeats 800000 in
theorem rlive_any {A : Nat → Prop} (Ad : Option Addr) (c : Nat) (l : List Pr) (nx pid : Int) (w : World) (h : RdY Rp A w (.slice Ad l.length c) l) :
    Calls Try.prog 24 #[tv Ad l.length c nx, .int .i64 pid] w fun e w' => e = .returned (.bool (liveL l nx pid)) ∧ Ext w w' := by
  have H := Lib.hid (rdy_pr (B := fun _ => False) h)
  have hok := getL_ok (nx := nx) (pid := pid) (RdY.oks h)
  have HL := Lib.hid (live_get (l := l) (nx := nx) (pid := pid))
  have hg := fun w h => rget_any (A := fun _ => False) Ad c l nx pid w h
  obtain ⟨⟨p, b⟩, hp⟩ : ∃ x, getL l nx pid = x := ⟨_, rfl⟩
  rw [hp] at hok HL
  simp only [hp] at hg
  have HG := Lib.hid hg
  clear h hp hg
  go_enter Try.func24, Try.ntmps24
  go_wp2_with fail
  refine (HG.out _ (H.out.ext (by repeat (first | with_reducible exact Ext.refl _ | refine Ext.drewN ?_ _ | refine Ext.drew ?_ | refine Ext.alloc ?_ _ | assumption | (refine Below.trans ?_ (by assumption)) | (refine Ext.trans ?_ (by assumption)) | (refine Below.trans ?_ (Below.mono (by assumption) (by omega))))))).mono ?_
  rintro e w1 ⟨rfl, E1⟩
  have E01 : Ext w w1 := (by repeat (first | with_reducible exact Ext.refl _ | refine Ext.drewN ?_ _ | refine Ext.drew ?_ | refine Ext.alloc ?_ _ | assumption | (refine Below.trans ?_ (by assumption)) | (refine Ext.trans ?_ (by assumption)) | (refine Below.trans ?_ (Below.mono (by assumption) (by omega)))))
  clear E1
  obtain ⟨n5, hn5⟩ : ∃ n5, w1.heap.size = n5 := ⟨_, rfl⟩
  cases b
  · go_wp2_with ((refine wpList_store_A rfl 58 _ _ rfl (n5) _ rfl rfl 58 _ (zero_rowR w1 n5 hn5) (by rw [List.size_toArray]; exact i43r' hok) (Eq.trans (b := 43) (by rfl) (Eq.symm (show (p).cells.toArray.size = 43 from Pr.size hok))) (Pr.one hok) ?_); intro w4 H2 E4; have E4 : Ext w1 w4 := E4 w1.heap.size w1 ((Ext.refl w1).alloc _) (by omega); have c4 := (prAt_blk hok H2).c4)
    go_ret
    exact ⟨by rw [HL.out]; rfl, E01.trans E4⟩
  · cases hs : (p.state != 3)
    · go_wp2_with ((refine wpList_store_A rfl 58 _ _ rfl (n5) _ rfl rfl 58 _ (zero_rowR w1 n5 hn5) (by rw [List.size_toArray]; exact i43r' hok) (Eq.trans (b := 43) (by rfl) (Eq.symm (show (p).cells.toArray.size = 43 from Pr.size hok))) (Pr.one hok) ?_); intro w4 H2 E4; have E4 : Ext w1 w4 := E4 w1.heap.size w1 ((Ext.refl w1).alloc _) (by omega); have c4 := (prAt_blk hok H2).c4)
      go_ret
      exact ⟨by rw [HL.out, show liveP p = false from hs]; rfl, E01.trans E4⟩
    · go_wp2_with ((refine wpList_store_A rfl 58 _ _ rfl (n5) _ rfl rfl 58 _ (zero_rowR w1 n5 hn5) (by rw [List.size_toArray]; exact i43r' hok) (Eq.trans (b := 43) (by rfl) (Eq.symm (show (p).cells.toArray.size = 43 from Pr.size hok))) (Pr.one hok) ?_); intro w4 H2 E4; have E4 : Ext w1 w4 := E4 w1.heap.size w1 ((Ext.refl w1).alloc _) (by omega); have c4 := (prAt_blk hok H2).c4)
      go_ret
      exact ⟨by rw [HL.out, show liveP p = true from hs]; rfl, E01.trans E4⟩
end Go.Proofs.Ytmpmnikgbepphaa
