/- A process of a table, by contract. No condition. -/
import Derived.Test.YtmpmnikgbepphaaF20
namespace Go.Proofs.Ytmpmnikgbepphaa
open Go.RowKit Go.Kb

def getL (l : List Pr) (nx pid : Int) : Pr × Bool := if rightL l nx = true then (match l.find? (fun p => p.pid == pid) with | some p => (p, true) | none => (zeroP, false)) else (zeroP, false)
theorem getL_ok {l : List Pr} {nx pid : Int} (h : ∀ p ∈ l, p.ok) : (getL l nx pid).1.ok := by
  unfold getL
  split
  · split
    · rename_i p hp; exact h p (List.mem_of_find?_eq_some hp)
    · exact zeroP_ok
  · exact zeroP_ok
theorem RdY.oks {A : Nat → Prop} {w : World} {v : Value} {l : List Pr} (h : RdY Rp A w v l) : ∀ p ∈ l, p.ok := by
  intro p hp
  obtain ⟨j, hj, rfl⟩ := List.getElem_of_mem hp
  obtain ⟨us, _, he⟩ := h
  exact (he.2 j _ (List.getElem?_eq_getElem hj)).2
theorem i43z : (Try.prog.info? 43).map (·.size) = some zeroP.cells.toArray.size := by rw [List.size_toArray]; exact i43' zeroP_ok
theorem zero_row (w : World) (n : Nat) (hn : w.heap.size = n) : Blk (w.alloc (.cells #[.int .i64 0, .int .i64 0, .int .i64 0, .int .i64 0, .int .i64 0, .int .i64 0, .int .i64 0, .int .u64 0, .int .u64 0, .int .i64 0, .int .i64 0, .int .i64 0, .int .i64 0, .int .i64 0, .int .i64 0, .int .i64 0, .int .i64 0, .int .i64 0, .int .i64 0, .int .i64 0, .int .i64 0, .int .i64 0, .int .i64 0, .int .i64 0, .int .i64 0, .int .i64 0, .int .i64 0, .int .i64 0, .int .i64 0, .int .i64 0, .int .i64 0, .int .i64 0, .int .i64 0, .int .i64 0, .int .i64 0, .int .i64 0, .int .i64 0, .int .i64 0, .int .i64 0, .int .i64 0, .int .i64 0, .int .i64 0, .bool false] 43)) n 43 zeroP.cells.toArray := Blk.at_ _ _ hn
set_option maxRecDepth 100000 in
set_option maxHeartbeats 800000 in
theorem get_any {A : Nat → Prop} (Ad : Option Addr) (c : Nat) (l : List Pr) (nx pid : Int) (w : World) (h : RdY Rp A w (.slice Ad l.length c) l) :
    Calls Try.prog 15 #[.agg #[.slice Ad l.length c, .int .i64 nx], .int .i64 pid] w fun e w' => e = .returned (.tuple #[.agg (getL l nx pid).1.cells.toArray, .bool (getL l nx pid).2]) ∧ Ext w w' := by
  have H := Lib.hid (h.mono (B := fun _ => True) fun _ _ _ => trivial)
  have hbox := Lib.hid (Blk.new w 29 #[.slice Ad l.length c, .int .i64 nx])
  have hzr := Lib.hid (zero_row (w.alloc (.cells #[.slice Ad l.length c, .int .i64 nx] 29)) (w.heap.size + 1) (by simp))
  have hbox := Lib.hid (hbox.out.ext ((Ext.refl _).alloc (.cells #[.int .i64 0, .int .i64 0, .int .i64 0, .int .i64 0, .int .i64 0, .int .i64 0, .int .i64 0, .int .u64 0, .int .u64 0, .int .i64 0, .int .i64 0, .int .i64 0, .int .i64 0, .int .i64 0, .int .i64 0, .int .i64 0, .int .i64 0, .int .i64 0, .int .i64 0, .int .i64 0, .int .i64 0, .int .i64 0, .int .i64 0, .int .i64 0, .int .i64 0, .int .i64 0, .int .i64 0, .int .i64 0, .int .i64 0, .int .i64 0, .int .i64 0, .int .i64 0, .int .i64 0, .int .i64 0, .int .i64 0, .int .i64 0, .int .i64 0, .int .i64 0, .int .i64 0, .int .i64 0, .int .i64 0, .int .i64 0, .bool false] 43)))
  clear h
  cases hr : rightL l nx
  · have HR := Lib.hid (show getL l nx pid = (zeroP, false) by unfold getL; rw [hr]; rfl)
    have HR0 := Lib.hid hr
    clear hr
    rw [HR.out]
    go_enter Try.func15, Try.ntmps15
    go_wp2_with fail
    refine (right_any Ad c l nx _ (H.out.ext (by repeat (first | with_reducible exact Ext.refl _ | refine Ext.drewN ?_ _ | refine Ext.drew ?_ | refine Ext.alloc ?_ _ | assumption | (refine Below.trans ?_ (by assumption)) | (refine Ext.trans ?_ (by assumption)) | (refine Below.trans ?_ (Below.mono (by assumption) (by omega))))))).mono ?_
    rintro e w1 ⟨rfl, E1⟩
    rw [HR0.out]
    have hz1 := Lib.hid (hzr.out.ext E1)
    have E01 : Ext w w1 := (by repeat (first | with_reducible exact Ext.refl _ | refine Ext.drewN ?_ _ | refine Ext.drew ?_ | refine Ext.alloc ?_ _ | assumption | (refine Below.trans ?_ (by assumption)) | (refine Ext.trans ?_ (by assumption)) | (refine Below.trans ?_ (Below.mono (by assumption) (by omega)))))
    clear E1
    go_wp2_with (((refine wpList_store_A rfl 43 _ _ rfl (w.heap.size + 1) _ rfl rfl 43 _ hz1.out (by rw [List.size_toArray]; exact i43' zeroP_ok) (Eq.trans (b := 43) (by rfl) (Eq.symm (show (zeroP).cells.toArray.size = 43 from Pr.size zeroP_ok))) (Pr.one zeroP_ok) ?_); intro w2 H2 E2; have E2 : Ext w w2 := E2 w.heap.size w E01 (by omega)))
    refine bodyPost_ret_by (Kb.results_cell_tmp Try.results15 _ _ (w.heap.size + 1) 43 _ _ _ rfl _ rfl H2 Try.underlying43 rfl (by rw [List.size_toArray]; exact i43' zeroP_ok)) rfl ?_
    exact ⟨rfl, E2⟩
  · have HR0 := Lib.hid hr
    have HG : getL l nx pid = (match l.find? (fun p => p.pid == pid) with | some p => (p, true) | none => (zeroP, false)) := by unfold getL; rw [hr]; rfl
    have HG := Lib.hid HG
    clear hr
    go_enter Try.func15, Try.ntmps15
    go_wp2_with fail
    refine (right_any Ad c l nx _ (H.out.ext (by repeat (first | with_reducible exact Ext.refl _ | refine Ext.drewN ?_ _ | refine Ext.drew ?_ | refine Ext.alloc ?_ _ | assumption | (refine Below.trans ?_ (by assumption)) | (refine Ext.trans ?_ (by assumption)) | (refine Below.trans ?_ (Below.mono (by assumption) (by omega))))))).mono ?_
    rintro e w1 ⟨rfl, E1⟩
    rw [HR0.out]
    have hz1 := Lib.hid (hzr.out.ext E1)
    have hbox := Lib.hid (hbox.out.ext E1)
    have E01 : Ext w w1 := (by repeat (first | with_reducible exact Ext.refl _ | refine Ext.drewN ?_ _ | refine Ext.drew ?_ | refine Ext.alloc ?_ _ | assumption | (refine Below.trans ?_ (by assumption)) | (refine Ext.trans ?_ (by assumption)) | (refine Below.trans ?_ (Below.mono (by assumption) (by omega)))))
    clear E1
    go_wp2
    refine wp_region_held_drew (S := fun w' => Ext w1 w') (by kernel_rfl) (Ext.drew (Ext.refl _)) (fun hHeld => ?_)
    (refine wpAnyH_take (i := 0) (v := ?_) rfl (by kernel_rfl) (by kernel_rfl) (by kernel_rfl) (fun _ _ _ h => h) (Or.inl ⟨by rfl, ?_⟩) (by assumption) ?_; rotate_left; (focus (intro w' hSw; have kc := (hbox.out.ext hSw).two; go_simp; try with_reducible rfl)); (try simp only [List.getElem_toArray]); (try simp only [List.getElem_cons_succ]); (try simp only [List.getElem_cons_zero]); (try simp only [Act.put]); (try simp only [List.setIfInBounds_toArray]); (try simp only [List.set_cons_succ]); (try simp only [List.set_cons_zero]))
    (refine wpAnyH_take (i := 1) (v := ?_) rfl (by kernel_rfl) (by kernel_rfl) (by kernel_rfl) (fun _ _ _ h => h) (Or.inl ⟨by rfl, ?_⟩) (by assumption) ?_; rotate_left; (focus (intro w' hSw; go_simp; try with_reducible rfl)); (try simp only [List.getElem_toArray]); (try simp only [List.getElem_cons_succ]); (try simp only [List.getElem_cons_zero]); (try simp only [Act.put]); (try simp only [List.setIfInBounds_toArray]); (try simp only [List.set_cons_succ]); (try simp only [List.set_cons_zero]))
    (refine wpAnyH_ready (rs := [2]) (by kernel_rfl) (by simp) ?_; refine AllReadyH.cons rfl (fun K hK => ?_) AllReadyH.nil; go_simp; go_at_call 41; refine (is_any pid _).mono ?_; rintro e w2 ⟨n2, rfl, F2, E2⟩; (try dsimp only); refine hK.out _ _ (by repeat (first | with_reducible exact Ext.refl _ | refine Ext.drewN ?_ _ | refine Ext.drew ?_ | refine Ext.alloc ?_ _ | assumption | (refine Below.trans ?_ (by assumption)) | (refine Ext.trans ?_ (by assumption)) | (refine Below.trans ?_ (Below.mono (by assumption) (by omega))))) (fun hHeld => ?_); clear hK K; (try simp only [Act.put]); (try simp only [List.getElem_toArray]); (try simp only [List.getElem_cons_succ]); (try simp only [List.getElem_cons_zero]); (try simp only [List.setIfInBounds_toArray]); (try simp only [List.set_cons_succ]); (try simp only [List.set_cons_zero]))
    have E12 : Ext w1 w2 := by assumption
    have hfind := find_any Ad c l nx w2 (H.out.ext (E01.trans E12)) F2
    (refine wpAnyH_ready (rs := [3]) (by kernel_rfl) (by simp) ?_; refine AllReadyH.cons rfl (fun K hK => ?_) AllReadyH.nil; go_simp; go_at_call 37; refine (hfind).mono ?_; rintro e w4 ⟨E4, (⟨hx, m0, rfl, hm0, hz⟩ | ⟨j, b, off, hx, hlt, rfl, rfl⟩)⟩; all_goals ((try dsimp only); refine hK.out _ _ (by repeat (first | with_reducible exact Ext.refl _ | refine Ext.drewN ?_ _ | refine Ext.drew ?_ | refine Ext.alloc ?_ _ | assumption | (refine Below.trans ?_ (by assumption)) | (refine Ext.trans ?_ (by assumption)) | (refine Below.trans ?_ (Below.mono (by assumption) (by omega))))) (fun hHeld => ?_); clear hK K; (try simp only [Act.put]); (try simp only [List.getElem_toArray]); (try simp only [List.getElem_cons_succ]); (try simp only [List.getElem_cons_zero]); (try simp only [List.setIfInBounds_toArray]); (try simp only [List.set_cons_succ]); (try simp only [List.set_cons_zero])))
    all_goals
      (refine wpAnyH_take (i := 4) (v := ?_) rfl (by kernel_rfl) (by kernel_rfl) (by kernel_rfl) (fun _ _ _ h => h) (Or.inl ⟨by rfl, ?_⟩) (by assumption) ?_; rotate_left; (focus (intro w' hSw; go_simp; try with_reducible rfl)); (try simp only [List.getElem_toArray]); (try simp only [List.getElem_cons_succ]); (try simp only [List.getElem_cons_zero]); (try simp only [Act.put]); (try simp only [List.setIfInBounds_toArray]); (try simp only [List.set_cons_succ]); (try simp only [List.set_cons_zero]))
      (refine wpAnyH_take (i := 5) (v := ?_) rfl (by kernel_rfl) (by kernel_rfl) (by kernel_rfl) (fun _ _ _ h => h) (Or.inl ⟨by rfl, ?_⟩) (by assumption) ?_; rotate_left; (focus (intro w' hSw; go_simp; try with_reducible rfl)); (try simp only [List.getElem_toArray]); (try simp only [List.getElem_cons_succ]); (try simp only [List.getElem_cons_zero]); (try simp only [Act.put]); (try simp only [List.setIfInBounds_toArray]); (try simp only [List.set_cons_succ]); (try simp only [List.set_cons_zero]))
      (refine wpAnyH_take (i := 6) (v := ?_) rfl (by kernel_rfl) (by kernel_rfl) (by kernel_rfl) (fun _ _ _ h => h) (Or.inl ⟨by rfl, ?_⟩) (by assumption) ?_; rotate_left; (focus (intro w' hSw; go_simp; try with_reducible rfl)); (try simp only [List.getElem_toArray]); (try simp only [List.getElem_cons_succ]); (try simp only [List.getElem_cons_zero]); (try simp only [Act.put]); (try simp only [List.setIfInBounds_toArray]); (try simp only [List.set_cons_succ]); (try simp only [List.set_cons_zero]))
      (refine wpAnyH_take (i := 7) (v := ?_) rfl (by kernel_rfl) (by kernel_rfl) (by kernel_rfl) (fun _ _ _ h => h) (Or.inl ⟨by rfl, ?_⟩) (by assumption) ?_; rotate_left; (focus (intro w' hSw; go_simp; try with_reducible rfl)); (try simp only [List.getElem_toArray]); (try simp only [List.getElem_cons_succ]); (try simp only [List.getElem_cons_zero]); (try simp only [Act.put]); (try simp only [List.setIfInBounds_toArray]); (try simp only [List.set_cons_succ]); (try simp only [List.set_cons_zero]))
      (refine wpAnyH_take (i := 8) (v := ?_) rfl (by kernel_rfl) (by kernel_rfl) (by kernel_rfl) (fun _ _ _ h => h) (Or.inl ⟨by rfl, ?_⟩) (by assumption) ?_; rotate_left; (focus (intro w' hSw; go_simp; try with_reducible rfl)); (try simp only [List.getElem_toArray]); (try simp only [List.getElem_cons_succ]); (try simp only [List.getElem_cons_zero]); (try simp only [Act.put]); (try simp only [List.setIfInBounds_toArray]); (try simp only [List.set_cons_succ]); (try simp only [List.set_cons_zero]))
      refine wpAnyH_done (by kernel_rfl) ?_ _
      have E14 : Ext w1 w4 := E12.trans E4
      have hz4 := Lib.hid (hz1.out.ext E14)
      have E04 : Ext w w4 := E01.trans E14
    · obtain ⟨h1, h2⟩ | ⟨j', p, h1, h2, h3, h4, h5⟩ := idx_any (f := fun p => p.pid == pid) (l := l)
      · have hg : getL l nx pid = (zeroP, false) := by
          rw [HG.out]
          have : l.find? (fun p => p.pid == pid) = none := by rw [List.find?_eq_none]; rw [List.any_eq_false] at h2; exact h2
          rw [this]
        have HGG := Lib.hid hg
        have HZ := Lib.hid hz
        clear h1 h2 hz hx hg
        go_wp2_with (first
          | (refine wpList_load_row rfl 43 _ rfl _ rfl 43 _ _ _ HZ.out Try.underlying43 rfl i43z ?_)
          | ((refine wpList_store_A rfl 43 _ _ rfl (w.heap.size + 1) _ rfl rfl 43 _ hz4.out (by rw [List.size_toArray]; exact i43' zeroP_ok) (Eq.trans (b := 43) (by rfl) (Eq.symm (show (zeroP).cells.toArray.size = 43 from Pr.size zeroP_ok))) (Pr.one zeroP_ok) ?_); intro w5 H5 E5; have E5 : Ext w w5 := E5 w.heap.size w E04 (by omega)))
        refine bodyPost_ret_by (Kb.results_cell_tmp Try.results15 _ _ (w.heap.size + 1) 43 _ _ _ rfl _ rfl H5 Try.underlying43 rfl (by rw [List.size_toArray]; exact i43' zeroP_ok)) rfl ?_
        rw [HGG.out]
        exact ⟨rfl, E5⟩
      · rw [h1] at hx; omega
    · obtain ⟨h1, h2⟩ | ⟨j', p, h1, h2, h3, h4, h5⟩ := idx_any (f := fun p => p.pid == pid) (l := l)
      · rw [h1] at hx; omega
      · obtain rfl : j' = j := by rw [h1] at hx; omega
        have hg : getL l nx pid = (p, true) := by rw [HG.out, h5]
        have HGG := Lib.hid hg
        obtain ⟨b', off', p', hAd, hd, hok, hcell⟩ := pr_at (H.out.ext E04) hlt
        simp only [Option.some.injEq, Addr.mk.injEq, and_true] at hAd
        obtain ⟨rfl, rfl⟩ := hAd
        obtain rfl : p' = p := by have := hd.out; rw [h2] at this; exact (Option.some.inj this).symm
        clear h1 h2 h3 h4 h5 hx hg hd
        go_wp2_with (first
          | (refine wpList_load_mid rfl 43 _ rfl b (off + j' * 43) rfl p'.cells _ hcell.out Try.underlying43 rfl (i43' hok) ?_)
          | ((refine wpList_store_A rfl 43 _ _ rfl (w.heap.size + 1) _ rfl rfl 43 _ hz4.out (by rw [List.size_toArray]; exact i43' hok) (Eq.trans (b := 43) (by rfl) (Eq.symm (show (p').cells.toArray.size = 43 from Pr.size hok))) (Pr.one hok) ?_); intro w5 H5 E5; have E5 : Ext w w5 := E5 w.heap.size w E04 (by omega)))
        refine bodyPost_ret_by (Kb.results_cell_tmp Try.results15 _ _ (w.heap.size + 1) 43 _ _ _ rfl _ rfl H5 Try.underlying43 rfl (by rw [List.size_toArray]; exact i43' hok)) rfl ?_
        rw [HGG.out]
        exact ⟨rfl, E5⟩
end Go.Proofs.Ytmpmnikgbepphaa
