/- Whether a test holds of any process; a zombie that has nobody to be told; by contract. No condition. -/
import Derived.Test.YtmpmnikgbepphaaP20
namespace Go.Proofs.Ytmpmnikgbepphaa
open Go.RowKit Go.Kb

theorem idxL_any {f : Pr → Bool} {l : List Pr} : decide (0 ≤ idxL f l) = l.any f := by
  rcases idx_any (f := f) (l := l) with ⟨h1, h2⟩ | ⟨j, p, h1, _, _, h4, _⟩
  · rw [h1, h2]; rfl
  · rw [h1, h4]; exact decide_eq_true (by omega)
set_option maxRecDepth 100000 in
set_option maxHeartbeats 800000 in
theorem contains_any {A : Nat → Prop} (k : Nat) (bs fs : Array Value) (f : Pr → Bool) (v : Value) (l : List Pr) (w : World) (h : RdY Rp A w v l) (hf : Asks k bs fs f w) :
    Calls Try.prog 48 #[v, .func (.func k) bs fs] w fun e w' => e = .returned (.bool (l.any f)) ∧ Ext w w' := by
  have HI := Lib.hid (index_any k bs fs f v l w h hf)
  rw [← idxL_any]
  generalize idxL f l = i at *
  clear h hf
  go_enter Try.func48, Try.ntmps48
  go_wp2_with fail
  refine HI.out.mono ?_
  rintro e w1 ⟨rfl, E1⟩
  go_wp2
  go_ret
  exact ⟨by first | rfl | simp, E1⟩
def idleL (l : List Pr) (p : Pr) : Bool :=
  !liveP p && match l.find? (fun q => q.pid == p.parent) with
    | none => true
    | some up => up.acts.getD 17 0 == 1
theorem enters_idle (args : Array Value) (w : World) : (callFunc 64 args).run Try.prog w = .ok (.enter 64 args) w := by kernel_rfl
set_option maxRecDepth 100000 in
set_option maxHeartbeats 800000 in
theorem idle_any {A : Nat → Prop} (Ad : Option Addr) (c : Nat) (l : List Pr) (nx : Int) (p : Pr) (w : World) (h : RdY Rp A w (.slice Ad l.length c) l) (hok : p.ok) :
    Calls Try.prog 64 #[tv Ad l.length c nx, .agg p.cells.toArray] w fun e w' => e = .returned (.bool (idleL l p)) ∧ Ext w w' := by
  have H := Lib.hid (rdy_pr (B := fun _ => False) h)
  obtain ⟨W, hW⟩ : ∃ W, W = (w.alloc (.cells #[.slice Ad l.length c, .int .i64 nx] 29)).alloc (.cells p.cells.toArray 43) := ⟨_, rfl⟩
  have hp := Lib.hid (show Blk W (w.heap.size + 1) 43 p.cells.toArray by rw [hW]; exact Blk.at_ _ _ (by simp))
  have hbox := Lib.hid (show Blk W w.heap.size 29 #[.slice Ad l.length c, .int .i64 nx] by rw [hW]; exact (Blk.new w _ _).alloc _)
  have E0 : Ext w W := by rw [hW]; exact (by repeat (first | with_reducible exact Ext.refl _ | refine Ext.drewN ?_ _ | refine Ext.drew ?_ | refine Ext.alloc ?_ _ | assumption | (refine Below.trans ?_ (by assumption)) | (refine Ext.trans ?_ (by assumption)) | (refine Below.trans ?_ (Below.mono (by assumption) (by omega)))))
  have HW := Lib.hid hW
  clear h hW
  go_enter Try.func64, Try.ntmps64
  go_wp2_with (first | (refine wpList_load_row rfl 43 _ rfl _ rfl 43 _ _ _ (by rw [← HW.out]; exact hp.out) Try.underlying43 rfl (by rw [List.size_toArray]; exact i43' hok) ?_) | fail)
  rw [← HW.out]
  refine (lives_any p W hok).mono ?_
  rintro e w1 ⟨rfl, E1⟩
  have hb1 := Lib.hid (hbox.out.ext E1)
  have hp1 := Lib.hid (hp.out.ext E1)
  have E01 : Ext w w1 := E0.trans E1
  cases hlv : liveP p
  · have HI : Hid (idleL l p = match l.find? (fun q => q.pid == p.parent) with | none => true | some up => up.acts.getD 17 0 == 1) := Lib.hid (by unfold idleL; rw [hlv]; rfl)
    clear hlv
    go_wp2
    refine wp_region_held_drew (S := fun w' => Ext w1 w') (by kernel_rfl) (Ext.drew (Ext.refl _)) (fun hHeld => ?_)
    (refine wpAnyH_take (i := 0) (v := ?_) rfl (by kernel_rfl) (by kernel_rfl) (by kernel_rfl) (fun _ _ _ h => h) (Or.inl ⟨by rfl, ?_⟩) (by assumption) ?_; rotate_left; (focus (intro w' hSw; have kc := (hb1.out.ext hSw).two; go_simp; try with_reducible rfl)); (try simp only [List.getElem_toArray]); (try simp only [List.getElem_cons_succ]); (try simp only [List.getElem_cons_zero]); (try simp only [Act.put]); (try simp only [List.setIfInBounds_toArray]); (try simp only [List.set_cons_succ]); (try simp only [List.set_cons_zero]))
    (refine wpAnyH_take (i := 1) (v := ?_) rfl (by kernel_rfl) (by kernel_rfl) (by kernel_rfl) (fun _ _ _ h => h) (Or.inl ⟨by rfl, ?_⟩) (by assumption) ?_; rotate_left; (focus (intro w' hSw; go_simp; try with_reducible rfl)); (try simp only [List.getElem_toArray]); (try simp only [List.getElem_cons_succ]); (try simp only [List.getElem_cons_zero]); (try simp only [Act.put]); (try simp only [List.setIfInBounds_toArray]); (try simp only [List.set_cons_succ]); (try simp only [List.set_cons_zero]))
    (refine wpAnyH_take (i := 2) (v := ?_) rfl (by kernel_rfl) (by kernel_rfl) (by kernel_rfl) (fun _ _ _ h => h) (Or.inl ⟨by rfl, ?_⟩) (by assumption) ?_; rotate_left; (focus (intro w' hSw; have kc := (prAt_blk hok (hp1.out.ext hSw)).c1; go_simp; try with_reducible rfl)); (try simp only [List.getElem_toArray]); (try simp only [List.getElem_cons_succ]); (try simp only [List.getElem_cons_zero]); (try simp only [Act.put]); (try simp only [List.setIfInBounds_toArray]); (try simp only [List.set_cons_succ]); (try simp only [List.set_cons_zero]))
    (refine wpAnyH_ready (rs := [3]) (by kernel_rfl) (by simp) ?_; refine AllReadyH.cons rfl (fun K hK => ?_) AllReadyH.nil; go_simp; go_at_call 41; refine (is_any p.parent _).mono ?_; rintro e w2 ⟨n2, rfl, F2, E2⟩; (try dsimp only); refine hK.out _ _ (by repeat (first | with_reducible exact Ext.refl _ | refine Ext.drewN ?_ _ | refine Ext.drew ?_ | refine Ext.alloc ?_ _ | assumption | (refine Below.trans ?_ (by assumption)) | (refine Ext.trans ?_ (by assumption)) | (refine Below.trans ?_ (Below.mono (by assumption) (by omega))))) (fun hHeld => ?_); clear hK K; (try simp only [Act.put]); (try simp only [List.getElem_toArray]); (try simp only [List.getElem_cons_succ]); (try simp only [List.getElem_cons_zero]); (try simp only [List.setIfInBounds_toArray]); (try simp only [List.set_cons_succ]); (try simp only [List.set_cons_zero]))
    have E12 : Ext w1 w2 := by assumption
    have hfind := find_any Ad c l nx w2 (H.out.ext (E01.trans E12)) F2
    (refine wpAnyH_ready (rs := [4]) (by kernel_rfl) (by simp) ?_; refine AllReadyH.cons rfl (fun K hK => ?_) AllReadyH.nil; go_simp; go_at_call 37; refine (hfind).mono ?_; rintro e w4 ⟨E4, (⟨hx, m0, rfl, hm0, hz⟩ | ⟨j, b, off, hx, hlt, rfl, rfl⟩)⟩; all_goals ((try dsimp only); refine hK.out _ _ (by repeat (first | with_reducible exact Ext.refl _ | refine Ext.drewN ?_ _ | refine Ext.drew ?_ | refine Ext.alloc ?_ _ | assumption | (refine Below.trans ?_ (by assumption)) | (refine Ext.trans ?_ (by assumption)) | (refine Below.trans ?_ (Below.mono (by assumption) (by omega))))) (fun hHeld => ?_); clear hK K; (try simp only [Act.put]); (try simp only [List.getElem_toArray]); (try simp only [List.getElem_cons_succ]); (try simp only [List.getElem_cons_zero]); (try simp only [List.setIfInBounds_toArray]); (try simp only [List.set_cons_succ]); (try simp only [List.set_cons_zero])))
    all_goals
      (refine wpAnyH_take (i := 5) (v := ?_) rfl (by kernel_rfl) (by kernel_rfl) (by kernel_rfl) (fun _ _ _ h => h) (Or.inl ⟨by rfl, ?_⟩) (by assumption) ?_; rotate_left; (focus (intro w' hSw; go_simp; try with_reducible rfl)); (try simp only [List.getElem_toArray]); (try simp only [List.getElem_cons_succ]); (try simp only [List.getElem_cons_zero]); (try simp only [Act.put]); (try simp only [List.setIfInBounds_toArray]); (try simp only [List.set_cons_succ]); (try simp only [List.set_cons_zero]))
      (refine wpAnyH_take (i := 6) (v := ?_) rfl (by kernel_rfl) (by kernel_rfl) (by kernel_rfl) (fun _ _ _ h => h) (Or.inl ⟨by rfl, ?_⟩) (by assumption) ?_; rotate_left; (focus (intro w' hSw; go_simp; try with_reducible rfl)); (try simp only [List.getElem_toArray]); (try simp only [List.getElem_cons_succ]); (try simp only [List.getElem_cons_zero]); (try simp only [Act.put]); (try simp only [List.setIfInBounds_toArray]); (try simp only [List.set_cons_succ]); (try simp only [List.set_cons_zero]))
      (refine wpAnyH_take (i := 7) (v := ?_) rfl (by kernel_rfl) (by kernel_rfl) (by kernel_rfl) (fun _ _ _ h => h) (Or.inl ⟨by rfl, ?_⟩) (by assumption) ?_; rotate_left; (focus (intro w' hSw; go_simp; try with_reducible rfl)); (try simp only [List.getElem_toArray]); (try simp only [List.getElem_cons_succ]); (try simp only [List.getElem_cons_zero]); (try simp only [Act.put]); (try simp only [List.setIfInBounds_toArray]); (try simp only [List.set_cons_succ]); (try simp only [List.set_cons_zero]))
      (refine wpAnyH_take (i := 8) (v := ?_) rfl (by kernel_rfl) (by kernel_rfl) (by kernel_rfl) (fun _ _ _ h => h) (Or.inl ⟨by rfl, ?_⟩) (by assumption) ?_; rotate_left; (focus (intro w' hSw; go_simp; try with_reducible rfl)); (try simp only [List.getElem_toArray]); (try simp only [List.getElem_cons_succ]); (try simp only [List.getElem_cons_zero]); (try simp only [Act.put]); (try simp only [List.setIfInBounds_toArray]); (try simp only [List.set_cons_succ]); (try simp only [List.set_cons_zero]))
      (refine wpAnyH_take (i := 9) (v := ?_) rfl (by kernel_rfl) (by kernel_rfl) (by kernel_rfl) (fun _ _ _ h => h) (Or.inl ⟨by rfl, ?_⟩) (by assumption) ?_; rotate_left; (focus (intro w' hSw; go_simp; try with_reducible rfl)); (try simp only [List.getElem_toArray]); (try simp only [List.getElem_cons_succ]); (try simp only [List.getElem_cons_zero]); (try simp only [Act.put]); (try simp only [List.setIfInBounds_toArray]); (try simp only [List.set_cons_succ]); (try simp only [List.set_cons_zero]))
      refine wpAnyH_done (by kernel_rfl) ?_ _
      have E14 : Ext w1 w4 := E12.trans E4
      have E04 : Ext w w4 := E01.trans E14
      obtain ⟨h1, h2⟩ | ⟨j', q, h1, h2, h3, h4, h5⟩ := idx_any (f := fun q => q.pid == p.parent) (l := l)
    · have hg : idleL l p = true := by
        rw [HI.out]
        have : l.find? (fun q => q.pid == p.parent) = none := by rw [List.find?_eq_none]; rw [List.any_eq_false] at h2; exact h2
        rw [this]
      have HG := Lib.hid hg
      clear h1 h2 hx hg hz
      go_wp2
      go_ret
      exact ⟨by rw [HG.out]; rfl, E04⟩
    · rw [h1] at hx; omega
    · rw [h1] at hx; omega
    · obtain rfl : j' = j := by rw [h1] at hx; omega
      obtain ⟨b', off', p', hAd, hd, hok', hcell⟩ := pr_at (H.out.ext E04) hlt
      simp only [Option.some.injEq, Addr.mk.injEq, and_true] at hAd
      obtain ⟨rfl, rfl⟩ := hAd
      obtain rfl : p' = q := by have := hd.out; rw [h2] at this; exact (Option.some.inj this).symm
      have hl17 : 17 < p'.acts.length := by rw [show p'.acts.length = 32 from hok']; omega
      have hg : idleL l p = (p'.acts[17] == 1) := by rw [HI.out, h5]; simp [hl17]
      have c26 := (prAt_of hok' hcell.out).ca 17 p'.acts[17] (List.getElem?_eq_getElem hl17)
      have c26' : w4.cell? ⟨b, off + j' * 43 + 26, none⟩ = some (.int .i64 p'.acts[17]) := c26
      generalize p'.acts[17] = x at *
      have HG := Lib.hid hg
      clear h1 h2 h3 h4 h5 hx hg hd hl17
      go_wp2
      go_ret
      exact ⟨by rw [HG.out]; rfl, E04⟩
  · have HI : Hid (idleL l p = false) := Lib.hid (by unfold idleL; rw [hlv]; rfl)
    clear hlv
    go_wp2
    go_ret
    exact ⟨by rw [HI.out]; rfl, E01⟩
theorem asks_idle {A : Nat → Prop} {Ad : Option Addr} {c : Nat} {l : List Pr} {nx : Int} {w : World} (h : RdY Rp A w (.slice Ad l.length c) l) : Asks 64 #[tv Ad l.length c nx] #[] (idleL l) w :=
  ⟨enters_idle, fun p w' hp hE => idle_any Ad c l nx p w' (RdY.ext (rdy_pr (B := fun _ => False) h) hE) hp⟩
end Go.Proofs.Ytmpmnikgbepphaa
