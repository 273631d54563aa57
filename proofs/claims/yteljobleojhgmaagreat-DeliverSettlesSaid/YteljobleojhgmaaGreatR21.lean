/- Written by chain.py of +OL21 M20[enters_end1,endP,turns_end] Q20[idleL,enters_idle,idle_any,asks_idle] R20. No condition. -/
import Derived.Test.YteljobleojhgmaaGreatOL21
import Derived.Lib.SliceRun
namespace Go.Proofs.YteljobleojhgmaaGreat
open Go.RowKit Go.Kb

section
variable {base G n c j : Nat} {B : Nat → Prop} {w w' : World} {l : List Pr} {p p' : Pr}
end
theorem enters_end1 (args : Array Value) (w : World) : (callFunc 75 args).run Tryz.prog w = .ok (.enter 75 args) w := by kernel_rfl
/-- a process that has ended -/
def endP (status : Int) (p : Pr) : Pr := { p with state := 3, status := status, pending := 0 }
set_option maxRecDepth 100000 in
set_option maxHeartbeats 800000 in
theorem turns_end {m : Nat} {st : Int} (w : World) (h : Blk w m 3 #[.int .i64 st]) : Turns 75 #[] #[.pointer (some ⟨m, 0, none⟩)] (endP st) w := by
  refine ⟨enters_end1, fun G base n c j l p w0 hE hb O hp => ?_⟩
  have Ed : Ext w0 w0.drew := Ext.drew (Ext.refl _)
  have hB := Lib.hid (h.ext hE)
  have hm := h.lt
  have O := O.ext Ed
  obtain ⟨wd, hwd⟩ : ∃ wd, wd = w0.drew := ⟨_, rfl⟩
  rw [← hwd] at O Ed
  obtain ⟨hok, hG, hlt, hat, hfr, _⟩ := own_at O hp
  have c4 := hat.c4
  have c7 := hat.c7
  have c41 := hat.c41
  have hj : j < l.length := (List.getElem?_eq_some_iff.1 hp).1
  have hal : p.acts.length = 32 := hok
  have O2 := own_put (p' := { p with state := 3 }) (i := 4) (x := .int .i64 3) O hp (by omega) (by simp [Pr.cells]) hok
  have O3 := own_put (p := { p with state := 3 }) (p' := { p with state := 3, status := st }) (i := 41) (x := .int .i64 st) O2 (List.getElem?_set_self hj) (by omega) (by simp [Pr.cells, hal]) hok
  rw [List.set_set] at O3
  have O4 := own_put (p := { p with state := 3, status := st }) (p' := endP st p) (i := 7) (x := .int .u64 0) O3 (List.getElem?_set_self hj) (by omega) (by simp [Pr.cells, endP]) hok
  rw [List.set_set] at O4
  have O4 := Lib.hid O4
  have hne : m ≠ G := by omega
  have hm0 : m < w0.heap.size := hB.out.lt
  have HW := Lib.hid hwd
  clear O hp hat hok O2 O3 hwd hal
  show Calls Tryz.prog _ #[.pointer (some ⟨G, j * 43, none⟩), .pointer (some ⟨m, 0, none⟩)] w0 _
  go_enter Tryz.func75, Tryz.ntmps75
  refine wp_region_held_drew (S := fun w' => Mod (fun k => k = G) w0 w') (by kernel_rfl) (Mod.of_ext (Ext.drew (Ext.refl _))) (fun hHeld => ?_)
  rw [← HW.out] at hHeld ⊢
  (refine wpAnyH_take (i := 0) (v := ?_) rfl (by kernel_rfl) (by kernel_rfl) (by kernel_rfl) (fun _ _ _ h => h) (Or.inl ⟨by rfl, ?_⟩) (by assumption) ?_; rotate_left; (focus (intro w' hSw; go_simp; try with_reducible rfl)); (try simp only [List.getElem_toArray]); (try simp only [List.getElem_cons_succ]); (try simp only [List.getElem_cons_zero]); (try simp only [Act.put]); (try simp only [List.setIfInBounds_toArray]); (try simp only [List.set_cons_succ]); (try simp only [List.set_cons_zero]))
  (refine wpAnyH_take (i := 1) (v := ?_) rfl (by kernel_rfl) (by kernel_rfl) (by kernel_rfl) (fun _ _ _ h => h) (Or.inl ⟨by rfl, ?_⟩) (by assumption) ?_; rotate_left; (focus (intro w' hSw; go_simp; try with_reducible rfl)); (try simp only [List.getElem_toArray]); (try simp only [List.getElem_cons_succ]); (try simp only [List.getElem_cons_zero]); (try simp only [Act.put]); (try simp only [List.setIfInBounds_toArray]); (try simp only [List.set_cons_succ]); (try simp only [List.set_cons_zero]))
  (refine wpAnyH_take (i := 2) (v := ?_) rfl (by kernel_rfl) (by kernel_rfl) (by kernel_rfl) (fun _ _ _ h => h) (Or.inl ⟨by rfl, ?_⟩) (by assumption) ?_; rotate_left; (focus (intro w' hSw; go_simp; try with_reducible rfl)); (try simp only [List.getElem_toArray]); (try simp only [List.getElem_cons_succ]); (try simp only [List.getElem_cons_zero]); (try simp only [Act.put]); (try simp only [List.setIfInBounds_toArray]); (try simp only [List.set_cons_succ]); (try simp only [List.set_cons_zero]))
  (refine wpAnyH_take (i := 3) (v := ?_) rfl (by kernel_rfl) (by kernel_rfl) (by kernel_rfl) (fun _ _ _ h => h) (Or.inl ⟨by rfl, ?_⟩) (by assumption) ?_; rotate_left; (focus (intro w' hSw; have kc := (hB.out.mod hSw hne).cell0; go_simp; try with_reducible rfl)); (try simp only [List.getElem_toArray]); (try simp only [List.getElem_cons_succ]); (try simp only [List.getElem_cons_zero]); (try simp only [Act.put]); (try simp only [List.setIfInBounds_toArray]); (try simp only [List.set_cons_succ]); (try simp only [List.set_cons_zero]))
  (refine wpAnyH_take (i := 4) (v := ?_) rfl (by kernel_rfl) (by kernel_rfl) (by kernel_rfl) (fun _ _ _ h => h) (Or.inl ⟨by rfl, ?_⟩) (by assumption) ?_; rotate_left; (focus (intro w' hSw; go_simp; try with_reducible rfl)); (try simp only [List.getElem_toArray]); (try simp only [List.getElem_cons_succ]); (try simp only [List.getElem_cons_zero]); (try simp only [Act.put]); (try simp only [List.setIfInBounds_toArray]); (try simp only [List.set_cons_succ]); (try simp only [List.set_cons_zero]))
  (refine wpAnyH_take (i := 5) (v := ?_) rfl (by kernel_rfl) (by kernel_rfl) (by kernel_rfl) (fun _ _ _ h => h) (Or.inl ⟨by rfl, ?_⟩) (by assumption) ?_; rotate_left; (focus (intro w' hSw; go_simp; try with_reducible rfl)); (try simp only [List.getElem_toArray]); (try simp only [List.getElem_cons_succ]); (try simp only [List.getElem_cons_zero]); (try simp only [Act.put]); (try simp only [List.setIfInBounds_toArray]); (try simp only [List.set_cons_succ]); (try simp only [List.set_cons_zero]))
  (refine wpAnyH_ready (rs := [6]) (by kernel_rfl) (by simp) ?_; refine AllReadyH.cons rfl (fun K hK => ?_) AllReadyH.nil; go_simp; refine hK.out _ _ ((Mod.of_ext Ed).set1 _) (fun hHeld => ?_); clear hK K; (try simp only [Act.put]); (try simp only [List.getElem_toArray]); (try simp only [List.getElem_cons_succ]); (try simp only [List.getElem_cons_zero]); (try simp only [List.setIfInBounds_toArray]); (try simp only [List.set_cons_succ]); (try simp only [List.set_cons_zero]))
  (refine wpAnyH_take (i := 7) (v := ?_) rfl (by kernel_rfl) (by kernel_rfl) (by kernel_rfl) (fun _ _ _ h => h) (Or.inl ⟨by rfl, ?_⟩) (by assumption) ?_; rotate_left; (focus (intro w' hSw; go_simp; try with_reducible rfl)); (try simp only [List.getElem_toArray]); (try simp only [List.getElem_cons_succ]); (try simp only [List.getElem_cons_zero]); (try simp only [Act.put]); (try simp only [List.setIfInBounds_toArray]); (try simp only [List.set_cons_succ]); (try simp only [List.set_cons_zero]))
  (refine wpAnyH_take (i := 8) (v := ?_) rfl (by kernel_rfl) (by kernel_rfl) (by kernel_rfl) (fun _ _ _ h => h) (Or.inl ⟨by rfl, ?_⟩) (by assumption) ?_; rotate_left; (focus (intro w' hSw; go_simp; try with_reducible rfl)); (try simp only [List.getElem_toArray]); (try simp only [List.getElem_cons_succ]); (try simp only [List.getElem_cons_zero]); (try simp only [Act.put]); (try simp only [List.setIfInBounds_toArray]); (try simp only [List.set_cons_succ]); (try simp only [List.set_cons_zero]))
  (refine wpAnyH_ready (rs := [9]) (by kernel_rfl) (by simp) ?_; refine AllReadyH.cons rfl (fun K hK => ?_) AllReadyH.nil; go_simp; refine hK.out _ _ (((Mod.of_ext Ed).set1 _).set1 _) (fun hHeld => ?_); clear hK K; (try simp only [Act.put]); (try simp only [List.getElem_toArray]); (try simp only [List.getElem_cons_succ]); (try simp only [List.getElem_cons_zero]); (try simp only [List.setIfInBounds_toArray]); (try simp only [List.set_cons_succ]); (try simp only [List.set_cons_zero]))
  (refine wpAnyH_take (i := 10) (v := ?_) rfl (by kernel_rfl) (by kernel_rfl) (by kernel_rfl) (fun _ _ _ h => h) (Or.inl ⟨by rfl, ?_⟩) (by assumption) ?_; rotate_left; (focus (intro w' hSw; go_simp; try with_reducible rfl)); (try simp only [List.getElem_toArray]); (try simp only [List.getElem_cons_succ]); (try simp only [List.getElem_cons_zero]); (try simp only [Act.put]); (try simp only [List.setIfInBounds_toArray]); (try simp only [List.set_cons_succ]); (try simp only [List.set_cons_zero]))
  (refine wpAnyH_take (i := 11) (v := ?_) rfl (by kernel_rfl) (by kernel_rfl) (by kernel_rfl) (fun _ _ _ h => h) (Or.inl ⟨by rfl, ?_⟩) (by assumption) ?_; rotate_left; (focus (intro w' hSw; go_simp; try with_reducible rfl)); (try simp only [List.getElem_toArray]); (try simp only [List.getElem_cons_succ]); (try simp only [List.getElem_cons_zero]); (try simp only [Act.put]); (try simp only [List.setIfInBounds_toArray]); (try simp only [List.set_cons_succ]); (try simp only [List.set_cons_zero]))
  (refine wpAnyH_ready (rs := [12]) (by kernel_rfl) (by simp) ?_; refine AllReadyH.cons rfl (fun K hK => ?_) AllReadyH.nil; go_simp; refine hK.out _ _ ((((Mod.of_ext Ed).set1 _).set1 _).set1 _) (fun hHeld => ?_); clear hK K; (try simp only [Act.put]); (try simp only [List.getElem_toArray]); (try simp only [List.getElem_cons_succ]); (try simp only [List.getElem_cons_zero]); (try simp only [List.setIfInBounds_toArray]); (try simp only [List.set_cons_succ]); (try simp only [List.set_cons_zero]))
  refine wpAnyH_done (by kernel_rfl) ?_ _
  go_end0
  exact ⟨rfl, O4.out, hHeld⟩
end Go.Proofs.YteljobleojhgmaaGreat
namespace Go.Proofs.YteljobleojhgmaaGreat
open Go.RowKit Go.Kb

def idleL (l : List Pr) (p : Pr) : Bool :=
  !liveP p && match l.find? (fun q => q.pid == p.parent) with
    | none => true
    | some up => up.acts.getD 17 0 == 1
theorem enters_idle (args : Array Value) (w : World) : (callFunc 103 args).run Tryz.prog w = .ok (.enter 103 args) w := by kernel_rfl
set_option maxRecDepth 100000 in
set_option maxHeartbeats 800000 in
theorem idle_any {A : Nat → Prop} (Ad : Option Addr) (c : Nat) (l : List Pr) (nx : Int) (p : Pr) (w : World) (h : RdY Rp A w (.slice Ad l.length c) l) (hok : p.ok) :
    Calls Tryz.prog 103 #[tv Ad l.length c nx, .agg p.cells.toArray] w fun e w' => e = .returned (.bool (idleL l p)) ∧ Ext w w' := by
  have H := Lib.hid (rdy_pr (B := fun _ => False) h)
  obtain ⟨W, hW⟩ : ∃ W, W = (w.alloc (.cells #[.slice Ad l.length c, .int .i64 nx] 29)).alloc (.cells p.cells.toArray 42) := ⟨_, rfl⟩
  have hp := Lib.hid (show Blk W (w.heap.size + 1) 42 p.cells.toArray by rw [hW]; exact Blk.at_ _ _ (by simp))
  have hbox := Lib.hid (show Blk W w.heap.size 29 #[.slice Ad l.length c, .int .i64 nx] by rw [hW]; exact (Blk.new w _ _).alloc _)
  have E0 : Ext w W := by rw [hW]; exact (by repeat (first | with_reducible exact Ext.refl _ | refine Ext.drewN ?_ _ | refine Ext.drew ?_ | refine Ext.alloc ?_ _ | assumption | (refine Below.trans ?_ (by assumption)) | (refine Ext.trans ?_ (by assumption)) | (refine Below.trans ?_ (Below.mono (by assumption) (by omega)))))
  have HW := Lib.hid hW
  clear h hW
  go_enter Tryz.func103, Tryz.ntmps103
  go_wp2_with (first | (refine wpList_load_row rfl 42 _ rfl _ rfl 42 _ _ _ (by rw [← HW.out]; exact hp.out) Tryz.underlying42 rfl (by rw [List.size_toArray]; exact i43' hok) ?_) | fail)
  rw [← HW.out]
  refine (lives_any p W hok).mono ?_
  rintro e w1 ⟨rfl, E1⟩
  have hb1 := Lib.hid (hbox.out.ext E1)
  have hp1 := Lib.hid (hp.out.ext E1)
  have E01 : Ext w w1 := E0.trans E1
  cases hlv : liveP p
  · have HI : Hid (idleL l p = match l.find? (fun q => q.pid == p.parent) with | none => true | some up => up.acts.getD 17 0 == 1) := Lib.hid (by unfold idleL; rw [hlv]; rfl)
    clear hlv
    go_wp2
    refine wp_region_held_drew (S := fun w' => Ext w1 w') (by kernel_rfl) (Ext.drew (Ext.refl _)) (fun hHeld => ?_)
    (refine wpAnyH_take (i := 0) (v := ?_) rfl (by kernel_rfl) (by kernel_rfl) (by kernel_rfl) (fun _ _ _ h => h) (Or.inl ⟨by rfl, ?_⟩) (by assumption) ?_; rotate_left; (focus (intro w' hSw; have kc := (hb1.out.ext hSw).two; go_simp; try with_reducible rfl)); (try simp only [List.getElem_toArray]); (try simp only [List.getElem_cons_succ]); (try simp only [List.getElem_cons_zero]); (try simp only [Act.put]); (try simp only [List.setIfInBounds_toArray]); (try simp only [List.set_cons_succ]); (try simp only [List.set_cons_zero]))
    (refine wpAnyH_take (i := 1) (v := ?_) rfl (by kernel_rfl) (by kernel_rfl) (by kernel_rfl) (fun _ _ _ h => h) (Or.inl ⟨by rfl, ?_⟩) (by assumption) ?_; rotate_left; (focus (intro w' hSw; go_simp; try with_reducible rfl)); (try simp only [List.getElem_toArray]); (try simp only [List.getElem_cons_succ]); (try simp only [List.getElem_cons_zero]); (try simp only [Act.put]); (try simp only [List.setIfInBounds_toArray]); (try simp only [List.set_cons_succ]); (try simp only [List.set_cons_zero]))
    (refine wpAnyH_take (i := 2) (v := ?_) rfl (by kernel_rfl) (by kernel_rfl) (by kernel_rfl) (fun _ _ _ h => h) (Or.inl ⟨by rfl, ?_⟩) (by assumption) ?_; rotate_left; (focus (intro w' hSw; have kc := (prAt_blk hok (hp1.out.ext hSw)).c1; go_simp; try with_reducible rfl)); (try simp only [List.getElem_toArray]); (try simp only [List.getElem_cons_succ]); (try simp only [List.getElem_cons_zero]); (try simp only [Act.put]); (try simp only [List.setIfInBounds_toArray]); (try simp only [List.set_cons_succ]); (try simp only [List.set_cons_zero]))
    (refine wpAnyH_ready (rs := [3]) (by kernel_rfl) (by simp) ?_; refine AllReadyH.cons rfl (fun K hK => ?_) AllReadyH.nil; go_simp; go_at_call 44; refine (is_any p.parent _).mono ?_; rintro e w2 ⟨n2, rfl, F2, E2⟩; (try dsimp only); refine hK.out _ _ (by repeat (first | with_reducible exact Ext.refl _ | refine Ext.drewN ?_ _ | refine Ext.drew ?_ | refine Ext.alloc ?_ _ | assumption | (refine Below.trans ?_ (by assumption)) | (refine Ext.trans ?_ (by assumption)) | (refine Below.trans ?_ (Below.mono (by assumption) (by omega))))) (fun hHeld => ?_); clear hK K; (try simp only [Act.put]); (try simp only [List.getElem_toArray]); (try simp only [List.getElem_cons_succ]); (try simp only [List.getElem_cons_zero]); (try simp only [List.setIfInBounds_toArray]); (try simp only [List.set_cons_succ]); (try simp only [List.set_cons_zero]))
    have E12 : Ext w1 w2 := by assumption
    have hfind := find_any Ad c l nx w2 (H.out.ext (E01.trans E12)) F2
    (refine wpAnyH_ready (rs := [4]) (by kernel_rfl) (by simp) ?_; refine AllReadyH.cons rfl (fun K hK => ?_) AllReadyH.nil; go_simp; go_at_call 34; refine (hfind).mono ?_; rintro e w4 ⟨E4, (⟨hx, m0, rfl, hm0, hz⟩ | ⟨j, b, off, hx, hlt, rfl, rfl⟩)⟩; all_goals ((try dsimp only); refine hK.out _ _ (by repeat (first | with_reducible exact Ext.refl _ | refine Ext.drewN ?_ _ | refine Ext.drew ?_ | refine Ext.alloc ?_ _ | assumption | (refine Below.trans ?_ (by assumption)) | (refine Ext.trans ?_ (by assumption)) | (refine Below.trans ?_ (Below.mono (by assumption) (by omega))))) (fun hHeld => ?_); clear hK K; (try simp only [Act.put]); (try simp only [List.getElem_toArray]); (try simp only [List.getElem_cons_succ]); (try simp only [List.getElem_cons_zero]); (try simp only [List.setIfInBounds_toArray]); (try simp only [List.set_cons_succ]); (try simp only [List.set_cons_zero])))
    all_goals
      (refine wpAnyH_take (i := 5) (v := ?_) rfl (by kernel_rfl) (by kernel_rfl) (by kernel_rfl) (fun _ _ _ h => h) (Or.inl ⟨by rfl, ?_⟩) (by assumption) ?_; rotate_left; (focus (intro w' hSw; go_simp; try with_reducible rfl)); (try simp only [List.getElem_toArray]); (try simp only [List.getElem_cons_succ]); (try simp only [List.getElem_cons_zero]); (try simp only [Act.put]); (try simp only [List.setIfInBounds_toArray]); (try simp only [List.set_cons_succ]); (try simp only [List.set_cons_zero]))
      (refine wpAnyH_take (i := 6) (v := ?_) rfl (by kernel_rfl) (by kernel_rfl) (by kernel_rfl) (fun _ _ _ h => h) (Or.inl ⟨by rfl, ?_⟩) (by assumption) ?_; rotate_left; (focus (intro w' hSw; go_simp; try with_reducible rfl)); (try simp only [List.getElem_toArray]); (try simp only [List.getElem_cons_succ]); (try simp only [List.getElem_cons_zero]); (try simp only [Act.put]); (try simp only [List.setIfInBounds_toArray]); (try simp only [List.set_cons_succ]); (try simp only [List.set_cons_zero]))
      (refine wpAnyH_take (i := 7) (v := ?_) rfl (by kernel_rfl) (by kernel_rfl) (by kernel_rfl) (fun _ _ _ h => h) (Or.inl ⟨by rfl, ?_⟩) (by assumption) ?_; rotate_left; (focus (intro w' hSw; go_simp; try with_reducible rfl)); (try simp only [List.getElem_toArray]); (try simp only [List.getElem_cons_succ]); (try simp only [List.getElem_cons_zero]); (try simp only [Act.put]); (try simp only [List.setIfInBounds_toArray]); (try simp only [List.set_cons_succ]); (try simp only [List.set_cons_zero]))
      (refine wpAnyH_take (i := 8) (v := ?_) rfl (by kernel_rfl) (by kernel_rfl) (by kernel_rfl) (fun _ _ _ h => h) (Or.inl ⟨by rfl, ?_⟩) (by assumption) ?_; rotate_left; (focus (intro w' hSw; go_simp; try with_reducible rfl)); (try simp only [List.getElem_toArray]); (try simp only [List.getElem_cons_succ]); (try simp only [List.getElem_cons_zero]); (try simp only [Act.put]); (try simp only [List.setIfInBounds_toArray]); (try simp only [List.set_cons_succ]); (try simp only [List.set_cons_zero]))
      (refine wpAnyH_take (i := 9) (v := ?_) rfl (by kernel_rfl) (by kernel_rfl) (by kernel_rfl) (fun _ _ _ h => h) (Or.inl ⟨by rfl, ?_⟩) (by assumption) ?_; rotate_left; (focus (intro w' hSw; go_simp; try with_reducible rfl)); (try simp only [List.getElem_toArray]); (try simp only [List.getElem_cons_succ]); (try simp only [List.getElem_cons_zero]); (try simp only [Act.put]); (try simp only [List.setIfInBounds_toArray]); (try simp only [List.set_cons_succ]); (try simp only [List.set_cons_zero]))
      refine wpAnyH_done (by kernel_rfl) ?_ _
      have E14 : Ext w1 w4 := E12.trans E4
      have E04 : Ext w w4 := E01.trans E14
      obtain ⟨h1, h2⟩ | ⟨j', q, h1, h2, h3, h4, h5⟩ := idx_any (f := fun q => q.pid == p.parent) (l := l)
    · have hg : idleL l p = true := by
        rw [HI.out]
        have : l.find? (fun q => q.pid == p.parent) = none := by rw [List.find?_eq_none]; rw [List.any_eq_false] at h2; exact h2
        rw [this]
      have HG := Lib.hid hg
      clear h1 h2 hx hg hz
      go_wp2
      go_ret
      exact ⟨by rw [HG.out]; rfl, E04⟩
    · rw [h1] at hx; omega
    · rw [h1] at hx; omega
    · obtain rfl : j' = j := by rw [h1] at hx; omega
      obtain ⟨b', off', p', hAd, hd, hok', hcell⟩ := pr_at (H.out.ext E04) hlt
      simp only [Option.some.injEq, Addr.mk.injEq, and_true] at hAd
      obtain ⟨rfl, rfl⟩ := hAd
      obtain rfl : p' = q := by have := hd.out; rw [h2] at this; exact (Option.some.inj this).symm
      have hl17 : 17 < p'.acts.length := by rw [show p'.acts.length = 32 from hok']; omega
      have hg : idleL l p = (p'.acts[17] == 1) := by rw [HI.out, h5]; simp [hl17]
      have c26 := (prAt_of hok' hcell.out).ca 17 p'.acts[17] (List.getElem?_eq_getElem hl17)
      have c26' : w4.cell? ⟨b, off + j' * 43 + 26, none⟩ = some (.int .i64 p'.acts[17]) := c26
      generalize p'.acts[17] = x at *
      have HG := Lib.hid hg
      clear h1 h2 h3 h4 h5 hx hg hd hl17
      go_wp2
      go_ret
      exact ⟨by rw [HG.out]; rfl, E04⟩
  · have HI : Hid (idleL l p = false) := Lib.hid (by unfold idleL; rw [hlv]; rfl)
    clear hlv
    go_wp2
    go_ret
    exact ⟨by rw [HI.out]; rfl, E01⟩
theorem asks_idle {A : Nat → Prop} {Ad : Option Addr} {c : Nat} {l : List Pr} {nx : Int} {w : World} (h : RdY Rp A w (.slice Ad l.length c) l) : Asks 103 #[tv Ad l.length c nx] #[] (idleL l) w :=
  ⟨enters_idle, fun p w' hp hE => idle_any Ad c l nx p w' (RdY.ext (rdy_pr (B := fun _ => False) h) hE) hp⟩
end Go.Proofs.YteljobleojhgmaaGreat
namespace Go.Proofs.YteljobleojhgmaaGreat
open Go.RowKit Go.Kb

/-- clear, of elements of many cells -/
theorem run_clear_row {P : Program} (w : World) (t e ty : TypeId) (z : Value) (ht : P.underlying t = some (.slice e)) (hv : ∀ w, (zeroValue e).run P w = .ok z w) (b o n c : Nat) (hn : 0 < n) (L : List Value) (hL : (Builtin.zeroCells z.cells n).toList = L) (h1 : ∀ u ∈ L, u.oneCell' = true)
    (hc : ∀ j, j < L.length → (w.cell? ⟨b, o + j, none⟩).isSome = true) (hf : ∀ j, j < L.length → w.frozen? ⟨b, o + j, none⟩ = false) :
    (Builtin.clear_ #[t] ty #[.slice (some ⟨b, o, none⟩) n c]).run P w = .ok (.tuple #[]) (w.setCells b o L) := by
  have hst := run_storeCells_cells (P := P) b o L 0 w (by simpa using hc) (by simpa using hf) h1
  simp only [Nat.add_zero] at hst
  obtain ⟨m, rfl⟩ : ∃ m, n = m + 1 := ⟨n - 1, by omega⟩
  simp [Builtin.clear_, run_underlying ht, hv, hL, hst]
set_option maxRecDepth 100000 in
theorem zero_one : (Builtin.zeroCells (Value.agg zeroP.cells.toArray).cells 1).toList = zeroP.cells := by kernel_rfl
set_option maxRecDepth 100000 in
set_option maxHeartbeats 800000 in
theorem delete_any {base : Nat} (g c n i : Nat) (l : List Pr) (w : World) (h : OwnS Rp 42 base (fun _ => False) w (.slice (some ⟨g, 0, none⟩) n c) l) (hi : i < n) (hn : n ≤ 100000) :
    Calls Tryz.prog 104 #[.slice (some ⟨g, 0, none⟩) n c, .int .i64 i, .int .i64 (i + 1 : Nat)] w fun e w' => e = .returned (.slice (some ⟨g, 0, none⟩) (n - 1) c) ∧ OwnS Rp 42 base (fun _ => False) w' (.slice (some ⟨g, 0, none⟩) (n - 1) c) (l.eraseIdx i) ∧ Mod (fun k => k = g) w w' := by
  have H := Lib.hid h
  obtain ⟨us, ho, he⟩ := h
  have hln := own_len ho
  obtain ⟨hul, ⟨hv, _⟩ | ⟨g', cap, cur, hv, hb0, hb, hcap, hmax, hcs, htk⟩⟩ := ho
  · cases hv
  cases hv
  clear hln
  obtain ⟨n, hN⟩ : ∃ n, l.length = n := ⟨_, rfl⟩
  obtain ⟨i0, hi0, hz0, hz1, hz2⟩ := info_parts info_pr
  have hz1 : i0.size = 43 := hz1
  obtain ⟨m, hm⟩ : ∃ m, l.length - (i + 1) = m := ⟨_, rfl⟩
  obtain ⟨news, hnews⟩ : ∃ news, news = us.drop ((i + 1) * 43) := ⟨_, rfl⟩
  have hul : us.length = l.length * 43 := hul
  have hcs : cur.size = c * 43 := hcs
  have htk : List.take (l.length * 43) cur.toList = us := htk
  have hl : news.length = m * 43 := by rw [hnews, List.length_drop, hul, ← hm]; omega
  have hb : Blk w g 42 cur := hb
  have hcell : ∀ j u, us[j]? = some u → w.cell? ⟨g, j, none⟩ = some u := by
    intro j u hu
    have hj := (List.getElem?_eq_some_iff.1 hu).1
    rw [hb.cell, ← Array.getElem?_toList, ← hu, ← htk, List.getElem?_take, if_pos (by rw [← hul]; exact hj)]
  have hsrc : Hid (∀ j u, news[j]? = some u → w.drew.cell? ⟨g, (i + 1) * 43 + j, none⟩ = some u) := Lib.hid fun j u hu => by
    rw [hnews, List.getElem?_drop] at hu
    exact hcell _ u hu
  have s2 : Hid (∀ u ∈ news, u.oneCell' = true) := fun u hu => he.one u (by rw [hnews] at hu; exact List.mem_of_mem_drop hu)
  have s3 : Hid (∀ t, t < news.length → (w.drew.cell? ⟨g, 0 + i * 43 + t, none⟩).isSome = true ∧ w.drew.frozen? ⟨g, 0 + i * 43 + t, none⟩ = false) := by
    intro t ht
    refine ⟨?_, hb.frozen _⟩
    show (w.cell? _).isSome = true
    rw [hb.cell]
    simp
    omega
  obtain ⟨W1, hW1⟩ : ∃ W1, W1 = w.drew.setCells g (0 + i * 43) news := ⟨_, rfl⟩
  have hB1 : Blk W1 g 42 (cur.toList.take (0 + i * 43) ++ news ++ cur.toList.drop (0 + i * 43 + news.length)).toArray := by
    rw [hW1]
    exact Blk.setCells news (0 + i * 43) w.drew cur hb (by omega)
  have hM1 : Mod (fun k => k = g) w W1 := by rw [hW1]; exact Mod.setCells _ _ _ _ (by exact (by repeat (first | with_reducible exact Mod.refl _ _ | refine Mod.drew ?_ | refine Mod.drewN ?_ _ | refine Mod.set1 ?_ _)))
  obtain ⟨A, hA, hsA⟩ : ∃ A : Addr, (if c = i + 1 then (some ⟨g, 0, none⟩ : Option Addr) else some ⟨g, (i + 1) * 43, none⟩) = some A ∧ Hid (∀ j u, news[j]? = some u → w.drew.cell? (A.add j) = some u) := by
    by_cases h : c = i + 1
    · refine ⟨_, if_pos h, fun j u hu => ?_⟩
      have := (List.getElem?_eq_some_iff.1 hu).1
      omega
    · exact ⟨_, if_neg h, fun j u hu => by rw [Addr.add_lit]; exact hsrc.out j u hu⟩
  have hN : l.length = i + m + 1 := by omega
  have hsz : (cur.toList.take (0 + i * 43) ++ news ++ cur.toList.drop (0 + i * 43 + news.length)).length = cur.size := by simp [hl]; omega
  have hz := fun ty => run_clear_row W1 27 42 ty (.agg zeroP.cells.toArray) Tryz.underlying27 (fun w => by simp [zeroValue, typeInfo, hi0, hz0]) g ((i + m) * 43) 1 (c - (i + m)) (by omega) zeroP.cells zero_one (Rp.one (A := fun _ => True) (w := w) (d := zeroP) ⟨rfl, rfl⟩)
    (fun t ht => by
      have ht : t < 43 := ht
      rw [hB1.cell, ← Array.getElem?_toList]
      rw [List.getElem?_eq_getElem (by simp only [hsz, hcs]; omega)]
      rfl) (fun t _ => hB1.frozen _)
  have hW := Lib.hid hW1
  have HB := Lib.hid hB1
  have HM := Lib.hid hM1
  have HE := Lib.hid he
  have HU := Lib.hid hnews
  have HC := Lib.hid htk
  have HS := Lib.hid hsz
  have HL := Lib.hid hl
  have HK := Lib.hid hcs
  have HN := Lib.hid hN
  have HUL := Lib.hid hul
  rw [hN] at hcap hn hi ⊢
  have i1 : i ≤ i + m + 1 := by omega
  have i2 : i + 1 ≤ i + m + 1 := by omega
  have i3 : i ≤ c := by omega
  have i4 : i + m ≤ c := by omega
  have i5 : (0 : Int) ≤ (i : Int) + 1 := by omega
  have i6 : (i : Int) ≤ (i : Int) + (m : Int) := by omega
  have i7 : (0 : Int) ≤ (i : Int) + (m : Int) := by omega
  have i8 : (0 : Int) ≤ (i : Int) + (m : Int) + 1 := by omega
  have i9 : (i : Int) + (m : Int) + 1 ≤ (c : Int) := by omega
  clear hW1 hB1 hM1 he hnews hcell hb htk hsz hN hcs hl hul hsrc H
  go_enter Tryz.func104, Tryz.ntmps104
  go_wp2_with fail
  go_region_law (refine step_append_room rfl (.tmp 22) (.tmp 25) 27 rfl 42 i0 43 Tryz.underlying27 hi0 hz1 g 0 i c (by simp [Act.eval, Act.put]; trace_state) A m (c - (i + 1)) news (by simp [Act.eval, Act.put]; trace_state) HL.out hsA.out s2.out (by omega) s3.out ?_; rw [← hW.out])
  go_wp2
  go_ret
  have hl : news.length = m * 43 := HL.out
  have hcs : cur.size = c * 43 := HK.out
  have hs1 := HS.out
  have hN := HN.out
  have hle : (l.eraseIdx i).length = i + m := by rw [List.length_eraseIdx]; split <;> omega
  have hus : us.take (i * 43) = cur.toList.take (0 + i * 43) := by rw [← HC.out, List.take_take, Nat.min_eq_left (by omega), Nat.zero_add]
  have htl : (cur.toList.take (0 + i * 43)).length = i * 43 := by simp; omega
  have hB1 := HB.out
  obtain ⟨R, hR⟩ : ∃ R, cur.toList.drop (0 + i * 43 + news.length) = R := ⟨_, rfl⟩
  rw [hR] at hB1 hs1
  obtain ⟨L1, hL1⟩ : ∃ L1, cur.toList.take (0 + i * 43) ++ news ++ R = L1 := ⟨_, rfl⟩
  rw [hL1] at hB1 hs1
  have ht1 : L1.take ((i + m) * 43) = us.take (i * 43) ++ news := by
    rw [← hL1, hus]
    exact List.take_left' (by rw [List.length_append, htl, hl]; omega)
  have hB2 := Blk.setCells zeroP.cells ((i + m) * 43) W1 _ hB1 (by rw [List.size_toArray, hs1, hcs]; show _ + 43 ≤ _; omega)
  have hM2 : Mod (fun k => k = g) w (W1.setCells g ((i + m) * 43) zeroP.cells) := Mod.setCells _ _ _ _ HM.out
  have hto : (L1.toArray.toList.take ((i + m) * 43)).length = (i + m) * 43 := by
    rw [List.length_take]
    show min _ L1.length = _
    omega
  refine ⟨by first | rfl | simp, ⟨us.take (i * 43) ++ news, ⟨?_, .inr ⟨g, c, _, by rw [hle]; rfl, hb0, hB2, by omega, hmax, ?_, ?_⟩⟩, ?_⟩, hM2⟩
  · rw [hle, hus, List.length_append, htl, hl]
    show _ = (i + m) * 43
    omega
  · rw [List.size_toArray, List.length_append, List.length_append, hto, List.length_drop]
    show (i + m) * 43 + 43 + (L1.length - ((i + m) * 43 + 43)) = c * 43
    omega
  · rw [hle, ← ht1]
    show ((L1.take ((i + m) * 43) ++ zeroP.cells) ++ _).take ((i + m) * 43) = _
    rw [List.append_assoc]
    exact List.take_left' hto
  · have e1 := RdE.append (HE.out.take i (by omega)) (HE.out.drop (i + 1))
    have e2 : us.drop ((i + 1) * Rp.size) = news := HU.out.symm
    rw [e2, ← List.eraseIdx_eq_take_drop_succ] at e1
    exact RdE.keep e1 fun k _ hk => hk.1.elim
end Go.Proofs.YteljobleojhgmaaGreat
