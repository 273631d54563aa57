/- Fork, without the document: walked; the law answers true. Conditions: the processes' numbers fit. -/
import Derived.Test.YtmpmnikgbepphaaPA20
namespace Go.Proofs.Ytmpmnikgbepphaa
open Go.RowKit Go.Kb

theorem next64 (nx : Int) : wrap64 (nx + 1) = nextNo nx := by unfold nextNo wrap64 IntKind.wrap; simp [IntKind.signed, IntKind.bits]; omega
theorem ask_one {l : List Pr} {nx pid : Int} : (askL l nx [pid] = 0 ∧ liveL l nx pid = true) ∨ (askL l nx [pid] ≠ 0 ∧ askL l nx [pid] ≠ 10 ∧ liveL l nx pid = false) := by
  unfold askL
  cases hr : rightL l nx
  · exact .inr ⟨by simp, by simp, by unfold liveL; rw [hr]; rfl⟩
  · cases hl : liveL l nx pid
    · refine .inr ⟨?_, ?_, rfl⟩ <;> simp [hl]
    · exact .inl ⟨by simp [hl], rfl⟩
theorem fork_cases {l : List Pr} {nx pid prog : Int} {Ad : Option Addr} {c : Nat} {w w' : World} {e : Ending} (h : ForkPost l nx pid prog Ad c w e w') :
    Ext w w' ∧ ((∃ e1 : Int, (e1 == 0) = false ∧ (e1 == 10) = (liveL l nx pid && ((l.length : Int) == 32)) ∧ e = .returned (.tuple #[tv Ad l.length c nx, .int .i64 0, .int .i64 e1])) ∨
      ∃ p A' c', p ∈ l ∧ getL l nx pid = (p, true) ∧ l.length < 32 ∧ e = .returned (.tuple #[tv A' (l.length + 1) c' (nextNo nx), .int .i64 nx, .int .i64 0]) ∧ OwnS Rp 43 w.heap.size (fun _ => False) w' (.slice A' (l.length + 1) c') (l ++ [(forkP p pid prog).newAs nx])) := by
  rcases h with ⟨h1, hE, rfl⟩ | ⟨h1, hE, ⟨h32, rfl⟩ | ⟨h32, A', c', rfl, O⟩⟩
  · refine ⟨hE, .inl ⟨_, by simpa using h1, ?_, rfl⟩⟩
    rcases ask_one (l := l) (nx := nx) (pid := pid) with ⟨h2, _⟩ | ⟨_, h2, h3⟩
    · exact absurd h2 h1
    · rw [h3]; simpa using h2
  · refine ⟨hE, .inl ⟨10, rfl, ?_, rfl⟩⟩
    rcases ask_one (l := l) (nx := nx) (pid := pid) with ⟨_, h2⟩ | ⟨h2, _, _⟩
    · rw [h2]; simp [h32]
    · exact absurd h1 h2
  · obtain ⟨hr, p, hg, hp, _⟩ := askL_live h1
    have hl := (right_len hr).1
    rw [hg] at O
    exact ⟨hE, .inr ⟨p, A', c', hp, hg, by omega, rfl, O⟩⟩
set_option maxRecDepth 100000 in
theorem tpr_aeql {p : Pr} (h : p.ok) (hw : p.wf) (w : World) : (Op.equalIn 10000 41 (.agg (p.acts.map (Value.int .i64)).toArray) (.agg (p.acts.map (Value.int .i64)).toArray)).run Try.prog w = .ok true w := by
  have hk : Try.prog.keyTypeAt 2 41 = true := by kernel_rfl
  have cT : Try.prog.cellsOf 41 = 32 := by kernel_rfl
  have h32 : p.acts.length = 32 := h
  have wa := hw.2.2.2.2.2.2.2.2.2.1
  have hf : (Value.agg (p.acts.map (Value.int .i64)).toArray).formed Try.prog 41 = true := by
    simp [Value.formed, Try.underlying41, h32, cT]
  obtain ⟨r, hr, hiff⟩ := run_equalIn_deep (P := Try.prog) 9998 2 41 hk w 2 2 _ _ (p.acts.map (Lit.int .i64)) (p.acts.map (Lit.int .i64)) hf hf (tpr_acts h32 wa 0) (tpr_acts h32 wa 0)
  rw [hr]
  congr 1
  exact hiff.2 rfl
theorem tpr_aguard : Try.prog.eqGuardType Try.prog.depth 41 = false := by kernel_rfl
set_option maxRecDepth 100000 in
set_option maxHeartbeats 30000000 in
theorem tableForks_walk {A : Nat → Prop} (Ad : Option Addr) (c : Nat) (l : List Pr) (nx pid prog : Int) (w : World) (h : RdY Rp A w (.slice Ad l.length c) l) (hw : ∀ p ∈ l, p.wf) :
    Calls Try.prog 4 #[tv Ad l.length c nx, .int .i64 pid, .int .i64 prog] w fun e w' => e = .returned (.bool true) ∧ Ext w w' := by
  have H := Lib.hid (rdy_pr (B := fun _ => False) h)
  have hoks := Lib.hid (RdY.oks h)
  have HWF := Lib.hid hw
  obtain ⟨N, hN⟩ : ∃ N, l.length = N := ⟨_, rfl⟩
  rw [hN] at H ⊢
  have HN := Lib.hid hN
  have hbox := Lib.hid (Blk.new w 24 #[.slice Ad N c, .int .i64 nx])
  have E0 : Ext w (w.alloc (.cells #[.slice Ad N c, .int .i64 nx] 24)) := (by repeat (first | with_reducible exact Ext.refl _ | refine Ext.drewN ?_ _ | refine Ext.drew ?_ | refine Ext.alloc ?_ _ | assumption | (refine Below.trans ?_ (by assumption)) | (refine Ext.trans ?_ (by assumption)) | (refine Below.trans ?_ (Below.mono (by assumption) (by omega)))))
  have hgr := fun w => great_any Ad c l nx w
  rw [hN] at hgr
  have HGR := Lib.hid hgr
  clear h hw hN hgr
  go_enter Try.func4, Try.ntmps4
  go_wp2_with fail
  refine (alive_any _).mono ?_
  rintro e w1 ⟨rfl, E1⟩
  have hbox := Lib.hid (hbox.out.ext E1)
  have E01 : Ext w w1 := E0.trans E1
  clear E0 E1
  have kb := hbox.out.two
  go_wp2_with fail
  refine (HGR.out _).mono ?_
  rintro e w2 ⟨rfl, E2⟩
  have hbox := Lib.hid (hbox.out.ext E2)
  have E02 := E01.trans E2
  have kb := hbox.out.two
  clear E01 E2
  by_cases hg : 60 < N
  · have hg2 : decide (60 < N) = true := decide_eq_true hg
    rw [hg2]
    clear hg
    go_wp2
    go_ret
    exact ⟨rfl, E02⟩
  have hg2 : decide (60 < N) = false := decide_eq_false hg
  rw [hg2]
  clear hg2
  have HG := Lib.hid hg
  have href := fun w h => ref_any (A := fun _ => False) Ad c l nx w h (by rw [HN.out]; have := HG.out; omega)
  have hto := fun A1 c1 w h => to_any (A := fun _ => False) A1 c1 l nx w h (by rw [HN.out]; have := HG.out; omega)
  have hfrom := fun A1 c1 w h => from_any (A := fun _ => False) A1 c1 l nx w h (by rw [HN.out]; have := HG.out; omega)
  rw [HN.out] at href hto hfrom
  have HREF := Lib.hid href
  have HTO := Lib.hid hto
  have HFROM := Lib.hid hfrom
  clear hg href hto hfrom
  go_wp2_with fail
  refine (HREF.out _ (H.out.ext E02)).mono ?_
  rintro e w3 ⟨A3, c3, rfl, O3, E3⟩
  go_wp2_with fail
  refine (HTO.out A3 c3 _ (rdy_pr O3.y)).mono ?_
  rintro e w4 ⟨A4, c4, rfl, O4, E4⟩
  have E24 := E3.trans E4
  have E04 := E02.trans E24
  have hbox := Lib.hid (hbox.out.ext E24)
  clear O3 E3 E4 E24 kb
  obtain ⟨n7, hn7⟩ : ∃ n7, w4.heap.size = n7 := ⟨_, rfl⟩
  obtain ⟨W, hW⟩ : ∃ W, W = w4.alloc (.cells #[.slice A4 N c4, .int .i64 nx] 29) := ⟨_, rfl⟩
  have B7 := Lib.hid (show Blk W n7 29 #[.slice A4 N c4, .int .i64 nx] by rw [hW]; exact Blk.at_ _ _ hn7)
  have EW : Ext w4 W := by rw [hW]; exact (Ext.refl _).alloc _
  have RT := Lib.hid (rdy_pr (B := fun _ => False) (O4.ext EW).y)
  have hbox := Lib.hid (hbox.out.ext EW)
  have E0W := E04.trans EW
  have HW := Lib.hid hW
  have HN7 := Lib.hid hn7
  have hfork := fork_any (A := fun _ => False) A4 c4 l nx pid prog W (by rw [HN.out]; exact RT.out)
  rw [HN.out] at hfork
  have HF := Lib.hid hfork
  clear hn7 hW hfork O4 EW E04
  go_wp2_with fail
  rw [HN7.out, ← HW.out]
  refine HF.out.mono ?_
  intro e w5 hp
  obtain ⟨E5, (⟨e1, h1, h2, rfl⟩ | ⟨p, A5, c5, hpl, hgl, h32, rfl, O5⟩)⟩ := fork_cases hp
  · have h1b : (e1 != 0) = true := by simp [bne, h1]
    rw [HN.out] at h2 ⊢
    obtain ⟨n8, hn8⟩ : ∃ n8, w5.heap.size = n8 := ⟨_, rfl⟩
    obtain ⟨W8, hW8⟩ : ∃ W8, W8 = w5.alloc (.cells #[.slice A4 N c4, .int .i64 nx] 29) := ⟨_, rfl⟩
    have B8 := Lib.hid (show Blk W8 n8 29 #[.slice A4 N c4, .int .i64 nx] by rw [hW8]; exact Blk.at_ _ _ hn8)
    have E8 : Ext W W8 := by rw [hW8]; exact E5.alloc _
    have HW8 := Lib.hid hW8
    have HN8 := Lib.hid hn8
    have kb := (B7.out.ext E5).two
    have kb8 := (B7.out.ext E8).two
    have hlive := live_any (A := fun _ => False) A4 c4 l nx pid W8 (by rw [HN.out]; exact RT.out.ext E8)
    rw [HN.out] at hlive
    have HL := Lib.hid hlive
    have HH := Lib.hid h2
    have HP1 := Lib.hid h1
    rw [hW8] at kb8
    clear hn8 hW8 hp h2 hlive h1
    go_wp2_with fail
    rw [HN8.out, ← HW8.out]
    refine HL.out.mono ?_
    rintro e w6 ⟨rfl, E6⟩
    have E76 := E8.trans E6
    have hb6 := Lib.hid (hbox.out.ext E76)
    have B6 := Lib.hid (B8.out.ext E6)
    have kb := (B7.out.ext E76).two
    have RT6 := Lib.hid (RT.out.ext E76)
    have H6 := Lib.hid (H.out.ext (E0W.trans E76))
    have E06 := E0W.trans E76
    have hcase : (liveL l nx pid = false ∧ (e1 == 10) = false) ∨ (liveL l nx pid = true ∧ ((N : Int) == 32) = true ∧ (e1 == 10) = true) ∨ (liveL l nx pid = true ∧ ((N : Int) == 32) = false ∧ (e1 == 10) = false) := by
      have h2 := HH.out
      cases hlv : liveL l nx pid
      · rw [hlv] at h2; exact .inl ⟨rfl, h2⟩
      · rw [hlv] at h2
        cases hN2 : ((N : Int) == 32)
        · rw [hN2] at h2; exact .inr (.inr ⟨rfl, rfl, h2⟩)
        · rw [hN2] at h2; exact .inr (.inl ⟨rfl, rfl, h2⟩)
    have hsame := fun Ad Bd c d w h g => same_any (A := fun _ => False) (B := fun _ => False) Ad Bd c d l nx w h g HWF.out
    rw [HN.out] at hsame
    have HSAME := Lib.hid hsame
    clear hsame HH E8 E6 E76 hbox B7 B8 E5
    rcases hcase with ⟨hlv, h10⟩ | ⟨hlv, h32, h10⟩ | ⟨hlv, h32, h10⟩
    all_goals
      rw [hlv]
      have HLV := Lib.hid hlv
      clear hlv
      go_wp2
      refine wp_region_held_drew (S := fun w' => Ext w6 w') (by kernel_rfl) (Ext.drew (Ext.refl _)) (fun hHeld => ?_)
      (refine wpAnyH_take (i := 0) (v := ?_) rfl (by kernel_rfl) (by kernel_rfl) (by kernel_rfl) (fun _ _ _ h => h) (Or.inl ⟨by rfl, ?_⟩) (by assumption) ?_; rotate_left; (focus (intro w' hSw; have kc := (B6.out.ext hSw).two; go_simp; try with_reducible rfl)); (try simp only [List.getElem_toArray]); (try simp only [List.getElem_cons_succ]); (try simp only [List.getElem_cons_zero]); (try simp only [Act.put]); (try simp only [List.setIfInBounds_toArray]); (try simp only [List.set_cons_succ]); (try simp only [List.set_cons_zero]))
      (refine wpAnyH_take (i := 2) (v := ?_) rfl (by kernel_rfl) (by kernel_rfl) (by kernel_rfl) (fun _ _ _ h => h) (Or.inl ⟨by rfl, ?_⟩) (by assumption) ?_; rotate_left; (focus (intro w' hSw; have kc := (hb6.out.ext hSw).two; go_simp; try with_reducible rfl)); (try simp only [List.getElem_toArray]); (try simp only [List.getElem_cons_succ]); (try simp only [List.getElem_cons_zero]); (try simp only [Act.put]); (try simp only [List.setIfInBounds_toArray]); (try simp only [List.set_cons_succ]); (try simp only [List.set_cons_zero]))
      (refine wpAnyH_ready (rs := [1]) (by kernel_rfl) (by simp) ?_; refine AllReadyH.cons rfl (fun K hK => ?_) AllReadyH.nil; go_simp; go_at_call 14; refine (HFROM.out A4 c4 _ (RT6.out.ext (Ext.drew (Ext.refl _)))).mono ?_; rintro e w9 ⟨A9, c9, rfl, O9, E9⟩; (try dsimp only); refine hK.out _ _ (Ext.trans (Ext.drew (Ext.refl w6)) E9) (fun hHeld => ?_); clear hK K; (try simp only [Act.put]); (try simp only [List.getElem_toArray]); (try simp only [List.getElem_cons_succ]); (try simp only [List.getElem_cons_zero]); (try simp only [List.setIfInBounds_toArray]); (try simp only [List.set_cons_succ]); (try simp only [List.set_cons_zero]))
      have E69 : Ext w6 w9 := (Ext.drew (Ext.refl w6)).trans E9
      (refine wpAnyH_ready (rs := [3]) (by kernel_rfl) (by simp) ?_; refine AllReadyH.cons rfl (fun K hK => ?_) AllReadyH.nil; go_simp; go_at_call 11; refine (HREF.out _ (H6.out.ext E69)).mono ?_; rintro e w10 ⟨A10, c10, rfl, O10, E10⟩; (try dsimp only); refine hK.out _ _ (E69.trans E10) (fun hHeld => ?_); clear hK K; (try simp only [Act.put]); (try simp only [List.getElem_toArray]); (try simp only [List.getElem_cons_succ]); (try simp only [List.getElem_cons_zero]); (try simp only [List.setIfInBounds_toArray]); (try simp only [List.set_cons_succ]); (try simp only [List.set_cons_zero]))
      (refine wpAnyH_ready (rs := [4]) (by kernel_rfl) (by simp) ?_; refine AllReadyH.cons rfl (fun K hK => ?_) AllReadyH.nil; go_simp; go_at_call 13; refine (HSAME.out _ _ _ _ _ (rdy_pr (O9.ext E10).y) (rdy_pr O10.y)).mono ?_; rintro e w11 ⟨rfl, E11⟩; (try dsimp only); refine hK.out _ _ ((E69.trans E10).trans E11) (fun hHeld => ?_); clear hK K; (try simp only [Act.put]); (try simp only [List.getElem_toArray]); (try simp only [List.getElem_cons_succ]); (try simp only [List.getElem_cons_zero]); (try simp only [List.setIfInBounds_toArray]); (try simp only [List.set_cons_succ]); (try simp only [List.set_cons_zero]))
      (refine wpAnyH_take (i := 5) (v := ?_) rfl (by kernel_rfl) (by kernel_rfl) (by kernel_rfl) (fun _ _ _ h => h) (Or.inl ⟨by rfl, ?_⟩) (by assumption) ?_; rotate_left; (focus (intro w' hSw; go_simp; try with_reducible rfl)); (try simp only [List.getElem_toArray]); (try simp only [List.getElem_cons_succ]); (try simp only [List.getElem_cons_zero]); (try simp only [Act.put]); (try simp only [List.setIfInBounds_toArray]); (try simp only [List.set_cons_succ]); (try simp only [List.set_cons_zero]))
      (refine wpAnyH_take (i := 6) (v := ?_) rfl (by kernel_rfl) (by kernel_rfl) (by kernel_rfl) (fun _ _ _ h => h) (Or.inl ⟨by rfl, ?_⟩) (by assumption) ?_; rotate_left; (focus (intro w' hSw; go_simp; try with_reducible rfl)); (try simp only [List.getElem_toArray]); (try simp only [List.getElem_cons_succ]); (try simp only [List.getElem_cons_zero]); (try simp only [Act.put]); (try simp only [List.setIfInBounds_toArray]); (try simp only [List.set_cons_succ]); (try simp only [List.set_cons_zero]))
      (refine wpAnyH_take (i := 7) (v := ?_) rfl (by kernel_rfl) (by kernel_rfl) (by kernel_rfl) (fun _ _ _ h => h) (Or.inl ⟨by rfl, ?_⟩) (by assumption) ?_; rotate_left; (focus (intro w' hSw; go_simp; try with_reducible rfl)); (try simp only [List.getElem_toArray]); (try simp only [List.getElem_cons_succ]); (try simp only [List.getElem_cons_zero]); (try simp only [Act.put]); (try simp only [List.setIfInBounds_toArray]); (try simp only [List.set_cons_succ]); (try simp only [List.set_cons_zero]))
      (refine wpAnyH_take (i := 8) (v := ?_) rfl (by kernel_rfl) (by kernel_rfl) (by kernel_rfl) (fun _ _ _ h => h) (Or.inl ⟨by rfl, ?_⟩) (by assumption) ?_; rotate_left; (focus (intro w' hSw; go_simp; try with_reducible rfl)); (try simp only [List.getElem_toArray]); (try simp only [List.getElem_cons_succ]); (try simp only [List.getElem_cons_zero]); (try simp only [Act.put]); (try simp only [List.setIfInBounds_toArray]); (try simp only [List.set_cons_succ]); (try simp only [List.set_cons_zero]))
      (refine wpAnyH_take (i := 9) (v := ?_) rfl (by kernel_rfl) (by kernel_rfl) (by kernel_rfl) (fun _ _ _ h => h) (Or.inl ⟨by rfl, ?_⟩) (by assumption) ?_; rotate_left; (focus (intro w' hSw; go_simp; try with_reducible rfl)); (try simp only [List.getElem_toArray]); (try simp only [List.getElem_cons_succ]); (try simp only [List.getElem_cons_zero]); (try simp only [Act.put]); (try simp only [List.setIfInBounds_toArray]); (try simp only [List.set_cons_succ]); (try simp only [List.set_cons_zero]))
      (refine wpAnyH_take (i := 10) (v := ?_) rfl (by kernel_rfl) (by kernel_rfl) (by kernel_rfl) (fun _ _ _ h => h) (Or.inl ⟨by rfl, ?_⟩) (by assumption) ?_; rotate_left; (focus (intro w' hSw; go_simp; try with_reducible rfl)); (try simp only [List.getElem_toArray]); (try simp only [List.getElem_cons_succ]); (try simp only [List.getElem_cons_zero]); (try simp only [Act.put]); (try simp only [List.setIfInBounds_toArray]); (try simp only [List.set_cons_succ]); (try simp only [List.set_cons_zero]))
      (refine wpAnyH_take (i := 11) (v := ?_) rfl (by kernel_rfl) (by kernel_rfl) (by kernel_rfl) (fun _ _ _ h => h) (Or.inl ⟨by rfl, ?_⟩) (by assumption) ?_; rotate_left; (focus (intro w' hSw; go_simp; try with_reducible rfl)); (try simp only [List.getElem_toArray]); (try simp only [List.getElem_cons_succ]); (try simp only [List.getElem_cons_zero]); (try simp only [Act.put]); (try simp only [List.setIfInBounds_toArray]); (try simp only [List.set_cons_succ]); (try simp only [List.set_cons_zero]))
      (refine wpAnyH_take (i := 12) (v := ?_) rfl (by kernel_rfl) (by kernel_rfl) (by kernel_rfl) (fun _ _ _ h => h) (Or.inl ⟨by rfl, ?_⟩) (by assumption) ?_; rotate_left; (focus (intro w' hSw; go_simp; try with_reducible rfl)); (try simp only [List.getElem_toArray]); (try simp only [List.getElem_cons_succ]); (try simp only [List.getElem_cons_zero]); (try simp only [Act.put]); (try simp only [List.setIfInBounds_toArray]); (try simp only [List.set_cons_succ]); (try simp only [List.set_cons_zero]))
      (refine wpAnyH_take (i := 13) (v := ?_) rfl (by kernel_rfl) (by kernel_rfl) (by kernel_rfl) (fun _ _ _ h => h) (Or.inl ⟨by rfl, ?_⟩) (by assumption) ?_; rotate_left; (focus (intro w' hSw; go_simp; try with_reducible rfl)); (try simp only [List.getElem_toArray]); (try simp only [List.getElem_cons_succ]); (try simp only [List.getElem_cons_zero]); (try simp only [Act.put]); (try simp only [List.setIfInBounds_toArray]); (try simp only [List.set_cons_succ]); (try simp only [List.set_cons_zero]))
      (refine wpAnyH_take (i := 14) (v := ?_) rfl (by kernel_rfl) (by kernel_rfl) (by kernel_rfl) (fun _ _ _ h => h) (Or.inl ⟨by rfl, ?_⟩) (by assumption) ?_; rotate_left; (focus (intro w' hSw; go_simp; try with_reducible rfl)); (try simp only [List.getElem_toArray]); (try simp only [List.getElem_cons_succ]); (try simp only [List.getElem_cons_zero]); (try simp only [Act.put]); (try simp only [List.setIfInBounds_toArray]); (try simp only [List.set_cons_succ]); (try simp only [List.set_cons_zero]))
      (refine wpAnyH_take (i := 15) (v := ?_) rfl (by kernel_rfl) (by kernel_rfl) (by kernel_rfl) (fun _ _ _ h => h) (Or.inl ⟨by rfl, ?_⟩) (by assumption) ?_; rotate_left; (focus (intro w' hSw; go_simp; try with_reducible rfl)); (try simp only [List.getElem_toArray]); (try simp only [List.getElem_cons_succ]); (try simp only [List.getElem_cons_zero]); (try simp only [Act.put]); (try simp only [List.setIfInBounds_toArray]); (try simp only [List.set_cons_succ]); (try simp only [List.set_cons_zero]))
      refine wpAnyH_done (by kernel_rfl) ?_ _
      go_wp2
      go_ret
      exact ⟨rfl, E06.trans ((E69.trans E10).trans E11)⟩
  · rw [HN.out] at O5 h32 ⊢
    have hok := hoks.out p hpl
    obtain ⟨q, hq⟩ : ∃ q, q = (forkP p pid prog).newAs nx := ⟨_, rfl⟩
    rw [← hq] at O5
    have hqok : q.ok := by rw [hq]; exact hok
    obtain ⟨m1, hm1⟩ : ∃ m1, nextNo nx = m1 := ⟨_, rfl⟩
    rw [hm1]
    obtain ⟨g, rfl, -, -⟩ := O5.addr (by omega)
    obtain ⟨n8, hn8⟩ : ∃ n8, w5.heap.size = n8 := ⟨_, rfl⟩
    obtain ⟨W8, hW8⟩ : ∃ W8, W8 = w5.alloc (.cells #[.slice (some ⟨g, 0, none⟩) (N + 1) c5, .int .i64 m1] 29) := ⟨_, rfl⟩
    have B8 := Lib.hid (show Blk W8 n8 29 #[.slice (some ⟨g, 0, none⟩) (N + 1) c5, .int .i64 m1] by rw [hW8]; exact Blk.at_ _ _ hn8)
    have E8 : Ext W W8 := by rw [hW8]; exact E5.alloc _
    have O8 := Lib.hid (show OwnS Rp 43 W.heap.size (fun _ => False) W8 (.slice (some ⟨g, 0, none⟩) (N + 1) c5) (l ++ [q]) by rw [hW8]; exact O5.alloc _)
    have HW8 := Lib.hid hW8
    have HN8 := Lib.hid hn8
    have kb := (B7.out.ext E5).two
    have kb8 := (B7.out.ext E8).two
    have hget := get_any (A := fun _ => False) A4 c4 l nx pid W8 (by rw [HN.out]; exact RT.out.ext E8)
    rw [HN.out, hgl] at hget
    have HGE := Lib.hid hget
    have hm64 : wrap64 (nx + 1) = m1 := by rw [← hm1]; exact next64 nx
    have HQ := Lib.hid hq
    rw [hW8] at kb8
    clear hn8 hW8 hp hget hm1 hq O5 hgl
    go_wp2_with fail
    rw [HN8.out, ← HW8.out]
    refine HGE.out.mono ?_
    rintro e w6 ⟨rfl, E6⟩
    have E76 := E8.trans E6
    have hb6 := Lib.hid (hbox.out.ext E76)
    have B6 := Lib.hid (B8.out.ext E6)
    have b76 := Lib.hid (B7.out.ext E76)
    have O6 := Lib.hid (O8.out.ext E6)
    have E06 := E0W.trans E76
    obtain ⟨n12, hn12⟩ : ∃ n12, w6.heap.size = n12 := ⟨_, rfl⟩
    have hqat : (l ++ [q])[N]? = some q := by rw [List.getElem?_append_right (by rw [HN.out]; exact Nat.le_refl _), HN.out, Nat.sub_self]; rfl
    have HQA := Lib.hid hqat
    have kb6 := B6.out.two
    have hNw : IntKind.i64.wrap ((N : Int) + 1 - 1) = (N : Int) := by rw [show (N : Int) + 1 - 1 = (N : Int) by omega]; exact IntWalk.i64_in _ (by omega)
    have HP1 := Lib.hid (Pr.len hok)
    clear hqat kb8 kb
    go_wp2_with (first
      | (refine wpList_load_mid rfl 43 _ rfl g (N * 43) rfl q.cells _ hcq.out Try.underlying43 rfl (i43' hqok) ?_)
      | ((refine wpList_store_A rfl 43 _ _ rfl (n14) _ rfl rfl 43 _ (zero_row w7 n14 hn14) (by rw [List.size_toArray]; exact i43' hqok) (Eq.trans (b := 43) (by rfl) (Eq.symm (show (q).cells.toArray.size = 43 from Pr.size hqok))) (Pr.one hqok) ?_); intro w8 H8 E9; have E78 : Ext w7 w8 := E9 w7.heap.size w7 ((Ext.refl w7).alloc _) (by omega); have E68 : Ext w6 w8 := E67.trans E78; have hat := prAt_blk hqok H8; have hap := prAt_blk hok (H7.out.ext E78); rw [HQ.out] at hat; have q0 : w8.cell? ⟨n14, 0, none⟩ = some (.int .i64 nx) := hat.c0; have q1 : w8.cell? ⟨n14, 1, none⟩ = some (.int .i64 pid) := hat.c1; have q2 : w8.cell? ⟨n14, 2, none⟩ = some (.int .i64 p.group) := hat.c2; have q3 : w8.cell? ⟨n14, 3, none⟩ = some (.int .i64 p.session) := hat.c3; have q4 : w8.cell? ⟨n14, 4, none⟩ = some (.int .i64 1) := hat.c4; have q5 : w8.cell? ⟨n14, 5, none⟩ = some (.int .i64 prog) := hat.c5; have q6 : w8.cell? ⟨n14, 6, none⟩ = some (.int .i64 0) := hat.c6; have q7 : w8.cell? ⟨n14, 7, none⟩ = some (.int .u64 0) := hat.c7; have q8 : w8.cell? ⟨n14, 8, none⟩ = some (.int .u64 p.mask) := hat.c8; have qa := Lib.hid (acts_at hat); have pa := Lib.hid (acts_at hap); have p2 := hap.c2; have p3 := hap.c3; have p8 := hap.c8; have kbt := (b76.out.ext E68).two; have kbu := (B6.out.ext E68).two; have kbx := (hb6.out.ext E68).two; have HEA := Lib.hid (fun w => tpr_aeql hok (HWF.out p hpl) w); clear E9 hat hap)
      | ((refine wpList_store_A rfl 43 _ _ rfl (n12) _ rfl rfl 43 _ (zero_row w6 n12 hn12) (by rw [List.size_toArray]; exact i43' hok) (Eq.trans (b := 43) (by rfl) (Eq.symm (show (p).cells.toArray.size = 43 from Pr.size hok))) (Pr.one hok) ?_); intro w7 H7 E7; have E67 : Ext w6 w7 := E7 w6.heap.size w6 ((Ext.refl w6).alloc _) (by omega); have H7 := Lib.hid H7; have O7 := Lib.hid (O6.out.ext E67); have kb7 := (B6.out.ext E67).two; have hcq := Lib.hid (own_at O7.out HQA.out).2.2.2.2.2; clear E7 kb6; obtain ⟨n14, hn14⟩ : ∃ n14, w7.heap.size = n14 := ⟨_, rfl⟩)
      | (refine wpList_openG rfl rfl ?_; first
        | (refine wpList_load_mid rfl 41 _ rfl n14 (0 + 9) rfl (p.acts.map (Value.int .i64)) _ qa.out Try.underlying41 rfl (i32a hok) ?_)
        | (refine wpList_load_mid rfl 41 _ rfl n12 (0 + 9) rfl (p.acts.map (Value.int .i64)) _ pa.out Try.underlying41 rfl (i32a hok) ?_)
        | (refine wpList_neq_struct rfl 41 _ _ rfl (p.acts.map (Value.int .i64)).toArray (p.acts.map (Value.int .i64)).toArray rfl rfl true tpr_aguard (HEA.out _) ?_)))
    have RT8 := Lib.hid (RT.out.ext (E76.trans E68))
    have O8 := Lib.hid (O7.out.ext E78)
    have Bu8 := Lib.hid (B6.out.ext E68)
    have E08 := E06.trans E68
    have hm2 : ∀ m : Nat, m < N → (l ++ [q])[m]? = l[m]? := fun m hm => List.getElem?_append_left (by rw [HN.out]; exact hm)
    have HM2 := Lib.hid hm2
    clear q0 q1 q2 q3 q4 q5 q6 q7 q8 qa pa p2 p3 p8 kbx kbt kbu HEA hNw hm64 hm2 kb7 hcq H8
    go_loopw [162] (fun i wr => ∃ m : Nat, m ≤ N ∧ i = .int .i64 m ∧ Ext w8 wr) (fun i _ => N - (intOf i).toNat)
    case atStart => exact ⟨0, Nat.zero_le _, rfl, Ext.refl _⟩
    case round =>
      obtain ⟨m, hm, rfl, hE⟩ := hrel
      by_cases hmn : m < N
      · obtain ⟨b, off, p', rfl, hd, hok', hcell⟩ := pr_at (RT8.out.ext hE) hmn
        have hpu := Lib.hid (own_at (O8.out.ext hE) (show (l ++ [q])[m]? = some p' by rw [HM2.out m hmn]; exact hd.out)).2.2.2.2.2
        have HEQ := Lib.hid (fun w => tpr_eql hok' (HWF.out p' (List.mem_of_getElem? hd.out)) w)
        have hb8 := Lib.hid (Bu8.out.ext hE)
        have hm1 : (0 : Int) ≤ (m : Int) := by omega
        have hm3 : (m : Int) < (N : Int) := by omega
        have hm4 : (m : Int) < (N : Int) + 1 := by omega
        obtain ⟨n16, hn16⟩ : ∃ n16, wr.heap.size = n16 := ⟨_, rfl⟩
        clear hd
        go_wp2_with (first
          | (refine wpList_load_mid rfl 43 _ rfl b (off + m * 43) rfl p'.cells _ hcell.out Try.underlying43 rfl (i43' hok') ?_)
          | ((refine wpList_store_A rfl 43 _ _ rfl (n16) _ rfl rfl 43 _ (zero_row wr n16 hn16) (by rw [List.size_toArray]; exact i43' hok') (Eq.trans (b := 43) (by rfl) (Eq.symm (show (p').cells.toArray.size = 43 from Pr.size hok'))) (Pr.one hok') ?_); intro w9 H9 E9; have E89 : Ext wr w9 := E9 wr.heap.size wr ((Ext.refl wr).alloc _) (by omega); have H9 := Lib.hid H9; have hb9 := Lib.hid (hb8.out.ext E89)))
        refine wp_region_held_drew (S := fun w' => Ext w9 w') (by kernel_rfl) (Ext.drew (Ext.refl _)) (fun hHeld => ?_)
        (refine wpAnyH_take (i := 0) (v := ?_) rfl (by kernel_rfl) (by kernel_rfl) (by kernel_rfl) (fun _ _ _ h => h) (Or.inl ⟨by rfl, ?_⟩) (by assumption) ?_; rotate_left; (focus (intro w' hSw; go_simp; try with_reducible rfl)); (try simp only [List.getElem_toArray]); (try simp only [List.getElem_cons_succ]); (try simp only [List.getElem_cons_zero]); (try simp only [Act.put]); (try simp only [List.setIfInBounds_toArray]); (try simp only [List.set_cons_succ]); (try simp only [List.set_cons_zero]))
        (refine wpAnyH_take (i := 1) (v := ?_) rfl (by kernel_rfl) (by kernel_rfl) (by kernel_rfl) (fun _ _ _ h => h) (Or.inl ⟨by rfl, ?_⟩) (by assumption) ?_; rotate_left; (focus (intro w' hSw; have kc := (hb9.out.ext hSw).two; go_simp; try with_reducible rfl)); (try simp only [List.getElem_toArray]); (try simp only [List.getElem_cons_succ]); (try simp only [List.getElem_cons_zero]); (try simp only [Act.put]); (try simp only [List.setIfInBounds_toArray]); (try simp only [List.set_cons_succ]); (try simp only [List.set_cons_zero]))
        (refine wpAnyH_take (i := 2) (v := ?_) rfl (by kernel_rfl) (by kernel_rfl) (by kernel_rfl) (fun _ _ _ h => h) (Or.inl ⟨by rfl, ?_⟩) (by assumption) ?_; rotate_left; (focus (intro w' hSw; go_simp; try with_reducible rfl)); (try simp only [List.getElem_toArray]); (try simp only [List.getElem_cons_succ]); (try simp only [List.getElem_cons_zero]); (try simp only [Act.put]); (try simp only [List.setIfInBounds_toArray]); (try simp only [List.set_cons_succ]); (try simp only [List.set_cons_zero]))
        (refine wpAnyH_take (i := 3) (v := ?_) rfl (by kernel_rfl) (by kernel_rfl) (by kernel_rfl) (fun _ _ _ h => h) (Or.inl ⟨by rfl, ?_⟩) (by assumption) ?_; rotate_left; (focus (intro w' hSw; go_simp; try with_reducible rfl)); (try simp only [List.getElem_toArray]); (try simp only [List.getElem_cons_succ]); (try simp only [List.getElem_cons_zero]); (try simp only [Act.put]); (try simp only [List.setIfInBounds_toArray]); (try simp only [List.set_cons_succ]); (try simp only [List.set_cons_zero]))
        (refine wpAnyH_take (i := 4) (v := .agg p'.cells.toArray) rfl (by kernel_rfl) (by kernel_rfl) (by kernel_rfl) (fun _ _ _ h => h) (yieldsIf_load_mid (by rfl) 43 _ rfl _ _ rfl p'.cells _ (fun w' hSw => (fun i u hu => cell_ext (E89.trans hSw) (hpu.out i u hu))) Try.underlying43 rfl (i43' hok')) (by assumption) ?_; (try simp only [List.getElem_toArray]); (try simp only [List.getElem_cons_succ]); (try simp only [List.getElem_cons_zero]); (try simp only [Act.put]); (try simp only [List.setIfInBounds_toArray]); (try simp only [List.set_cons_succ]); (try simp only [List.set_cons_zero]))
        (refine wpAnyH_take (i := 5) (v := .agg p'.cells.toArray) rfl (by kernel_rfl) (by kernel_rfl) (by kernel_rfl) (fun _ _ _ h => h) (yieldsIf_load_row (by rfl) 43 _ rfl _ rfl 43 p'.cells.toArray _ _ (fun w' hSw => (H9.out.ext hSw)) Try.underlying43 rfl (by rw [List.size_toArray]; exact i43' hok')) (by assumption) ?_; (try simp only [Act.put]); (try simp only [List.getElem_toArray]); (try simp only [List.getElem_cons_succ]); (try simp only [List.getElem_cons_zero]); (try simp only [List.setIfInBounds_toArray]); (try simp only [List.set_cons_succ]); (try simp only [List.set_cons_zero]))
        (refine wpAnyH_take (i := 6) (v := .bool false) rfl (by kernel_rfl) (by kernel_rfl) (by kernel_rfl) (fun _ _ _ h => h) (yieldsIf_neq_struct (by rfl) 43 _ _ rfl p'.cells.toArray p'.cells.toArray rfl rfl true false rfl tpr_guard HEQ.out) (by assumption) ?_; (try simp only [List.getElem_toArray]); (try simp only [List.getElem_cons_succ]); (try simp only [List.getElem_cons_zero]); (try simp only [Act.put]); (try simp only [List.setIfInBounds_toArray]); (try simp only [List.set_cons_succ]); (try simp only [List.set_cons_zero]))
        refine wpAnyH_done (by kernel_rfl) ?_ _
        have E5 : Ext w8 w9.drew := Ext.drew (hE.trans E89)
        go_wp2
        go_roundw
        case rel => exact ⟨m + 1, by omega, by go_num, E5⟩
        case measure => simp [intOf]; omega
      · go_wp2
        go_ret
        exact ⟨rfl, E08.trans hE⟩
end Go.Proofs.Ytmpmnikgbepphaa
