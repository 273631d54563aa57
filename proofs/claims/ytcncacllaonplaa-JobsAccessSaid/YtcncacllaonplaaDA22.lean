/- The document's Ask; tables that are the same; by contract. Conditions: sets have 64 bits. -/
import Derived.Test.YtcncacllaonplaaCA22
namespace Go.Proofs.Ytcncacllaonplaa
open Go.RowKit Go.Kb

set_option maxRecDepth 100000 in
set_option maxHeartbeats 3000000 in
theorem raskT_any {A : Nat → Prop} (Ad : Option Addr) (c : Nat) (l : List Pr) (nx s g0 : Int) (ts : Bool) (pid : Int) (wr : Bool) (w : World) (h : RdY Rp A w (.slice Ad l.length c) l) (hm : ∀ p ∈ l, Sig.U64 p.mask) (hb : ∀ p ∈ l, Sig.U64 p.pending) :
    Calls Try.prog 19 #[tv Ad l.length c nx, .agg #[.int .i64 s, .int .i64 g0, .bool ts], .int .i64 pid, .bool wr] w fun e w' => ∃ A' c', e = .returned (.tuple #[tv A' l.length c' nx, .int .i64 (accL l nx s g0 ts pid wr).1]) ∧ TabS 86 Ad c l w.heap.size w' A' c' (askT l nx s g0 ts pid wr) ∧ Ext w w' := by
  have H := Lib.hid (rdy_pr (B := fun _ => False) h)
  have hqok := getL_ok (nx := nx) (pid := pid) (RdY.oks h)
  obtain ⟨N, hN⟩ : ∃ N, l.length = N := ⟨_, rfl⟩
  obtain ⟨W, hW⟩ : ∃ W, W = ((w.alloc (.cells #[.slice Ad N c, .int .i64 nx] 49)).alloc (.cells #[.int .i64 s, .int .i64 g0, .bool ts] 51)).alloc (.cells #[.slice none 0 0, .int .i64 0] 49) := ⟨_, rfl⟩
  have hres := Lib.hid (show Blk W (w.heap.size + 1 + 1) 49 #[.slice none 0 0, .int .i64 0] by rw [hW]; exact Blk.at_ _ _ (by simp))
  have hty := Lib.hid (show Blk W (w.heap.size + 1) 51 #[.int .i64 s, .int .i64 g0, .bool ts] by rw [hW]; exact (Blk.at_ _ _ (by simp)).alloc _)
  have hbox := Lib.hid (show Blk W w.heap.size 49 #[.slice Ad N c, .int .i64 nx] by rw [hW]; exact ((Blk.new w _ _).alloc _).alloc _)
  have E0 : Ext w W := by rw [hW]; exact (by repeat (first | with_reducible exact Ext.refl _ | refine Ext.drewN ?_ _ | refine Ext.drew ?_ | refine Ext.alloc ?_ _ | assumption | (refine Below.trans ?_ (by assumption)) | (refine Ext.trans ?_ (by assumption)) | (refine Below.trans ?_ (Below.mono (by assumption) (by omega)))))
  have hacc := raccess_any (A := fun _ => False) Ad c l nx s g0 ts pid wr W (by exact H.out.ext E0) hm
  have hsg := acc_sig (l := l) (nx := nx) (s := s) (g := g0) (ts := ts) (pid := pid) (wr := wr)
  have hfl := fun g sig hs w h => rsgroup_any (A := fun _ => False) Ad c l nx g sig hs w h hb
  have hgt := fun w h => rget_any (A := fun _ => False) Ad c l nx pid w h
  have hat : askT l nx s g0 ts pid wr = if (accL l nx s g0 ts pid wr).1 = 2 then groupL l nx (getL l nx pid).1.group (accL l nx s g0 ts pid wr).2 else l := rfl
  obtain ⟨⟨p, ok⟩, hgp⟩ : ∃ a, getL l nx pid = a := ⟨_, rfl⟩
  rw [hgp] at hat hqok
  simp only [hgp] at hgt
  have hqok : p.ok := hqok
  rw [hN] at H hacc hfl hgt ⊢
  obtain ⟨⟨v, x⟩, hac⟩ : ∃ a, accL l nx s g0 ts pid wr = a := ⟨_, rfl⟩
  rw [hac] at hacc hsg hat ⊢
  simp only [] at hacc hsg hat ⊢
  have HACC := Lib.hid hacc
  have HSG := Lib.hid hsg
  have HFL := Lib.hid hfl
  have HAT := Lib.hid hat
  have HGT := Lib.hid hgt
  have HW := Lib.hid hW
  have HN := Lib.hid hN
  clear h hm hb hacc hsg hfl hat hac hW hN hgp hgt
  go_enter Try.func19, Try.ntmps19
  go_upto_region 1 with fail
  rw [← HW.out]
  have kb := hbox.out.two
  have y0 := hty.out.cell 0
  have y1 := hty.out.cell 1
  have y2 := hty.out.cell 2
  go_wp2_with fail
  refine HACC.out.mono ?_
  rintro e w1 ⟨rfl, E1⟩
  have E01 := E0.trans E1
  have hbox := Lib.hid (hbox.out.ext E1)
  have hres := Lib.hid (hres.out.ext E1)
  clear kb y0 y1 y2 hty HACC
  have kb := hbox.out.two
  by_cases hv : v = 2
  · have hvb : (v == 2) = true := by simpa using hv
    have HAT := Lib.hid (HAT.out.trans (if_pos hv))
    have HS := Lib.hid (HSG.out hv)
    clear HSG
    subst hv
    go_wp2_with fail
    refine (HGT.out w1 (H.out.ext E01)).mono ?_
    rintro e w2 ⟨rfl, E2⟩
    obtain ⟨n10, hn10⟩ : ∃ n10, w2.heap.size = n10 := ⟨_, rfl⟩
    clear kb HGT
    go_upto_region 4 with ((refine wpList_store_A rfl 86 _ _ rfl (n10) _ rfl rfl 86 _ (zero_rowR w2 n10 hn10) (by rw [List.size_toArray]; exact i43r' hqok) (Eq.trans (b := 43) (by rfl) (Eq.symm (show (p).cells.toArray.size = 43 from Pr.size hqok))) (Pr.one hqok) ?_); intro w3 H3 E3; have E23 : Ext w2 w3 := E3 w2.heap.size w2 ((Ext.refl w2).alloc _) (by omega); have P := Lib.hid H3; clear E3 H3)
    have E13 := E2.trans E23
    have E03 := E01.trans E13
    have hbox := Lib.hid (hbox.out.ext E13)
    have hres := Lib.hid (hres.out.ext E13)
    have kb := hbox.out.two
    have p2 := (prAt_blk hqok P.out).c2
    clear hn10 E23
    go_wp2_with fail
    refine (HFL.out p.group x HS.out w3 (H.out.ext E03)).mono ?_
    rintro e w4 ⟨A2, c2, k, rfl, T2, E4⟩
    have E04 := E03.trans E4
    have hbox := Lib.hid (hbox.out.ext E4)
    have hres := Lib.hid (hres.out.ext E4)
    have kb := hbox.out.two
    have T2 := Lib.hid (T2.lower E03.size)
    clear p2
    go_upto_region 5 with fail
    have M5 : Mod (fun k => k = w.heap.size) w4 _ := ((Mod.refl _ w4).set1 (.slice A2 N c2) (o := 0)).set1 (.int .i64 nx) (o := 1)
    have B5 := Lib.hid (hbox.out.put2 (.slice A2 N c2) (.int .i64 nx))
    have S5 := Lib.hid (hres.out.mod M5 (by show ¬ _ = _; omega))
    have T5 := Lib.hid (T2.out.mod M5 hbox.out (by decide))
    have E05 : Ext w _ := Mod.toExt E04 M5 (by intro k hk he; omega)
    clear M5 kb T2 hbox hres
    generalize World.setCell (World.setCell w4 _ _) _ _ = w5 at *
    have ks := B5.out.two
    have kr := S5.out.two
    have hM7 : Mod (fun k => k = w.heap.size + 1 + 1) w5 _ := ((Mod.refl _ w5).set1 (.slice A2 N c2) (o := 0)).set1 (.int .i64 nx) (o := 1)
    obtain ⟨q0, q1, _, _⟩ := (S5.out.put2 (.slice A2 N c2) (.int .i64 nx)).two
    go_wp2
    refine bodyPost_ret (v := .tuple #[tv A2 N c2 nx, .int .i64 2]) (by simp [results, Try.results19, go_sem, q0, q1]) rfl ?_
    rw [HAT.out]
    exact ⟨A2, c2, rfl, T5.out.mod hM7 S5.out (by decide), Mod.toExt E05 hM7 (by intro k hk he; omega)⟩
  · have hvb : (v == 2) = false := by simpa using hv
    have HAT := Lib.hid (HAT.out.trans (if_neg hv))
    have hM7 : Mod (fun k => k = w.heap.size + 1 + 1) w1 _ := ((Mod.refl _ w1).set1 (.slice Ad N c) (o := 0)).set1 (.int .i64 nx) (o := 1)
    obtain ⟨q0, q1, _, _⟩ := (hres.out.put2 (.slice Ad N c) (.int .i64 nx)).two
    have kr := hres.out.two
    go_wp2
    refine bodyPost_ret (v := .tuple #[tv Ad N c nx, .int .i64 v]) (by simp [results, Try.results19, go_sem, q0, q1]) rfl ?_
    rw [HAT.out]
    exact ⟨Ad, c, rfl, .inl ⟨rfl, rfl, rfl⟩, Mod.toExt E01 hM7 (by intro k hk he; omega)⟩
set_option maxRecDepth 100000 in
set_option maxHeartbeats 800000 in
theorem same22_any {A B : Nat → Prop} (Ad Bd : Option Addr) (c d : Nat) (l : List Pr) (nx : Int) (w : World) (h : RdY Rp A w (.slice Ad l.length c) l) (g : RdY Rp B w (.slice Bd l.length d) l) (hw : ∀ p ∈ l, p.wf) (hn : l.length ≤ 100000) :
    Calls Try.prog 20 #[tv Ad l.length c nx, tv Bd l.length d nx] w fun e w' => e = .returned (.bool true) ∧ Ext w w' := by
  have H := Lib.hid (rdy_pr (B := fun _ => False) h)
  have G := Lib.hid (rdy_pr (B := fun _ => False) g)
  obtain ⟨W, hW⟩ : ∃ W, W = (w.alloc (.cells #[.slice Ad l.length c, .int .i64 nx] 28)).alloc (.cells #[.slice Bd l.length d, .int .i64 nx] 49) := ⟨_, rfl⟩
  have ha := Lib.hid (show Blk W w.heap.size 28 #[.slice Ad l.length c, .int .i64 nx] by rw [hW]; exact (Blk.new w _ _).alloc _)
  have hb := Lib.hid (show Blk W (w.heap.size + 1) 49 #[.slice Bd l.length d, .int .i64 nx] by rw [hW]; exact Blk.at_ _ _ (by simp))
  have E0 : Ext w W := by rw [hW]; exact (by repeat (first | with_reducible exact Ext.refl _ | refine Ext.drewN ?_ _ | refine Ext.drew ?_ | refine Ext.alloc ?_ _ | assumption | (refine Below.trans ?_ (by assumption)) | (refine Ext.trans ?_ (by assumption)) | (refine Below.trans ?_ (Below.mono (by assumption) (by omega)))))
  have HW := Lib.hid hW
  clear h g hW
  go_enter Try.func20, Try.ntmps20
  go_upto_region 1 with fail
  rw [← HW.out]
  refine wp_region_held_drew (S := fun w' => Ext W w') (by kernel_rfl) (Ext.drew (Ext.refl _)) (fun hHeld => ?_)
  (refine wpAnyH_take (i := 0) (v := ?_) rfl (by kernel_rfl) (by kernel_rfl) (by kernel_rfl) (fun _ _ _ h => h) (Or.inl ⟨by rfl, ?_⟩) (by assumption) ?_; rotate_left; (focus (intro w' hSw; have kc := (ha.out.ext hSw).two; go_simp; try with_reducible rfl)); (try simp only [List.getElem_toArray]); (try simp only [List.getElem_cons_succ]); (try simp only [List.getElem_cons_zero]); (try simp only [Act.put]); (try simp only [List.setIfInBounds_toArray]); (try simp only [List.set_cons_succ]); (try simp only [List.set_cons_zero]))
  (refine wpAnyH_take (i := 2) (v := ?_) rfl (by kernel_rfl) (by kernel_rfl) (by kernel_rfl) (fun _ _ _ h => h) (Or.inl ⟨by rfl, ?_⟩) (by assumption) ?_; rotate_left; (focus (intro w' hSw; have kc := (hb.out.ext hSw).two; go_simp; try with_reducible rfl)); (try simp only [List.getElem_toArray]); (try simp only [List.getElem_cons_succ]); (try simp only [List.getElem_cons_zero]); (try simp only [Act.put]); (try simp only [List.setIfInBounds_toArray]); (try simp only [List.set_cons_succ]); (try simp only [List.set_cons_zero]))
  (refine wpAnyH_ready (rs := [1]) (by kernel_rfl) (by simp) ?_; refine AllReadyH.cons rfl (fun K hK => ?_) AllReadyH.nil; go_simp; go_at_call 51; refine (from_any (A := fun _ => False) Ad c l nx _ (H.out.ext (E0.trans (Ext.refl W).drew)) hn).mono ?_; rintro e w1 ⟨A1, c1, rfl, O1, E1⟩; (try dsimp only); refine hK.out _ _ ((Ext.refl W).drew.trans E1) (fun hHeld => ?_); clear hK K; (try simp only [Act.put]); (try simp only [List.getElem_toArray]); (try simp only [List.getElem_cons_succ]); (try simp only [List.getElem_cons_zero]); (try simp only [List.setIfInBounds_toArray]); (try simp only [List.set_cons_succ]); (try simp only [List.set_cons_zero]))
  have E01 := (Ext.refl W).drew.trans E1
  (refine wpAnyH_ready (rs := [3]) (by kernel_rfl) (by simp) ?_; refine AllReadyH.cons rfl (fun K hK => ?_) AllReadyH.nil; go_simp; go_at_call 50; refine (same_any A1 Bd c1 d l nx _ O1.y (G.out.ext (E0.trans E01)) hw).mono ?_; rintro e w2 ⟨rfl, E2⟩; (try dsimp only); refine hK.out _ _ (E01.trans E2) (fun hHeld => ?_); clear hK K; (try simp only [Act.put]); (try simp only [List.getElem_toArray]); (try simp only [List.getElem_cons_succ]); (try simp only [List.getElem_cons_zero]); (try simp only [List.setIfInBounds_toArray]); (try simp only [List.set_cons_succ]); (try simp only [List.set_cons_zero]))
  (refine wpAnyH_take (i := 4) (v := ?_) rfl (by kernel_rfl) (by kernel_rfl) (by kernel_rfl) (fun _ _ _ h => h) (Or.inl ⟨by rfl, ?_⟩) (by assumption) ?_; rotate_left; (focus (intro w' hSw; go_simp; try with_reducible rfl)); (try simp only [List.getElem_toArray]); (try simp only [List.getElem_cons_succ]); (try simp only [List.getElem_cons_zero]); (try simp only [Act.put]); (try simp only [List.setIfInBounds_toArray]); (try simp only [List.set_cons_succ]); (try simp only [List.set_cons_zero]))
  refine wpAnyH_done (by kernel_rfl) ?_ _
  go_wp2
  go_ret
  exact ⟨rfl, E0.trans (E01.trans E2)⟩
theorem sendP_wf {p : Pr} {sig : Int} (h : p.wf) (hb : Sig.U64 p.pending) : (sendP sig p).wf := by
  have hp := sendP_bd (sig := sig) hb
  obtain ⟨h1, h2, h3, h4, h5, h6, h7, _, h9, h10, h11⟩ := h
  refine ⟨h1, h2, h3, h4, h5, h6, h7, ?_, h9, h10, h11⟩
  have k1 : IntKind.u64.min = 0 := rfl
  have k2 : IntKind.u64.max = 18446744073709551615 := rfl
  have k3 := hp.1
  have k4 := hp.2
  simp [Lit.wf, k1, k2]
  omega
theorem sendL_wf {l : List Pr} {nx k sig : Int} (h : ∀ p ∈ l, p.wf) (hb : ∀ p ∈ l, Sig.U64 p.pending) : ∀ p ∈ (sendL l nx k sig).1, p.wf := by
  intro q hq
  unfold sendL at hq
  split at hq
  · split at hq
    · rename_i hl
      obtain ⟨_, p, hgp, hpl, _⟩ := askL_live (live_ask hl)
      rcases change_in hq with h1 | ⟨x, h1, rfl⟩
      · exact h q h1
      · rw [hgp]
        exact sendP_wf (h p hpl) (hb p hpl)
    · exact h q hq
  · exact h q hq
theorem sendsL_wf {nx sig : Int} : ∀ {ks : List Int} {l : List Pr}, (∀ p ∈ l, p.wf) → (∀ p ∈ l, Sig.U64 p.pending) → ∀ p ∈ sendsL l nx sig ks, p.wf
  | [], _, h, _ => h
  | k :: ks, l, h, hb => sendsL_wf (ks := ks) (l := (sendL l nx k sig).1) (sendL_wf h hb) (sendL_bd hb)
theorem askT_wf {l : List Pr} {nx s g : Int} {ts : Bool} {pid : Int} {wr : Bool} (h : ∀ p ∈ l, p.wf) (hb : ∀ p ∈ l, Sig.U64 p.pending) : ∀ p ∈ askT l nx s g ts pid wr, p.wf := by
  unfold askT
  split
  · exact sendsL_wf h hb
  · exact h
theorem askT_len {l : List Pr} {nx s g : Int} {ts : Bool} {pid : Int} {wr : Bool} : (askT l nx s g ts pid wr).length = l.length := by
  unfold askT
  split
  · exact groupL_len
  · rfl
end Go.Proofs.Ytcncacllaonplaa
