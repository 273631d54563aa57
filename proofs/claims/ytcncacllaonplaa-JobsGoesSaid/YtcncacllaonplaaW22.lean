/- Behind a Front that is done who asked goes, and behind a Leave: walked; the law answers true. Conditions: sets have 64 bits. -/
import Derived.Test.YtcncacllaonplaaU22
import Derived.Deep.DeepCutAuto
namespace Go.Proofs.Ytcncacllaonplaa
open Go.RowKit Go.Kb

theorem groupL_len' {l : List Pr} {nx g sig : Int} {N : Nat} (h : l.length = N) : (groupL l nx g sig).length = N := groupL_len.trans h
set_option maxRecDepth 100000 in
set_option maxHeartbeats 30000000 in
theorem jobsGoes_walk {A : Nat → Prop} (Ad : Option Addr) (c : Nat) (l : List Pr) (nx s g0 : Int) (ts : Bool) (pid g : Int) (wr : Bool) (w : World) (h : RdY Rp A w (.slice Ad l.length c) l) (hm : ∀ p ∈ l, Sig.U64 p.mask) (hb : ∀ p ∈ l, Sig.U64 p.pending) :
    Calls Try.prog 5 #[.agg #[.slice Ad l.length c, .int .i64 nx, .int .i64 s, .int .i64 g0, .bool ts, .int .i64 pid, .int .i64 g, .bool wr]] w fun e w' => e = .returned (.bool true) ∧ Ext w w' := by
  have H := Lib.hid (rdy_pr (B := fun _ => False) h)
  have hoks := Lib.hid (RdY.oks h)
  have HM := Lib.hid hm
  have HBP := Lib.hid hb
  obtain ⟨N, hN⟩ : ∃ N, l.length = N := ⟨_, rfl⟩
  have hto := fun w h hn => to_world (A := fun _ => False) Ad c l nx s g0 ts pid g wr w h hn
  rw [hN] at H hto ⊢
  have HTO := Lib.hid hto
  have HN := Lib.hid hN
  have B := Lib.hid (Blk.new w 24 #[.slice Ad N c, .int .i64 nx, .int .i64 s, .int .i64 g0, .bool ts, .int .i64 pid, .int .i64 g, .bool wr])
  have E0 : Ext w (w.alloc (.cells #[.slice Ad N c, .int .i64 nx, .int .i64 s, .int .i64 g0, .bool ts, .int .i64 pid, .int .i64 g, .bool wr] 24)) := (by repeat (first | with_reducible exact Ext.refl _ | refine Ext.drewN ?_ _ | refine Ext.drew ?_ | refine Ext.alloc ?_ _ | assumption | (refine Below.trans ?_ (by assumption)) | (refine Ext.trans ?_ (by assumption)) | (refine Below.trans ?_ (Below.mono (by assumption) (by omega)))))
  clear h hm hb hN hto
  go_enter Try.func5, Try.ntmps5
  go_wp2_with fail
  refine (alive_any _).mono ?_
  rintro e w1 ⟨rfl, E1⟩
  have B := Lib.hid (B.out.ext E1)
  have E01 := E0.trans E1
  clear E0 E1
  go_wp2_with (refine wpList_load_row rfl 24 _ rfl _ rfl 24 _ _ _ B.out Try.underlying24 rfl i24 ?_)
  refine (great_any Ad N c nx s g0 ts pid g wr _).mono ?_
  rintro e w2 ⟨rfl, E2⟩
  have B := Lib.hid (B.out.ext E2)
  have E02 := E01.trans E2
  clear E01 E2
  by_cases hg : 40 < N
  · have hg2 : decide (40 < N) = true := decide_eq_true hg
    rw [hg2]
    clear hg
    go_wp2
    go_ret
    exact ⟨rfl, E02⟩
  have hg2 : decide (40 < N) = false := decide_eq_false hg
  rw [hg2]
  have HG := Lib.hid hg
  clear hg2 hg
  go_wp2_with (refine wpList_load_row rfl 24 _ rfl _ rfl 24 _ _ _ B.out Try.underlying24 rfl i24 ?_)
  refine (HTO.out _ (H.out.ext E02) (by have := HN.out; have := HG.out; omega)).mono ?_
  rintro e w3 ⟨A3, c3, rfl, O3, E3⟩
  have B := Lib.hid (B.out.ext E3)
  have E03 := E02.trans E3
  have R3 := Lib.hid (rdy_pr (B := fun _ => False) O3.y)
  clear E02 E3 O3 HTO H
  obtain ⟨n3, hn3⟩ : ∃ n, w3.heap.size = n := ⟨_, rfl⟩
  obtain ⟨W3, hW3⟩ : ∃ W, W = w3.alloc (.cells #[.slice A3 N c3, .int .i64 nx] 28) := ⟨_, rfl⟩
  have T := Lib.hid (show Blk W3 n3 28 #[.slice A3 N c3, .int .i64 nx] by rw [hW3]; exact Blk.at_ _ _ hn3)
  have EW : Ext w3 W3 := by rw [hW3]; exact (Ext.refl _).alloc _
  have B := Lib.hid (B.out.ext EW)
  have R3 := Lib.hid (R3.out.ext EW)
  have E03 := E03.trans EW
  have HW3 := Lib.hid hW3
  have HN3 := Lib.hid hn3
  clear EW hW3 hn3
  go_upto_region 6 with fail
  rw [HN3.out, ← HW3.out]
  clear HW3 HN3
  have hG := get_any (A := fun _ => False) A3 c3 l nx pid W3 (by rw [HN.out]; exact R3.out)
  have hqok := getL_ok (nx := nx) (pid := pid) hoks.out
  obtain ⟨⟨q, okk⟩, hgq⟩ : ∃ a, getL l nx pid = a := ⟨_, rfl⟩
  rw [HN.out, hgq] at hG
  rw [hgq] at hqok
  have HG5 := Lib.hid hG
  have HGQ := Lib.hid hgq
  have hqok : q.ok := hqok
  have kb := T.out.two
  have k5 := B.out.cell 5
  clear hG hgq
  go_wp2_with fail
  refine HG5.out.mono ?_
  rintro e w5 ⟨rfl, E5⟩
  obtain ⟨n5, hn5⟩ : ∃ n, w5.heap.size = n := ⟨_, rfl⟩
  have B := Lib.hid (B.out.ext E5)
  have T := Lib.hid (T.out.ext E5)
  have R5 := Lib.hid (R3.out.ext E5)
  have E05 := E03.trans E5
  clear kb k5 R3 E03 E5 HG5
  go_upto_region 7 with ((refine wpList_store_A rfl 40 _ _ rfl (n5) _ rfl rfl 40 _ (zero_row w5 n5 hn5) (by rw [List.size_toArray]; exact i43' hqok) (Eq.trans (b := 43) (by rfl) (Eq.symm (show (q).cells.toArray.size = 43 from Pr.size hqok))) (Pr.one hqok) ?_); intro w6 H6 E6; have E56 : Ext w5 w6 := E6 w5.heap.size w5 ((Ext.refl w5).alloc _) (by omega); have B := Lib.hid (B.out.ext E56); have T := Lib.hid (T.out.ext E56); have R6 := Lib.hid (R5.out.ext E56); have E06 := E05.trans E56; have P := Lib.hid H6; clear E6 H6 E56 R5 E05)
  clear hn5
  cases okk
  · go_wp2
    go_ret
    exact ⟨rfl, E06⟩
  have hfro := fun w h => front_one (A := fun _ => False) A3 c3 l nx s g0 ts pid q.group w h HM.out HBP.out
  have hlea := fun w h => leave_one (A := fun _ => False) A3 c3 l nx s g0 ts w h HBP.out
  rw [HN.out, HGQ.out] at hfro
  rw [HN.out] at hlea
  have HFRO := Lib.hid hfro
  have HLEA := Lib.hid hlea
  clear hfro hlea
  obtain ⟨W6, hW6⟩ : ∃ W6, W6 = w6 := ⟨_, rfl⟩
  subst hW6
  have HX0 := R6
  go_wp2
  go_cut [6, 7, 8] (fun s6 s7 s8 wx => ∃ n6 n7 A' c' l' g' x, s6 = .pointer (some ⟨n6, 0, none⟩) ∧ s7 = .pointer (some ⟨n7, 0, none⟩) ∧ s8 = .int .i64 x ∧ Hid (Blk wx n6 28 #[.slice A' N c', .int .i64 nx]) ∧ Hid (Blk wx n7 33 #[.int .i64 s, .int .i64 g', .bool ts]) ∧ Hid (RdY Rp (fun _ => False) wx (.slice A' N c') l') ∧ Hid (x = 0 → l' = l ∧ g' = q.group ∧ liveL l nx pid = true ∧ q.session = s) ∧ Ext W6 wx)
  case first =>
    refine wp_region_held_drew (S := fun w' => Ext W6 w') (by kernel_rfl) (Ext.drew (Ext.refl _)) (fun hHeld => ?_)
    (refine wpAnyH_take (i := 0) (v := ?_) rfl (by kernel_rfl) (by kernel_rfl) (by kernel_rfl) (fun _ _ _ h => h) (Or.inl ⟨by rfl, ?_⟩) (by assumption) ?_; rotate_left; (focus (intro w' hSw; have kc := (T.out.ext hSw).two; go_simp; try with_reducible rfl)); (try simp only [List.getElem_toArray]); (try simp only [List.getElem_cons_succ]); (try simp only [List.getElem_cons_zero]); (try simp only [Act.put]); (try simp only [List.setIfInBounds_toArray]); (try simp only [List.set_cons_succ]); (try simp only [List.set_cons_zero]))
    (refine wpAnyH_take (i := 1) (v := .agg #[.slice Ad N c, .int .i64 nx, .int .i64 s, .int .i64 g0, .bool ts, .int .i64 pid, .int .i64 g, .bool wr]) rfl (by kernel_rfl) (by kernel_rfl) (by kernel_rfl) (fun _ _ _ h => h) (yieldsIf_load_mid (by rfl) 24 _ rfl _ _ rfl (#[.slice Ad N c, .int .i64 nx, .int .i64 s, .int .i64 g0, .bool ts, .int .i64 pid, .int .i64 g, .bool wr]).toList _ (fun w' hSw => (fun i u hu => by rw [(Blk.ext B.out hSw).cell, Nat.zero_add, ← Array.getElem?_toList]; exact hu)) Try.underlying24 rfl i24) (by assumption) ?_; (try simp only [List.getElem_toArray]); (try simp only [List.getElem_cons_succ]); (try simp only [List.getElem_cons_zero]); (try simp only [Act.put]); (try simp only [List.setIfInBounds_toArray]); (try simp only [List.set_cons_succ]); (try simp only [List.set_cons_zero]))
    (refine wpAnyH_take (i := 3) (v := ?_) rfl (by kernel_rfl) (by kernel_rfl) (by kernel_rfl) (fun _ _ _ h => h) (Or.inl ⟨by rfl, ?_⟩) (by assumption) ?_; rotate_left; (focus (intro w' hSw; go_simp; try with_reducible rfl)); (try simp only [List.getElem_toArray]); (try simp only [List.getElem_cons_succ]); (try simp only [List.getElem_cons_zero]); (try simp only [Act.put]); (try simp only [List.setIfInBounds_toArray]); (try simp only [List.set_cons_succ]); (try simp only [List.set_cons_zero]))
    (refine wpAnyH_take (i := 4) (v := ?_) rfl (by kernel_rfl) (by kernel_rfl) (by kernel_rfl) (fun _ _ _ h => h) (Or.inl ⟨by rfl, ?_⟩) (by assumption) ?_; rotate_left; (focus (intro w' hSw; have kc := (B.out.ext hSw).cell 5; go_simp; try with_reducible rfl)); (try simp only [List.getElem_toArray]); (try simp only [List.getElem_cons_succ]); (try simp only [List.getElem_cons_zero]); (try simp only [Act.put]); (try simp only [List.setIfInBounds_toArray]); (try simp only [List.set_cons_succ]); (try simp only [List.set_cons_zero]))
    (refine wpAnyH_take (i := 5) (v := ?_) rfl (by kernel_rfl) (by kernel_rfl) (by kernel_rfl) (fun _ _ _ h => h) (Or.inl ⟨by rfl, ?_⟩) (by assumption) ?_; rotate_left; (focus (intro w' hSw; go_simp; try with_reducible rfl)); (try simp only [List.getElem_toArray]); (try simp only [List.getElem_cons_succ]); (try simp only [List.getElem_cons_zero]); (try simp only [Act.put]); (try simp only [List.setIfInBounds_toArray]); (try simp only [List.set_cons_succ]); (try simp only [List.set_cons_zero]))
    (refine wpAnyH_take (i := 6) (v := ?_) rfl (by kernel_rfl) (by kernel_rfl) (by kernel_rfl) (fun _ _ _ h => h) (Or.inl ⟨by rfl, ?_⟩) (by assumption) ?_; rotate_left; (focus (intro w' hSw; have kc := (prAt_blk hqok (P.out.ext hSw)).c2; go_simp; try with_reducible rfl)); (try simp only [List.getElem_toArray]); (try simp only [List.getElem_cons_succ]); (try simp only [List.getElem_cons_zero]); (try simp only [Act.put]); (try simp only [List.setIfInBounds_toArray]); (try simp only [List.set_cons_succ]); (try simp only [List.set_cons_zero]))
    have EH : Ext W6 W6.drew := Ext.drew (Ext.refl _)
    have HX := Lib.hid (R6.out.ext EH)
    clear hHeld
    generalize W6.drew = w19 at *
    refine wpAnyH_ready (rs := [2, 12, 13]) (by kernel_rfl) (by simp) ?_
    refine (AllReadyH.cons rfl (fun K hK => ?_) (AllReadyH.cons rfl (fun K hK => ?_) (AllReadyH.cons rfl (fun K hK => ?_) AllReadyH.nil)))
    ·
      go_simp
      go_at_call 10
      refine (tty_any Ad N c nx s g0 ts pid g wr _).mono ?_
      rintro e w20 ⟨rfl, E3⟩
      (try dsimp only)
      refine hK.out _ _ (EH.trans E3) (fun hHeld => ?_)
      clear hK K hHeld
      (try simp only [List.getElem_toArray]); (try simp only [List.getElem_cons_succ]); (try simp only [List.getElem_cons_zero]); (try simp only [Act.put]); (try simp only [List.setIfInBounds_toArray]); (try simp only [List.set_cons_succ]); (try simp only [List.set_cons_zero])
      have HX := Lib.hid (HX.out.ext E3)
      have EH := EH.trans E3
      clear E3
      refine wpAnyH_ready (rs := [7, 12, 13]) (by kernel_rfl) (by simp) ?_
      refine (AllReadyH.cons rfl (fun K hK => ?_) (AllReadyH.cons rfl (fun K hK => ?_) (AllReadyH.cons rfl (fun K hK => ?_) AllReadyH.nil)))
      ·
        go_simp
        go_at_call 21
        refine (HFRO.out w20 HX.out).mono ?_
        rintro e w21 ⟨A', c', l', g', x, rfl, T7, HX7, E3⟩
        (try dsimp only)
        refine hK.out _ _ (EH.trans E3) (fun hHeld => ?_)
        clear hK K hHeld
        (try simp only [List.getElem_toArray]); (try simp only [List.getElem_cons_succ]); (try simp only [List.getElem_cons_zero]); (try simp only [Act.put]); (try simp only [List.setIfInBounds_toArray]); (try simp only [List.set_cons_succ]); (try simp only [List.set_cons_zero])
        have HX7 := Lib.hid HX7
        have HX := Lib.hid (HX.out.ext E3)
        have T7 := Lib.hid (T7.lower (Nat.zero_le _))
        have EH := EH.trans E3
        clear E3
        have hHeld : Ext W6 w21 := EH
        (refine wpAnyH_take (i := 8) (v := ?_) rfl (by kernel_rfl) (by kernel_rfl) (by kernel_rfl) (fun _ _ _ h => h) (Or.inl ⟨by rfl, ?_⟩) (by assumption) ?_; rotate_left; (focus (intro w' hSw; go_simp; try with_reducible rfl)); (try simp only [List.getElem_toArray]); (try simp only [List.getElem_cons_succ]); (try simp only [List.getElem_cons_zero]); (try simp only [Act.put]); (try simp only [List.setIfInBounds_toArray]); (try simp only [List.set_cons_succ]); (try simp only [List.set_cons_zero]))
        (refine wpAnyH_take (i := 9) (v := ?_) rfl (by kernel_rfl) (by kernel_rfl) (by kernel_rfl) (fun _ _ _ h => h) (Or.inl ⟨by rfl, ?_⟩) (by assumption) ?_; rotate_left; (focus (intro w' hSw; go_simp; try with_reducible rfl)); (try simp only [List.getElem_toArray]); (try simp only [List.getElem_cons_succ]); (try simp only [List.getElem_cons_zero]); (try simp only [Act.put]); (try simp only [List.setIfInBounds_toArray]); (try simp only [List.set_cons_succ]); (try simp only [List.set_cons_zero]))
        (refine wpAnyH_take (i := 10) (v := ?_) rfl (by kernel_rfl) (by kernel_rfl) (by kernel_rfl) (fun _ _ _ h => h) (Or.inl ⟨by rfl, ?_⟩) (by assumption) ?_; rotate_left; (focus (intro w' hSw; go_simp; try with_reducible rfl)); (try simp only [List.getElem_toArray]); (try simp only [List.getElem_cons_succ]); (try simp only [List.getElem_cons_zero]); (try simp only [Act.put]); (try simp only [List.setIfInBounds_toArray]); (try simp only [List.set_cons_succ]); (try simp only [List.set_cons_zero]))
        (refine wpAnyH_take (i := 11) (v := ?_) rfl (by kernel_rfl) (by kernel_rfl) (by kernel_rfl) (fun _ _ _ h => h) (Or.inl ⟨by rfl, ?_⟩) (by assumption) ?_; rotate_left; (focus (intro w' hSw; go_simp; try with_reducible rfl)); (try simp only [List.getElem_toArray]); (try simp only [List.getElem_cons_succ]); (try simp only [List.getElem_cons_zero]); (try simp only [Act.put]); (try simp only [List.setIfInBounds_toArray]); (try simp only [List.set_cons_succ]); (try simp only [List.set_cons_zero]))
        clear hHeld
        refine wpAnyH_ready (rs := [12, 13]) (by kernel_rfl) (by simp) ?_
        refine (AllReadyH.cons rfl (fun K hK => ?_) (AllReadyH.cons rfl (fun K hK => ?_) AllReadyH.nil))
        ·
          go_simp
          refine hK.out _ _ (EH.alloc _) (fun hHeld => ?_)
          clear hK K hHeld
          (try simp only [List.getElem_toArray]); (try simp only [List.getElem_cons_succ]); (try simp only [List.getElem_cons_zero]); (try simp only [Act.put]); (try simp only [List.setIfInBounds_toArray]); (try simp only [List.set_cons_succ]); (try simp only [List.set_cons_zero])
          have HX := Lib.hid (HX.out.ext ((Ext.refl _).alloc (.cells #[.slice none 0 0, .int .i64 0] 28)))
          have T7 := Lib.hid (T7.out.ext ((Ext.refl _).alloc (.cells #[.slice none 0 0, .int .i64 0] 28)))
          have B6 := Lib.hid (Blk.new w21 28 #[.slice none 0 0, .int .i64 0])
          obtain ⟨n6, hn6⟩ : ∃ n6, w21.heap.size = n6 := ⟨_, rfl⟩
          have hn6W : W6.heap.size ≤ n6 := by rw [← hn6]; exact EH.size
          have EH := EH.alloc (.cells #[.slice none 0 0, .int .i64 0] 28)
          rw [hn6] at B6 ⊢
          clear hn6
          generalize w21.alloc _ = w22 at *
          have LB6 := B6.out.lt
          refine wpAnyH_ready (rs := [13]) (by kernel_rfl) (by simp) ?_
          refine (AllReadyH.cons rfl (fun K hK => ?_) AllReadyH.nil)
          go_simp
          refine hK.out _ _ (EH.alloc _) (fun hHeld => ?_)
          clear hK K hHeld
          (try simp only [List.getElem_toArray]); (try simp only [List.getElem_cons_succ]); (try simp only [List.getElem_cons_zero]); (try simp only [Act.put]); (try simp only [List.setIfInBounds_toArray]); (try simp only [List.set_cons_succ]); (try simp only [List.set_cons_zero])
          have HX := Lib.hid (HX.out.ext ((Ext.refl _).alloc (.cells #[.int .i64 0, .int .i64 0, .bool false] 33)))
          have T7 := Lib.hid (T7.out.ext ((Ext.refl _).alloc (.cells #[.int .i64 0, .int .i64 0, .bool false] 33)))
          have B6 := Lib.hid (B6.out.ext ((Ext.refl _).alloc (.cells #[.int .i64 0, .int .i64 0, .bool false] 33)))
          have B7 := Lib.hid (Blk.new w22 33 #[.int .i64 0, .int .i64 0, .bool false])
          obtain ⟨n7, hn7⟩ : ∃ n7, w22.heap.size = n7 := ⟨_, rfl⟩
          have hn7W : W6.heap.size ≤ n7 := by rw [← hn7]; exact EH.size
          have EH := EH.alloc (.cells #[.int .i64 0, .int .i64 0, .bool false] 33)
          rw [hn7] at B7 ⊢
          have hne_n6_n7 : n6 ≠ n7 := by have := LB6; omega
          have hne_n7_n6 : n7 ≠ n6 := fun h => hne_n6_n7 h.symm
          clear hn7
          generalize w22.alloc _ = w23 at *
          have LB7 := B7.out.lt
          have hHeld : Ext W6 w23 := EH
          have k6 := B6.out.two
          have C6 := B6.out.put2 (.slice A' N c') (.int .i64 nx)
          have M6 : Mod (fun k => k = n6) w23 _ := ((Mod.refl _ w23).set1 (.slice A' N c') (o := 0)).set1 (.int .i64 nx) (o := 1)
          have C7 := B7.out.mod M6 hne_n7_n6
          have T8 := T7.out.mod M6 B6.out (by decide)
          have EH7 := (EH.setNew (p := ⟨n6, 0, none⟩) hn6W (.slice A' N c')).setNew (p := ⟨n6, 1, none⟩) hn6W (.int .i64 nx)
          (refine wpAnyH_ready (rs := [14]) (by kernel_rfl) (by simp) ?_; refine AllReadyH.cons rfl (fun K hK => ?_) AllReadyH.nil; go_simp; refine hK.out _ _ EH7 (fun hHeld => ?_); clear hK K; (try simp only [Act.put]); (try simp only [List.getElem_toArray]); (try simp only [List.getElem_cons_succ]); (try simp only [List.getElem_cons_zero]); (try simp only [List.setIfInBounds_toArray]); (try simp only [List.set_cons_succ]); (try simp only [List.set_cons_zero]))
          generalize World.setCell (World.setCell w23 _ _) _ _ = z1 at *
          have r0 := C7.cell 0
          have r1 := C7.cell 1
          have r2 := C7.cell 2
          have f0 := C7.frozen 0
          have f1 := C7.frozen 1
          have f2 := C7.frozen 2
          have M7 : Mod (fun k => k = n7) z1 _ := (((Mod.refl _ z1).set1 (.int .i64 s) (o := 0)).set1 (.int .i64 g') (o := 1)).set1 (.bool ts) (o := 2)
          have EH8 := ((EH7.setNew (p := ⟨n7, 0, none⟩) hn7W (.int .i64 s)).setNew (p := ⟨n7, 1, none⟩) hn7W (.int .i64 g')).setNew (p := ⟨n7, 2, none⟩) hn7W (.bool ts)
          have D6 := Lib.hid (C6.mod M7 hne_n6_n7)
          have D7 := Lib.hid (show Blk _ _ _ #[.int .i64 s, .int .i64 g', .bool ts] from ((C7.set_ 0 (.int .i64 s)).set_ 1 (.int .i64 g')).set_ 2 (.bool ts))
          have T9 := T8.mod M7 C7 (by decide)
          have HR := Lib.hid (show RdY Rp (fun _ => False) _ (.slice A' N c') l' by rw [← HN.out]; exact T9.y (A := fun _ => False) (by rw [HN.out]; exact HX0.out) EH8)
          (refine wpAnyH_ready (rs := [15]) (by kernel_rfl) (by simp) ?_; refine AllReadyH.cons rfl (fun K hK => ?_) AllReadyH.nil; go_simp; refine hK.out _ _ EH8 (fun hHeld => ?_); clear hK K; (try simp only [Act.put]); (try simp only [List.getElem_toArray]); (try simp only [List.getElem_cons_succ]); (try simp only [List.getElem_cons_zero]); (try simp only [List.setIfInBounds_toArray]); (try simp only [List.set_cons_succ]); (try simp only [List.set_cons_zero]))
          (refine wpAnyH_take (i := 16) (v := ?_) rfl (by kernel_rfl) (by kernel_rfl) (by kernel_rfl) (fun _ _ _ h => h) (Or.inl ⟨by rfl, ?_⟩) (by assumption) ?_; rotate_left; (focus (intro w' hSw; go_simp; try with_reducible rfl)); (try simp only [List.getElem_toArray]); (try simp only [List.getElem_cons_succ]); (try simp only [List.getElem_cons_zero]); (try simp only [Act.put]); (try simp only [List.setIfInBounds_toArray]); (try simp only [List.set_cons_succ]); (try simp only [List.set_cons_zero]))
          refine wpAnyH_done (by kernel_rfl) ?_ _
          go_wp2_with fail
          go_meet
          exact ⟨n6, n7, A', c', l', g', x, rfl, rfl, rfl, D6, D7, HR, HX7, hHeld⟩
        ·
          go_simp
          refine hK.out _ _ (EH.alloc _) (fun hHeld => ?_)
          clear hK K hHeld
          (try simp only [List.getElem_toArray]); (try simp only [List.getElem_cons_succ]); (try simp only [List.getElem_cons_zero]); (try simp only [Act.put]); (try simp only [List.setIfInBounds_toArray]); (try simp only [List.set_cons_succ]); (try simp only [List.set_cons_zero])
          have HX := Lib.hid (HX.out.ext ((Ext.refl _).alloc (.cells #[.int .i64 0, .int .i64 0, .bool false] 33)))
          have T7 := Lib.hid (T7.out.ext ((Ext.refl _).alloc (.cells #[.int .i64 0, .int .i64 0, .bool false] 33)))
          have B7 := Lib.hid (Blk.new w21 33 #[.int .i64 0, .int .i64 0, .bool false])
          obtain ⟨n7, hn7⟩ : ∃ n7, w21.heap.size = n7 := ⟨_, rfl⟩
          have hn7W : W6.heap.size ≤ n7 := by rw [← hn7]; exact EH.size
          have EH := EH.alloc (.cells #[.int .i64 0, .int .i64 0, .bool false] 33)
          rw [hn7] at B7 ⊢
          clear hn7
          generalize w21.alloc _ = w22 at *
          have LB7 := B7.out.lt
          refine wpAnyH_ready (rs := [12]) (by kernel_rfl) (by simp) ?_
          refine (AllReadyH.cons rfl (fun K hK => ?_) AllReadyH.nil)
          go_simp
          refine hK.out _ _ (EH.alloc _) (fun hHeld => ?_)
          clear hK K hHeld
          (try simp only [List.getElem_toArray]); (try simp only [List.getElem_cons_succ]); (try simp only [List.getElem_cons_zero]); (try simp only [Act.put]); (try simp only [List.setIfInBounds_toArray]); (try simp only [List.set_cons_succ]); (try simp only [List.set_cons_zero])
          have HX := Lib.hid (HX.out.ext ((Ext.refl _).alloc (.cells #[.slice none 0 0, .int .i64 0] 28)))
          have T7 := Lib.hid (T7.out.ext ((Ext.refl _).alloc (.cells #[.slice none 0 0, .int .i64 0] 28)))
          have B7 := Lib.hid (B7.out.ext ((Ext.refl _).alloc (.cells #[.slice none 0 0, .int .i64 0] 28)))
          have B6 := Lib.hid (Blk.new w22 28 #[.slice none 0 0, .int .i64 0])
          obtain ⟨n6, hn6⟩ : ∃ n6, w22.heap.size = n6 := ⟨_, rfl⟩
          have hn6W : W6.heap.size ≤ n6 := by rw [← hn6]; exact EH.size
          have EH := EH.alloc (.cells #[.slice none 0 0, .int .i64 0] 28)
          rw [hn6] at B6 ⊢
          have hne_n7_n6 : n7 ≠ n6 := by have := LB7; omega
          have hne_n6_n7 : n6 ≠ n7 := fun h => hne_n7_n6 h.symm
          clear hn6
          generalize w22.alloc _ = w23 at *
          have LB6 := B6.out.lt
          have hHeld : Ext W6 w23 := EH
          have k6 := B6.out.two
          have C6 := B6.out.put2 (.slice A' N c') (.int .i64 nx)
          have M6 : Mod (fun k => k = n6) w23 _ := ((Mod.refl _ w23).set1 (.slice A' N c') (o := 0)).set1 (.int .i64 nx) (o := 1)
          have C7 := B7.out.mod M6 hne_n7_n6
          have T8 := T7.out.mod M6 B6.out (by decide)
          have EH7 := (EH.setNew (p := ⟨n6, 0, none⟩) hn6W (.slice A' N c')).setNew (p := ⟨n6, 1, none⟩) hn6W (.int .i64 nx)
          (refine wpAnyH_ready (rs := [14]) (by kernel_rfl) (by simp) ?_; refine AllReadyH.cons rfl (fun K hK => ?_) AllReadyH.nil; go_simp; refine hK.out _ _ EH7 (fun hHeld => ?_); clear hK K; (try simp only [Act.put]); (try simp only [List.getElem_toArray]); (try simp only [List.getElem_cons_succ]); (try simp only [List.getElem_cons_zero]); (try simp only [List.setIfInBounds_toArray]); (try simp only [List.set_cons_succ]); (try simp only [List.set_cons_zero]))
          generalize World.setCell (World.setCell w23 _ _) _ _ = z1 at *
          have r0 := C7.cell 0
          have r1 := C7.cell 1
          have r2 := C7.cell 2
          have f0 := C7.frozen 0
          have f1 := C7.frozen 1
          have f2 := C7.frozen 2
          have M7 : Mod (fun k => k = n7) z1 _ := (((Mod.refl _ z1).set1 (.int .i64 s) (o := 0)).set1 (.int .i64 g') (o := 1)).set1 (.bool ts) (o := 2)
          have EH8 := ((EH7.setNew (p := ⟨n7, 0, none⟩) hn7W (.int .i64 s)).setNew (p := ⟨n7, 1, none⟩) hn7W (.int .i64 g')).setNew (p := ⟨n7, 2, none⟩) hn7W (.bool ts)
          have D6 := Lib.hid (C6.mod M7 hne_n6_n7)
          have D7 := Lib.hid (show Blk _ _ _ #[.int .i64 s, .int .i64 g', .bool ts] from ((C7.set_ 0 (.int .i64 s)).set_ 1 (.int .i64 g')).set_ 2 (.bool ts))
          have T9 := T8.mod M7 C7 (by decide)
          have HR := Lib.hid (show RdY Rp (fun _ => False) _ (.slice A' N c') l' by rw [← HN.out]; exact T9.y (A := fun _ => False) (by rw [HN.out]; exact HX0.out) EH8)
          (refine wpAnyH_ready (rs := [15]) (by kernel_rfl) (by simp) ?_; refine AllReadyH.cons rfl (fun K hK => ?_) AllReadyH.nil; go_simp; refine hK.out _ _ EH8 (fun hHeld => ?_); clear hK K; (try simp only [Act.put]); (try simp only [List.getElem_toArray]); (try simp only [List.getElem_cons_succ]); (try simp only [List.getElem_cons_zero]); (try simp only [List.setIfInBounds_toArray]); (try simp only [List.set_cons_succ]); (try simp only [List.set_cons_zero]))
          (refine wpAnyH_take (i := 16) (v := ?_) rfl (by kernel_rfl) (by kernel_rfl) (by kernel_rfl) (fun _ _ _ h => h) (Or.inl ⟨by rfl, ?_⟩) (by assumption) ?_; rotate_left; (focus (intro w' hSw; go_simp; try with_reducible rfl)); (try simp only [List.getElem_toArray]); (try simp only [List.getElem_cons_succ]); (try simp only [List.getElem_cons_zero]); (try simp only [Act.put]); (try simp only [List.setIfInBounds_toArray]); (try simp only [List.set_cons_succ]); (try simp only [List.set_cons_zero]))
          refine wpAnyH_done (by kernel_rfl) ?_ _
          go_wp2_with fail
          go_meet
          exact ⟨n6, n7, A', c', l', g', x, rfl, rfl, rfl, D6, D7, HR, HX7, hHeld⟩
      ·
        go_simp
        refine hK.out _ _ (EH.alloc _) (fun hHeld => ?_)
        clear hK K hHeld
        (try simp only [List.getElem_toArray]); (try simp only [List.getElem_cons_succ]); (try simp only [List.getElem_cons_zero]); (try simp only [Act.put]); (try simp only [List.setIfInBounds_toArray]); (try simp only [List.set_cons_succ]); (try simp only [List.set_cons_zero])
        have HX := Lib.hid (HX.out.ext ((Ext.refl _).alloc (.cells #[.slice none 0 0, .int .i64 0] 28)))
        have B6 := Lib.hid (Blk.new w20 28 #[.slice none 0 0, .int .i64 0])
        obtain ⟨n6, hn6⟩ : ∃ n6, w20.heap.size = n6 := ⟨_, rfl⟩
        have hn6W : W6.heap.size ≤ n6 := by rw [← hn6]; exact EH.size
        have EH := EH.alloc (.cells #[.slice none 0 0, .int .i64 0] 28)
        rw [hn6] at B6 ⊢
        clear hn6
        generalize w20.alloc _ = w21 at *
        have LB6 := B6.out.lt
        refine wpAnyH_ready (rs := [7, 13]) (by kernel_rfl) (by simp) ?_
        refine (AllReadyH.cons rfl (fun K hK => ?_) (AllReadyH.cons rfl (fun K hK => ?_) AllReadyH.nil))
        ·
          go_simp
          go_at_call 21
          refine (HFRO.out w21 HX.out).mono ?_
          rintro e w22 ⟨A', c', l', g', x, rfl, T7, HX7, E3⟩
          (try dsimp only)
          refine hK.out _ _ (EH.trans E3) (fun hHeld => ?_)
          clear hK K hHeld
          (try simp only [List.getElem_toArray]); (try simp only [List.getElem_cons_succ]); (try simp only [List.getElem_cons_zero]); (try simp only [Act.put]); (try simp only [List.setIfInBounds_toArray]); (try simp only [List.set_cons_succ]); (try simp only [List.set_cons_zero])
          have HX7 := Lib.hid HX7
          have HX := Lib.hid (HX.out.ext E3)
          have B6 := Lib.hid (B6.out.ext E3)
          have T7 := Lib.hid (T7.lower (Nat.zero_le _))
          have EH := EH.trans E3
          have LB6 := B6.out.lt
          clear E3
          have hHeld : Ext W6 w22 := EH
          (refine wpAnyH_take (i := 8) (v := ?_) rfl (by kernel_rfl) (by kernel_rfl) (by kernel_rfl) (fun _ _ _ h => h) (Or.inl ⟨by rfl, ?_⟩) (by assumption) ?_; rotate_left; (focus (intro w' hSw; go_simp; try with_reducible rfl)); (try simp only [List.getElem_toArray]); (try simp only [List.getElem_cons_succ]); (try simp only [List.getElem_cons_zero]); (try simp only [Act.put]); (try simp only [List.setIfInBounds_toArray]); (try simp only [List.set_cons_succ]); (try simp only [List.set_cons_zero]))
          (refine wpAnyH_take (i := 9) (v := ?_) rfl (by kernel_rfl) (by kernel_rfl) (by kernel_rfl) (fun _ _ _ h => h) (Or.inl ⟨by rfl, ?_⟩) (by assumption) ?_; rotate_left; (focus (intro w' hSw; go_simp; try with_reducible rfl)); (try simp only [List.getElem_toArray]); (try simp only [List.getElem_cons_succ]); (try simp only [List.getElem_cons_zero]); (try simp only [Act.put]); (try simp only [List.setIfInBounds_toArray]); (try simp only [List.set_cons_succ]); (try simp only [List.set_cons_zero]))
          (refine wpAnyH_take (i := 10) (v := ?_) rfl (by kernel_rfl) (by kernel_rfl) (by kernel_rfl) (fun _ _ _ h => h) (Or.inl ⟨by rfl, ?_⟩) (by assumption) ?_; rotate_left; (focus (intro w' hSw; go_simp; try with_reducible rfl)); (try simp only [List.getElem_toArray]); (try simp only [List.getElem_cons_succ]); (try simp only [List.getElem_cons_zero]); (try simp only [Act.put]); (try simp only [List.setIfInBounds_toArray]); (try simp only [List.set_cons_succ]); (try simp only [List.set_cons_zero]))
          (refine wpAnyH_take (i := 11) (v := ?_) rfl (by kernel_rfl) (by kernel_rfl) (by kernel_rfl) (fun _ _ _ h => h) (Or.inl ⟨by rfl, ?_⟩) (by assumption) ?_; rotate_left; (focus (intro w' hSw; go_simp; try with_reducible rfl)); (try simp only [List.getElem_toArray]); (try simp only [List.getElem_cons_succ]); (try simp only [List.getElem_cons_zero]); (try simp only [Act.put]); (try simp only [List.setIfInBounds_toArray]); (try simp only [List.set_cons_succ]); (try simp only [List.set_cons_zero]))
          clear hHeld
          refine wpAnyH_ready (rs := [13]) (by kernel_rfl) (by simp) ?_
          refine (AllReadyH.cons rfl (fun K hK => ?_) AllReadyH.nil)
          go_simp
          refine hK.out _ _ (EH.alloc _) (fun hHeld => ?_)
          clear hK K hHeld
          (try simp only [List.getElem_toArray]); (try simp only [List.getElem_cons_succ]); (try simp only [List.getElem_cons_zero]); (try simp only [Act.put]); (try simp only [List.setIfInBounds_toArray]); (try simp only [List.set_cons_succ]); (try simp only [List.set_cons_zero])
          have HX := Lib.hid (HX.out.ext ((Ext.refl _).alloc (.cells #[.int .i64 0, .int .i64 0, .bool false] 33)))
          have B6 := Lib.hid (B6.out.ext ((Ext.refl _).alloc (.cells #[.int .i64 0, .int .i64 0, .bool false] 33)))
          have T7 := Lib.hid (T7.out.ext ((Ext.refl _).alloc (.cells #[.int .i64 0, .int .i64 0, .bool false] 33)))
          have B7 := Lib.hid (Blk.new w22 33 #[.int .i64 0, .int .i64 0, .bool false])
          obtain ⟨n7, hn7⟩ : ∃ n7, w22.heap.size = n7 := ⟨_, rfl⟩
          have hn7W : W6.heap.size ≤ n7 := by rw [← hn7]; exact EH.size
          have EH := EH.alloc (.cells #[.int .i64 0, .int .i64 0, .bool false] 33)
          rw [hn7] at B7 ⊢
          have hne_n6_n7 : n6 ≠ n7 := by have := LB6; omega
          have hne_n7_n6 : n7 ≠ n6 := fun h => hne_n6_n7 h.symm
          clear hn7
          generalize w22.alloc _ = w23 at *
          have LB7 := B7.out.lt
          have hHeld : Ext W6 w23 := EH
          have k6 := B6.out.two
          have C6 := B6.out.put2 (.slice A' N c') (.int .i64 nx)
          have M6 : Mod (fun k => k = n6) w23 _ := ((Mod.refl _ w23).set1 (.slice A' N c') (o := 0)).set1 (.int .i64 nx) (o := 1)
          have C7 := B7.out.mod M6 hne_n7_n6
          have T8 := T7.out.mod M6 B6.out (by decide)
          have EH7 := (EH.setNew (p := ⟨n6, 0, none⟩) hn6W (.slice A' N c')).setNew (p := ⟨n6, 1, none⟩) hn6W (.int .i64 nx)
          (refine wpAnyH_ready (rs := [14]) (by kernel_rfl) (by simp) ?_; refine AllReadyH.cons rfl (fun K hK => ?_) AllReadyH.nil; go_simp; refine hK.out _ _ EH7 (fun hHeld => ?_); clear hK K; (try simp only [Act.put]); (try simp only [List.getElem_toArray]); (try simp only [List.getElem_cons_succ]); (try simp only [List.getElem_cons_zero]); (try simp only [List.setIfInBounds_toArray]); (try simp only [List.set_cons_succ]); (try simp only [List.set_cons_zero]))
          generalize World.setCell (World.setCell w23 _ _) _ _ = z1 at *
          have r0 := C7.cell 0
          have r1 := C7.cell 1
          have r2 := C7.cell 2
          have f0 := C7.frozen 0
          have f1 := C7.frozen 1
          have f2 := C7.frozen 2
          have M7 : Mod (fun k => k = n7) z1 _ := (((Mod.refl _ z1).set1 (.int .i64 s) (o := 0)).set1 (.int .i64 g') (o := 1)).set1 (.bool ts) (o := 2)
          have EH8 := ((EH7.setNew (p := ⟨n7, 0, none⟩) hn7W (.int .i64 s)).setNew (p := ⟨n7, 1, none⟩) hn7W (.int .i64 g')).setNew (p := ⟨n7, 2, none⟩) hn7W (.bool ts)
          have D6 := Lib.hid (C6.mod M7 hne_n6_n7)
          have D7 := Lib.hid (show Blk _ _ _ #[.int .i64 s, .int .i64 g', .bool ts] from ((C7.set_ 0 (.int .i64 s)).set_ 1 (.int .i64 g')).set_ 2 (.bool ts))
          have T9 := T8.mod M7 C7 (by decide)
          have HR := Lib.hid (show RdY Rp (fun _ => False) _ (.slice A' N c') l' by rw [← HN.out]; exact T9.y (A := fun _ => False) (by rw [HN.out]; exact HX0.out) EH8)
          (refine wpAnyH_ready (rs := [15]) (by kernel_rfl) (by simp) ?_; refine AllReadyH.cons rfl (fun K hK => ?_) AllReadyH.nil; go_simp; refine hK.out _ _ EH8 (fun hHeld => ?_); clear hK K; (try simp only [Act.put]); (try simp only [List.getElem_toArray]); (try simp only [List.getElem_cons_succ]); (try simp only [List.getElem_cons_zero]); (try simp only [List.setIfInBounds_toArray]); (try simp only [List.set_cons_succ]); (try simp only [List.set_cons_zero]))
          (refine wpAnyH_take (i := 16) (v := ?_) rfl (by kernel_rfl) (by kernel_rfl) (by kernel_rfl) (fun _ _ _ h => h) (Or.inl ⟨by rfl, ?_⟩) (by assumption) ?_; rotate_left; (focus (intro w' hSw; go_simp; try with_reducible rfl)); (try simp only [List.getElem_toArray]); (try simp only [List.getElem_cons_succ]); (try simp only [List.getElem_cons_zero]); (try simp only [Act.put]); (try simp only [List.setIfInBounds_toArray]); (try simp only [List.set_cons_succ]); (try simp only [List.set_cons_zero]))
          refine wpAnyH_done (by kernel_rfl) ?_ _
          go_wp2_with fail
          go_meet
          exact ⟨n6, n7, A', c', l', g', x, rfl, rfl, rfl, D6, D7, HR, HX7, hHeld⟩
        ·
          go_simp
          refine hK.out _ _ (EH.alloc _) (fun hHeld => ?_)
          clear hK K hHeld
          (try simp only [List.getElem_toArray]); (try simp only [List.getElem_cons_succ]); (try simp only [List.getElem_cons_zero]); (try simp only [Act.put]); (try simp only [List.setIfInBounds_toArray]); (try simp only [List.set_cons_succ]); (try simp only [List.set_cons_zero])
          have HX := Lib.hid (HX.out.ext ((Ext.refl _).alloc (.cells #[.int .i64 0, .int .i64 0, .bool false] 33)))
          have B6 := Lib.hid (B6.out.ext ((Ext.refl _).alloc (.cells #[.int .i64 0, .int .i64 0, .bool false] 33)))
          have B7 := Lib.hid (Blk.new w21 33 #[.int .i64 0, .int .i64 0, .bool false])
          obtain ⟨n7, hn7⟩ : ∃ n7, w21.heap.size = n7 := ⟨_, rfl⟩
          have hn7W : W6.heap.size ≤ n7 := by rw [← hn7]; exact EH.size
          have EH := EH.alloc (.cells #[.int .i64 0, .int .i64 0, .bool false] 33)
          rw [hn7] at B7 ⊢
          have hne_n6_n7 : n6 ≠ n7 := by have := LB6; omega
          have hne_n7_n6 : n7 ≠ n6 := fun h => hne_n6_n7 h.symm
          clear hn7
          generalize w21.alloc _ = w22 at *
          have LB7 := B7.out.lt
          refine wpAnyH_ready (rs := [7]) (by kernel_rfl) (by simp) ?_
          refine (AllReadyH.cons rfl (fun K hK => ?_) AllReadyH.nil)
          go_simp
          go_at_call 21
          refine (HFRO.out w22 HX.out).mono ?_
          rintro e w23 ⟨A', c', l', g', x, rfl, T7, HX7, E3⟩
          (try dsimp only)
          refine hK.out _ _ (EH.trans E3) (fun hHeld => ?_)
          clear hK K hHeld
          (try simp only [List.getElem_toArray]); (try simp only [List.getElem_cons_succ]); (try simp only [List.getElem_cons_zero]); (try simp only [Act.put]); (try simp only [List.setIfInBounds_toArray]); (try simp only [List.set_cons_succ]); (try simp only [List.set_cons_zero])
          have HX7 := Lib.hid HX7
          have HX := Lib.hid (HX.out.ext E3)
          have B6 := Lib.hid (B6.out.ext E3)
          have B7 := Lib.hid (B7.out.ext E3)
          have T7 := Lib.hid (T7.lower (Nat.zero_le _))
          have EH := EH.trans E3
          have LB6 := B6.out.lt
          have LB7 := B7.out.lt
          clear E3
          have hHeld : Ext W6 w23 := EH
          (refine wpAnyH_take (i := 8) (v := ?_) rfl (by kernel_rfl) (by kernel_rfl) (by kernel_rfl) (fun _ _ _ h => h) (Or.inl ⟨by rfl, ?_⟩) (by assumption) ?_; rotate_left; (focus (intro w' hSw; go_simp; try with_reducible rfl)); (try simp only [List.getElem_toArray]); (try simp only [List.getElem_cons_succ]); (try simp only [List.getElem_cons_zero]); (try simp only [Act.put]); (try simp only [List.setIfInBounds_toArray]); (try simp only [List.set_cons_succ]); (try simp only [List.set_cons_zero]))
          (refine wpAnyH_take (i := 9) (v := ?_) rfl (by kernel_rfl) (by kernel_rfl) (by kernel_rfl) (fun _ _ _ h => h) (Or.inl ⟨by rfl, ?_⟩) (by assumption) ?_; rotate_left; (focus (intro w' hSw; go_simp; try with_reducible rfl)); (try simp only [List.getElem_toArray]); (try simp only [List.getElem_cons_succ]); (try simp only [List.getElem_cons_zero]); (try simp only [Act.put]); (try simp only [List.setIfInBounds_toArray]); (try simp only [List.set_cons_succ]); (try simp only [List.set_cons_zero]))
          (refine wpAnyH_take (i := 10) (v := ?_) rfl (by kernel_rfl) (by kernel_rfl) (by kernel_rfl) (fun _ _ _ h => h) (Or.inl ⟨by rfl, ?_⟩) (by assumption) ?_; rotate_left; (focus (intro w' hSw; go_simp; try with_reducible rfl)); (try simp only [List.getElem_toArray]); (try simp only [List.getElem_cons_succ]); (try simp only [List.getElem_cons_zero]); (try simp only [Act.put]); (try simp only [List.setIfInBounds_toArray]); (try simp only [List.set_cons_succ]); (try simp only [List.set_cons_zero]))
          (refine wpAnyH_take (i := 11) (v := ?_) rfl (by kernel_rfl) (by kernel_rfl) (by kernel_rfl) (fun _ _ _ h => h) (Or.inl ⟨by rfl, ?_⟩) (by assumption) ?_; rotate_left; (focus (intro w' hSw; go_simp; try with_reducible rfl)); (try simp only [List.getElem_toArray]); (try simp only [List.getElem_cons_succ]); (try simp only [List.getElem_cons_zero]); (try simp only [Act.put]); (try simp only [List.setIfInBounds_toArray]); (try simp only [List.set_cons_succ]); (try simp only [List.set_cons_zero]))
          clear hHeld
          have hHeld : Ext W6 w23 := EH
          have k6 := B6.out.two
          have C6 := B6.out.put2 (.slice A' N c') (.int .i64 nx)
          have M6 : Mod (fun k => k = n6) w23 _ := ((Mod.refl _ w23).set1 (.slice A' N c') (o := 0)).set1 (.int .i64 nx) (o := 1)
          have C7 := B7.out.mod M6 hne_n7_n6
          have T8 := T7.out.mod M6 B6.out (by decide)
          have EH7 := (EH.setNew (p := ⟨n6, 0, none⟩) hn6W (.slice A' N c')).setNew (p := ⟨n6, 1, none⟩) hn6W (.int .i64 nx)
          (refine wpAnyH_ready (rs := [14]) (by kernel_rfl) (by simp) ?_; refine AllReadyH.cons rfl (fun K hK => ?_) AllReadyH.nil; go_simp; refine hK.out _ _ EH7 (fun hHeld => ?_); clear hK K; (try simp only [Act.put]); (try simp only [List.getElem_toArray]); (try simp only [List.getElem_cons_succ]); (try simp only [List.getElem_cons_zero]); (try simp only [List.setIfInBounds_toArray]); (try simp only [List.set_cons_succ]); (try simp only [List.set_cons_zero]))
          generalize World.setCell (World.setCell w23 _ _) _ _ = z1 at *
          have r0 := C7.cell 0
          have r1 := C7.cell 1
          have r2 := C7.cell 2
          have f0 := C7.frozen 0
          have f1 := C7.frozen 1
          have f2 := C7.frozen 2
          have M7 : Mod (fun k => k = n7) z1 _ := (((Mod.refl _ z1).set1 (.int .i64 s) (o := 0)).set1 (.int .i64 g') (o := 1)).set1 (.bool ts) (o := 2)
          have EH8 := ((EH7.setNew (p := ⟨n7, 0, none⟩) hn7W (.int .i64 s)).setNew (p := ⟨n7, 1, none⟩) hn7W (.int .i64 g')).setNew (p := ⟨n7, 2, none⟩) hn7W (.bool ts)
          have D6 := Lib.hid (C6.mod M7 hne_n6_n7)
          have D7 := Lib.hid (show Blk _ _ _ #[.int .i64 s, .int .i64 g', .bool ts] from ((C7.set_ 0 (.int .i64 s)).set_ 1 (.int .i64 g')).set_ 2 (.bool ts))
          have T9 := T8.mod M7 C7 (by decide)
          have HR := Lib.hid (show RdY Rp (fun _ => False) _ (.slice A' N c') l' by rw [← HN.out]; exact T9.y (A := fun _ => False) (by rw [HN.out]; exact HX0.out) EH8)
          (refine wpAnyH_ready (rs := [15]) (by kernel_rfl) (by simp) ?_; refine AllReadyH.cons rfl (fun K hK => ?_) AllReadyH.nil; go_simp; refine hK.out _ _ EH8 (fun hHeld => ?_); clear hK K; (try simp only [Act.put]); (try simp only [List.getElem_toArray]); (try simp only [List.getElem_cons_succ]); (try simp only [List.getElem_cons_zero]); (try simp only [List.setIfInBounds_toArray]); (try simp only [List.set_cons_succ]); (try simp only [List.set_cons_zero]))
          (refine wpAnyH_take (i := 16) (v := ?_) rfl (by kernel_rfl) (by kernel_rfl) (by kernel_rfl) (fun _ _ _ h => h) (Or.inl ⟨by rfl, ?_⟩) (by assumption) ?_; rotate_left; (focus (intro w' hSw; go_simp; try with_reducible rfl)); (try simp only [List.getElem_toArray]); (try simp only [List.getElem_cons_succ]); (try simp only [List.getElem_cons_zero]); (try simp only [Act.put]); (try simp only [List.setIfInBounds_toArray]); (try simp only [List.set_cons_succ]); (try simp only [List.set_cons_zero]))
          refine wpAnyH_done (by kernel_rfl) ?_ _
          go_wp2_with fail
          go_meet
          exact ⟨n6, n7, A', c', l', g', x, rfl, rfl, rfl, D6, D7, HR, HX7, hHeld⟩
      ·
        go_simp
        refine hK.out _ _ (EH.alloc _) (fun hHeld => ?_)
        clear hK K hHeld
        (try simp only [List.getElem_toArray]); (try simp only [List.getElem_cons_succ]); (try simp only [List.getElem_cons_zero]); (try simp only [Act.put]); (try simp only [List.setIfInBounds_toArray]); (try simp only [List.set_cons_succ]); (try simp only [List.set_cons_zero])
        have HX := Lib.hid (HX.out.ext ((Ext.refl _).alloc (.cells #[.int .i64 0, .int .i64 0, .bool false] 33)))
        have B7 := Lib.hid (Blk.new w20 33 #[.int .i64 0, .int .i64 0, .bool false])
        obtain ⟨n7, hn7⟩ : ∃ n7, w20.heap.size = n7 := ⟨_, rfl⟩
        have hn7W : W6.heap.size ≤ n7 := by rw [← hn7]; exact EH.size
        have EH := EH.alloc (.cells #[.int .i64 0, .int .i64 0, .bool false] 33)
        rw [hn7] at B7 ⊢
        clear hn7
        generalize w20.alloc _ = w21 at *
        have LB7 := B7.out.lt
        refine wpAnyH_ready (rs := [7, 12]) (by kernel_rfl) (by simp) ?_
        refine (AllReadyH.cons rfl (fun K hK => ?_) (AllReadyH.cons rfl (fun K hK => ?_) AllReadyH.nil))
        ·
          go_simp
          go_at_call 21
          refine (HFRO.out w21 HX.out).mono ?_
          rintro e w22 ⟨A', c', l', g', x, rfl, T7, HX7, E3⟩
          (try dsimp only)
          refine hK.out _ _ (EH.trans E3) (fun hHeld => ?_)
          clear hK K hHeld
          (try simp only [List.getElem_toArray]); (try simp only [List.getElem_cons_succ]); (try simp only [List.getElem_cons_zero]); (try simp only [Act.put]); (try simp only [List.setIfInBounds_toArray]); (try simp only [List.set_cons_succ]); (try simp only [List.set_cons_zero])
          have HX7 := Lib.hid HX7
          have HX := Lib.hid (HX.out.ext E3)
          have B7 := Lib.hid (B7.out.ext E3)
          have T7 := Lib.hid (T7.lower (Nat.zero_le _))
          have EH := EH.trans E3
          have LB7 := B7.out.lt
          clear E3
          have hHeld : Ext W6 w22 := EH
          (refine wpAnyH_take (i := 8) (v := ?_) rfl (by kernel_rfl) (by kernel_rfl) (by kernel_rfl) (fun _ _ _ h => h) (Or.inl ⟨by rfl, ?_⟩) (by assumption) ?_; rotate_left; (focus (intro w' hSw; go_simp; try with_reducible rfl)); (try simp only [List.getElem_toArray]); (try simp only [List.getElem_cons_succ]); (try simp only [List.getElem_cons_zero]); (try simp only [Act.put]); (try simp only [List.setIfInBounds_toArray]); (try simp only [List.set_cons_succ]); (try simp only [List.set_cons_zero]))
          (refine wpAnyH_take (i := 9) (v := ?_) rfl (by kernel_rfl) (by kernel_rfl) (by kernel_rfl) (fun _ _ _ h => h) (Or.inl ⟨by rfl, ?_⟩) (by assumption) ?_; rotate_left; (focus (intro w' hSw; go_simp; try with_reducible rfl)); (try simp only [List.getElem_toArray]); (try simp only [List.getElem_cons_succ]); (try simp only [List.getElem_cons_zero]); (try simp only [Act.put]); (try simp only [List.setIfInBounds_toArray]); (try simp only [List.set_cons_succ]); (try simp only [List.set_cons_zero]))
          (refine wpAnyH_take (i := 10) (v := ?_) rfl (by kernel_rfl) (by kernel_rfl) (by kernel_rfl) (fun _ _ _ h => h) (Or.inl ⟨by rfl, ?_⟩) (by assumption) ?_; rotate_left; (focus (intro w' hSw; go_simp; try with_reducible rfl)); (try simp only [List.getElem_toArray]); (try simp only [List.getElem_cons_succ]); (try simp only [List.getElem_cons_zero]); (try simp only [Act.put]); (try simp only [List.setIfInBounds_toArray]); (try simp only [List.set_cons_succ]); (try simp only [List.set_cons_zero]))
          (refine wpAnyH_take (i := 11) (v := ?_) rfl (by kernel_rfl) (by kernel_rfl) (by kernel_rfl) (fun _ _ _ h => h) (Or.inl ⟨by rfl, ?_⟩) (by assumption) ?_; rotate_left; (focus (intro w' hSw; go_simp; try with_reducible rfl)); (try simp only [List.getElem_toArray]); (try simp only [List.getElem_cons_succ]); (try simp only [List.getElem_cons_zero]); (try simp only [Act.put]); (try simp only [List.setIfInBounds_toArray]); (try simp only [List.set_cons_succ]); (try simp only [List.set_cons_zero]))
          clear hHeld
          refine wpAnyH_ready (rs := [12]) (by kernel_rfl) (by simp) ?_
          refine (AllReadyH.cons rfl (fun K hK => ?_) AllReadyH.nil)
          go_simp
          refine hK.out _ _ (EH.alloc _) (fun hHeld => ?_)
          clear hK K hHeld
          (try simp only [List.getElem_toArray]); (try simp only [List.getElem_cons_succ]); (try simp only [List.getElem_cons_zero]); (try simp only [Act.put]); (try simp only [List.setIfInBounds_toArray]); (try simp only [List.set_cons_succ]); (try simp only [List.set_cons_zero])
          have HX := Lib.hid (HX.out.ext ((Ext.refl _).alloc (.cells #[.slice none 0 0, .int .i64 0] 28)))
          have B7 := Lib.hid (B7.out.ext ((Ext.refl _).alloc (.cells #[.slice none 0 0, .int .i64 0] 28)))
          have T7 := Lib.hid (T7.out.ext ((Ext.refl _).alloc (.cells #[.slice none 0 0, .int .i64 0] 28)))
          have B6 := Lib.hid (Blk.new w22 28 #[.slice none 0 0, .int .i64 0])
          obtain ⟨n6, hn6⟩ : ∃ n6, w22.heap.size = n6 := ⟨_, rfl⟩
          have hn6W : W6.heap.size ≤ n6 := by rw [← hn6]; exact EH.size
          have EH := EH.alloc (.cells #[.slice none 0 0, .int .i64 0] 28)
          rw [hn6] at B6 ⊢
          have hne_n7_n6 : n7 ≠ n6 := by have := LB7; omega
          have hne_n6_n7 : n6 ≠ n7 := fun h => hne_n7_n6 h.symm
          clear hn6
          generalize w22.alloc _ = w23 at *
          have LB6 := B6.out.lt
          have hHeld : Ext W6 w23 := EH
          have k6 := B6.out.two
          have C6 := B6.out.put2 (.slice A' N c') (.int .i64 nx)
          have M6 : Mod (fun k => k = n6) w23 _ := ((Mod.refl _ w23).set1 (.slice A' N c') (o := 0)).set1 (.int .i64 nx) (o := 1)
          have C7 := B7.out.mod M6 hne_n7_n6
          have T8 := T7.out.mod M6 B6.out (by decide)
          have EH7 := (EH.setNew (p := ⟨n6, 0, none⟩) hn6W (.slice A' N c')).setNew (p := ⟨n6, 1, none⟩) hn6W (.int .i64 nx)
          (refine wpAnyH_ready (rs := [14]) (by kernel_rfl) (by simp) ?_; refine AllReadyH.cons rfl (fun K hK => ?_) AllReadyH.nil; go_simp; refine hK.out _ _ EH7 (fun hHeld => ?_); clear hK K; (try simp only [Act.put]); (try simp only [List.getElem_toArray]); (try simp only [List.getElem_cons_succ]); (try simp only [List.getElem_cons_zero]); (try simp only [List.setIfInBounds_toArray]); (try simp only [List.set_cons_succ]); (try simp only [List.set_cons_zero]))
          generalize World.setCell (World.setCell w23 _ _) _ _ = z1 at *
          have r0 := C7.cell 0
          have r1 := C7.cell 1
          have r2 := C7.cell 2
          have f0 := C7.frozen 0
          have f1 := C7.frozen 1
          have f2 := C7.frozen 2
          have M7 : Mod (fun k => k = n7) z1 _ := (((Mod.refl _ z1).set1 (.int .i64 s) (o := 0)).set1 (.int .i64 g') (o := 1)).set1 (.bool ts) (o := 2)
          have EH8 := ((EH7.setNew (p := ⟨n7, 0, none⟩) hn7W (.int .i64 s)).setNew (p := ⟨n7, 1, none⟩) hn7W (.int .i64 g')).setNew (p := ⟨n7, 2, none⟩) hn7W (.bool ts)
          have D6 := Lib.hid (C6.mod M7 hne_n6_n7)
          have D7 := Lib.hid (show Blk _ _ _ #[.int .i64 s, .int .i64 g', .bool ts] from ((C7.set_ 0 (.int .i64 s)).set_ 1 (.int .i64 g')).set_ 2 (.bool ts))
          have T9 := T8.mod M7 C7 (by decide)
          have HR := Lib.hid (show RdY Rp (fun _ => False) _ (.slice A' N c') l' by rw [← HN.out]; exact T9.y (A := fun _ => False) (by rw [HN.out]; exact HX0.out) EH8)
          (refine wpAnyH_ready (rs := [15]) (by kernel_rfl) (by simp) ?_; refine AllReadyH.cons rfl (fun K hK => ?_) AllReadyH.nil; go_simp; refine hK.out _ _ EH8 (fun hHeld => ?_); clear hK K; (try simp only [Act.put]); (try simp only [List.getElem_toArray]); (try simp only [List.getElem_cons_succ]); (try simp only [List.getElem_cons_zero]); (try simp only [List.setIfInBounds_toArray]); (try simp only [List.set_cons_succ]); (try simp only [List.set_cons_zero]))
          (refine wpAnyH_take (i := 16) (v := ?_) rfl (by kernel_rfl) (by kernel_rfl) (by kernel_rfl) (fun _ _ _ h => h) (Or.inl ⟨by rfl, ?_⟩) (by assumption) ?_; rotate_left; (focus (intro w' hSw; go_simp; try with_reducible rfl)); (try simp only [List.getElem_toArray]); (try simp only [List.getElem_cons_succ]); (try simp only [List.getElem_cons_zero]); (try simp only [Act.put]); (try simp only [List.setIfInBounds_toArray]); (try simp only [List.set_cons_succ]); (try simp only [List.set_cons_zero]))
          refine wpAnyH_done (by kernel_rfl) ?_ _
          go_wp2_with fail
          go_meet
          exact ⟨n6, n7, A', c', l', g', x, rfl, rfl, rfl, D6, D7, HR, HX7, hHeld⟩
        ·
          go_simp
          refine hK.out _ _ (EH.alloc _) (fun hHeld => ?_)
          clear hK K hHeld
          (try simp only [List.getElem_toArray]); (try simp only [List.getElem_cons_succ]); (try simp only [List.getElem_cons_zero]); (try simp only [Act.put]); (try simp only [List.setIfInBounds_toArray]); (try simp only [List.set_cons_succ]); (try simp only [List.set_cons_zero])
          have HX := Lib.hid (HX.out.ext ((Ext.refl _).alloc (.cells #[.slice none 0 0, .int .i64 0] 28)))
          have B7 := Lib.hid (B7.out.ext ((Ext.refl _).alloc (.cells #[.slice none 0 0, .int .i64 0] 28)))
          have B6 := Lib.hid (Blk.new w21 28 #[.slice none 0 0, .int .i64 0])
          obtain ⟨n6, hn6⟩ : ∃ n6, w21.heap.size = n6 := ⟨_, rfl⟩
          have hn6W : W6.heap.size ≤ n6 := by rw [← hn6]; exact EH.size
          have EH := EH.alloc (.cells #[.slice none 0 0, .int .i64 0] 28)
          rw [hn6] at B6 ⊢
          have hne_n7_n6 : n7 ≠ n6 := by have := LB7; omega
          have hne_n6_n7 : n6 ≠ n7 := fun h => hne_n7_n6 h.symm
          clear hn6
          generalize w21.alloc _ = w22 at *
          have LB6 := B6.out.lt
          refine wpAnyH_ready (rs := [7]) (by kernel_rfl) (by simp) ?_
          refine (AllReadyH.cons rfl (fun K hK => ?_) AllReadyH.nil)
          go_simp
          go_at_call 21
          refine (HFRO.out w22 HX.out).mono ?_
          rintro e w23 ⟨A', c', l', g', x, rfl, T7, HX7, E3⟩
          (try dsimp only)
          refine hK.out _ _ (EH.trans E3) (fun hHeld => ?_)
          clear hK K hHeld
          (try simp only [List.getElem_toArray]); (try simp only [List.getElem_cons_succ]); (try simp only [List.getElem_cons_zero]); (try simp only [Act.put]); (try simp only [List.setIfInBounds_toArray]); (try simp only [List.set_cons_succ]); (try simp only [List.set_cons_zero])
          have HX7 := Lib.hid HX7
          have HX := Lib.hid (HX.out.ext E3)
          have B7 := Lib.hid (B7.out.ext E3)
          have B6 := Lib.hid (B6.out.ext E3)
          have T7 := Lib.hid (T7.lower (Nat.zero_le _))
          have EH := EH.trans E3
          have LB6 := B6.out.lt
          have LB7 := B7.out.lt
          clear E3
          have hHeld : Ext W6 w23 := EH
          (refine wpAnyH_take (i := 8) (v := ?_) rfl (by kernel_rfl) (by kernel_rfl) (by kernel_rfl) (fun _ _ _ h => h) (Or.inl ⟨by rfl, ?_⟩) (by assumption) ?_; rotate_left; (focus (intro w' hSw; go_simp; try with_reducible rfl)); (try simp only [List.getElem_toArray]); (try simp only [List.getElem_cons_succ]); (try simp only [List.getElem_cons_zero]); (try simp only [Act.put]); (try simp only [List.setIfInBounds_toArray]); (try simp only [List.set_cons_succ]); (try simp only [List.set_cons_zero]))
          (refine wpAnyH_take (i := 9) (v := ?_) rfl (by kernel_rfl) (by kernel_rfl) (by kernel_rfl) (fun _ _ _ h => h) (Or.inl ⟨by rfl, ?_⟩) (by assumption) ?_; rotate_left; (focus (intro w' hSw; go_simp; try with_reducible rfl)); (try simp only [List.getElem_toArray]); (try simp only [List.getElem_cons_succ]); (try simp only [List.getElem_cons_zero]); (try simp only [Act.put]); (try simp only [List.setIfInBounds_toArray]); (try simp only [List.set_cons_succ]); (try simp only [List.set_cons_zero]))
          (refine wpAnyH_take (i := 10) (v := ?_) rfl (by kernel_rfl) (by kernel_rfl) (by kernel_rfl) (fun _ _ _ h => h) (Or.inl ⟨by rfl, ?_⟩) (by assumption) ?_; rotate_left; (focus (intro w' hSw; go_simp; try with_reducible rfl)); (try simp only [List.getElem_toArray]); (try simp only [List.getElem_cons_succ]); (try simp only [List.getElem_cons_zero]); (try simp only [Act.put]); (try simp only [List.setIfInBounds_toArray]); (try simp only [List.set_cons_succ]); (try simp only [List.set_cons_zero]))
          (refine wpAnyH_take (i := 11) (v := ?_) rfl (by kernel_rfl) (by kernel_rfl) (by kernel_rfl) (fun _ _ _ h => h) (Or.inl ⟨by rfl, ?_⟩) (by assumption) ?_; rotate_left; (focus (intro w' hSw; go_simp; try with_reducible rfl)); (try simp only [List.getElem_toArray]); (try simp only [List.getElem_cons_succ]); (try simp only [List.getElem_cons_zero]); (try simp only [Act.put]); (try simp only [List.setIfInBounds_toArray]); (try simp only [List.set_cons_succ]); (try simp only [List.set_cons_zero]))
          clear hHeld
          have hHeld : Ext W6 w23 := EH
          have k6 := B6.out.two
          have C6 := B6.out.put2 (.slice A' N c') (.int .i64 nx)
          have M6 : Mod (fun k => k = n6) w23 _ := ((Mod.refl _ w23).set1 (.slice A' N c') (o := 0)).set1 (.int .i64 nx) (o := 1)
          have C7 := B7.out.mod M6 hne_n7_n6
          have T8 := T7.out.mod M6 B6.out (by decide)
          have EH7 := (EH.setNew (p := ⟨n6, 0, none⟩) hn6W (.slice A' N c')).setNew (p := ⟨n6, 1, none⟩) hn6W (.int .i64 nx)
          (refine wpAnyH_ready (rs := [14]) (by kernel_rfl) (by simp) ?_; refine AllReadyH.cons rfl (fun K hK => ?_) AllReadyH.nil; go_simp; refine hK.out _ _ EH7 (fun hHeld => ?_); clear hK K; (try simp only [Act.put]); (try simp only [List.getElem_toArray]); (try simp only [List.getElem_cons_succ]); (try simp only [List.getElem_cons_zero]); (try simp only [List.setIfInBounds_toArray]); (try simp only [List.set_cons_succ]); (try simp only [List.set_cons_zero]))
          generalize World.setCell (World.setCell w23 _ _) _ _ = z1 at *
          have r0 := C7.cell 0
          have r1 := C7.cell 1
          have r2 := C7.cell 2
          have f0 := C7.frozen 0
          have f1 := C7.frozen 1
          have f2 := C7.frozen 2
          have M7 : Mod (fun k => k = n7) z1 _ := (((Mod.refl _ z1).set1 (.int .i64 s) (o := 0)).set1 (.int .i64 g') (o := 1)).set1 (.bool ts) (o := 2)
          have EH8 := ((EH7.setNew (p := ⟨n7, 0, none⟩) hn7W (.int .i64 s)).setNew (p := ⟨n7, 1, none⟩) hn7W (.int .i64 g')).setNew (p := ⟨n7, 2, none⟩) hn7W (.bool ts)
          have D6 := Lib.hid (C6.mod M7 hne_n6_n7)
          have D7 := Lib.hid (show Blk _ _ _ #[.int .i64 s, .int .i64 g', .bool ts] from ((C7.set_ 0 (.int .i64 s)).set_ 1 (.int .i64 g')).set_ 2 (.bool ts))
          have T9 := T8.mod M7 C7 (by decide)
          have HR := Lib.hid (show RdY Rp (fun _ => False) _ (.slice A' N c') l' by rw [← HN.out]; exact T9.y (A := fun _ => False) (by rw [HN.out]; exact HX0.out) EH8)
          (refine wpAnyH_ready (rs := [15]) (by kernel_rfl) (by simp) ?_; refine AllReadyH.cons rfl (fun K hK => ?_) AllReadyH.nil; go_simp; refine hK.out _ _ EH8 (fun hHeld => ?_); clear hK K; (try simp only [Act.put]); (try simp only [List.getElem_toArray]); (try simp only [List.getElem_cons_succ]); (try simp only [List.getElem_cons_zero]); (try simp only [List.setIfInBounds_toArray]); (try simp only [List.set_cons_succ]); (try simp only [List.set_cons_zero]))
          (refine wpAnyH_take (i := 16) (v := ?_) rfl (by kernel_rfl) (by kernel_rfl) (by kernel_rfl) (fun _ _ _ h => h) (Or.inl ⟨by rfl, ?_⟩) (by assumption) ?_; rotate_left; (focus (intro w' hSw; go_simp; try with_reducible rfl)); (try simp only [List.getElem_toArray]); (try simp only [List.getElem_cons_succ]); (try simp only [List.getElem_cons_zero]); (try simp only [Act.put]); (try simp only [List.setIfInBounds_toArray]); (try simp only [List.set_cons_succ]); (try simp only [List.set_cons_zero]))
          refine wpAnyH_done (by kernel_rfl) ?_ _
          go_wp2_with fail
          go_meet
          exact ⟨n6, n7, A', c', l', g', x, rfl, rfl, rfl, D6, D7, HR, HX7, hHeld⟩
    ·
      go_simp
      refine hK.out _ _ (EH.alloc _) (fun hHeld => ?_)
      clear hK K hHeld
      (try simp only [List.getElem_toArray]); (try simp only [List.getElem_cons_succ]); (try simp only [List.getElem_cons_zero]); (try simp only [Act.put]); (try simp only [List.setIfInBounds_toArray]); (try simp only [List.set_cons_succ]); (try simp only [List.set_cons_zero])
      have HX := Lib.hid (HX.out.ext ((Ext.refl _).alloc (.cells #[.slice none 0 0, .int .i64 0] 28)))
      have B6 := Lib.hid (Blk.new w19 28 #[.slice none 0 0, .int .i64 0])
      obtain ⟨n6, hn6⟩ : ∃ n6, w19.heap.size = n6 := ⟨_, rfl⟩
      have hn6W : W6.heap.size ≤ n6 := by rw [← hn6]; exact EH.size
      have EH := EH.alloc (.cells #[.slice none 0 0, .int .i64 0] 28)
      rw [hn6] at B6 ⊢
      clear hn6
      generalize w19.alloc _ = w20 at *
      have LB6 := B6.out.lt
      refine wpAnyH_ready (rs := [2, 13]) (by kernel_rfl) (by simp) ?_
      refine (AllReadyH.cons rfl (fun K hK => ?_) (AllReadyH.cons rfl (fun K hK => ?_) AllReadyH.nil))
      ·
        go_simp
        go_at_call 10
        refine (tty_any Ad N c nx s g0 ts pid g wr _).mono ?_
        rintro e w21 ⟨rfl, E3⟩
        (try dsimp only)
        refine hK.out _ _ (EH.trans E3) (fun hHeld => ?_)
        clear hK K hHeld
        (try simp only [List.getElem_toArray]); (try simp only [List.getElem_cons_succ]); (try simp only [List.getElem_cons_zero]); (try simp only [Act.put]); (try simp only [List.setIfInBounds_toArray]); (try simp only [List.set_cons_succ]); (try simp only [List.set_cons_zero])
        have HX := Lib.hid (HX.out.ext E3)
        have B6 := Lib.hid (B6.out.ext E3)
        have EH := EH.trans E3
        have LB6 := B6.out.lt
        clear E3
        refine wpAnyH_ready (rs := [7, 13]) (by kernel_rfl) (by simp) ?_
        refine (AllReadyH.cons rfl (fun K hK => ?_) (AllReadyH.cons rfl (fun K hK => ?_) AllReadyH.nil))
        ·
          go_simp
          go_at_call 21
          refine (HFRO.out w21 HX.out).mono ?_
          rintro e w22 ⟨A', c', l', g', x, rfl, T7, HX7, E3⟩
          (try dsimp only)
          refine hK.out _ _ (EH.trans E3) (fun hHeld => ?_)
          clear hK K hHeld
          (try simp only [List.getElem_toArray]); (try simp only [List.getElem_cons_succ]); (try simp only [List.getElem_cons_zero]); (try simp only [Act.put]); (try simp only [List.setIfInBounds_toArray]); (try simp only [List.set_cons_succ]); (try simp only [List.set_cons_zero])
          have HX7 := Lib.hid HX7
          have HX := Lib.hid (HX.out.ext E3)
          have B6 := Lib.hid (B6.out.ext E3)
          have T7 := Lib.hid (T7.lower (Nat.zero_le _))
          have EH := EH.trans E3
          have LB6 := B6.out.lt
          clear E3
          have hHeld : Ext W6 w22 := EH
          (refine wpAnyH_take (i := 8) (v := ?_) rfl (by kernel_rfl) (by kernel_rfl) (by kernel_rfl) (fun _ _ _ h => h) (Or.inl ⟨by rfl, ?_⟩) (by assumption) ?_; rotate_left; (focus (intro w' hSw; go_simp; try with_reducible rfl)); (try simp only [List.getElem_toArray]); (try simp only [List.getElem_cons_succ]); (try simp only [List.getElem_cons_zero]); (try simp only [Act.put]); (try simp only [List.setIfInBounds_toArray]); (try simp only [List.set_cons_succ]); (try simp only [List.set_cons_zero]))
          (refine wpAnyH_take (i := 9) (v := ?_) rfl (by kernel_rfl) (by kernel_rfl) (by kernel_rfl) (fun _ _ _ h => h) (Or.inl ⟨by rfl, ?_⟩) (by assumption) ?_; rotate_left; (focus (intro w' hSw; go_simp; try with_reducible rfl)); (try simp only [List.getElem_toArray]); (try simp only [List.getElem_cons_succ]); (try simp only [List.getElem_cons_zero]); (try simp only [Act.put]); (try simp only [List.setIfInBounds_toArray]); (try simp only [List.set_cons_succ]); (try simp only [List.set_cons_zero]))
          (refine wpAnyH_take (i := 10) (v := ?_) rfl (by kernel_rfl) (by kernel_rfl) (by kernel_rfl) (fun _ _ _ h => h) (Or.inl ⟨by rfl, ?_⟩) (by assumption) ?_; rotate_left; (focus (intro w' hSw; go_simp; try with_reducible rfl)); (try simp only [List.getElem_toArray]); (try simp only [List.getElem_cons_succ]); (try simp only [List.getElem_cons_zero]); (try simp only [Act.put]); (try simp only [List.setIfInBounds_toArray]); (try simp only [List.set_cons_succ]); (try simp only [List.set_cons_zero]))
          (refine wpAnyH_take (i := 11) (v := ?_) rfl (by kernel_rfl) (by kernel_rfl) (by kernel_rfl) (fun _ _ _ h => h) (Or.inl ⟨by rfl, ?_⟩) (by assumption) ?_; rotate_left; (focus (intro w' hSw; go_simp; try with_reducible rfl)); (try simp only [List.getElem_toArray]); (try simp only [List.getElem_cons_succ]); (try simp only [List.getElem_cons_zero]); (try simp only [Act.put]); (try simp only [List.setIfInBounds_toArray]); (try simp only [List.set_cons_succ]); (try simp only [List.set_cons_zero]))
          clear hHeld
          refine wpAnyH_ready (rs := [13]) (by kernel_rfl) (by simp) ?_
          refine (AllReadyH.cons rfl (fun K hK => ?_) AllReadyH.nil)
          go_simp
          refine hK.out _ _ (EH.alloc _) (fun hHeld => ?_)
          clear hK K hHeld
          (try simp only [List.getElem_toArray]); (try simp only [List.getElem_cons_succ]); (try simp only [List.getElem_cons_zero]); (try simp only [Act.put]); (try simp only [List.setIfInBounds_toArray]); (try simp only [List.set_cons_succ]); (try simp only [List.set_cons_zero])
          have HX := Lib.hid (HX.out.ext ((Ext.refl _).alloc (.cells #[.int .i64 0, .int .i64 0, .bool false] 33)))
          have B6 := Lib.hid (B6.out.ext ((Ext.refl _).alloc (.cells #[.int .i64 0, .int .i64 0, .bool false] 33)))
          have T7 := Lib.hid (T7.out.ext ((Ext.refl _).alloc (.cells #[.int .i64 0, .int .i64 0, .bool false] 33)))
          have B7 := Lib.hid (Blk.new w22 33 #[.int .i64 0, .int .i64 0, .bool false])
          obtain ⟨n7, hn7⟩ : ∃ n7, w22.heap.size = n7 := ⟨_, rfl⟩
          have hn7W : W6.heap.size ≤ n7 := by rw [← hn7]; exact EH.size
          have EH := EH.alloc (.cells #[.int .i64 0, .int .i64 0, .bool false] 33)
          rw [hn7] at B7 ⊢
          have hne_n6_n7 : n6 ≠ n7 := by have := LB6; omega
          have hne_n7_n6 : n7 ≠ n6 := fun h => hne_n6_n7 h.symm
          clear hn7
          generalize w22.alloc _ = w23 at *
          have LB7 := B7.out.lt
          have hHeld : Ext W6 w23 := EH
          have k6 := B6.out.two
          have C6 := B6.out.put2 (.slice A' N c') (.int .i64 nx)
          have M6 : Mod (fun k => k = n6) w23 _ := ((Mod.refl _ w23).set1 (.slice A' N c') (o := 0)).set1 (.int .i64 nx) (o := 1)
          have C7 := B7.out.mod M6 hne_n7_n6
          have T8 := T7.out.mod M6 B6.out (by decide)
          have EH7 := (EH.setNew (p := ⟨n6, 0, none⟩) hn6W (.slice A' N c')).setNew (p := ⟨n6, 1, none⟩) hn6W (.int .i64 nx)
          (refine wpAnyH_ready (rs := [14]) (by kernel_rfl) (by simp) ?_; refine AllReadyH.cons rfl (fun K hK => ?_) AllReadyH.nil; go_simp; refine hK.out _ _ EH7 (fun hHeld => ?_); clear hK K; (try simp only [Act.put]); (try simp only [List.getElem_toArray]); (try simp only [List.getElem_cons_succ]); (try simp only [List.getElem_cons_zero]); (try simp only [List.setIfInBounds_toArray]); (try simp only [List.set_cons_succ]); (try simp only [List.set_cons_zero]))
          generalize World.setCell (World.setCell w23 _ _) _ _ = z1 at *
          have r0 := C7.cell 0
          have r1 := C7.cell 1
          have r2 := C7.cell 2
          have f0 := C7.frozen 0
          have f1 := C7.frozen 1
          have f2 := C7.frozen 2
          have M7 : Mod (fun k => k = n7) z1 _ := (((Mod.refl _ z1).set1 (.int .i64 s) (o := 0)).set1 (.int .i64 g') (o := 1)).set1 (.bool ts) (o := 2)
          have EH8 := ((EH7.setNew (p := ⟨n7, 0, none⟩) hn7W (.int .i64 s)).setNew (p := ⟨n7, 1, none⟩) hn7W (.int .i64 g')).setNew (p := ⟨n7, 2, none⟩) hn7W (.bool ts)
          have D6 := Lib.hid (C6.mod M7 hne_n6_n7)
          have D7 := Lib.hid (show Blk _ _ _ #[.int .i64 s, .int .i64 g', .bool ts] from ((C7.set_ 0 (.int .i64 s)).set_ 1 (.int .i64 g')).set_ 2 (.bool ts))
          have T9 := T8.mod M7 C7 (by decide)
          have HR := Lib.hid (show RdY Rp (fun _ => False) _ (.slice A' N c') l' by rw [← HN.out]; exact T9.y (A := fun _ => False) (by rw [HN.out]; exact HX0.out) EH8)
          (refine wpAnyH_ready (rs := [15]) (by kernel_rfl) (by simp) ?_; refine AllReadyH.cons rfl (fun K hK => ?_) AllReadyH.nil; go_simp; refine hK.out _ _ EH8 (fun hHeld => ?_); clear hK K; (try simp only [Act.put]); (try simp only [List.getElem_toArray]); (try simp only [List.getElem_cons_succ]); (try simp only [List.getElem_cons_zero]); (try simp only [List.setIfInBounds_toArray]); (try simp only [List.set_cons_succ]); (try simp only [List.set_cons_zero]))
          (refine wpAnyH_take (i := 16) (v := ?_) rfl (by kernel_rfl) (by kernel_rfl) (by kernel_rfl) (fun _ _ _ h => h) (Or.inl ⟨by rfl, ?_⟩) (by assumption) ?_; rotate_left; (focus (intro w' hSw; go_simp; try with_reducible rfl)); (try simp only [List.getElem_toArray]); (try simp only [List.getElem_cons_succ]); (try simp only [List.getElem_cons_zero]); (try simp only [Act.put]); (try simp only [List.setIfInBounds_toArray]); (try simp only [List.set_cons_succ]); (try simp only [List.set_cons_zero]))
          refine wpAnyH_done (by kernel_rfl) ?_ _
          go_wp2_with fail
          go_meet
          exact ⟨n6, n7, A', c', l', g', x, rfl, rfl, rfl, D6, D7, HR, HX7, hHeld⟩
        ·
          go_simp
          refine hK.out _ _ (EH.alloc _) (fun hHeld => ?_)
          clear hK K hHeld
          (try simp only [List.getElem_toArray]); (try simp only [List.getElem_cons_succ]); (try simp only [List.getElem_cons_zero]); (try simp only [Act.put]); (try simp only [List.setIfInBounds_toArray]); (try simp only [List.set_cons_succ]); (try simp only [List.set_cons_zero])
          have HX := Lib.hid (HX.out.ext ((Ext.refl _).alloc (.cells #[.int .i64 0, .int .i64 0, .bool false] 33)))
          have B6 := Lib.hid (B6.out.ext ((Ext.refl _).alloc (.cells #[.int .i64 0, .int .i64 0, .bool false] 33)))
          have B7 := Lib.hid (Blk.new w21 33 #[.int .i64 0, .int .i64 0, .bool false])
          obtain ⟨n7, hn7⟩ : ∃ n7, w21.heap.size = n7 := ⟨_, rfl⟩
          have hn7W : W6.heap.size ≤ n7 := by rw [← hn7]; exact EH.size
          have EH := EH.alloc (.cells #[.int .i64 0, .int .i64 0, .bool false] 33)
          rw [hn7] at B7 ⊢
          have hne_n6_n7 : n6 ≠ n7 := by have := LB6; omega
          have hne_n7_n6 : n7 ≠ n6 := fun h => hne_n6_n7 h.symm
          clear hn7
          generalize w21.alloc _ = w22 at *
          have LB7 := B7.out.lt
          refine wpAnyH_ready (rs := [7]) (by kernel_rfl) (by simp) ?_
          refine (AllReadyH.cons rfl (fun K hK => ?_) AllReadyH.nil)
          go_simp
          go_at_call 21
          refine (HFRO.out w22 HX.out).mono ?_
          rintro e w23 ⟨A', c', l', g', x, rfl, T7, HX7, E3⟩
          (try dsimp only)
          refine hK.out _ _ (EH.trans E3) (fun hHeld => ?_)
          clear hK K hHeld
          (try simp only [List.getElem_toArray]); (try simp only [List.getElem_cons_succ]); (try simp only [List.getElem_cons_zero]); (try simp only [Act.put]); (try simp only [List.setIfInBounds_toArray]); (try simp only [List.set_cons_succ]); (try simp only [List.set_cons_zero])
          have HX7 := Lib.hid HX7
          have HX := Lib.hid (HX.out.ext E3)
          have B6 := Lib.hid (B6.out.ext E3)
          have B7 := Lib.hid (B7.out.ext E3)
          have T7 := Lib.hid (T7.lower (Nat.zero_le _))
          have EH := EH.trans E3
          have LB6 := B6.out.lt
          have LB7 := B7.out.lt
          clear E3
          have hHeld : Ext W6 w23 := EH
          (refine wpAnyH_take (i := 8) (v := ?_) rfl (by kernel_rfl) (by kernel_rfl) (by kernel_rfl) (fun _ _ _ h => h) (Or.inl ⟨by rfl, ?_⟩) (by assumption) ?_; rotate_left; (focus (intro w' hSw; go_simp; try with_reducible rfl)); (try simp only [List.getElem_toArray]); (try simp only [List.getElem_cons_succ]); (try simp only [List.getElem_cons_zero]); (try simp only [Act.put]); (try simp only [List.setIfInBounds_toArray]); (try simp only [List.set_cons_succ]); (try simp only [List.set_cons_zero]))
          (refine wpAnyH_take (i := 9) (v := ?_) rfl (by kernel_rfl) (by kernel_rfl) (by kernel_rfl) (fun _ _ _ h => h) (Or.inl ⟨by rfl, ?_⟩) (by assumption) ?_; rotate_left; (focus (intro w' hSw; go_simp; try with_reducible rfl)); (try simp only [List.getElem_toArray]); (try simp only [List.getElem_cons_succ]); (try simp only [List.getElem_cons_zero]); (try simp only [Act.put]); (try simp only [List.setIfInBounds_toArray]); (try simp only [List.set_cons_succ]); (try simp only [List.set_cons_zero]))
          (refine wpAnyH_take (i := 10) (v := ?_) rfl (by kernel_rfl) (by kernel_rfl) (by kernel_rfl) (fun _ _ _ h => h) (Or.inl ⟨by rfl, ?_⟩) (by assumption) ?_; rotate_left; (focus (intro w' hSw; go_simp; try with_reducible rfl)); (try simp only [List.getElem_toArray]); (try simp only [List.getElem_cons_succ]); (try simp only [List.getElem_cons_zero]); (try simp only [Act.put]); (try simp only [List.setIfInBounds_toArray]); (try simp only [List.set_cons_succ]); (try simp only [List.set_cons_zero]))
          (refine wpAnyH_take (i := 11) (v := ?_) rfl (by kernel_rfl) (by kernel_rfl) (by kernel_rfl) (fun _ _ _ h => h) (Or.inl ⟨by rfl, ?_⟩) (by assumption) ?_; rotate_left; (focus (intro w' hSw; go_simp; try with_reducible rfl)); (try simp only [List.getElem_toArray]); (try simp only [List.getElem_cons_succ]); (try simp only [List.getElem_cons_zero]); (try simp only [Act.put]); (try simp only [List.setIfInBounds_toArray]); (try simp only [List.set_cons_succ]); (try simp only [List.set_cons_zero]))
          clear hHeld
          have hHeld : Ext W6 w23 := EH
          have k6 := B6.out.two
          have C6 := B6.out.put2 (.slice A' N c') (.int .i64 nx)
          have M6 : Mod (fun k => k = n6) w23 _ := ((Mod.refl _ w23).set1 (.slice A' N c') (o := 0)).set1 (.int .i64 nx) (o := 1)
          have C7 := B7.out.mod M6 hne_n7_n6
          have T8 := T7.out.mod M6 B6.out (by decide)
          have EH7 := (EH.setNew (p := ⟨n6, 0, none⟩) hn6W (.slice A' N c')).setNew (p := ⟨n6, 1, none⟩) hn6W (.int .i64 nx)
          (refine wpAnyH_ready (rs := [14]) (by kernel_rfl) (by simp) ?_; refine AllReadyH.cons rfl (fun K hK => ?_) AllReadyH.nil; go_simp; refine hK.out _ _ EH7 (fun hHeld => ?_); clear hK K; (try simp only [Act.put]); (try simp only [List.getElem_toArray]); (try simp only [List.getElem_cons_succ]); (try simp only [List.getElem_cons_zero]); (try simp only [List.setIfInBounds_toArray]); (try simp only [List.set_cons_succ]); (try simp only [List.set_cons_zero]))
          generalize World.setCell (World.setCell w23 _ _) _ _ = z1 at *
          have r0 := C7.cell 0
          have r1 := C7.cell 1
          have r2 := C7.cell 2
          have f0 := C7.frozen 0
          have f1 := C7.frozen 1
          have f2 := C7.frozen 2
          have M7 : Mod (fun k => k = n7) z1 _ := (((Mod.refl _ z1).set1 (.int .i64 s) (o := 0)).set1 (.int .i64 g') (o := 1)).set1 (.bool ts) (o := 2)
          have EH8 := ((EH7.setNew (p := ⟨n7, 0, none⟩) hn7W (.int .i64 s)).setNew (p := ⟨n7, 1, none⟩) hn7W (.int .i64 g')).setNew (p := ⟨n7, 2, none⟩) hn7W (.bool ts)
          have D6 := Lib.hid (C6.mod M7 hne_n6_n7)
          have D7 := Lib.hid (show Blk _ _ _ #[.int .i64 s, .int .i64 g', .bool ts] from ((C7.set_ 0 (.int .i64 s)).set_ 1 (.int .i64 g')).set_ 2 (.bool ts))
          have T9 := T8.mod M7 C7 (by decide)
          have HR := Lib.hid (show RdY Rp (fun _ => False) _ (.slice A' N c') l' by rw [← HN.out]; exact T9.y (A := fun _ => False) (by rw [HN.out]; exact HX0.out) EH8)
          (refine wpAnyH_ready (rs := [15]) (by kernel_rfl) (by simp) ?_; refine AllReadyH.cons rfl (fun K hK => ?_) AllReadyH.nil; go_simp; refine hK.out _ _ EH8 (fun hHeld => ?_); clear hK K; (try simp only [Act.put]); (try simp only [List.getElem_toArray]); (try simp only [List.getElem_cons_succ]); (try simp only [List.getElem_cons_zero]); (try simp only [List.setIfInBounds_toArray]); (try simp only [List.set_cons_succ]); (try simp only [List.set_cons_zero]))
          (refine wpAnyH_take (i := 16) (v := ?_) rfl (by kernel_rfl) (by kernel_rfl) (by kernel_rfl) (fun _ _ _ h => h) (Or.inl ⟨by rfl, ?_⟩) (by assumption) ?_; rotate_left; (focus (intro w' hSw; go_simp; try with_reducible rfl)); (try simp only [List.getElem_toArray]); (try simp only [List.getElem_cons_succ]); (try simp only [List.getElem_cons_zero]); (try simp only [Act.put]); (try simp only [List.setIfInBounds_toArray]); (try simp only [List.set_cons_succ]); (try simp only [List.set_cons_zero]))
          refine wpAnyH_done (by kernel_rfl) ?_ _
          go_wp2_with fail
          go_meet
          exact ⟨n6, n7, A', c', l', g', x, rfl, rfl, rfl, D6, D7, HR, HX7, hHeld⟩
      ·
        go_simp
        refine hK.out _ _ (EH.alloc _) (fun hHeld => ?_)
        clear hK K hHeld
        (try simp only [List.getElem_toArray]); (try simp only [List.getElem_cons_succ]); (try simp only [List.getElem_cons_zero]); (try simp only [Act.put]); (try simp only [List.setIfInBounds_toArray]); (try simp only [List.set_cons_succ]); (try simp only [List.set_cons_zero])
        have HX := Lib.hid (HX.out.ext ((Ext.refl _).alloc (.cells #[.int .i64 0, .int .i64 0, .bool false] 33)))
        have B6 := Lib.hid (B6.out.ext ((Ext.refl _).alloc (.cells #[.int .i64 0, .int .i64 0, .bool false] 33)))
        have B7 := Lib.hid (Blk.new w20 33 #[.int .i64 0, .int .i64 0, .bool false])
        obtain ⟨n7, hn7⟩ : ∃ n7, w20.heap.size = n7 := ⟨_, rfl⟩
        have hn7W : W6.heap.size ≤ n7 := by rw [← hn7]; exact EH.size
        have EH := EH.alloc (.cells #[.int .i64 0, .int .i64 0, .bool false] 33)
        rw [hn7] at B7 ⊢
        have hne_n6_n7 : n6 ≠ n7 := by have := LB6; omega
        have hne_n7_n6 : n7 ≠ n6 := fun h => hne_n6_n7 h.symm
        clear hn7
        generalize w20.alloc _ = w21 at *
        have LB7 := B7.out.lt
        refine wpAnyH_ready (rs := [2]) (by kernel_rfl) (by simp) ?_
        refine (AllReadyH.cons rfl (fun K hK => ?_) AllReadyH.nil)
        go_simp
        go_at_call 10
        refine (tty_any Ad N c nx s g0 ts pid g wr _).mono ?_
        rintro e w22 ⟨rfl, E3⟩
        (try dsimp only)
        refine hK.out _ _ (EH.trans E3) (fun hHeld => ?_)
        clear hK K hHeld
        (try simp only [List.getElem_toArray]); (try simp only [List.getElem_cons_succ]); (try simp only [List.getElem_cons_zero]); (try simp only [Act.put]); (try simp only [List.setIfInBounds_toArray]); (try simp only [List.set_cons_succ]); (try simp only [List.set_cons_zero])
        have HX := Lib.hid (HX.out.ext E3)
        have B6 := Lib.hid (B6.out.ext E3)
        have B7 := Lib.hid (B7.out.ext E3)
        have EH := EH.trans E3
        have LB6 := B6.out.lt
        have LB7 := B7.out.lt
        clear E3
        refine wpAnyH_ready (rs := [7]) (by kernel_rfl) (by simp) ?_
        refine (AllReadyH.cons rfl (fun K hK => ?_) AllReadyH.nil)
        go_simp
        go_at_call 21
        refine (HFRO.out w22 HX.out).mono ?_
        rintro e w23 ⟨A', c', l', g', x, rfl, T7, HX7, E3⟩
        (try dsimp only)
        refine hK.out _ _ (EH.trans E3) (fun hHeld => ?_)
        clear hK K hHeld
        (try simp only [List.getElem_toArray]); (try simp only [List.getElem_cons_succ]); (try simp only [List.getElem_cons_zero]); (try simp only [Act.put]); (try simp only [List.setIfInBounds_toArray]); (try simp only [List.set_cons_succ]); (try simp only [List.set_cons_zero])
        have HX7 := Lib.hid HX7
        have HX := Lib.hid (HX.out.ext E3)
        have B6 := Lib.hid (B6.out.ext E3)
        have B7 := Lib.hid (B7.out.ext E3)
        have T7 := Lib.hid (T7.lower (Nat.zero_le _))
        have EH := EH.trans E3
        have LB6 := B6.out.lt
        have LB7 := B7.out.lt
        clear E3
        have hHeld : Ext W6 w23 := EH
        (refine wpAnyH_take (i := 8) (v := ?_) rfl (by kernel_rfl) (by kernel_rfl) (by kernel_rfl) (fun _ _ _ h => h) (Or.inl ⟨by rfl, ?_⟩) (by assumption) ?_; rotate_left; (focus (intro w' hSw; go_simp; try with_reducible rfl)); (try simp only [List.getElem_toArray]); (try simp only [List.getElem_cons_succ]); (try simp only [List.getElem_cons_zero]); (try simp only [Act.put]); (try simp only [List.setIfInBounds_toArray]); (try simp only [List.set_cons_succ]); (try simp only [List.set_cons_zero]))
        (refine wpAnyH_take (i := 9) (v := ?_) rfl (by kernel_rfl) (by kernel_rfl) (by kernel_rfl) (fun _ _ _ h => h) (Or.inl ⟨by rfl, ?_⟩) (by assumption) ?_; rotate_left; (focus (intro w' hSw; go_simp; try with_reducible rfl)); (try simp only [List.getElem_toArray]); (try simp only [List.getElem_cons_succ]); (try simp only [List.getElem_cons_zero]); (try simp only [Act.put]); (try simp only [List.setIfInBounds_toArray]); (try simp only [List.set_cons_succ]); (try simp only [List.set_cons_zero]))
        (refine wpAnyH_take (i := 10) (v := ?_) rfl (by kernel_rfl) (by kernel_rfl) (by kernel_rfl) (fun _ _ _ h => h) (Or.inl ⟨by rfl, ?_⟩) (by assumption) ?_; rotate_left; (focus (intro w' hSw; go_simp; try with_reducible rfl)); (try simp only [List.getElem_toArray]); (try simp only [List.getElem_cons_succ]); (try simp only [List.getElem_cons_zero]); (try simp only [Act.put]); (try simp only [List.setIfInBounds_toArray]); (try simp only [List.set_cons_succ]); (try simp only [List.set_cons_zero]))
        (refine wpAnyH_take (i := 11) (v := ?_) rfl (by kernel_rfl) (by kernel_rfl) (by kernel_rfl) (fun _ _ _ h => h) (Or.inl ⟨by rfl, ?_⟩) (by assumption) ?_; rotate_left; (focus (intro w' hSw; go_simp; try with_reducible rfl)); (try simp only [List.getElem_toArray]); (try simp only [List.getElem_cons_succ]); (try simp only [List.getElem_cons_zero]); (try simp only [Act.put]); (try simp only [List.setIfInBounds_toArray]); (try simp only [List.set_cons_succ]); (try simp only [List.set_cons_zero]))
        clear hHeld
        have hHeld : Ext W6 w23 := EH
        have k6 := B6.out.two
        have C6 := B6.out.put2 (.slice A' N c') (.int .i64 nx)
        have M6 : Mod (fun k => k = n6) w23 _ := ((Mod.refl _ w23).set1 (.slice A' N c') (o := 0)).set1 (.int .i64 nx) (o := 1)
        have C7 := B7.out.mod M6 hne_n7_n6
        have T8 := T7.out.mod M6 B6.out (by decide)
        have EH7 := (EH.setNew (p := ⟨n6, 0, none⟩) hn6W (.slice A' N c')).setNew (p := ⟨n6, 1, none⟩) hn6W (.int .i64 nx)
        (refine wpAnyH_ready (rs := [14]) (by kernel_rfl) (by simp) ?_; refine AllReadyH.cons rfl (fun K hK => ?_) AllReadyH.nil; go_simp; refine hK.out _ _ EH7 (fun hHeld => ?_); clear hK K; (try simp only [Act.put]); (try simp only [List.getElem_toArray]); (try simp only [List.getElem_cons_succ]); (try simp only [List.getElem_cons_zero]); (try simp only [List.setIfInBounds_toArray]); (try simp only [List.set_cons_succ]); (try simp only [List.set_cons_zero]))
        generalize World.setCell (World.setCell w23 _ _) _ _ = z1 at *
        have r0 := C7.cell 0
        have r1 := C7.cell 1
        have r2 := C7.cell 2
        have f0 := C7.frozen 0
        have f1 := C7.frozen 1
        have f2 := C7.frozen 2
        have M7 : Mod (fun k => k = n7) z1 _ := (((Mod.refl _ z1).set1 (.int .i64 s) (o := 0)).set1 (.int .i64 g') (o := 1)).set1 (.bool ts) (o := 2)
        have EH8 := ((EH7.setNew (p := ⟨n7, 0, none⟩) hn7W (.int .i64 s)).setNew (p := ⟨n7, 1, none⟩) hn7W (.int .i64 g')).setNew (p := ⟨n7, 2, none⟩) hn7W (.bool ts)
        have D6 := Lib.hid (C6.mod M7 hne_n6_n7)
        have D7 := Lib.hid (show Blk _ _ _ #[.int .i64 s, .int .i64 g', .bool ts] from ((C7.set_ 0 (.int .i64 s)).set_ 1 (.int .i64 g')).set_ 2 (.bool ts))
        have T9 := T8.mod M7 C7 (by decide)
        have HR := Lib.hid (show RdY Rp (fun _ => False) _ (.slice A' N c') l' by rw [← HN.out]; exact T9.y (A := fun _ => False) (by rw [HN.out]; exact HX0.out) EH8)
        (refine wpAnyH_ready (rs := [15]) (by kernel_rfl) (by simp) ?_; refine AllReadyH.cons rfl (fun K hK => ?_) AllReadyH.nil; go_simp; refine hK.out _ _ EH8 (fun hHeld => ?_); clear hK K; (try simp only [Act.put]); (try simp only [List.getElem_toArray]); (try simp only [List.getElem_cons_succ]); (try simp only [List.getElem_cons_zero]); (try simp only [List.setIfInBounds_toArray]); (try simp only [List.set_cons_succ]); (try simp only [List.set_cons_zero]))
        (refine wpAnyH_take (i := 16) (v := ?_) rfl (by kernel_rfl) (by kernel_rfl) (by kernel_rfl) (fun _ _ _ h => h) (Or.inl ⟨by rfl, ?_⟩) (by assumption) ?_; rotate_left; (focus (intro w' hSw; go_simp; try with_reducible rfl)); (try simp only [List.getElem_toArray]); (try simp only [List.getElem_cons_succ]); (try simp only [List.getElem_cons_zero]); (try simp only [Act.put]); (try simp only [List.setIfInBounds_toArray]); (try simp only [List.set_cons_succ]); (try simp only [List.set_cons_zero]))
        refine wpAnyH_done (by kernel_rfl) ?_ _
        go_wp2_with fail
        go_meet
        exact ⟨n6, n7, A', c', l', g', x, rfl, rfl, rfl, D6, D7, HR, HX7, hHeld⟩
    ·
      go_simp
      refine hK.out _ _ (EH.alloc _) (fun hHeld => ?_)
      clear hK K hHeld
      (try simp only [List.getElem_toArray]); (try simp only [List.getElem_cons_succ]); (try simp only [List.getElem_cons_zero]); (try simp only [Act.put]); (try simp only [List.setIfInBounds_toArray]); (try simp only [List.set_cons_succ]); (try simp only [List.set_cons_zero])
      have HX := Lib.hid (HX.out.ext ((Ext.refl _).alloc (.cells #[.int .i64 0, .int .i64 0, .bool false] 33)))
      have B7 := Lib.hid (Blk.new w19 33 #[.int .i64 0, .int .i64 0, .bool false])
      obtain ⟨n7, hn7⟩ : ∃ n7, w19.heap.size = n7 := ⟨_, rfl⟩
      have hn7W : W6.heap.size ≤ n7 := by rw [← hn7]; exact EH.size
      have EH := EH.alloc (.cells #[.int .i64 0, .int .i64 0, .bool false] 33)
      rw [hn7] at B7 ⊢
      clear hn7
      generalize w19.alloc _ = w20 at *
      have LB7 := B7.out.lt
      refine wpAnyH_ready (rs := [2, 12]) (by kernel_rfl) (by simp) ?_
      refine (AllReadyH.cons rfl (fun K hK => ?_) (AllReadyH.cons rfl (fun K hK => ?_) AllReadyH.nil))
      ·
        go_simp
        go_at_call 10
        refine (tty_any Ad N c nx s g0 ts pid g wr _).mono ?_
        rintro e w21 ⟨rfl, E3⟩
        (try dsimp only)
        refine hK.out _ _ (EH.trans E3) (fun hHeld => ?_)
        clear hK K hHeld
        (try simp only [List.getElem_toArray]); (try simp only [List.getElem_cons_succ]); (try simp only [List.getElem_cons_zero]); (try simp only [Act.put]); (try simp only [List.setIfInBounds_toArray]); (try simp only [List.set_cons_succ]); (try simp only [List.set_cons_zero])
        have HX := Lib.hid (HX.out.ext E3)
        have B7 := Lib.hid (B7.out.ext E3)
        have EH := EH.trans E3
        have LB7 := B7.out.lt
        clear E3
        refine wpAnyH_ready (rs := [7, 12]) (by kernel_rfl) (by simp) ?_
        refine (AllReadyH.cons rfl (fun K hK => ?_) (AllReadyH.cons rfl (fun K hK => ?_) AllReadyH.nil))
        ·
          go_simp
          go_at_call 21
          refine (HFRO.out w21 HX.out).mono ?_
          rintro e w22 ⟨A', c', l', g', x, rfl, T7, HX7, E3⟩
          (try dsimp only)
          refine hK.out _ _ (EH.trans E3) (fun hHeld => ?_)
          clear hK K hHeld
          (try simp only [List.getElem_toArray]); (try simp only [List.getElem_cons_succ]); (try simp only [List.getElem_cons_zero]); (try simp only [Act.put]); (try simp only [List.setIfInBounds_toArray]); (try simp only [List.set_cons_succ]); (try simp only [List.set_cons_zero])
          have HX7 := Lib.hid HX7
          have HX := Lib.hid (HX.out.ext E3)
          have B7 := Lib.hid (B7.out.ext E3)
          have T7 := Lib.hid (T7.lower (Nat.zero_le _))
          have EH := EH.trans E3
          have LB7 := B7.out.lt
          clear E3
          have hHeld : Ext W6 w22 := EH
          (refine wpAnyH_take (i := 8) (v := ?_) rfl (by kernel_rfl) (by kernel_rfl) (by kernel_rfl) (fun _ _ _ h => h) (Or.inl ⟨by rfl, ?_⟩) (by assumption) ?_; rotate_left; (focus (intro w' hSw; go_simp; try with_reducible rfl)); (try simp only [List.getElem_toArray]); (try simp only [List.getElem_cons_succ]); (try simp only [List.getElem_cons_zero]); (try simp only [Act.put]); (try simp only [List.setIfInBounds_toArray]); (try simp only [List.set_cons_succ]); (try simp only [List.set_cons_zero]))
          (refine wpAnyH_take (i := 9) (v := ?_) rfl (by kernel_rfl) (by kernel_rfl) (by kernel_rfl) (fun _ _ _ h => h) (Or.inl ⟨by rfl, ?_⟩) (by assumption) ?_; rotate_left; (focus (intro w' hSw; go_simp; try with_reducible rfl)); (try simp only [List.getElem_toArray]); (try simp only [List.getElem_cons_succ]); (try simp only [List.getElem_cons_zero]); (try simp only [Act.put]); (try simp only [List.setIfInBounds_toArray]); (try simp only [List.set_cons_succ]); (try simp only [List.set_cons_zero]))
          (refine wpAnyH_take (i := 10) (v := ?_) rfl (by kernel_rfl) (by kernel_rfl) (by kernel_rfl) (fun _ _ _ h => h) (Or.inl ⟨by rfl, ?_⟩) (by assumption) ?_; rotate_left; (focus (intro w' hSw; go_simp; try with_reducible rfl)); (try simp only [List.getElem_toArray]); (try simp only [List.getElem_cons_succ]); (try simp only [List.getElem_cons_zero]); (try simp only [Act.put]); (try simp only [List.setIfInBounds_toArray]); (try simp only [List.set_cons_succ]); (try simp only [List.set_cons_zero]))
          (refine wpAnyH_take (i := 11) (v := ?_) rfl (by kernel_rfl) (by kernel_rfl) (by kernel_rfl) (fun _ _ _ h => h) (Or.inl ⟨by rfl, ?_⟩) (by assumption) ?_; rotate_left; (focus (intro w' hSw; go_simp; try with_reducible rfl)); (try simp only [List.getElem_toArray]); (try simp only [List.getElem_cons_succ]); (try simp only [List.getElem_cons_zero]); (try simp only [Act.put]); (try simp only [List.setIfInBounds_toArray]); (try simp only [List.set_cons_succ]); (try simp only [List.set_cons_zero]))
          clear hHeld
          refine wpAnyH_ready (rs := [12]) (by kernel_rfl) (by simp) ?_
          refine (AllReadyH.cons rfl (fun K hK => ?_) AllReadyH.nil)
          go_simp
          refine hK.out _ _ (EH.alloc _) (fun hHeld => ?_)
          clear hK K hHeld
          (try simp only [List.getElem_toArray]); (try simp only [List.getElem_cons_succ]); (try simp only [List.getElem_cons_zero]); (try simp only [Act.put]); (try simp only [List.setIfInBounds_toArray]); (try simp only [List.set_cons_succ]); (try simp only [List.set_cons_zero])
          have HX := Lib.hid (HX.out.ext ((Ext.refl _).alloc (.cells #[.slice none 0 0, .int .i64 0] 28)))
          have B7 := Lib.hid (B7.out.ext ((Ext.refl _).alloc (.cells #[.slice none 0 0, .int .i64 0] 28)))
          have T7 := Lib.hid (T7.out.ext ((Ext.refl _).alloc (.cells #[.slice none 0 0, .int .i64 0] 28)))
          have B6 := Lib.hid (Blk.new w22 28 #[.slice none 0 0, .int .i64 0])
          obtain ⟨n6, hn6⟩ : ∃ n6, w22.heap.size = n6 := ⟨_, rfl⟩
          have hn6W : W6.heap.size ≤ n6 := by rw [← hn6]; exact EH.size
          have EH := EH.alloc (.cells #[.slice none 0 0, .int .i64 0] 28)
          rw [hn6] at B6 ⊢
          have hne_n7_n6 : n7 ≠ n6 := by have := LB7; omega
          have hne_n6_n7 : n6 ≠ n7 := fun h => hne_n7_n6 h.symm
          clear hn6
          generalize w22.alloc _ = w23 at *
          have LB6 := B6.out.lt
          have hHeld : Ext W6 w23 := EH
          have k6 := B6.out.two
          have C6 := B6.out.put2 (.slice A' N c') (.int .i64 nx)
          have M6 : Mod (fun k => k = n6) w23 _ := ((Mod.refl _ w23).set1 (.slice A' N c') (o := 0)).set1 (.int .i64 nx) (o := 1)
          have C7 := B7.out.mod M6 hne_n7_n6
          have T8 := T7.out.mod M6 B6.out (by decide)
          have EH7 := (EH.setNew (p := ⟨n6, 0, none⟩) hn6W (.slice A' N c')).setNew (p := ⟨n6, 1, none⟩) hn6W (.int .i64 nx)
          (refine wpAnyH_ready (rs := [14]) (by kernel_rfl) (by simp) ?_; refine AllReadyH.cons rfl (fun K hK => ?_) AllReadyH.nil; go_simp; refine hK.out _ _ EH7 (fun hHeld => ?_); clear hK K; (try simp only [Act.put]); (try simp only [List.getElem_toArray]); (try simp only [List.getElem_cons_succ]); (try simp only [List.getElem_cons_zero]); (try simp only [List.setIfInBounds_toArray]); (try simp only [List.set_cons_succ]); (try simp only [List.set_cons_zero]))
          generalize World.setCell (World.setCell w23 _ _) _ _ = z1 at *
          have r0 := C7.cell 0
          have r1 := C7.cell 1
          have r2 := C7.cell 2
          have f0 := C7.frozen 0
          have f1 := C7.frozen 1
          have f2 := C7.frozen 2
          have M7 : Mod (fun k => k = n7) z1 _ := (((Mod.refl _ z1).set1 (.int .i64 s) (o := 0)).set1 (.int .i64 g') (o := 1)).set1 (.bool ts) (o := 2)
          have EH8 := ((EH7.setNew (p := ⟨n7, 0, none⟩) hn7W (.int .i64 s)).setNew (p := ⟨n7, 1, none⟩) hn7W (.int .i64 g')).setNew (p := ⟨n7, 2, none⟩) hn7W (.bool ts)
          have D6 := Lib.hid (C6.mod M7 hne_n6_n7)
          have D7 := Lib.hid (show Blk _ _ _ #[.int .i64 s, .int .i64 g', .bool ts] from ((C7.set_ 0 (.int .i64 s)).set_ 1 (.int .i64 g')).set_ 2 (.bool ts))
          have T9 := T8.mod M7 C7 (by decide)
          have HR := Lib.hid (show RdY Rp (fun _ => False) _ (.slice A' N c') l' by rw [← HN.out]; exact T9.y (A := fun _ => False) (by rw [HN.out]; exact HX0.out) EH8)
          (refine wpAnyH_ready (rs := [15]) (by kernel_rfl) (by simp) ?_; refine AllReadyH.cons rfl (fun K hK => ?_) AllReadyH.nil; go_simp; refine hK.out _ _ EH8 (fun hHeld => ?_); clear hK K; (try simp only [Act.put]); (try simp only [List.getElem_toArray]); (try simp only [List.getElem_cons_succ]); (try simp only [List.getElem_cons_zero]); (try simp only [List.setIfInBounds_toArray]); (try simp only [List.set_cons_succ]); (try simp only [List.set_cons_zero]))
          (refine wpAnyH_take (i := 16) (v := ?_) rfl (by kernel_rfl) (by kernel_rfl) (by kernel_rfl) (fun _ _ _ h => h) (Or.inl ⟨by rfl, ?_⟩) (by assumption) ?_; rotate_left; (focus (intro w' hSw; go_simp; try with_reducible rfl)); (try simp only [List.getElem_toArray]); (try simp only [List.getElem_cons_succ]); (try simp only [List.getElem_cons_zero]); (try simp only [Act.put]); (try simp only [List.setIfInBounds_toArray]); (try simp only [List.set_cons_succ]); (try simp only [List.set_cons_zero]))
          refine wpAnyH_done (by kernel_rfl) ?_ _
          go_wp2_with fail
          go_meet
          exact ⟨n6, n7, A', c', l', g', x, rfl, rfl, rfl, D6, D7, HR, HX7, hHeld⟩
        ·
          go_simp
          refine hK.out _ _ (EH.alloc _) (fun hHeld => ?_)
          clear hK K hHeld
          (try simp only [List.getElem_toArray]); (try simp only [List.getElem_cons_succ]); (try simp only [List.getElem_cons_zero]); (try simp only [Act.put]); (try simp only [List.setIfInBounds_toArray]); (try simp only [List.set_cons_succ]); (try simp only [List.set_cons_zero])
          have HX := Lib.hid (HX.out.ext ((Ext.refl _).alloc (.cells #[.slice none 0 0, .int .i64 0] 28)))
          have B7 := Lib.hid (B7.out.ext ((Ext.refl _).alloc (.cells #[.slice none 0 0, .int .i64 0] 28)))
          have B6 := Lib.hid (Blk.new w21 28 #[.slice none 0 0, .int .i64 0])
          obtain ⟨n6, hn6⟩ : ∃ n6, w21.heap.size = n6 := ⟨_, rfl⟩
          have hn6W : W6.heap.size ≤ n6 := by rw [← hn6]; exact EH.size
          have EH := EH.alloc (.cells #[.slice none 0 0, .int .i64 0] 28)
          rw [hn6] at B6 ⊢
          have hne_n7_n6 : n7 ≠ n6 := by have := LB7; omega
          have hne_n6_n7 : n6 ≠ n7 := fun h => hne_n7_n6 h.symm
          clear hn6
          generalize w21.alloc _ = w22 at *
          have LB6 := B6.out.lt
          refine wpAnyH_ready (rs := [7]) (by kernel_rfl) (by simp) ?_
          refine (AllReadyH.cons rfl (fun K hK => ?_) AllReadyH.nil)
          go_simp
          go_at_call 21
          refine (HFRO.out w22 HX.out).mono ?_
          rintro e w23 ⟨A', c', l', g', x, rfl, T7, HX7, E3⟩
          (try dsimp only)
          refine hK.out _ _ (EH.trans E3) (fun hHeld => ?_)
          clear hK K hHeld
          (try simp only [List.getElem_toArray]); (try simp only [List.getElem_cons_succ]); (try simp only [List.getElem_cons_zero]); (try simp only [Act.put]); (try simp only [List.setIfInBounds_toArray]); (try simp only [List.set_cons_succ]); (try simp only [List.set_cons_zero])
          have HX7 := Lib.hid HX7
          have HX := Lib.hid (HX.out.ext E3)
          have B7 := Lib.hid (B7.out.ext E3)
          have B6 := Lib.hid (B6.out.ext E3)
          have T7 := Lib.hid (T7.lower (Nat.zero_le _))
          have EH := EH.trans E3
          have LB6 := B6.out.lt
          have LB7 := B7.out.lt
          clear E3
          have hHeld : Ext W6 w23 := EH
          (refine wpAnyH_take (i := 8) (v := ?_) rfl (by kernel_rfl) (by kernel_rfl) (by kernel_rfl) (fun _ _ _ h => h) (Or.inl ⟨by rfl, ?_⟩) (by assumption) ?_; rotate_left; (focus (intro w' hSw; go_simp; try with_reducible rfl)); (try simp only [List.getElem_toArray]); (try simp only [List.getElem_cons_succ]); (try simp only [List.getElem_cons_zero]); (try simp only [Act.put]); (try simp only [List.setIfInBounds_toArray]); (try simp only [List.set_cons_succ]); (try simp only [List.set_cons_zero]))
          (refine wpAnyH_take (i := 9) (v := ?_) rfl (by kernel_rfl) (by kernel_rfl) (by kernel_rfl) (fun _ _ _ h => h) (Or.inl ⟨by rfl, ?_⟩) (by assumption) ?_; rotate_left; (focus (intro w' hSw; go_simp; try with_reducible rfl)); (try simp only [List.getElem_toArray]); (try simp only [List.getElem_cons_succ]); (try simp only [List.getElem_cons_zero]); (try simp only [Act.put]); (try simp only [List.setIfInBounds_toArray]); (try simp only [List.set_cons_succ]); (try simp only [List.set_cons_zero]))
          (refine wpAnyH_take (i := 10) (v := ?_) rfl (by kernel_rfl) (by kernel_rfl) (by kernel_rfl) (fun _ _ _ h => h) (Or.inl ⟨by rfl, ?_⟩) (by assumption) ?_; rotate_left; (focus (intro w' hSw; go_simp; try with_reducible rfl)); (try simp only [List.getElem_toArray]); (try simp only [List.getElem_cons_succ]); (try simp only [List.getElem_cons_zero]); (try simp only [Act.put]); (try simp only [List.setIfInBounds_toArray]); (try simp only [List.set_cons_succ]); (try simp only [List.set_cons_zero]))
          (refine wpAnyH_take (i := 11) (v := ?_) rfl (by kernel_rfl) (by kernel_rfl) (by kernel_rfl) (fun _ _ _ h => h) (Or.inl ⟨by rfl, ?_⟩) (by assumption) ?_; rotate_left; (focus (intro w' hSw; go_simp; try with_reducible rfl)); (try simp only [List.getElem_toArray]); (try simp only [List.getElem_cons_succ]); (try simp only [List.getElem_cons_zero]); (try simp only [Act.put]); (try simp only [List.setIfInBounds_toArray]); (try simp only [List.set_cons_succ]); (try simp only [List.set_cons_zero]))
          clear hHeld
          have hHeld : Ext W6 w23 := EH
          have k6 := B6.out.two
          have C6 := B6.out.put2 (.slice A' N c') (.int .i64 nx)
          have M6 : Mod (fun k => k = n6) w23 _ := ((Mod.refl _ w23).set1 (.slice A' N c') (o := 0)).set1 (.int .i64 nx) (o := 1)
          have C7 := B7.out.mod M6 hne_n7_n6
          have T8 := T7.out.mod M6 B6.out (by decide)
          have EH7 := (EH.setNew (p := ⟨n6, 0, none⟩) hn6W (.slice A' N c')).setNew (p := ⟨n6, 1, none⟩) hn6W (.int .i64 nx)
          (refine wpAnyH_ready (rs := [14]) (by kernel_rfl) (by simp) ?_; refine AllReadyH.cons rfl (fun K hK => ?_) AllReadyH.nil; go_simp; refine hK.out _ _ EH7 (fun hHeld => ?_); clear hK K; (try simp only [Act.put]); (try simp only [List.getElem_toArray]); (try simp only [List.getElem_cons_succ]); (try simp only [List.getElem_cons_zero]); (try simp only [List.setIfInBounds_toArray]); (try simp only [List.set_cons_succ]); (try simp only [List.set_cons_zero]))
          generalize World.setCell (World.setCell w23 _ _) _ _ = z1 at *
          have r0 := C7.cell 0
          have r1 := C7.cell 1
          have r2 := C7.cell 2
          have f0 := C7.frozen 0
          have f1 := C7.frozen 1
          have f2 := C7.frozen 2
          have M7 : Mod (fun k => k = n7) z1 _ := (((Mod.refl _ z1).set1 (.int .i64 s) (o := 0)).set1 (.int .i64 g') (o := 1)).set1 (.bool ts) (o := 2)
          have EH8 := ((EH7.setNew (p := ⟨n7, 0, none⟩) hn7W (.int .i64 s)).setNew (p := ⟨n7, 1, none⟩) hn7W (.int .i64 g')).setNew (p := ⟨n7, 2, none⟩) hn7W (.bool ts)
          have D6 := Lib.hid (C6.mod M7 hne_n6_n7)
          have D7 := Lib.hid (show Blk _ _ _ #[.int .i64 s, .int .i64 g', .bool ts] from ((C7.set_ 0 (.int .i64 s)).set_ 1 (.int .i64 g')).set_ 2 (.bool ts))
          have T9 := T8.mod M7 C7 (by decide)
          have HR := Lib.hid (show RdY Rp (fun _ => False) _ (.slice A' N c') l' by rw [← HN.out]; exact T9.y (A := fun _ => False) (by rw [HN.out]; exact HX0.out) EH8)
          (refine wpAnyH_ready (rs := [15]) (by kernel_rfl) (by simp) ?_; refine AllReadyH.cons rfl (fun K hK => ?_) AllReadyH.nil; go_simp; refine hK.out _ _ EH8 (fun hHeld => ?_); clear hK K; (try simp only [Act.put]); (try simp only [List.getElem_toArray]); (try simp only [List.getElem_cons_succ]); (try simp only [List.getElem_cons_zero]); (try simp only [List.setIfInBounds_toArray]); (try simp only [List.set_cons_succ]); (try simp only [List.set_cons_zero]))
          (refine wpAnyH_take (i := 16) (v := ?_) rfl (by kernel_rfl) (by kernel_rfl) (by kernel_rfl) (fun _ _ _ h => h) (Or.inl ⟨by rfl, ?_⟩) (by assumption) ?_; rotate_left; (focus (intro w' hSw; go_simp; try with_reducible rfl)); (try simp only [List.getElem_toArray]); (try simp only [List.getElem_cons_succ]); (try simp only [List.getElem_cons_zero]); (try simp only [Act.put]); (try simp only [List.setIfInBounds_toArray]); (try simp only [List.set_cons_succ]); (try simp only [List.set_cons_zero]))
          refine wpAnyH_done (by kernel_rfl) ?_ _
          go_wp2_with fail
          go_meet
          exact ⟨n6, n7, A', c', l', g', x, rfl, rfl, rfl, D6, D7, HR, HX7, hHeld⟩
      ·
        go_simp
        refine hK.out _ _ (EH.alloc _) (fun hHeld => ?_)
        clear hK K hHeld
        (try simp only [List.getElem_toArray]); (try simp only [List.getElem_cons_succ]); (try simp only [List.getElem_cons_zero]); (try simp only [Act.put]); (try simp only [List.setIfInBounds_toArray]); (try simp only [List.set_cons_succ]); (try simp only [List.set_cons_zero])
        have HX := Lib.hid (HX.out.ext ((Ext.refl _).alloc (.cells #[.slice none 0 0, .int .i64 0] 28)))
        have B7 := Lib.hid (B7.out.ext ((Ext.refl _).alloc (.cells #[.slice none 0 0, .int .i64 0] 28)))
        have B6 := Lib.hid (Blk.new w20 28 #[.slice none 0 0, .int .i64 0])
        obtain ⟨n6, hn6⟩ : ∃ n6, w20.heap.size = n6 := ⟨_, rfl⟩
        have hn6W : W6.heap.size ≤ n6 := by rw [← hn6]; exact EH.size
        have EH := EH.alloc (.cells #[.slice none 0 0, .int .i64 0] 28)
        rw [hn6] at B6 ⊢
        have hne_n7_n6 : n7 ≠ n6 := by have := LB7; omega
        have hne_n6_n7 : n6 ≠ n7 := fun h => hne_n7_n6 h.symm
        clear hn6
        generalize w20.alloc _ = w21 at *
        have LB6 := B6.out.lt
        refine wpAnyH_ready (rs := [2]) (by kernel_rfl) (by simp) ?_
        refine (AllReadyH.cons rfl (fun K hK => ?_) AllReadyH.nil)
        go_simp
        go_at_call 10
        refine (tty_any Ad N c nx s g0 ts pid g wr _).mono ?_
        rintro e w22 ⟨rfl, E3⟩
        (try dsimp only)
        refine hK.out _ _ (EH.trans E3) (fun hHeld => ?_)
        clear hK K hHeld
        (try simp only [List.getElem_toArray]); (try simp only [List.getElem_cons_succ]); (try simp only [List.getElem_cons_zero]); (try simp only [Act.put]); (try simp only [List.setIfInBounds_toArray]); (try simp only [List.set_cons_succ]); (try simp only [List.set_cons_zero])
        have HX := Lib.hid (HX.out.ext E3)
        have B7 := Lib.hid (B7.out.ext E3)
        have B6 := Lib.hid (B6.out.ext E3)
        have EH := EH.trans E3
        have LB6 := B6.out.lt
        have LB7 := B7.out.lt
        clear E3
        refine wpAnyH_ready (rs := [7]) (by kernel_rfl) (by simp) ?_
        refine (AllReadyH.cons rfl (fun K hK => ?_) AllReadyH.nil)
        go_simp
        go_at_call 21
        refine (HFRO.out w22 HX.out).mono ?_
        rintro e w23 ⟨A', c', l', g', x, rfl, T7, HX7, E3⟩
        (try dsimp only)
        refine hK.out _ _ (EH.trans E3) (fun hHeld => ?_)
        clear hK K hHeld
        (try simp only [List.getElem_toArray]); (try simp only [List.getElem_cons_succ]); (try simp only [List.getElem_cons_zero]); (try simp only [Act.put]); (try simp only [List.setIfInBounds_toArray]); (try simp only [List.set_cons_succ]); (try simp only [List.set_cons_zero])
        have HX7 := Lib.hid HX7
        have HX := Lib.hid (HX.out.ext E3)
        have B7 := Lib.hid (B7.out.ext E3)
        have B6 := Lib.hid (B6.out.ext E3)
        have T7 := Lib.hid (T7.lower (Nat.zero_le _))
        have EH := EH.trans E3
        have LB6 := B6.out.lt
        have LB7 := B7.out.lt
        clear E3
        have hHeld : Ext W6 w23 := EH
        (refine wpAnyH_take (i := 8) (v := ?_) rfl (by kernel_rfl) (by kernel_rfl) (by kernel_rfl) (fun _ _ _ h => h) (Or.inl ⟨by rfl, ?_⟩) (by assumption) ?_; rotate_left; (focus (intro w' hSw; go_simp; try with_reducible rfl)); (try simp only [List.getElem_toArray]); (try simp only [List.getElem_cons_succ]); (try simp only [List.getElem_cons_zero]); (try simp only [Act.put]); (try simp only [List.setIfInBounds_toArray]); (try simp only [List.set_cons_succ]); (try simp only [List.set_cons_zero]))
        (refine wpAnyH_take (i := 9) (v := ?_) rfl (by kernel_rfl) (by kernel_rfl) (by kernel_rfl) (fun _ _ _ h => h) (Or.inl ⟨by rfl, ?_⟩) (by assumption) ?_; rotate_left; (focus (intro w' hSw; go_simp; try with_reducible rfl)); (try simp only [List.getElem_toArray]); (try simp only [List.getElem_cons_succ]); (try simp only [List.getElem_cons_zero]); (try simp only [Act.put]); (try simp only [List.setIfInBounds_toArray]); (try simp only [List.set_cons_succ]); (try simp only [List.set_cons_zero]))
        (refine wpAnyH_take (i := 10) (v := ?_) rfl (by kernel_rfl) (by kernel_rfl) (by kernel_rfl) (fun _ _ _ h => h) (Or.inl ⟨by rfl, ?_⟩) (by assumption) ?_; rotate_left; (focus (intro w' hSw; go_simp; try with_reducible rfl)); (try simp only [List.getElem_toArray]); (try simp only [List.getElem_cons_succ]); (try simp only [List.getElem_cons_zero]); (try simp only [Act.put]); (try simp only [List.setIfInBounds_toArray]); (try simp only [List.set_cons_succ]); (try simp only [List.set_cons_zero]))
        (refine wpAnyH_take (i := 11) (v := ?_) rfl (by kernel_rfl) (by kernel_rfl) (by kernel_rfl) (fun _ _ _ h => h) (Or.inl ⟨by rfl, ?_⟩) (by assumption) ?_; rotate_left; (focus (intro w' hSw; go_simp; try with_reducible rfl)); (try simp only [List.getElem_toArray]); (try simp only [List.getElem_cons_succ]); (try simp only [List.getElem_cons_zero]); (try simp only [Act.put]); (try simp only [List.setIfInBounds_toArray]); (try simp only [List.set_cons_succ]); (try simp only [List.set_cons_zero]))
        clear hHeld
        have hHeld : Ext W6 w23 := EH
        have k6 := B6.out.two
        have C6 := B6.out.put2 (.slice A' N c') (.int .i64 nx)
        have M6 : Mod (fun k => k = n6) w23 _ := ((Mod.refl _ w23).set1 (.slice A' N c') (o := 0)).set1 (.int .i64 nx) (o := 1)
        have C7 := B7.out.mod M6 hne_n7_n6
        have T8 := T7.out.mod M6 B6.out (by decide)
        have EH7 := (EH.setNew (p := ⟨n6, 0, none⟩) hn6W (.slice A' N c')).setNew (p := ⟨n6, 1, none⟩) hn6W (.int .i64 nx)
        (refine wpAnyH_ready (rs := [14]) (by kernel_rfl) (by simp) ?_; refine AllReadyH.cons rfl (fun K hK => ?_) AllReadyH.nil; go_simp; refine hK.out _ _ EH7 (fun hHeld => ?_); clear hK K; (try simp only [Act.put]); (try simp only [List.getElem_toArray]); (try simp only [List.getElem_cons_succ]); (try simp only [List.getElem_cons_zero]); (try simp only [List.setIfInBounds_toArray]); (try simp only [List.set_cons_succ]); (try simp only [List.set_cons_zero]))
        generalize World.setCell (World.setCell w23 _ _) _ _ = z1 at *
        have r0 := C7.cell 0
        have r1 := C7.cell 1
        have r2 := C7.cell 2
        have f0 := C7.frozen 0
        have f1 := C7.frozen 1
        have f2 := C7.frozen 2
        have M7 : Mod (fun k => k = n7) z1 _ := (((Mod.refl _ z1).set1 (.int .i64 s) (o := 0)).set1 (.int .i64 g') (o := 1)).set1 (.bool ts) (o := 2)
        have EH8 := ((EH7.setNew (p := ⟨n7, 0, none⟩) hn7W (.int .i64 s)).setNew (p := ⟨n7, 1, none⟩) hn7W (.int .i64 g')).setNew (p := ⟨n7, 2, none⟩) hn7W (.bool ts)
        have D6 := Lib.hid (C6.mod M7 hne_n6_n7)
        have D7 := Lib.hid (show Blk _ _ _ #[.int .i64 s, .int .i64 g', .bool ts] from ((C7.set_ 0 (.int .i64 s)).set_ 1 (.int .i64 g')).set_ 2 (.bool ts))
        have T9 := T8.mod M7 C7 (by decide)
        have HR := Lib.hid (show RdY Rp (fun _ => False) _ (.slice A' N c') l' by rw [← HN.out]; exact T9.y (A := fun _ => False) (by rw [HN.out]; exact HX0.out) EH8)
        (refine wpAnyH_ready (rs := [15]) (by kernel_rfl) (by simp) ?_; refine AllReadyH.cons rfl (fun K hK => ?_) AllReadyH.nil; go_simp; refine hK.out _ _ EH8 (fun hHeld => ?_); clear hK K; (try simp only [Act.put]); (try simp only [List.getElem_toArray]); (try simp only [List.getElem_cons_succ]); (try simp only [List.getElem_cons_zero]); (try simp only [List.setIfInBounds_toArray]); (try simp only [List.set_cons_succ]); (try simp only [List.set_cons_zero]))
        (refine wpAnyH_take (i := 16) (v := ?_) rfl (by kernel_rfl) (by kernel_rfl) (by kernel_rfl) (fun _ _ _ h => h) (Or.inl ⟨by rfl, ?_⟩) (by assumption) ?_; rotate_left; (focus (intro w' hSw; go_simp; try with_reducible rfl)); (try simp only [List.getElem_toArray]); (try simp only [List.getElem_cons_succ]); (try simp only [List.getElem_cons_zero]); (try simp only [Act.put]); (try simp only [List.setIfInBounds_toArray]); (try simp only [List.set_cons_succ]); (try simp only [List.set_cons_zero]))
        refine wpAnyH_done (by kernel_rfl) ?_ _
        go_wp2_with fail
        go_meet
        exact ⟨n6, n7, A', c', l', g', x, rfl, rfl, rfl, D6, D7, HR, HX7, hHeld⟩
  case rest =>
    obtain ⟨n6, n7, A', c', l', g', x, rfl, rfl, rfl, B6, B7, R7, HX, E67⟩ := hcut
    obtain ⟨W7, hW7⟩ : ∃ W7, W7 = wc := ⟨_, rfl⟩
    subst hW7
    have E07 := E06.trans E67
    have B := Lib.hid (B.out.ext E67)
    have T := Lib.hid (T.out.ext E67)
    have P := Lib.hid (P.out.ext E67)
    have R6 := Lib.hid (R6.out.ext E67)
    clear E06 E67 HX0 HFRO
    go_upto_if 45 with fail
    go_cut [2] (fun s2 wx => s2 = .bool false ∧ Ext W7 wx)
    case first =>
      by_cases hx : x = 0
      · have hxb : (x == 0) = true := by simpa using hx
        obtain ⟨hl', hg', hlv, hss⟩ := HX.out hx
        rw [hl'] at R7
        rw [hg'] at B7
        have hacc := fun wr w h => access_any (A := fun _ => False) A' c' l nx s q.group ts pid wr w h HM.out
        rw [HN.out] at hacc
        simp only [fun wr => acc_same (l := l) (nx := nx) (s := s) (ts := ts) (wr := wr) hlv (show (getL l nx pid).1.group = q.group by rw [HGQ.out])] at hacc
        have HACC := Lib.hid hacc
        have HSS := Lib.hid hss
        have kb := B6.out.two
        have y0 := B7.out.cell 0
        have y1 := B7.out.cell 1
        have y2 := B7.out.cell 2
        have k5 := B.out.cell 5
        clear hacc hl' hg' hlv hss hx HX
        go_wp2_with fail
        refine (HACC.out false _ R7.out).mono ?_
        rintro e w8 ⟨rfl, E8⟩
        have kb := (B6.out.ext E8).two
        have y0 := (B7.out.ext E8).cell 0
        have y1 := (B7.out.ext E8).cell 1
        have y2 := (B7.out.ext E8).cell 2
        have k5 := (B.out.ext E8).cell 5
        go_wp2_with fail
        refine (HACC.out true _ (R7.out.ext E8)).mono ?_
        rintro e w9 ⟨rfl, E9⟩
        have E79 := E8.trans E9
        have y0 := (B7.out.ext E79).cell 0
        have y1 := (B7.out.ext E79).cell 1
        have k2 := (B.out.ext E79).cell 2
        have p2 := (prAt_blk hqok (P.out.ext E79)).c2
        clear kb y2 k5 E8 E9
        go_wp2
        go_meet
        exact ⟨rfl, E79⟩
      · have hxb : (x == 0) = false := by simpa using hx
        clear hx HX
        go_wp2
        go_meet
        exact ⟨rfl, Ext.refl _⟩
    case rest =>
      obtain ⟨rfl, E78⟩ := hcut
      obtain ⟨W8, hW8⟩ : ∃ W8, W8 = wc := ⟨_, rfl⟩
      subst hW8
      have E08 := E07.trans E78
      have B := Lib.hid (B.out.ext E78)
      have T := Lib.hid (T.out.ext E78)
      have P := Lib.hid (P.out.ext E78)
      have R8 := Lib.hid (R6.out.ext E78)
      have HX0 := R8
      clear E07 E78 R6 R7 B6 B7 HX
      go_wp2
      go_cut [13, 14] (fun s6 s7 wx => ∃ n6 n7 A' c' l' s' g', s6 = .pointer (some ⟨n6, 0, none⟩) ∧ s7 = .pointer (some ⟨n7, 0, none⟩) ∧ Hid (Blk wx n6 28 #[.slice A' N c', .int .i64 nx]) ∧ Hid (Blk wx n7 33 #[.int .i64 s', .int .i64 g', .bool ts]) ∧ Hid (RdY Rp (fun _ => False) wx (.slice A' N c') l') ∧ Hid (s ≠ 0 → l' = groupL l nx g0 1 ∧ s' = 0 ∧ g' = 0) ∧ Ext W8 wx)
      case first =>
        refine wp_region_held_drew (S := fun w' => Ext W8 w') (by kernel_rfl) (Ext.drew (Ext.refl _)) (fun hHeld => ?_)
        (refine wpAnyH_take (i := 0) (v := ?_) rfl (by kernel_rfl) (by kernel_rfl) (by kernel_rfl) (fun _ _ _ h => h) (Or.inl ⟨by rfl, ?_⟩) (by assumption) ?_; rotate_left; (focus (intro w' hSw; have kc := (T.out.ext hSw).two; go_simp; try with_reducible rfl)); (try simp only [List.getElem_toArray]); (try simp only [List.getElem_cons_succ]); (try simp only [List.getElem_cons_zero]); (try simp only [Act.put]); (try simp only [List.setIfInBounds_toArray]); (try simp only [List.set_cons_succ]); (try simp only [List.set_cons_zero]))
        (refine wpAnyH_take (i := 1) (v := .agg #[.slice Ad N c, .int .i64 nx, .int .i64 s, .int .i64 g0, .bool ts, .int .i64 pid, .int .i64 g, .bool wr]) rfl (by kernel_rfl) (by kernel_rfl) (by kernel_rfl) (fun _ _ _ h => h) (yieldsIf_load_mid (by rfl) 24 _ rfl _ _ rfl (#[.slice Ad N c, .int .i64 nx, .int .i64 s, .int .i64 g0, .bool ts, .int .i64 pid, .int .i64 g, .bool wr]).toList _ (fun w' hSw => (fun i u hu => by rw [(Blk.ext B.out hSw).cell, Nat.zero_add, ← Array.getElem?_toList]; exact hu)) Try.underlying24 rfl i24) (by assumption) ?_; (try simp only [List.getElem_toArray]); (try simp only [List.getElem_cons_succ]); (try simp only [List.getElem_cons_zero]); (try simp only [Act.put]); (try simp only [List.setIfInBounds_toArray]); (try simp only [List.set_cons_succ]); (try simp only [List.set_cons_zero]))
        (refine wpAnyH_take (i := 3) (v := ?_) rfl (by kernel_rfl) (by kernel_rfl) (by kernel_rfl) (fun _ _ _ h => h) (Or.inl ⟨by rfl, ?_⟩) (by assumption) ?_; rotate_left; (focus (intro w' hSw; go_simp; try with_reducible rfl)); (try simp only [List.getElem_toArray]); (try simp only [List.getElem_cons_succ]); (try simp only [List.getElem_cons_zero]); (try simp only [Act.put]); (try simp only [List.setIfInBounds_toArray]); (try simp only [List.set_cons_succ]); (try simp only [List.set_cons_zero]))
        (refine wpAnyH_take (i := 4) (v := ?_) rfl (by kernel_rfl) (by kernel_rfl) (by kernel_rfl) (fun _ _ _ h => h) (Or.inl ⟨by rfl, ?_⟩) (by assumption) ?_; rotate_left; (focus (intro w' hSw; have kc := (B.out.ext hSw).cell 2; go_simp; try with_reducible rfl)); (try simp only [List.getElem_toArray]); (try simp only [List.getElem_cons_succ]); (try simp only [List.getElem_cons_zero]); (try simp only [Act.put]); (try simp only [List.setIfInBounds_toArray]); (try simp only [List.set_cons_succ]); (try simp only [List.set_cons_zero]))
        have EH : Ext W8 W8.drew := Ext.drew (Ext.refl _)
        have HX := Lib.hid (R8.out.ext EH)
        clear hHeld
        generalize W8.drew = w19 at *
        refine wpAnyH_ready (rs := [2, 9, 10]) (by kernel_rfl) (by simp) ?_
        refine (AllReadyH.cons rfl (fun K hK => ?_) (AllReadyH.cons rfl (fun K hK => ?_) (AllReadyH.cons rfl (fun K hK => ?_) AllReadyH.nil)))
        ·
          go_simp
          go_at_call 10
          refine (tty_any Ad N c nx s g0 ts pid g wr _).mono ?_
          rintro e w20 ⟨rfl, E3⟩
          (try dsimp only)
          refine hK.out _ _ (EH.trans E3) (fun hHeld => ?_)
          clear hK K hHeld
          (try simp only [List.getElem_toArray]); (try simp only [List.getElem_cons_succ]); (try simp only [List.getElem_cons_zero]); (try simp only [Act.put]); (try simp only [List.setIfInBounds_toArray]); (try simp only [List.set_cons_succ]); (try simp only [List.set_cons_zero])
          have HX := Lib.hid (HX.out.ext E3)
          have EH := EH.trans E3
          clear E3
          refine wpAnyH_ready (rs := [5, 9, 10]) (by kernel_rfl) (by simp) ?_
          refine (AllReadyH.cons rfl (fun K hK => ?_) (AllReadyH.cons rfl (fun K hK => ?_) (AllReadyH.cons rfl (fun K hK => ?_) AllReadyH.nil)))
          ·
            go_simp
            go_at_call 22
            refine (HLEA.out w20 HX.out).mono ?_
            rintro e w21 ⟨A', c', l', s', g', rfl, T7, HX7, E3⟩
            (try dsimp only)
            refine hK.out _ _ (EH.trans E3) (fun hHeld => ?_)
            clear hK K hHeld
            (try simp only [List.getElem_toArray]); (try simp only [List.getElem_cons_succ]); (try simp only [List.getElem_cons_zero]); (try simp only [Act.put]); (try simp only [List.setIfInBounds_toArray]); (try simp only [List.set_cons_succ]); (try simp only [List.set_cons_zero])
            have HX7 := Lib.hid HX7
            have HX := Lib.hid (HX.out.ext E3)
            have T7 := Lib.hid (T7.lower (Nat.zero_le _))
            have EH := EH.trans E3
            clear E3
            have hHeld : Ext W8 w21 := EH
            (refine wpAnyH_take (i := 6) (v := ?_) rfl (by kernel_rfl) (by kernel_rfl) (by kernel_rfl) (fun _ _ _ h => h) (Or.inl ⟨by rfl, ?_⟩) (by assumption) ?_; rotate_left; (focus (intro w' hSw; go_simp; try with_reducible rfl)); (try simp only [List.getElem_toArray]); (try simp only [List.getElem_cons_succ]); (try simp only [List.getElem_cons_zero]); (try simp only [Act.put]); (try simp only [List.setIfInBounds_toArray]); (try simp only [List.set_cons_succ]); (try simp only [List.set_cons_zero]))
            (refine wpAnyH_take (i := 7) (v := ?_) rfl (by kernel_rfl) (by kernel_rfl) (by kernel_rfl) (fun _ _ _ h => h) (Or.inl ⟨by rfl, ?_⟩) (by assumption) ?_; rotate_left; (focus (intro w' hSw; go_simp; try with_reducible rfl)); (try simp only [List.getElem_toArray]); (try simp only [List.getElem_cons_succ]); (try simp only [List.getElem_cons_zero]); (try simp only [Act.put]); (try simp only [List.setIfInBounds_toArray]); (try simp only [List.set_cons_succ]); (try simp only [List.set_cons_zero]))
            (refine wpAnyH_take (i := 8) (v := ?_) rfl (by kernel_rfl) (by kernel_rfl) (by kernel_rfl) (fun _ _ _ h => h) (Or.inl ⟨by rfl, ?_⟩) (by assumption) ?_; rotate_left; (focus (intro w' hSw; go_simp; try with_reducible rfl)); (try simp only [List.getElem_toArray]); (try simp only [List.getElem_cons_succ]); (try simp only [List.getElem_cons_zero]); (try simp only [Act.put]); (try simp only [List.setIfInBounds_toArray]); (try simp only [List.set_cons_succ]); (try simp only [List.set_cons_zero]))
            clear hHeld
            refine wpAnyH_ready (rs := [9, 10]) (by kernel_rfl) (by simp) ?_
            refine (AllReadyH.cons rfl (fun K hK => ?_) (AllReadyH.cons rfl (fun K hK => ?_) AllReadyH.nil))
            ·
              go_simp
              refine hK.out _ _ (EH.alloc _) (fun hHeld => ?_)
              clear hK K hHeld
              (try simp only [List.getElem_toArray]); (try simp only [List.getElem_cons_succ]); (try simp only [List.getElem_cons_zero]); (try simp only [Act.put]); (try simp only [List.setIfInBounds_toArray]); (try simp only [List.set_cons_succ]); (try simp only [List.set_cons_zero])
              have HX := Lib.hid (HX.out.ext ((Ext.refl _).alloc (.cells #[.slice none 0 0, .int .i64 0] 28)))
              have T7 := Lib.hid (T7.out.ext ((Ext.refl _).alloc (.cells #[.slice none 0 0, .int .i64 0] 28)))
              have B6 := Lib.hid (Blk.new w21 28 #[.slice none 0 0, .int .i64 0])
              obtain ⟨n6, hn6⟩ : ∃ n6, w21.heap.size = n6 := ⟨_, rfl⟩
              have hn6W : W8.heap.size ≤ n6 := by rw [← hn6]; exact EH.size
              have EH := EH.alloc (.cells #[.slice none 0 0, .int .i64 0] 28)
              rw [hn6] at B6 ⊢
              clear hn6
              generalize w21.alloc _ = w22 at *
              have LB6 := B6.out.lt
              refine wpAnyH_ready (rs := [10]) (by kernel_rfl) (by simp) ?_
              refine (AllReadyH.cons rfl (fun K hK => ?_) AllReadyH.nil)
              go_simp
              refine hK.out _ _ (EH.alloc _) (fun hHeld => ?_)
              clear hK K hHeld
              (try simp only [List.getElem_toArray]); (try simp only [List.getElem_cons_succ]); (try simp only [List.getElem_cons_zero]); (try simp only [Act.put]); (try simp only [List.setIfInBounds_toArray]); (try simp only [List.set_cons_succ]); (try simp only [List.set_cons_zero])
              have HX := Lib.hid (HX.out.ext ((Ext.refl _).alloc (.cells #[.int .i64 0, .int .i64 0, .bool false] 33)))
              have T7 := Lib.hid (T7.out.ext ((Ext.refl _).alloc (.cells #[.int .i64 0, .int .i64 0, .bool false] 33)))
              have B6 := Lib.hid (B6.out.ext ((Ext.refl _).alloc (.cells #[.int .i64 0, .int .i64 0, .bool false] 33)))
              have B7 := Lib.hid (Blk.new w22 33 #[.int .i64 0, .int .i64 0, .bool false])
              obtain ⟨n7, hn7⟩ : ∃ n7, w22.heap.size = n7 := ⟨_, rfl⟩
              have hn7W : W8.heap.size ≤ n7 := by rw [← hn7]; exact EH.size
              have EH := EH.alloc (.cells #[.int .i64 0, .int .i64 0, .bool false] 33)
              rw [hn7] at B7 ⊢
              have hne_n6_n7 : n6 ≠ n7 := by have := LB6; omega
              have hne_n7_n6 : n7 ≠ n6 := fun h => hne_n6_n7 h.symm
              clear hn7
              generalize w22.alloc _ = w23 at *
              have LB7 := B7.out.lt
              have hHeld : Ext W8 w23 := EH
              have k6 := B6.out.two
              have C6 := B6.out.put2 (.slice A' N c') (.int .i64 nx)
              have M6 : Mod (fun k => k = n6) w23 _ := ((Mod.refl _ w23).set1 (.slice A' N c') (o := 0)).set1 (.int .i64 nx) (o := 1)
              have C7 := B7.out.mod M6 hne_n7_n6
              have T8 := T7.out.mod M6 B6.out (by decide)
              have EH7 := (EH.setNew (p := ⟨n6, 0, none⟩) hn6W (.slice A' N c')).setNew (p := ⟨n6, 1, none⟩) hn6W (.int .i64 nx)
              (refine wpAnyH_ready (rs := [11]) (by kernel_rfl) (by simp) ?_; refine AllReadyH.cons rfl (fun K hK => ?_) AllReadyH.nil; go_simp; refine hK.out _ _ EH7 (fun hHeld => ?_); clear hK K; (try simp only [Act.put]); (try simp only [List.getElem_toArray]); (try simp only [List.getElem_cons_succ]); (try simp only [List.getElem_cons_zero]); (try simp only [List.setIfInBounds_toArray]); (try simp only [List.set_cons_succ]); (try simp only [List.set_cons_zero]))
              generalize World.setCell (World.setCell w23 _ _) _ _ = z1 at *
              have r0 := C7.cell 0
              have r1 := C7.cell 1
              have r2 := C7.cell 2
              have f0 := C7.frozen 0
              have f1 := C7.frozen 1
              have f2 := C7.frozen 2
              have M7 : Mod (fun k => k = n7) z1 _ := (((Mod.refl _ z1).set1 (.int .i64 s') (o := 0)).set1 (.int .i64 g') (o := 1)).set1 (.bool ts) (o := 2)
              have EH8 := ((EH7.setNew (p := ⟨n7, 0, none⟩) hn7W (.int .i64 s')).setNew (p := ⟨n7, 1, none⟩) hn7W (.int .i64 g')).setNew (p := ⟨n7, 2, none⟩) hn7W (.bool ts)
              have D6 := Lib.hid (C6.mod M7 hne_n6_n7)
              have D7 := Lib.hid (show Blk _ _ _ #[.int .i64 s', .int .i64 g', .bool ts] from ((C7.set_ 0 (.int .i64 s')).set_ 1 (.int .i64 g')).set_ 2 (.bool ts))
              have T9 := T8.mod M7 C7 (by decide)
              have HR := Lib.hid (show RdY Rp (fun _ => False) _ (.slice A' N c') l' by rw [← HN.out]; exact T9.y (A := fun _ => False) (by rw [HN.out]; exact HX0.out) EH8)
              (refine wpAnyH_ready (rs := [12]) (by kernel_rfl) (by simp) ?_; refine AllReadyH.cons rfl (fun K hK => ?_) AllReadyH.nil; go_simp; refine hK.out _ _ EH8 (fun hHeld => ?_); clear hK K; (try simp only [Act.put]); (try simp only [List.getElem_toArray]); (try simp only [List.getElem_cons_succ]); (try simp only [List.getElem_cons_zero]); (try simp only [List.setIfInBounds_toArray]); (try simp only [List.set_cons_succ]); (try simp only [List.set_cons_zero]))
              refine wpAnyH_done (by kernel_rfl) ?_ _
              go_wp2_with fail
              go_meet
              exact ⟨n6, n7, A', c', l', s', g', rfl, rfl, D6, D7, HR, HX7, hHeld⟩
            ·
              go_simp
              refine hK.out _ _ (EH.alloc _) (fun hHeld => ?_)
              clear hK K hHeld
              (try simp only [List.getElem_toArray]); (try simp only [List.getElem_cons_succ]); (try simp only [List.getElem_cons_zero]); (try simp only [Act.put]); (try simp only [List.setIfInBounds_toArray]); (try simp only [List.set_cons_succ]); (try simp only [List.set_cons_zero])
              have HX := Lib.hid (HX.out.ext ((Ext.refl _).alloc (.cells #[.int .i64 0, .int .i64 0, .bool false] 33)))
              have T7 := Lib.hid (T7.out.ext ((Ext.refl _).alloc (.cells #[.int .i64 0, .int .i64 0, .bool false] 33)))
              have B7 := Lib.hid (Blk.new w21 33 #[.int .i64 0, .int .i64 0, .bool false])
              obtain ⟨n7, hn7⟩ : ∃ n7, w21.heap.size = n7 := ⟨_, rfl⟩
              have hn7W : W8.heap.size ≤ n7 := by rw [← hn7]; exact EH.size
              have EH := EH.alloc (.cells #[.int .i64 0, .int .i64 0, .bool false] 33)
              rw [hn7] at B7 ⊢
              clear hn7
              generalize w21.alloc _ = w22 at *
              have LB7 := B7.out.lt
              refine wpAnyH_ready (rs := [9]) (by kernel_rfl) (by simp) ?_
              refine (AllReadyH.cons rfl (fun K hK => ?_) AllReadyH.nil)
              go_simp
              refine hK.out _ _ (EH.alloc _) (fun hHeld => ?_)
              clear hK K hHeld
              (try simp only [List.getElem_toArray]); (try simp only [List.getElem_cons_succ]); (try simp only [List.getElem_cons_zero]); (try simp only [Act.put]); (try simp only [List.setIfInBounds_toArray]); (try simp only [List.set_cons_succ]); (try simp only [List.set_cons_zero])
              have HX := Lib.hid (HX.out.ext ((Ext.refl _).alloc (.cells #[.slice none 0 0, .int .i64 0] 28)))
              have T7 := Lib.hid (T7.out.ext ((Ext.refl _).alloc (.cells #[.slice none 0 0, .int .i64 0] 28)))
              have B7 := Lib.hid (B7.out.ext ((Ext.refl _).alloc (.cells #[.slice none 0 0, .int .i64 0] 28)))
              have B6 := Lib.hid (Blk.new w22 28 #[.slice none 0 0, .int .i64 0])
              obtain ⟨n6, hn6⟩ : ∃ n6, w22.heap.size = n6 := ⟨_, rfl⟩
              have hn6W : W8.heap.size ≤ n6 := by rw [← hn6]; exact EH.size
              have EH := EH.alloc (.cells #[.slice none 0 0, .int .i64 0] 28)
              rw [hn6] at B6 ⊢
              have hne_n7_n6 : n7 ≠ n6 := by have := LB7; omega
              have hne_n6_n7 : n6 ≠ n7 := fun h => hne_n7_n6 h.symm
              clear hn6
              generalize w22.alloc _ = w23 at *
              have LB6 := B6.out.lt
              have hHeld : Ext W8 w23 := EH
              have k6 := B6.out.two
              have C6 := B6.out.put2 (.slice A' N c') (.int .i64 nx)
              have M6 : Mod (fun k => k = n6) w23 _ := ((Mod.refl _ w23).set1 (.slice A' N c') (o := 0)).set1 (.int .i64 nx) (o := 1)
              have C7 := B7.out.mod M6 hne_n7_n6
              have T8 := T7.out.mod M6 B6.out (by decide)
              have EH7 := (EH.setNew (p := ⟨n6, 0, none⟩) hn6W (.slice A' N c')).setNew (p := ⟨n6, 1, none⟩) hn6W (.int .i64 nx)
              (refine wpAnyH_ready (rs := [11]) (by kernel_rfl) (by simp) ?_; refine AllReadyH.cons rfl (fun K hK => ?_) AllReadyH.nil; go_simp; refine hK.out _ _ EH7 (fun hHeld => ?_); clear hK K; (try simp only [Act.put]); (try simp only [List.getElem_toArray]); (try simp only [List.getElem_cons_succ]); (try simp only [List.getElem_cons_zero]); (try simp only [List.setIfInBounds_toArray]); (try simp only [List.set_cons_succ]); (try simp only [List.set_cons_zero]))
              generalize World.setCell (World.setCell w23 _ _) _ _ = z1 at *
              have r0 := C7.cell 0
              have r1 := C7.cell 1
              have r2 := C7.cell 2
              have f0 := C7.frozen 0
              have f1 := C7.frozen 1
              have f2 := C7.frozen 2
              have M7 : Mod (fun k => k = n7) z1 _ := (((Mod.refl _ z1).set1 (.int .i64 s') (o := 0)).set1 (.int .i64 g') (o := 1)).set1 (.bool ts) (o := 2)
              have EH8 := ((EH7.setNew (p := ⟨n7, 0, none⟩) hn7W (.int .i64 s')).setNew (p := ⟨n7, 1, none⟩) hn7W (.int .i64 g')).setNew (p := ⟨n7, 2, none⟩) hn7W (.bool ts)
              have D6 := Lib.hid (C6.mod M7 hne_n6_n7)
              have D7 := Lib.hid (show Blk _ _ _ #[.int .i64 s', .int .i64 g', .bool ts] from ((C7.set_ 0 (.int .i64 s')).set_ 1 (.int .i64 g')).set_ 2 (.bool ts))
              have T9 := T8.mod M7 C7 (by decide)
              have HR := Lib.hid (show RdY Rp (fun _ => False) _ (.slice A' N c') l' by rw [← HN.out]; exact T9.y (A := fun _ => False) (by rw [HN.out]; exact HX0.out) EH8)
              (refine wpAnyH_ready (rs := [12]) (by kernel_rfl) (by simp) ?_; refine AllReadyH.cons rfl (fun K hK => ?_) AllReadyH.nil; go_simp; refine hK.out _ _ EH8 (fun hHeld => ?_); clear hK K; (try simp only [Act.put]); (try simp only [List.getElem_toArray]); (try simp only [List.getElem_cons_succ]); (try simp only [List.getElem_cons_zero]); (try simp only [List.setIfInBounds_toArray]); (try simp only [List.set_cons_succ]); (try simp only [List.set_cons_zero]))
              refine wpAnyH_done (by kernel_rfl) ?_ _
              go_wp2_with fail
              go_meet
              exact ⟨n6, n7, A', c', l', s', g', rfl, rfl, D6, D7, HR, HX7, hHeld⟩
          ·
            go_simp
            refine hK.out _ _ (EH.alloc _) (fun hHeld => ?_)
            clear hK K hHeld
            (try simp only [List.getElem_toArray]); (try simp only [List.getElem_cons_succ]); (try simp only [List.getElem_cons_zero]); (try simp only [Act.put]); (try simp only [List.setIfInBounds_toArray]); (try simp only [List.set_cons_succ]); (try simp only [List.set_cons_zero])
            have HX := Lib.hid (HX.out.ext ((Ext.refl _).alloc (.cells #[.slice none 0 0, .int .i64 0] 28)))
            have B6 := Lib.hid (Blk.new w20 28 #[.slice none 0 0, .int .i64 0])
            obtain ⟨n6, hn6⟩ : ∃ n6, w20.heap.size = n6 := ⟨_, rfl⟩
            have hn6W : W8.heap.size ≤ n6 := by rw [← hn6]; exact EH.size
            have EH := EH.alloc (.cells #[.slice none 0 0, .int .i64 0] 28)
            rw [hn6] at B6 ⊢
            clear hn6
            generalize w20.alloc _ = w21 at *
            have LB6 := B6.out.lt
            refine wpAnyH_ready (rs := [5, 10]) (by kernel_rfl) (by simp) ?_
            refine (AllReadyH.cons rfl (fun K hK => ?_) (AllReadyH.cons rfl (fun K hK => ?_) AllReadyH.nil))
            ·
              go_simp
              go_at_call 22
              refine (HLEA.out w21 HX.out).mono ?_
              rintro e w22 ⟨A', c', l', s', g', rfl, T7, HX7, E3⟩
              (try dsimp only)
              refine hK.out _ _ (EH.trans E3) (fun hHeld => ?_)
              clear hK K hHeld
              (try simp only [List.getElem_toArray]); (try simp only [List.getElem_cons_succ]); (try simp only [List.getElem_cons_zero]); (try simp only [Act.put]); (try simp only [List.setIfInBounds_toArray]); (try simp only [List.set_cons_succ]); (try simp only [List.set_cons_zero])
              have HX7 := Lib.hid HX7
              have HX := Lib.hid (HX.out.ext E3)
              have B6 := Lib.hid (B6.out.ext E3)
              have T7 := Lib.hid (T7.lower (Nat.zero_le _))
              have EH := EH.trans E3
              have LB6 := B6.out.lt
              clear E3
              have hHeld : Ext W8 w22 := EH
              (refine wpAnyH_take (i := 6) (v := ?_) rfl (by kernel_rfl) (by kernel_rfl) (by kernel_rfl) (fun _ _ _ h => h) (Or.inl ⟨by rfl, ?_⟩) (by assumption) ?_; rotate_left; (focus (intro w' hSw; go_simp; try with_reducible rfl)); (try simp only [List.getElem_toArray]); (try simp only [List.getElem_cons_succ]); (try simp only [List.getElem_cons_zero]); (try simp only [Act.put]); (try simp only [List.setIfInBounds_toArray]); (try simp only [List.set_cons_succ]); (try simp only [List.set_cons_zero]))
              (refine wpAnyH_take (i := 7) (v := ?_) rfl (by kernel_rfl) (by kernel_rfl) (by kernel_rfl) (fun _ _ _ h => h) (Or.inl ⟨by rfl, ?_⟩) (by assumption) ?_; rotate_left; (focus (intro w' hSw; go_simp; try with_reducible rfl)); (try simp only [List.getElem_toArray]); (try simp only [List.getElem_cons_succ]); (try simp only [List.getElem_cons_zero]); (try simp only [Act.put]); (try simp only [List.setIfInBounds_toArray]); (try simp only [List.set_cons_succ]); (try simp only [List.set_cons_zero]))
              (refine wpAnyH_take (i := 8) (v := ?_) rfl (by kernel_rfl) (by kernel_rfl) (by kernel_rfl) (fun _ _ _ h => h) (Or.inl ⟨by rfl, ?_⟩) (by assumption) ?_; rotate_left; (focus (intro w' hSw; go_simp; try with_reducible rfl)); (try simp only [List.getElem_toArray]); (try simp only [List.getElem_cons_succ]); (try simp only [List.getElem_cons_zero]); (try simp only [Act.put]); (try simp only [List.setIfInBounds_toArray]); (try simp only [List.set_cons_succ]); (try simp only [List.set_cons_zero]))
              clear hHeld
              refine wpAnyH_ready (rs := [10]) (by kernel_rfl) (by simp) ?_
              refine (AllReadyH.cons rfl (fun K hK => ?_) AllReadyH.nil)
              go_simp
              refine hK.out _ _ (EH.alloc _) (fun hHeld => ?_)
              clear hK K hHeld
              (try simp only [List.getElem_toArray]); (try simp only [List.getElem_cons_succ]); (try simp only [List.getElem_cons_zero]); (try simp only [Act.put]); (try simp only [List.setIfInBounds_toArray]); (try simp only [List.set_cons_succ]); (try simp only [List.set_cons_zero])
              have HX := Lib.hid (HX.out.ext ((Ext.refl _).alloc (.cells #[.int .i64 0, .int .i64 0, .bool false] 33)))
              have B6 := Lib.hid (B6.out.ext ((Ext.refl _).alloc (.cells #[.int .i64 0, .int .i64 0, .bool false] 33)))
              have T7 := Lib.hid (T7.out.ext ((Ext.refl _).alloc (.cells #[.int .i64 0, .int .i64 0, .bool false] 33)))
              have B7 := Lib.hid (Blk.new w22 33 #[.int .i64 0, .int .i64 0, .bool false])
              obtain ⟨n7, hn7⟩ : ∃ n7, w22.heap.size = n7 := ⟨_, rfl⟩
              have hn7W : W8.heap.size ≤ n7 := by rw [← hn7]; exact EH.size
              have EH := EH.alloc (.cells #[.int .i64 0, .int .i64 0, .bool false] 33)
              rw [hn7] at B7 ⊢
              have hne_n6_n7 : n6 ≠ n7 := by have := LB6; omega
              have hne_n7_n6 : n7 ≠ n6 := fun h => hne_n6_n7 h.symm
              clear hn7
              generalize w22.alloc _ = w23 at *
              have LB7 := B7.out.lt
              have hHeld : Ext W8 w23 := EH
              have k6 := B6.out.two
              have C6 := B6.out.put2 (.slice A' N c') (.int .i64 nx)
              have M6 : Mod (fun k => k = n6) w23 _ := ((Mod.refl _ w23).set1 (.slice A' N c') (o := 0)).set1 (.int .i64 nx) (o := 1)
              have C7 := B7.out.mod M6 hne_n7_n6
              have T8 := T7.out.mod M6 B6.out (by decide)
              have EH7 := (EH.setNew (p := ⟨n6, 0, none⟩) hn6W (.slice A' N c')).setNew (p := ⟨n6, 1, none⟩) hn6W (.int .i64 nx)
              (refine wpAnyH_ready (rs := [11]) (by kernel_rfl) (by simp) ?_; refine AllReadyH.cons rfl (fun K hK => ?_) AllReadyH.nil; go_simp; refine hK.out _ _ EH7 (fun hHeld => ?_); clear hK K; (try simp only [Act.put]); (try simp only [List.getElem_toArray]); (try simp only [List.getElem_cons_succ]); (try simp only [List.getElem_cons_zero]); (try simp only [List.setIfInBounds_toArray]); (try simp only [List.set_cons_succ]); (try simp only [List.set_cons_zero]))
              generalize World.setCell (World.setCell w23 _ _) _ _ = z1 at *
              have r0 := C7.cell 0
              have r1 := C7.cell 1
              have r2 := C7.cell 2
              have f0 := C7.frozen 0
              have f1 := C7.frozen 1
              have f2 := C7.frozen 2
              have M7 : Mod (fun k => k = n7) z1 _ := (((Mod.refl _ z1).set1 (.int .i64 s') (o := 0)).set1 (.int .i64 g') (o := 1)).set1 (.bool ts) (o := 2)
              have EH8 := ((EH7.setNew (p := ⟨n7, 0, none⟩) hn7W (.int .i64 s')).setNew (p := ⟨n7, 1, none⟩) hn7W (.int .i64 g')).setNew (p := ⟨n7, 2, none⟩) hn7W (.bool ts)
              have D6 := Lib.hid (C6.mod M7 hne_n6_n7)
              have D7 := Lib.hid (show Blk _ _ _ #[.int .i64 s', .int .i64 g', .bool ts] from ((C7.set_ 0 (.int .i64 s')).set_ 1 (.int .i64 g')).set_ 2 (.bool ts))
              have T9 := T8.mod M7 C7 (by decide)
              have HR := Lib.hid (show RdY Rp (fun _ => False) _ (.slice A' N c') l' by rw [← HN.out]; exact T9.y (A := fun _ => False) (by rw [HN.out]; exact HX0.out) EH8)
              (refine wpAnyH_ready (rs := [12]) (by kernel_rfl) (by simp) ?_; refine AllReadyH.cons rfl (fun K hK => ?_) AllReadyH.nil; go_simp; refine hK.out _ _ EH8 (fun hHeld => ?_); clear hK K; (try simp only [Act.put]); (try simp only [List.getElem_toArray]); (try simp only [List.getElem_cons_succ]); (try simp only [List.getElem_cons_zero]); (try simp only [List.setIfInBounds_toArray]); (try simp only [List.set_cons_succ]); (try simp only [List.set_cons_zero]))
              refine wpAnyH_done (by kernel_rfl) ?_ _
              go_wp2_with fail
              go_meet
              exact ⟨n6, n7, A', c', l', s', g', rfl, rfl, D6, D7, HR, HX7, hHeld⟩
            ·
              go_simp
              refine hK.out _ _ (EH.alloc _) (fun hHeld => ?_)
              clear hK K hHeld
              (try simp only [List.getElem_toArray]); (try simp only [List.getElem_cons_succ]); (try simp only [List.getElem_cons_zero]); (try simp only [Act.put]); (try simp only [List.setIfInBounds_toArray]); (try simp only [List.set_cons_succ]); (try simp only [List.set_cons_zero])
              have HX := Lib.hid (HX.out.ext ((Ext.refl _).alloc (.cells #[.int .i64 0, .int .i64 0, .bool false] 33)))
              have B6 := Lib.hid (B6.out.ext ((Ext.refl _).alloc (.cells #[.int .i64 0, .int .i64 0, .bool false] 33)))
              have B7 := Lib.hid (Blk.new w21 33 #[.int .i64 0, .int .i64 0, .bool false])
              obtain ⟨n7, hn7⟩ : ∃ n7, w21.heap.size = n7 := ⟨_, rfl⟩
              have hn7W : W8.heap.size ≤ n7 := by rw [← hn7]; exact EH.size
              have EH := EH.alloc (.cells #[.int .i64 0, .int .i64 0, .bool false] 33)
              rw [hn7] at B7 ⊢
              have hne_n6_n7 : n6 ≠ n7 := by have := LB6; omega
              have hne_n7_n6 : n7 ≠ n6 := fun h => hne_n6_n7 h.symm
              clear hn7
              generalize w21.alloc _ = w22 at *
              have LB7 := B7.out.lt
              refine wpAnyH_ready (rs := [5]) (by kernel_rfl) (by simp) ?_
              refine (AllReadyH.cons rfl (fun K hK => ?_) AllReadyH.nil)
              go_simp
              go_at_call 22
              refine (HLEA.out w22 HX.out).mono ?_
              rintro e w23 ⟨A', c', l', s', g', rfl, T7, HX7, E3⟩
              (try dsimp only)
              refine hK.out _ _ (EH.trans E3) (fun hHeld => ?_)
              clear hK K hHeld
              (try simp only [List.getElem_toArray]); (try simp only [List.getElem_cons_succ]); (try simp only [List.getElem_cons_zero]); (try simp only [Act.put]); (try simp only [List.setIfInBounds_toArray]); (try simp only [List.set_cons_succ]); (try simp only [List.set_cons_zero])
              have HX7 := Lib.hid HX7
              have HX := Lib.hid (HX.out.ext E3)
              have B6 := Lib.hid (B6.out.ext E3)
              have B7 := Lib.hid (B7.out.ext E3)
              have T7 := Lib.hid (T7.lower (Nat.zero_le _))
              have EH := EH.trans E3
              have LB6 := B6.out.lt
              have LB7 := B7.out.lt
              clear E3
              have hHeld : Ext W8 w23 := EH
              (refine wpAnyH_take (i := 6) (v := ?_) rfl (by kernel_rfl) (by kernel_rfl) (by kernel_rfl) (fun _ _ _ h => h) (Or.inl ⟨by rfl, ?_⟩) (by assumption) ?_; rotate_left; (focus (intro w' hSw; go_simp; try with_reducible rfl)); (try simp only [List.getElem_toArray]); (try simp only [List.getElem_cons_succ]); (try simp only [List.getElem_cons_zero]); (try simp only [Act.put]); (try simp only [List.setIfInBounds_toArray]); (try simp only [List.set_cons_succ]); (try simp only [List.set_cons_zero]))
              (refine wpAnyH_take (i := 7) (v := ?_) rfl (by kernel_rfl) (by kernel_rfl) (by kernel_rfl) (fun _ _ _ h => h) (Or.inl ⟨by rfl, ?_⟩) (by assumption) ?_; rotate_left; (focus (intro w' hSw; go_simp; try with_reducible rfl)); (try simp only [List.getElem_toArray]); (try simp only [List.getElem_cons_succ]); (try simp only [List.getElem_cons_zero]); (try simp only [Act.put]); (try simp only [List.setIfInBounds_toArray]); (try simp only [List.set_cons_succ]); (try simp only [List.set_cons_zero]))
              (refine wpAnyH_take (i := 8) (v := ?_) rfl (by kernel_rfl) (by kernel_rfl) (by kernel_rfl) (fun _ _ _ h => h) (Or.inl ⟨by rfl, ?_⟩) (by assumption) ?_; rotate_left; (focus (intro w' hSw; go_simp; try with_reducible rfl)); (try simp only [List.getElem_toArray]); (try simp only [List.getElem_cons_succ]); (try simp only [List.getElem_cons_zero]); (try simp only [Act.put]); (try simp only [List.setIfInBounds_toArray]); (try simp only [List.set_cons_succ]); (try simp only [List.set_cons_zero]))
              clear hHeld
              have hHeld : Ext W8 w23 := EH
              have k6 := B6.out.two
              have C6 := B6.out.put2 (.slice A' N c') (.int .i64 nx)
              have M6 : Mod (fun k => k = n6) w23 _ := ((Mod.refl _ w23).set1 (.slice A' N c') (o := 0)).set1 (.int .i64 nx) (o := 1)
              have C7 := B7.out.mod M6 hne_n7_n6
              have T8 := T7.out.mod M6 B6.out (by decide)
              have EH7 := (EH.setNew (p := ⟨n6, 0, none⟩) hn6W (.slice A' N c')).setNew (p := ⟨n6, 1, none⟩) hn6W (.int .i64 nx)
              (refine wpAnyH_ready (rs := [11]) (by kernel_rfl) (by simp) ?_; refine AllReadyH.cons rfl (fun K hK => ?_) AllReadyH.nil; go_simp; refine hK.out _ _ EH7 (fun hHeld => ?_); clear hK K; (try simp only [Act.put]); (try simp only [List.getElem_toArray]); (try simp only [List.getElem_cons_succ]); (try simp only [List.getElem_cons_zero]); (try simp only [List.setIfInBounds_toArray]); (try simp only [List.set_cons_succ]); (try simp only [List.set_cons_zero]))
              generalize World.setCell (World.setCell w23 _ _) _ _ = z1 at *
              have r0 := C7.cell 0
              have r1 := C7.cell 1
              have r2 := C7.cell 2
              have f0 := C7.frozen 0
              have f1 := C7.frozen 1
              have f2 := C7.frozen 2
              have M7 : Mod (fun k => k = n7) z1 _ := (((Mod.refl _ z1).set1 (.int .i64 s') (o := 0)).set1 (.int .i64 g') (o := 1)).set1 (.bool ts) (o := 2)
              have EH8 := ((EH7.setNew (p := ⟨n7, 0, none⟩) hn7W (.int .i64 s')).setNew (p := ⟨n7, 1, none⟩) hn7W (.int .i64 g')).setNew (p := ⟨n7, 2, none⟩) hn7W (.bool ts)
              have D6 := Lib.hid (C6.mod M7 hne_n6_n7)
              have D7 := Lib.hid (show Blk _ _ _ #[.int .i64 s', .int .i64 g', .bool ts] from ((C7.set_ 0 (.int .i64 s')).set_ 1 (.int .i64 g')).set_ 2 (.bool ts))
              have T9 := T8.mod M7 C7 (by decide)
              have HR := Lib.hid (show RdY Rp (fun _ => False) _ (.slice A' N c') l' by rw [← HN.out]; exact T9.y (A := fun _ => False) (by rw [HN.out]; exact HX0.out) EH8)
              (refine wpAnyH_ready (rs := [12]) (by kernel_rfl) (by simp) ?_; refine AllReadyH.cons rfl (fun K hK => ?_) AllReadyH.nil; go_simp; refine hK.out _ _ EH8 (fun hHeld => ?_); clear hK K; (try simp only [Act.put]); (try simp only [List.getElem_toArray]); (try simp only [List.getElem_cons_succ]); (try simp only [List.getElem_cons_zero]); (try simp only [List.setIfInBounds_toArray]); (try simp only [List.set_cons_succ]); (try simp only [List.set_cons_zero]))
              refine wpAnyH_done (by kernel_rfl) ?_ _
              go_wp2_with fail
              go_meet
              exact ⟨n6, n7, A', c', l', s', g', rfl, rfl, D6, D7, HR, HX7, hHeld⟩
          ·
            go_simp
            refine hK.out _ _ (EH.alloc _) (fun hHeld => ?_)
            clear hK K hHeld
            (try simp only [List.getElem_toArray]); (try simp only [List.getElem_cons_succ]); (try simp only [List.getElem_cons_zero]); (try simp only [Act.put]); (try simp only [List.setIfInBounds_toArray]); (try simp only [List.set_cons_succ]); (try simp only [List.set_cons_zero])
            have HX := Lib.hid (HX.out.ext ((Ext.refl _).alloc (.cells #[.int .i64 0, .int .i64 0, .bool false] 33)))
            have B7 := Lib.hid (Blk.new w20 33 #[.int .i64 0, .int .i64 0, .bool false])
            obtain ⟨n7, hn7⟩ : ∃ n7, w20.heap.size = n7 := ⟨_, rfl⟩
            have hn7W : W8.heap.size ≤ n7 := by rw [← hn7]; exact EH.size
            have EH := EH.alloc (.cells #[.int .i64 0, .int .i64 0, .bool false] 33)
            rw [hn7] at B7 ⊢
            clear hn7
            generalize w20.alloc _ = w21 at *
            have LB7 := B7.out.lt
            refine wpAnyH_ready (rs := [5, 9]) (by kernel_rfl) (by simp) ?_
            refine (AllReadyH.cons rfl (fun K hK => ?_) (AllReadyH.cons rfl (fun K hK => ?_) AllReadyH.nil))
            ·
              go_simp
              go_at_call 22
              refine (HLEA.out w21 HX.out).mono ?_
              rintro e w22 ⟨A', c', l', s', g', rfl, T7, HX7, E3⟩
              (try dsimp only)
              refine hK.out _ _ (EH.trans E3) (fun hHeld => ?_)
              clear hK K hHeld
              (try simp only [List.getElem_toArray]); (try simp only [List.getElem_cons_succ]); (try simp only [List.getElem_cons_zero]); (try simp only [Act.put]); (try simp only [List.setIfInBounds_toArray]); (try simp only [List.set_cons_succ]); (try simp only [List.set_cons_zero])
              have HX7 := Lib.hid HX7
              have HX := Lib.hid (HX.out.ext E3)
              have B7 := Lib.hid (B7.out.ext E3)
              have T7 := Lib.hid (T7.lower (Nat.zero_le _))
              have EH := EH.trans E3
              have LB7 := B7.out.lt
              clear E3
              have hHeld : Ext W8 w22 := EH
              (refine wpAnyH_take (i := 6) (v := ?_) rfl (by kernel_rfl) (by kernel_rfl) (by kernel_rfl) (fun _ _ _ h => h) (Or.inl ⟨by rfl, ?_⟩) (by assumption) ?_; rotate_left; (focus (intro w' hSw; go_simp; try with_reducible rfl)); (try simp only [List.getElem_toArray]); (try simp only [List.getElem_cons_succ]); (try simp only [List.getElem_cons_zero]); (try simp only [Act.put]); (try simp only [List.setIfInBounds_toArray]); (try simp only [List.set_cons_succ]); (try simp only [List.set_cons_zero]))
              (refine wpAnyH_take (i := 7) (v := ?_) rfl (by kernel_rfl) (by kernel_rfl) (by kernel_rfl) (fun _ _ _ h => h) (Or.inl ⟨by rfl, ?_⟩) (by assumption) ?_; rotate_left; (focus (intro w' hSw; go_simp; try with_reducible rfl)); (try simp only [List.getElem_toArray]); (try simp only [List.getElem_cons_succ]); (try simp only [List.getElem_cons_zero]); (try simp only [Act.put]); (try simp only [List.setIfInBounds_toArray]); (try simp only [List.set_cons_succ]); (try simp only [List.set_cons_zero]))
              (refine wpAnyH_take (i := 8) (v := ?_) rfl (by kernel_rfl) (by kernel_rfl) (by kernel_rfl) (fun _ _ _ h => h) (Or.inl ⟨by rfl, ?_⟩) (by assumption) ?_; rotate_left; (focus (intro w' hSw; go_simp; try with_reducible rfl)); (try simp only [List.getElem_toArray]); (try simp only [List.getElem_cons_succ]); (try simp only [List.getElem_cons_zero]); (try simp only [Act.put]); (try simp only [List.setIfInBounds_toArray]); (try simp only [List.set_cons_succ]); (try simp only [List.set_cons_zero]))
              clear hHeld
              refine wpAnyH_ready (rs := [9]) (by kernel_rfl) (by simp) ?_
              refine (AllReadyH.cons rfl (fun K hK => ?_) AllReadyH.nil)
              go_simp
              refine hK.out _ _ (EH.alloc _) (fun hHeld => ?_)
              clear hK K hHeld
              (try simp only [List.getElem_toArray]); (try simp only [List.getElem_cons_succ]); (try simp only [List.getElem_cons_zero]); (try simp only [Act.put]); (try simp only [List.setIfInBounds_toArray]); (try simp only [List.set_cons_succ]); (try simp only [List.set_cons_zero])
              have HX := Lib.hid (HX.out.ext ((Ext.refl _).alloc (.cells #[.slice none 0 0, .int .i64 0] 28)))
              have B7 := Lib.hid (B7.out.ext ((Ext.refl _).alloc (.cells #[.slice none 0 0, .int .i64 0] 28)))
              have T7 := Lib.hid (T7.out.ext ((Ext.refl _).alloc (.cells #[.slice none 0 0, .int .i64 0] 28)))
              have B6 := Lib.hid (Blk.new w22 28 #[.slice none 0 0, .int .i64 0])
              obtain ⟨n6, hn6⟩ : ∃ n6, w22.heap.size = n6 := ⟨_, rfl⟩
              have hn6W : W8.heap.size ≤ n6 := by rw [← hn6]; exact EH.size
              have EH := EH.alloc (.cells #[.slice none 0 0, .int .i64 0] 28)
              rw [hn6] at B6 ⊢
              have hne_n7_n6 : n7 ≠ n6 := by have := LB7; omega
              have hne_n6_n7 : n6 ≠ n7 := fun h => hne_n7_n6 h.symm
              clear hn6
              generalize w22.alloc _ = w23 at *
              have LB6 := B6.out.lt
              have hHeld : Ext W8 w23 := EH
              have k6 := B6.out.two
              have C6 := B6.out.put2 (.slice A' N c') (.int .i64 nx)
              have M6 : Mod (fun k => k = n6) w23 _ := ((Mod.refl _ w23).set1 (.slice A' N c') (o := 0)).set1 (.int .i64 nx) (o := 1)
              have C7 := B7.out.mod M6 hne_n7_n6
              have T8 := T7.out.mod M6 B6.out (by decide)
              have EH7 := (EH.setNew (p := ⟨n6, 0, none⟩) hn6W (.slice A' N c')).setNew (p := ⟨n6, 1, none⟩) hn6W (.int .i64 nx)
              (refine wpAnyH_ready (rs := [11]) (by kernel_rfl) (by simp) ?_; refine AllReadyH.cons rfl (fun K hK => ?_) AllReadyH.nil; go_simp; refine hK.out _ _ EH7 (fun hHeld => ?_); clear hK K; (try simp only [Act.put]); (try simp only [List.getElem_toArray]); (try simp only [List.getElem_cons_succ]); (try simp only [List.getElem_cons_zero]); (try simp only [List.setIfInBounds_toArray]); (try simp only [List.set_cons_succ]); (try simp only [List.set_cons_zero]))
              generalize World.setCell (World.setCell w23 _ _) _ _ = z1 at *
              have r0 := C7.cell 0
              have r1 := C7.cell 1
              have r2 := C7.cell 2
              have f0 := C7.frozen 0
              have f1 := C7.frozen 1
              have f2 := C7.frozen 2
              have M7 : Mod (fun k => k = n7) z1 _ := (((Mod.refl _ z1).set1 (.int .i64 s') (o := 0)).set1 (.int .i64 g') (o := 1)).set1 (.bool ts) (o := 2)
              have EH8 := ((EH7.setNew (p := ⟨n7, 0, none⟩) hn7W (.int .i64 s')).setNew (p := ⟨n7, 1, none⟩) hn7W (.int .i64 g')).setNew (p := ⟨n7, 2, none⟩) hn7W (.bool ts)
              have D6 := Lib.hid (C6.mod M7 hne_n6_n7)
              have D7 := Lib.hid (show Blk _ _ _ #[.int .i64 s', .int .i64 g', .bool ts] from ((C7.set_ 0 (.int .i64 s')).set_ 1 (.int .i64 g')).set_ 2 (.bool ts))
              have T9 := T8.mod M7 C7 (by decide)
              have HR := Lib.hid (show RdY Rp (fun _ => False) _ (.slice A' N c') l' by rw [← HN.out]; exact T9.y (A := fun _ => False) (by rw [HN.out]; exact HX0.out) EH8)
              (refine wpAnyH_ready (rs := [12]) (by kernel_rfl) (by simp) ?_; refine AllReadyH.cons rfl (fun K hK => ?_) AllReadyH.nil; go_simp; refine hK.out _ _ EH8 (fun hHeld => ?_); clear hK K; (try simp only [Act.put]); (try simp only [List.getElem_toArray]); (try simp only [List.getElem_cons_succ]); (try simp only [List.getElem_cons_zero]); (try simp only [List.setIfInBounds_toArray]); (try simp only [List.set_cons_succ]); (try simp only [List.set_cons_zero]))
              refine wpAnyH_done (by kernel_rfl) ?_ _
              go_wp2_with fail
              go_meet
              exact ⟨n6, n7, A', c', l', s', g', rfl, rfl, D6, D7, HR, HX7, hHeld⟩
            ·
              go_simp
              refine hK.out _ _ (EH.alloc _) (fun hHeld => ?_)
              clear hK K hHeld
              (try simp only [List.getElem_toArray]); (try simp only [List.getElem_cons_succ]); (try simp only [List.getElem_cons_zero]); (try simp only [Act.put]); (try simp only [List.setIfInBounds_toArray]); (try simp only [List.set_cons_succ]); (try simp only [List.set_cons_zero])
              have HX := Lib.hid (HX.out.ext ((Ext.refl _).alloc (.cells #[.slice none 0 0, .int .i64 0] 28)))
              have B7 := Lib.hid (B7.out.ext ((Ext.refl _).alloc (.cells #[.slice none 0 0, .int .i64 0] 28)))
              have B6 := Lib.hid (Blk.new w21 28 #[.slice none 0 0, .int .i64 0])
              obtain ⟨n6, hn6⟩ : ∃ n6, w21.heap.size = n6 := ⟨_, rfl⟩
              have hn6W : W8.heap.size ≤ n6 := by rw [← hn6]; exact EH.size
              have EH := EH.alloc (.cells #[.slice none 0 0, .int .i64 0] 28)
              rw [hn6] at B6 ⊢
              have hne_n7_n6 : n7 ≠ n6 := by have := LB7; omega
              have hne_n6_n7 : n6 ≠ n7 := fun h => hne_n7_n6 h.symm
              clear hn6
              generalize w21.alloc _ = w22 at *
              have LB6 := B6.out.lt
              refine wpAnyH_ready (rs := [5]) (by kernel_rfl) (by simp) ?_
              refine (AllReadyH.cons rfl (fun K hK => ?_) AllReadyH.nil)
              go_simp
              go_at_call 22
              refine (HLEA.out w22 HX.out).mono ?_
              rintro e w23 ⟨A', c', l', s', g', rfl, T7, HX7, E3⟩
              (try dsimp only)
              refine hK.out _ _ (EH.trans E3) (fun hHeld => ?_)
              clear hK K hHeld
              (try simp only [List.getElem_toArray]); (try simp only [List.getElem_cons_succ]); (try simp only [List.getElem_cons_zero]); (try simp only [Act.put]); (try simp only [List.setIfInBounds_toArray]); (try simp only [List.set_cons_succ]); (try simp only [List.set_cons_zero])
              have HX7 := Lib.hid HX7
              have HX := Lib.hid (HX.out.ext E3)
              have B7 := Lib.hid (B7.out.ext E3)
              have B6 := Lib.hid (B6.out.ext E3)
              have T7 := Lib.hid (T7.lower (Nat.zero_le _))
              have EH := EH.trans E3
              have LB6 := B6.out.lt
              have LB7 := B7.out.lt
              clear E3
              have hHeld : Ext W8 w23 := EH
              (refine wpAnyH_take (i := 6) (v := ?_) rfl (by kernel_rfl) (by kernel_rfl) (by kernel_rfl) (fun _ _ _ h => h) (Or.inl ⟨by rfl, ?_⟩) (by assumption) ?_; rotate_left; (focus (intro w' hSw; go_simp; try with_reducible rfl)); (try simp only [List.getElem_toArray]); (try simp only [List.getElem_cons_succ]); (try simp only [List.getElem_cons_zero]); (try simp only [Act.put]); (try simp only [List.setIfInBounds_toArray]); (try simp only [List.set_cons_succ]); (try simp only [List.set_cons_zero]))
              (refine wpAnyH_take (i := 7) (v := ?_) rfl (by kernel_rfl) (by kernel_rfl) (by kernel_rfl) (fun _ _ _ h => h) (Or.inl ⟨by rfl, ?_⟩) (by assumption) ?_; rotate_left; (focus (intro w' hSw; go_simp; try with_reducible rfl)); (try simp only [List.getElem_toArray]); (try simp only [List.getElem_cons_succ]); (try simp only [List.getElem_cons_zero]); (try simp only [Act.put]); (try simp only [List.setIfInBounds_toArray]); (try simp only [List.set_cons_succ]); (try simp only [List.set_cons_zero]))
              (refine wpAnyH_take (i := 8) (v := ?_) rfl (by kernel_rfl) (by kernel_rfl) (by kernel_rfl) (fun _ _ _ h => h) (Or.inl ⟨by rfl, ?_⟩) (by assumption) ?_; rotate_left; (focus (intro w' hSw; go_simp; try with_reducible rfl)); (try simp only [List.getElem_toArray]); (try simp only [List.getElem_cons_succ]); (try simp only [List.getElem_cons_zero]); (try simp only [Act.put]); (try simp only [List.setIfInBounds_toArray]); (try simp only [List.set_cons_succ]); (try simp only [List.set_cons_zero]))
              clear hHeld
              have hHeld : Ext W8 w23 := EH
              have k6 := B6.out.two
              have C6 := B6.out.put2 (.slice A' N c') (.int .i64 nx)
              have M6 : Mod (fun k => k = n6) w23 _ := ((Mod.refl _ w23).set1 (.slice A' N c') (o := 0)).set1 (.int .i64 nx) (o := 1)
              have C7 := B7.out.mod M6 hne_n7_n6
              have T8 := T7.out.mod M6 B6.out (by decide)
              have EH7 := (EH.setNew (p := ⟨n6, 0, none⟩) hn6W (.slice A' N c')).setNew (p := ⟨n6, 1, none⟩) hn6W (.int .i64 nx)
              (refine wpAnyH_ready (rs := [11]) (by kernel_rfl) (by simp) ?_; refine AllReadyH.cons rfl (fun K hK => ?_) AllReadyH.nil; go_simp; refine hK.out _ _ EH7 (fun hHeld => ?_); clear hK K; (try simp only [Act.put]); (try simp only [List.getElem_toArray]); (try simp only [List.getElem_cons_succ]); (try simp only [List.getElem_cons_zero]); (try simp only [List.setIfInBounds_toArray]); (try simp only [List.set_cons_succ]); (try simp only [List.set_cons_zero]))
              generalize World.setCell (World.setCell w23 _ _) _ _ = z1 at *
              have r0 := C7.cell 0
              have r1 := C7.cell 1
              have r2 := C7.cell 2
              have f0 := C7.frozen 0
              have f1 := C7.frozen 1
              have f2 := C7.frozen 2
              have M7 : Mod (fun k => k = n7) z1 _ := (((Mod.refl _ z1).set1 (.int .i64 s') (o := 0)).set1 (.int .i64 g') (o := 1)).set1 (.bool ts) (o := 2)
              have EH8 := ((EH7.setNew (p := ⟨n7, 0, none⟩) hn7W (.int .i64 s')).setNew (p := ⟨n7, 1, none⟩) hn7W (.int .i64 g')).setNew (p := ⟨n7, 2, none⟩) hn7W (.bool ts)
              have D6 := Lib.hid (C6.mod M7 hne_n6_n7)
              have D7 := Lib.hid (show Blk _ _ _ #[.int .i64 s', .int .i64 g', .bool ts] from ((C7.set_ 0 (.int .i64 s')).set_ 1 (.int .i64 g')).set_ 2 (.bool ts))
              have T9 := T8.mod M7 C7 (by decide)
              have HR := Lib.hid (show RdY Rp (fun _ => False) _ (.slice A' N c') l' by rw [← HN.out]; exact T9.y (A := fun _ => False) (by rw [HN.out]; exact HX0.out) EH8)
              (refine wpAnyH_ready (rs := [12]) (by kernel_rfl) (by simp) ?_; refine AllReadyH.cons rfl (fun K hK => ?_) AllReadyH.nil; go_simp; refine hK.out _ _ EH8 (fun hHeld => ?_); clear hK K; (try simp only [Act.put]); (try simp only [List.getElem_toArray]); (try simp only [List.getElem_cons_succ]); (try simp only [List.getElem_cons_zero]); (try simp only [List.setIfInBounds_toArray]); (try simp only [List.set_cons_succ]); (try simp only [List.set_cons_zero]))
              refine wpAnyH_done (by kernel_rfl) ?_ _
              go_wp2_with fail
              go_meet
              exact ⟨n6, n7, A', c', l', s', g', rfl, rfl, D6, D7, HR, HX7, hHeld⟩
        ·
          go_simp
          refine hK.out _ _ (EH.alloc _) (fun hHeld => ?_)
          clear hK K hHeld
          (try simp only [List.getElem_toArray]); (try simp only [List.getElem_cons_succ]); (try simp only [List.getElem_cons_zero]); (try simp only [Act.put]); (try simp only [List.setIfInBounds_toArray]); (try simp only [List.set_cons_succ]); (try simp only [List.set_cons_zero])
          have HX := Lib.hid (HX.out.ext ((Ext.refl _).alloc (.cells #[.slice none 0 0, .int .i64 0] 28)))
          have B6 := Lib.hid (Blk.new w19 28 #[.slice none 0 0, .int .i64 0])
          obtain ⟨n6, hn6⟩ : ∃ n6, w19.heap.size = n6 := ⟨_, rfl⟩
          have hn6W : W8.heap.size ≤ n6 := by rw [← hn6]; exact EH.size
          have EH := EH.alloc (.cells #[.slice none 0 0, .int .i64 0] 28)
          rw [hn6] at B6 ⊢
          clear hn6
          generalize w19.alloc _ = w20 at *
          have LB6 := B6.out.lt
          refine wpAnyH_ready (rs := [2, 10]) (by kernel_rfl) (by simp) ?_
          refine (AllReadyH.cons rfl (fun K hK => ?_) (AllReadyH.cons rfl (fun K hK => ?_) AllReadyH.nil))
          ·
            go_simp
            go_at_call 10
            refine (tty_any Ad N c nx s g0 ts pid g wr _).mono ?_
            rintro e w21 ⟨rfl, E3⟩
            (try dsimp only)
            refine hK.out _ _ (EH.trans E3) (fun hHeld => ?_)
            clear hK K hHeld
            (try simp only [List.getElem_toArray]); (try simp only [List.getElem_cons_succ]); (try simp only [List.getElem_cons_zero]); (try simp only [Act.put]); (try simp only [List.setIfInBounds_toArray]); (try simp only [List.set_cons_succ]); (try simp only [List.set_cons_zero])
            have HX := Lib.hid (HX.out.ext E3)
            have B6 := Lib.hid (B6.out.ext E3)
            have EH := EH.trans E3
            have LB6 := B6.out.lt
            clear E3
            refine wpAnyH_ready (rs := [5, 10]) (by kernel_rfl) (by simp) ?_
            refine (AllReadyH.cons rfl (fun K hK => ?_) (AllReadyH.cons rfl (fun K hK => ?_) AllReadyH.nil))
            ·
              go_simp
              go_at_call 22
              refine (HLEA.out w21 HX.out).mono ?_
              rintro e w22 ⟨A', c', l', s', g', rfl, T7, HX7, E3⟩
              (try dsimp only)
              refine hK.out _ _ (EH.trans E3) (fun hHeld => ?_)
              clear hK K hHeld
              (try simp only [List.getElem_toArray]); (try simp only [List.getElem_cons_succ]); (try simp only [List.getElem_cons_zero]); (try simp only [Act.put]); (try simp only [List.setIfInBounds_toArray]); (try simp only [List.set_cons_succ]); (try simp only [List.set_cons_zero])
              have HX7 := Lib.hid HX7
              have HX := Lib.hid (HX.out.ext E3)
              have B6 := Lib.hid (B6.out.ext E3)
              have T7 := Lib.hid (T7.lower (Nat.zero_le _))
              have EH := EH.trans E3
              have LB6 := B6.out.lt
              clear E3
              have hHeld : Ext W8 w22 := EH
              (refine wpAnyH_take (i := 6) (v := ?_) rfl (by kernel_rfl) (by kernel_rfl) (by kernel_rfl) (fun _ _ _ h => h) (Or.inl ⟨by rfl, ?_⟩) (by assumption) ?_; rotate_left; (focus (intro w' hSw; go_simp; try with_reducible rfl)); (try simp only [List.getElem_toArray]); (try simp only [List.getElem_cons_succ]); (try simp only [List.getElem_cons_zero]); (try simp only [Act.put]); (try simp only [List.setIfInBounds_toArray]); (try simp only [List.set_cons_succ]); (try simp only [List.set_cons_zero]))
              (refine wpAnyH_take (i := 7) (v := ?_) rfl (by kernel_rfl) (by kernel_rfl) (by kernel_rfl) (fun _ _ _ h => h) (Or.inl ⟨by rfl, ?_⟩) (by assumption) ?_; rotate_left; (focus (intro w' hSw; go_simp; try with_reducible rfl)); (try simp only [List.getElem_toArray]); (try simp only [List.getElem_cons_succ]); (try simp only [List.getElem_cons_zero]); (try simp only [Act.put]); (try simp only [List.setIfInBounds_toArray]); (try simp only [List.set_cons_succ]); (try simp only [List.set_cons_zero]))
              (refine wpAnyH_take (i := 8) (v := ?_) rfl (by kernel_rfl) (by kernel_rfl) (by kernel_rfl) (fun _ _ _ h => h) (Or.inl ⟨by rfl, ?_⟩) (by assumption) ?_; rotate_left; (focus (intro w' hSw; go_simp; try with_reducible rfl)); (try simp only [List.getElem_toArray]); (try simp only [List.getElem_cons_succ]); (try simp only [List.getElem_cons_zero]); (try simp only [Act.put]); (try simp only [List.setIfInBounds_toArray]); (try simp only [List.set_cons_succ]); (try simp only [List.set_cons_zero]))
              clear hHeld
              refine wpAnyH_ready (rs := [10]) (by kernel_rfl) (by simp) ?_
              refine (AllReadyH.cons rfl (fun K hK => ?_) AllReadyH.nil)
              go_simp
              refine hK.out _ _ (EH.alloc _) (fun hHeld => ?_)
              clear hK K hHeld
              (try simp only [List.getElem_toArray]); (try simp only [List.getElem_cons_succ]); (try simp only [List.getElem_cons_zero]); (try simp only [Act.put]); (try simp only [List.setIfInBounds_toArray]); (try simp only [List.set_cons_succ]); (try simp only [List.set_cons_zero])
              have HX := Lib.hid (HX.out.ext ((Ext.refl _).alloc (.cells #[.int .i64 0, .int .i64 0, .bool false] 33)))
              have B6 := Lib.hid (B6.out.ext ((Ext.refl _).alloc (.cells #[.int .i64 0, .int .i64 0, .bool false] 33)))
              have T7 := Lib.hid (T7.out.ext ((Ext.refl _).alloc (.cells #[.int .i64 0, .int .i64 0, .bool false] 33)))
              have B7 := Lib.hid (Blk.new w22 33 #[.int .i64 0, .int .i64 0, .bool false])
              obtain ⟨n7, hn7⟩ : ∃ n7, w22.heap.size = n7 := ⟨_, rfl⟩
              have hn7W : W8.heap.size ≤ n7 := by rw [← hn7]; exact EH.size
              have EH := EH.alloc (.cells #[.int .i64 0, .int .i64 0, .bool false] 33)
              rw [hn7] at B7 ⊢
              have hne_n6_n7 : n6 ≠ n7 := by have := LB6; omega
              have hne_n7_n6 : n7 ≠ n6 := fun h => hne_n6_n7 h.symm
              clear hn7
              generalize w22.alloc _ = w23 at *
              have LB7 := B7.out.lt
              have hHeld : Ext W8 w23 := EH
              have k6 := B6.out.two
              have C6 := B6.out.put2 (.slice A' N c') (.int .i64 nx)
              have M6 : Mod (fun k => k = n6) w23 _ := ((Mod.refl _ w23).set1 (.slice A' N c') (o := 0)).set1 (.int .i64 nx) (o := 1)
              have C7 := B7.out.mod M6 hne_n7_n6
              have T8 := T7.out.mod M6 B6.out (by decide)
              have EH7 := (EH.setNew (p := ⟨n6, 0, none⟩) hn6W (.slice A' N c')).setNew (p := ⟨n6, 1, none⟩) hn6W (.int .i64 nx)
              (refine wpAnyH_ready (rs := [11]) (by kernel_rfl) (by simp) ?_; refine AllReadyH.cons rfl (fun K hK => ?_) AllReadyH.nil; go_simp; refine hK.out _ _ EH7 (fun hHeld => ?_); clear hK K; (try simp only [Act.put]); (try simp only [List.getElem_toArray]); (try simp only [List.getElem_cons_succ]); (try simp only [List.getElem_cons_zero]); (try simp only [List.setIfInBounds_toArray]); (try simp only [List.set_cons_succ]); (try simp only [List.set_cons_zero]))
              generalize World.setCell (World.setCell w23 _ _) _ _ = z1 at *
              have r0 := C7.cell 0
              have r1 := C7.cell 1
              have r2 := C7.cell 2
              have f0 := C7.frozen 0
              have f1 := C7.frozen 1
              have f2 := C7.frozen 2
              have M7 : Mod (fun k => k = n7) z1 _ := (((Mod.refl _ z1).set1 (.int .i64 s') (o := 0)).set1 (.int .i64 g') (o := 1)).set1 (.bool ts) (o := 2)
              have EH8 := ((EH7.setNew (p := ⟨n7, 0, none⟩) hn7W (.int .i64 s')).setNew (p := ⟨n7, 1, none⟩) hn7W (.int .i64 g')).setNew (p := ⟨n7, 2, none⟩) hn7W (.bool ts)
              have D6 := Lib.hid (C6.mod M7 hne_n6_n7)
              have D7 := Lib.hid (show Blk _ _ _ #[.int .i64 s', .int .i64 g', .bool ts] from ((C7.set_ 0 (.int .i64 s')).set_ 1 (.int .i64 g')).set_ 2 (.bool ts))
              have T9 := T8.mod M7 C7 (by decide)
              have HR := Lib.hid (show RdY Rp (fun _ => False) _ (.slice A' N c') l' by rw [← HN.out]; exact T9.y (A := fun _ => False) (by rw [HN.out]; exact HX0.out) EH8)
              (refine wpAnyH_ready (rs := [12]) (by kernel_rfl) (by simp) ?_; refine AllReadyH.cons rfl (fun K hK => ?_) AllReadyH.nil; go_simp; refine hK.out _ _ EH8 (fun hHeld => ?_); clear hK K; (try simp only [Act.put]); (try simp only [List.getElem_toArray]); (try simp only [List.getElem_cons_succ]); (try simp only [List.getElem_cons_zero]); (try simp only [List.setIfInBounds_toArray]); (try simp only [List.set_cons_succ]); (try simp only [List.set_cons_zero]))
              refine wpAnyH_done (by kernel_rfl) ?_ _
              go_wp2_with fail
              go_meet
              exact ⟨n6, n7, A', c', l', s', g', rfl, rfl, D6, D7, HR, HX7, hHeld⟩
            ·
              go_simp
              refine hK.out _ _ (EH.alloc _) (fun hHeld => ?_)
              clear hK K hHeld
              (try simp only [List.getElem_toArray]); (try simp only [List.getElem_cons_succ]); (try simp only [List.getElem_cons_zero]); (try simp only [Act.put]); (try simp only [List.setIfInBounds_toArray]); (try simp only [List.set_cons_succ]); (try simp only [List.set_cons_zero])
              have HX := Lib.hid (HX.out.ext ((Ext.refl _).alloc (.cells #[.int .i64 0, .int .i64 0, .bool false] 33)))
              have B6 := Lib.hid (B6.out.ext ((Ext.refl _).alloc (.cells #[.int .i64 0, .int .i64 0, .bool false] 33)))
              have B7 := Lib.hid (Blk.new w21 33 #[.int .i64 0, .int .i64 0, .bool false])
              obtain ⟨n7, hn7⟩ : ∃ n7, w21.heap.size = n7 := ⟨_, rfl⟩
              have hn7W : W8.heap.size ≤ n7 := by rw [← hn7]; exact EH.size
              have EH := EH.alloc (.cells #[.int .i64 0, .int .i64 0, .bool false] 33)
              rw [hn7] at B7 ⊢
              have hne_n6_n7 : n6 ≠ n7 := by have := LB6; omega
              have hne_n7_n6 : n7 ≠ n6 := fun h => hne_n6_n7 h.symm
              clear hn7
              generalize w21.alloc _ = w22 at *
              have LB7 := B7.out.lt
              refine wpAnyH_ready (rs := [5]) (by kernel_rfl) (by simp) ?_
              refine (AllReadyH.cons rfl (fun K hK => ?_) AllReadyH.nil)
              go_simp
              go_at_call 22
              refine (HLEA.out w22 HX.out).mono ?_
              rintro e w23 ⟨A', c', l', s', g', rfl, T7, HX7, E3⟩
              (try dsimp only)
              refine hK.out _ _ (EH.trans E3) (fun hHeld => ?_)
              clear hK K hHeld
              (try simp only [List.getElem_toArray]); (try simp only [List.getElem_cons_succ]); (try simp only [List.getElem_cons_zero]); (try simp only [Act.put]); (try simp only [List.setIfInBounds_toArray]); (try simp only [List.set_cons_succ]); (try simp only [List.set_cons_zero])
              have HX7 := Lib.hid HX7
              have HX := Lib.hid (HX.out.ext E3)
              have B6 := Lib.hid (B6.out.ext E3)
              have B7 := Lib.hid (B7.out.ext E3)
              have T7 := Lib.hid (T7.lower (Nat.zero_le _))
              have EH := EH.trans E3
              have LB6 := B6.out.lt
              have LB7 := B7.out.lt
              clear E3
              have hHeld : Ext W8 w23 := EH
              (refine wpAnyH_take (i := 6) (v := ?_) rfl (by kernel_rfl) (by kernel_rfl) (by kernel_rfl) (fun _ _ _ h => h) (Or.inl ⟨by rfl, ?_⟩) (by assumption) ?_; rotate_left; (focus (intro w' hSw; go_simp; try with_reducible rfl)); (try simp only [List.getElem_toArray]); (try simp only [List.getElem_cons_succ]); (try simp only [List.getElem_cons_zero]); (try simp only [Act.put]); (try simp only [List.setIfInBounds_toArray]); (try simp only [List.set_cons_succ]); (try simp only [List.set_cons_zero]))
              (refine wpAnyH_take (i := 7) (v := ?_) rfl (by kernel_rfl) (by kernel_rfl) (by kernel_rfl) (fun _ _ _ h => h) (Or.inl ⟨by rfl, ?_⟩) (by assumption) ?_; rotate_left; (focus (intro w' hSw; go_simp; try with_reducible rfl)); (try simp only [List.getElem_toArray]); (try simp only [List.getElem_cons_succ]); (try simp only [List.getElem_cons_zero]); (try simp only [Act.put]); (try simp only [List.setIfInBounds_toArray]); (try simp only [List.set_cons_succ]); (try simp only [List.set_cons_zero]))
              (refine wpAnyH_take (i := 8) (v := ?_) rfl (by kernel_rfl) (by kernel_rfl) (by kernel_rfl) (fun _ _ _ h => h) (Or.inl ⟨by rfl, ?_⟩) (by assumption) ?_; rotate_left; (focus (intro w' hSw; go_simp; try with_reducible rfl)); (try simp only [List.getElem_toArray]); (try simp only [List.getElem_cons_succ]); (try simp only [List.getElem_cons_zero]); (try simp only [Act.put]); (try simp only [List.setIfInBounds_toArray]); (try simp only [List.set_cons_succ]); (try simp only [List.set_cons_zero]))
              clear hHeld
              have hHeld : Ext W8 w23 := EH
              have k6 := B6.out.two
              have C6 := B6.out.put2 (.slice A' N c') (.int .i64 nx)
              have M6 : Mod (fun k => k = n6) w23 _ := ((Mod.refl _ w23).set1 (.slice A' N c') (o := 0)).set1 (.int .i64 nx) (o := 1)
              have C7 := B7.out.mod M6 hne_n7_n6
              have T8 := T7.out.mod M6 B6.out (by decide)
              have EH7 := (EH.setNew (p := ⟨n6, 0, none⟩) hn6W (.slice A' N c')).setNew (p := ⟨n6, 1, none⟩) hn6W (.int .i64 nx)
              (refine wpAnyH_ready (rs := [11]) (by kernel_rfl) (by simp) ?_; refine AllReadyH.cons rfl (fun K hK => ?_) AllReadyH.nil; go_simp; refine hK.out _ _ EH7 (fun hHeld => ?_); clear hK K; (try simp only [Act.put]); (try simp only [List.getElem_toArray]); (try simp only [List.getElem_cons_succ]); (try simp only [List.getElem_cons_zero]); (try simp only [List.setIfInBounds_toArray]); (try simp only [List.set_cons_succ]); (try simp only [List.set_cons_zero]))
              generalize World.setCell (World.setCell w23 _ _) _ _ = z1 at *
              have r0 := C7.cell 0
              have r1 := C7.cell 1
              have r2 := C7.cell 2
              have f0 := C7.frozen 0
              have f1 := C7.frozen 1
              have f2 := C7.frozen 2
              have M7 : Mod (fun k => k = n7) z1 _ := (((Mod.refl _ z1).set1 (.int .i64 s') (o := 0)).set1 (.int .i64 g') (o := 1)).set1 (.bool ts) (o := 2)
              have EH8 := ((EH7.setNew (p := ⟨n7, 0, none⟩) hn7W (.int .i64 s')).setNew (p := ⟨n7, 1, none⟩) hn7W (.int .i64 g')).setNew (p := ⟨n7, 2, none⟩) hn7W (.bool ts)
              have D6 := Lib.hid (C6.mod M7 hne_n6_n7)
              have D7 := Lib.hid (show Blk _ _ _ #[.int .i64 s', .int .i64 g', .bool ts] from ((C7.set_ 0 (.int .i64 s')).set_ 1 (.int .i64 g')).set_ 2 (.bool ts))
              have T9 := T8.mod M7 C7 (by decide)
              have HR := Lib.hid (show RdY Rp (fun _ => False) _ (.slice A' N c') l' by rw [← HN.out]; exact T9.y (A := fun _ => False) (by rw [HN.out]; exact HX0.out) EH8)
              (refine wpAnyH_ready (rs := [12]) (by kernel_rfl) (by simp) ?_; refine AllReadyH.cons rfl (fun K hK => ?_) AllReadyH.nil; go_simp; refine hK.out _ _ EH8 (fun hHeld => ?_); clear hK K; (try simp only [Act.put]); (try simp only [List.getElem_toArray]); (try simp only [List.getElem_cons_succ]); (try simp only [List.getElem_cons_zero]); (try simp only [List.setIfInBounds_toArray]); (try simp only [List.set_cons_succ]); (try simp only [List.set_cons_zero]))
              refine wpAnyH_done (by kernel_rfl) ?_ _
              go_wp2_with fail
              go_meet
              exact ⟨n6, n7, A', c', l', s', g', rfl, rfl, D6, D7, HR, HX7, hHeld⟩
          ·
            go_simp
            refine hK.out _ _ (EH.alloc _) (fun hHeld => ?_)
            clear hK K hHeld
            (try simp only [List.getElem_toArray]); (try simp only [List.getElem_cons_succ]); (try simp only [List.getElem_cons_zero]); (try simp only [Act.put]); (try simp only [List.setIfInBounds_toArray]); (try simp only [List.set_cons_succ]); (try simp only [List.set_cons_zero])
            have HX := Lib.hid (HX.out.ext ((Ext.refl _).alloc (.cells #[.int .i64 0, .int .i64 0, .bool false] 33)))
            have B6 := Lib.hid (B6.out.ext ((Ext.refl _).alloc (.cells #[.int .i64 0, .int .i64 0, .bool false] 33)))
            have B7 := Lib.hid (Blk.new w20 33 #[.int .i64 0, .int .i64 0, .bool false])
            obtain ⟨n7, hn7⟩ : ∃ n7, w20.heap.size = n7 := ⟨_, rfl⟩
            have hn7W : W8.heap.size ≤ n7 := by rw [← hn7]; exact EH.size
            have EH := EH.alloc (.cells #[.int .i64 0, .int .i64 0, .bool false] 33)
            rw [hn7] at B7 ⊢
            have hne_n6_n7 : n6 ≠ n7 := by have := LB6; omega
            have hne_n7_n6 : n7 ≠ n6 := fun h => hne_n6_n7 h.symm
            clear hn7
            generalize w20.alloc _ = w21 at *
            have LB7 := B7.out.lt
            refine wpAnyH_ready (rs := [2]) (by kernel_rfl) (by simp) ?_
            refine (AllReadyH.cons rfl (fun K hK => ?_) AllReadyH.nil)
            go_simp
            go_at_call 10
            refine (tty_any Ad N c nx s g0 ts pid g wr _).mono ?_
            rintro e w22 ⟨rfl, E3⟩
            (try dsimp only)
            refine hK.out _ _ (EH.trans E3) (fun hHeld => ?_)
            clear hK K hHeld
            (try simp only [List.getElem_toArray]); (try simp only [List.getElem_cons_succ]); (try simp only [List.getElem_cons_zero]); (try simp only [Act.put]); (try simp only [List.setIfInBounds_toArray]); (try simp only [List.set_cons_succ]); (try simp only [List.set_cons_zero])
            have HX := Lib.hid (HX.out.ext E3)
            have B6 := Lib.hid (B6.out.ext E3)
            have B7 := Lib.hid (B7.out.ext E3)
            have EH := EH.trans E3
            have LB6 := B6.out.lt
            have LB7 := B7.out.lt
            clear E3
            refine wpAnyH_ready (rs := [5]) (by kernel_rfl) (by simp) ?_
            refine (AllReadyH.cons rfl (fun K hK => ?_) AllReadyH.nil)
            go_simp
            go_at_call 22
            refine (HLEA.out w22 HX.out).mono ?_
            rintro e w23 ⟨A', c', l', s', g', rfl, T7, HX7, E3⟩
            (try dsimp only)
            refine hK.out _ _ (EH.trans E3) (fun hHeld => ?_)
            clear hK K hHeld
            (try simp only [List.getElem_toArray]); (try simp only [List.getElem_cons_succ]); (try simp only [List.getElem_cons_zero]); (try simp only [Act.put]); (try simp only [List.setIfInBounds_toArray]); (try simp only [List.set_cons_succ]); (try simp only [List.set_cons_zero])
            have HX7 := Lib.hid HX7
            have HX := Lib.hid (HX.out.ext E3)
            have B6 := Lib.hid (B6.out.ext E3)
            have B7 := Lib.hid (B7.out.ext E3)
            have T7 := Lib.hid (T7.lower (Nat.zero_le _))
            have EH := EH.trans E3
            have LB6 := B6.out.lt
            have LB7 := B7.out.lt
            clear E3
            have hHeld : Ext W8 w23 := EH
            (refine wpAnyH_take (i := 6) (v := ?_) rfl (by kernel_rfl) (by kernel_rfl) (by kernel_rfl) (fun _ _ _ h => h) (Or.inl ⟨by rfl, ?_⟩) (by assumption) ?_; rotate_left; (focus (intro w' hSw; go_simp; try with_reducible rfl)); (try simp only [List.getElem_toArray]); (try simp only [List.getElem_cons_succ]); (try simp only [List.getElem_cons_zero]); (try simp only [Act.put]); (try simp only [List.setIfInBounds_toArray]); (try simp only [List.set_cons_succ]); (try simp only [List.set_cons_zero]))
            (refine wpAnyH_take (i := 7) (v := ?_) rfl (by kernel_rfl) (by kernel_rfl) (by kernel_rfl) (fun _ _ _ h => h) (Or.inl ⟨by rfl, ?_⟩) (by assumption) ?_; rotate_left; (focus (intro w' hSw; go_simp; try with_reducible rfl)); (try simp only [List.getElem_toArray]); (try simp only [List.getElem_cons_succ]); (try simp only [List.getElem_cons_zero]); (try simp only [Act.put]); (try simp only [List.setIfInBounds_toArray]); (try simp only [List.set_cons_succ]); (try simp only [List.set_cons_zero]))
            (refine wpAnyH_take (i := 8) (v := ?_) rfl (by kernel_rfl) (by kernel_rfl) (by kernel_rfl) (fun _ _ _ h => h) (Or.inl ⟨by rfl, ?_⟩) (by assumption) ?_; rotate_left; (focus (intro w' hSw; go_simp; try with_reducible rfl)); (try simp only [List.getElem_toArray]); (try simp only [List.getElem_cons_succ]); (try simp only [List.getElem_cons_zero]); (try simp only [Act.put]); (try simp only [List.setIfInBounds_toArray]); (try simp only [List.set_cons_succ]); (try simp only [List.set_cons_zero]))
            clear hHeld
            have hHeld : Ext W8 w23 := EH
            have k6 := B6.out.two
            have C6 := B6.out.put2 (.slice A' N c') (.int .i64 nx)
            have M6 : Mod (fun k => k = n6) w23 _ := ((Mod.refl _ w23).set1 (.slice A' N c') (o := 0)).set1 (.int .i64 nx) (o := 1)
            have C7 := B7.out.mod M6 hne_n7_n6
            have T8 := T7.out.mod M6 B6.out (by decide)
            have EH7 := (EH.setNew (p := ⟨n6, 0, none⟩) hn6W (.slice A' N c')).setNew (p := ⟨n6, 1, none⟩) hn6W (.int .i64 nx)
            (refine wpAnyH_ready (rs := [11]) (by kernel_rfl) (by simp) ?_; refine AllReadyH.cons rfl (fun K hK => ?_) AllReadyH.nil; go_simp; refine hK.out _ _ EH7 (fun hHeld => ?_); clear hK K; (try simp only [Act.put]); (try simp only [List.getElem_toArray]); (try simp only [List.getElem_cons_succ]); (try simp only [List.getElem_cons_zero]); (try simp only [List.setIfInBounds_toArray]); (try simp only [List.set_cons_succ]); (try simp only [List.set_cons_zero]))
            generalize World.setCell (World.setCell w23 _ _) _ _ = z1 at *
            have r0 := C7.cell 0
            have r1 := C7.cell 1
            have r2 := C7.cell 2
            have f0 := C7.frozen 0
            have f1 := C7.frozen 1
            have f2 := C7.frozen 2
            have M7 : Mod (fun k => k = n7) z1 _ := (((Mod.refl _ z1).set1 (.int .i64 s') (o := 0)).set1 (.int .i64 g') (o := 1)).set1 (.bool ts) (o := 2)
            have EH8 := ((EH7.setNew (p := ⟨n7, 0, none⟩) hn7W (.int .i64 s')).setNew (p := ⟨n7, 1, none⟩) hn7W (.int .i64 g')).setNew (p := ⟨n7, 2, none⟩) hn7W (.bool ts)
            have D6 := Lib.hid (C6.mod M7 hne_n6_n7)
            have D7 := Lib.hid (show Blk _ _ _ #[.int .i64 s', .int .i64 g', .bool ts] from ((C7.set_ 0 (.int .i64 s')).set_ 1 (.int .i64 g')).set_ 2 (.bool ts))
            have T9 := T8.mod M7 C7 (by decide)
            have HR := Lib.hid (show RdY Rp (fun _ => False) _ (.slice A' N c') l' by rw [← HN.out]; exact T9.y (A := fun _ => False) (by rw [HN.out]; exact HX0.out) EH8)
            (refine wpAnyH_ready (rs := [12]) (by kernel_rfl) (by simp) ?_; refine AllReadyH.cons rfl (fun K hK => ?_) AllReadyH.nil; go_simp; refine hK.out _ _ EH8 (fun hHeld => ?_); clear hK K; (try simp only [Act.put]); (try simp only [List.getElem_toArray]); (try simp only [List.getElem_cons_succ]); (try simp only [List.getElem_cons_zero]); (try simp only [List.setIfInBounds_toArray]); (try simp only [List.set_cons_succ]); (try simp only [List.set_cons_zero]))
            refine wpAnyH_done (by kernel_rfl) ?_ _
            go_wp2_with fail
            go_meet
            exact ⟨n6, n7, A', c', l', s', g', rfl, rfl, D6, D7, HR, HX7, hHeld⟩
        ·
          go_simp
          refine hK.out _ _ (EH.alloc _) (fun hHeld => ?_)
          clear hK K hHeld
          (try simp only [List.getElem_toArray]); (try simp only [List.getElem_cons_succ]); (try simp only [List.getElem_cons_zero]); (try simp only [Act.put]); (try simp only [List.setIfInBounds_toArray]); (try simp only [List.set_cons_succ]); (try simp only [List.set_cons_zero])
          have HX := Lib.hid (HX.out.ext ((Ext.refl _).alloc (.cells #[.int .i64 0, .int .i64 0, .bool false] 33)))
          have B7 := Lib.hid (Blk.new w19 33 #[.int .i64 0, .int .i64 0, .bool false])
          obtain ⟨n7, hn7⟩ : ∃ n7, w19.heap.size = n7 := ⟨_, rfl⟩
          have hn7W : W8.heap.size ≤ n7 := by rw [← hn7]; exact EH.size
          have EH := EH.alloc (.cells #[.int .i64 0, .int .i64 0, .bool false] 33)
          rw [hn7] at B7 ⊢
          clear hn7
          generalize w19.alloc _ = w20 at *
          have LB7 := B7.out.lt
          refine wpAnyH_ready (rs := [2, 9]) (by kernel_rfl) (by simp) ?_
          refine (AllReadyH.cons rfl (fun K hK => ?_) (AllReadyH.cons rfl (fun K hK => ?_) AllReadyH.nil))
          ·
            go_simp
            go_at_call 10
            refine (tty_any Ad N c nx s g0 ts pid g wr _).mono ?_
            rintro e w21 ⟨rfl, E3⟩
            (try dsimp only)
            refine hK.out _ _ (EH.trans E3) (fun hHeld => ?_)
            clear hK K hHeld
            (try simp only [List.getElem_toArray]); (try simp only [List.getElem_cons_succ]); (try simp only [List.getElem_cons_zero]); (try simp only [Act.put]); (try simp only [List.setIfInBounds_toArray]); (try simp only [List.set_cons_succ]); (try simp only [List.set_cons_zero])
            have HX := Lib.hid (HX.out.ext E3)
            have B7 := Lib.hid (B7.out.ext E3)
            have EH := EH.trans E3
            have LB7 := B7.out.lt
            clear E3
            refine wpAnyH_ready (rs := [5, 9]) (by kernel_rfl) (by simp) ?_
            refine (AllReadyH.cons rfl (fun K hK => ?_) (AllReadyH.cons rfl (fun K hK => ?_) AllReadyH.nil))
            ·
              go_simp
              go_at_call 22
              refine (HLEA.out w21 HX.out).mono ?_
              rintro e w22 ⟨A', c', l', s', g', rfl, T7, HX7, E3⟩
              (try dsimp only)
              refine hK.out _ _ (EH.trans E3) (fun hHeld => ?_)
              clear hK K hHeld
              (try simp only [List.getElem_toArray]); (try simp only [List.getElem_cons_succ]); (try simp only [List.getElem_cons_zero]); (try simp only [Act.put]); (try simp only [List.setIfInBounds_toArray]); (try simp only [List.set_cons_succ]); (try simp only [List.set_cons_zero])
              have HX7 := Lib.hid HX7
              have HX := Lib.hid (HX.out.ext E3)
              have B7 := Lib.hid (B7.out.ext E3)
              have T7 := Lib.hid (T7.lower (Nat.zero_le _))
              have EH := EH.trans E3
              have LB7 := B7.out.lt
              clear E3
              have hHeld : Ext W8 w22 := EH
              (refine wpAnyH_take (i := 6) (v := ?_) rfl (by kernel_rfl) (by kernel_rfl) (by kernel_rfl) (fun _ _ _ h => h) (Or.inl ⟨by rfl, ?_⟩) (by assumption) ?_; rotate_left; (focus (intro w' hSw; go_simp; try with_reducible rfl)); (try simp only [List.getElem_toArray]); (try simp only [List.getElem_cons_succ]); (try simp only [List.getElem_cons_zero]); (try simp only [Act.put]); (try simp only [List.setIfInBounds_toArray]); (try simp only [List.set_cons_succ]); (try simp only [List.set_cons_zero]))
              (refine wpAnyH_take (i := 7) (v := ?_) rfl (by kernel_rfl) (by kernel_rfl) (by kernel_rfl) (fun _ _ _ h => h) (Or.inl ⟨by rfl, ?_⟩) (by assumption) ?_; rotate_left; (focus (intro w' hSw; go_simp; try with_reducible rfl)); (try simp only [List.getElem_toArray]); (try simp only [List.getElem_cons_succ]); (try simp only [List.getElem_cons_zero]); (try simp only [Act.put]); (try simp only [List.setIfInBounds_toArray]); (try simp only [List.set_cons_succ]); (try simp only [List.set_cons_zero]))
              (refine wpAnyH_take (i := 8) (v := ?_) rfl (by kernel_rfl) (by kernel_rfl) (by kernel_rfl) (fun _ _ _ h => h) (Or.inl ⟨by rfl, ?_⟩) (by assumption) ?_; rotate_left; (focus (intro w' hSw; go_simp; try with_reducible rfl)); (try simp only [List.getElem_toArray]); (try simp only [List.getElem_cons_succ]); (try simp only [List.getElem_cons_zero]); (try simp only [Act.put]); (try simp only [List.setIfInBounds_toArray]); (try simp only [List.set_cons_succ]); (try simp only [List.set_cons_zero]))
              clear hHeld
              refine wpAnyH_ready (rs := [9]) (by kernel_rfl) (by simp) ?_
              refine (AllReadyH.cons rfl (fun K hK => ?_) AllReadyH.nil)
              go_simp
              refine hK.out _ _ (EH.alloc _) (fun hHeld => ?_)
              clear hK K hHeld
              (try simp only [List.getElem_toArray]); (try simp only [List.getElem_cons_succ]); (try simp only [List.getElem_cons_zero]); (try simp only [Act.put]); (try simp only [List.setIfInBounds_toArray]); (try simp only [List.set_cons_succ]); (try simp only [List.set_cons_zero])
              have HX := Lib.hid (HX.out.ext ((Ext.refl _).alloc (.cells #[.slice none 0 0, .int .i64 0] 28)))
              have B7 := Lib.hid (B7.out.ext ((Ext.refl _).alloc (.cells #[.slice none 0 0, .int .i64 0] 28)))
              have T7 := Lib.hid (T7.out.ext ((Ext.refl _).alloc (.cells #[.slice none 0 0, .int .i64 0] 28)))
              have B6 := Lib.hid (Blk.new w22 28 #[.slice none 0 0, .int .i64 0])
              obtain ⟨n6, hn6⟩ : ∃ n6, w22.heap.size = n6 := ⟨_, rfl⟩
              have hn6W : W8.heap.size ≤ n6 := by rw [← hn6]; exact EH.size
              have EH := EH.alloc (.cells #[.slice none 0 0, .int .i64 0] 28)
              rw [hn6] at B6 ⊢
              have hne_n7_n6 : n7 ≠ n6 := by have := LB7; omega
              have hne_n6_n7 : n6 ≠ n7 := fun h => hne_n7_n6 h.symm
              clear hn6
              generalize w22.alloc _ = w23 at *
              have LB6 := B6.out.lt
              have hHeld : Ext W8 w23 := EH
              have k6 := B6.out.two
              have C6 := B6.out.put2 (.slice A' N c') (.int .i64 nx)
              have M6 : Mod (fun k => k = n6) w23 _ := ((Mod.refl _ w23).set1 (.slice A' N c') (o := 0)).set1 (.int .i64 nx) (o := 1)
              have C7 := B7.out.mod M6 hne_n7_n6
              have T8 := T7.out.mod M6 B6.out (by decide)
              have EH7 := (EH.setNew (p := ⟨n6, 0, none⟩) hn6W (.slice A' N c')).setNew (p := ⟨n6, 1, none⟩) hn6W (.int .i64 nx)
              (refine wpAnyH_ready (rs := [11]) (by kernel_rfl) (by simp) ?_; refine AllReadyH.cons rfl (fun K hK => ?_) AllReadyH.nil; go_simp; refine hK.out _ _ EH7 (fun hHeld => ?_); clear hK K; (try simp only [Act.put]); (try simp only [List.getElem_toArray]); (try simp only [List.getElem_cons_succ]); (try simp only [List.getElem_cons_zero]); (try simp only [List.setIfInBounds_toArray]); (try simp only [List.set_cons_succ]); (try simp only [List.set_cons_zero]))
              generalize World.setCell (World.setCell w23 _ _) _ _ = z1 at *
              have r0 := C7.cell 0
              have r1 := C7.cell 1
              have r2 := C7.cell 2
              have f0 := C7.frozen 0
              have f1 := C7.frozen 1
              have f2 := C7.frozen 2
              have M7 : Mod (fun k => k = n7) z1 _ := (((Mod.refl _ z1).set1 (.int .i64 s') (o := 0)).set1 (.int .i64 g') (o := 1)).set1 (.bool ts) (o := 2)
              have EH8 := ((EH7.setNew (p := ⟨n7, 0, none⟩) hn7W (.int .i64 s')).setNew (p := ⟨n7, 1, none⟩) hn7W (.int .i64 g')).setNew (p := ⟨n7, 2, none⟩) hn7W (.bool ts)
              have D6 := Lib.hid (C6.mod M7 hne_n6_n7)
              have D7 := Lib.hid (show Blk _ _ _ #[.int .i64 s', .int .i64 g', .bool ts] from ((C7.set_ 0 (.int .i64 s')).set_ 1 (.int .i64 g')).set_ 2 (.bool ts))
              have T9 := T8.mod M7 C7 (by decide)
              have HR := Lib.hid (show RdY Rp (fun _ => False) _ (.slice A' N c') l' by rw [← HN.out]; exact T9.y (A := fun _ => False) (by rw [HN.out]; exact HX0.out) EH8)
              (refine wpAnyH_ready (rs := [12]) (by kernel_rfl) (by simp) ?_; refine AllReadyH.cons rfl (fun K hK => ?_) AllReadyH.nil; go_simp; refine hK.out _ _ EH8 (fun hHeld => ?_); clear hK K; (try simp only [Act.put]); (try simp only [List.getElem_toArray]); (try simp only [List.getElem_cons_succ]); (try simp only [List.getElem_cons_zero]); (try simp only [List.setIfInBounds_toArray]); (try simp only [List.set_cons_succ]); (try simp only [List.set_cons_zero]))
              refine wpAnyH_done (by kernel_rfl) ?_ _
              go_wp2_with fail
              go_meet
              exact ⟨n6, n7, A', c', l', s', g', rfl, rfl, D6, D7, HR, HX7, hHeld⟩
            ·
              go_simp
              refine hK.out _ _ (EH.alloc _) (fun hHeld => ?_)
              clear hK K hHeld
              (try simp only [List.getElem_toArray]); (try simp only [List.getElem_cons_succ]); (try simp only [List.getElem_cons_zero]); (try simp only [Act.put]); (try simp only [List.setIfInBounds_toArray]); (try simp only [List.set_cons_succ]); (try simp only [List.set_cons_zero])
              have HX := Lib.hid (HX.out.ext ((Ext.refl _).alloc (.cells #[.slice none 0 0, .int .i64 0] 28)))
              have B7 := Lib.hid (B7.out.ext ((Ext.refl _).alloc (.cells #[.slice none 0 0, .int .i64 0] 28)))
              have B6 := Lib.hid (Blk.new w21 28 #[.slice none 0 0, .int .i64 0])
              obtain ⟨n6, hn6⟩ : ∃ n6, w21.heap.size = n6 := ⟨_, rfl⟩
              have hn6W : W8.heap.size ≤ n6 := by rw [← hn6]; exact EH.size
              have EH := EH.alloc (.cells #[.slice none 0 0, .int .i64 0] 28)
              rw [hn6] at B6 ⊢
              have hne_n7_n6 : n7 ≠ n6 := by have := LB7; omega
              have hne_n6_n7 : n6 ≠ n7 := fun h => hne_n7_n6 h.symm
              clear hn6
              generalize w21.alloc _ = w22 at *
              have LB6 := B6.out.lt
              refine wpAnyH_ready (rs := [5]) (by kernel_rfl) (by simp) ?_
              refine (AllReadyH.cons rfl (fun K hK => ?_) AllReadyH.nil)
              go_simp
              go_at_call 22
              refine (HLEA.out w22 HX.out).mono ?_
              rintro e w23 ⟨A', c', l', s', g', rfl, T7, HX7, E3⟩
              (try dsimp only)
              refine hK.out _ _ (EH.trans E3) (fun hHeld => ?_)
              clear hK K hHeld
              (try simp only [List.getElem_toArray]); (try simp only [List.getElem_cons_succ]); (try simp only [List.getElem_cons_zero]); (try simp only [Act.put]); (try simp only [List.setIfInBounds_toArray]); (try simp only [List.set_cons_succ]); (try simp only [List.set_cons_zero])
              have HX7 := Lib.hid HX7
              have HX := Lib.hid (HX.out.ext E3)
              have B7 := Lib.hid (B7.out.ext E3)
              have B6 := Lib.hid (B6.out.ext E3)
              have T7 := Lib.hid (T7.lower (Nat.zero_le _))
              have EH := EH.trans E3
              have LB6 := B6.out.lt
              have LB7 := B7.out.lt
              clear E3
              have hHeld : Ext W8 w23 := EH
              (refine wpAnyH_take (i := 6) (v := ?_) rfl (by kernel_rfl) (by kernel_rfl) (by kernel_rfl) (fun _ _ _ h => h) (Or.inl ⟨by rfl, ?_⟩) (by assumption) ?_; rotate_left; (focus (intro w' hSw; go_simp; try with_reducible rfl)); (try simp only [List.getElem_toArray]); (try simp only [List.getElem_cons_succ]); (try simp only [List.getElem_cons_zero]); (try simp only [Act.put]); (try simp only [List.setIfInBounds_toArray]); (try simp only [List.set_cons_succ]); (try simp only [List.set_cons_zero]))
              (refine wpAnyH_take (i := 7) (v := ?_) rfl (by kernel_rfl) (by kernel_rfl) (by kernel_rfl) (fun _ _ _ h => h) (Or.inl ⟨by rfl, ?_⟩) (by assumption) ?_; rotate_left; (focus (intro w' hSw; go_simp; try with_reducible rfl)); (try simp only [List.getElem_toArray]); (try simp only [List.getElem_cons_succ]); (try simp only [List.getElem_cons_zero]); (try simp only [Act.put]); (try simp only [List.setIfInBounds_toArray]); (try simp only [List.set_cons_succ]); (try simp only [List.set_cons_zero]))
              (refine wpAnyH_take (i := 8) (v := ?_) rfl (by kernel_rfl) (by kernel_rfl) (by kernel_rfl) (fun _ _ _ h => h) (Or.inl ⟨by rfl, ?_⟩) (by assumption) ?_; rotate_left; (focus (intro w' hSw; go_simp; try with_reducible rfl)); (try simp only [List.getElem_toArray]); (try simp only [List.getElem_cons_succ]); (try simp only [List.getElem_cons_zero]); (try simp only [Act.put]); (try simp only [List.setIfInBounds_toArray]); (try simp only [List.set_cons_succ]); (try simp only [List.set_cons_zero]))
              clear hHeld
              have hHeld : Ext W8 w23 := EH
              have k6 := B6.out.two
              have C6 := B6.out.put2 (.slice A' N c') (.int .i64 nx)
              have M6 : Mod (fun k => k = n6) w23 _ := ((Mod.refl _ w23).set1 (.slice A' N c') (o := 0)).set1 (.int .i64 nx) (o := 1)
              have C7 := B7.out.mod M6 hne_n7_n6
              have T8 := T7.out.mod M6 B6.out (by decide)
              have EH7 := (EH.setNew (p := ⟨n6, 0, none⟩) hn6W (.slice A' N c')).setNew (p := ⟨n6, 1, none⟩) hn6W (.int .i64 nx)
              (refine wpAnyH_ready (rs := [11]) (by kernel_rfl) (by simp) ?_; refine AllReadyH.cons rfl (fun K hK => ?_) AllReadyH.nil; go_simp; refine hK.out _ _ EH7 (fun hHeld => ?_); clear hK K; (try simp only [Act.put]); (try simp only [List.getElem_toArray]); (try simp only [List.getElem_cons_succ]); (try simp only [List.getElem_cons_zero]); (try simp only [List.setIfInBounds_toArray]); (try simp only [List.set_cons_succ]); (try simp only [List.set_cons_zero]))
              generalize World.setCell (World.setCell w23 _ _) _ _ = z1 at *
              have r0 := C7.cell 0
              have r1 := C7.cell 1
              have r2 := C7.cell 2
              have f0 := C7.frozen 0
              have f1 := C7.frozen 1
              have f2 := C7.frozen 2
              have M7 : Mod (fun k => k = n7) z1 _ := (((Mod.refl _ z1).set1 (.int .i64 s') (o := 0)).set1 (.int .i64 g') (o := 1)).set1 (.bool ts) (o := 2)
              have EH8 := ((EH7.setNew (p := ⟨n7, 0, none⟩) hn7W (.int .i64 s')).setNew (p := ⟨n7, 1, none⟩) hn7W (.int .i64 g')).setNew (p := ⟨n7, 2, none⟩) hn7W (.bool ts)
              have D6 := Lib.hid (C6.mod M7 hne_n6_n7)
              have D7 := Lib.hid (show Blk _ _ _ #[.int .i64 s', .int .i64 g', .bool ts] from ((C7.set_ 0 (.int .i64 s')).set_ 1 (.int .i64 g')).set_ 2 (.bool ts))
              have T9 := T8.mod M7 C7 (by decide)
              have HR := Lib.hid (show RdY Rp (fun _ => False) _ (.slice A' N c') l' by rw [← HN.out]; exact T9.y (A := fun _ => False) (by rw [HN.out]; exact HX0.out) EH8)
              (refine wpAnyH_ready (rs := [12]) (by kernel_rfl) (by simp) ?_; refine AllReadyH.cons rfl (fun K hK => ?_) AllReadyH.nil; go_simp; refine hK.out _ _ EH8 (fun hHeld => ?_); clear hK K; (try simp only [Act.put]); (try simp only [List.getElem_toArray]); (try simp only [List.getElem_cons_succ]); (try simp only [List.getElem_cons_zero]); (try simp only [List.setIfInBounds_toArray]); (try simp only [List.set_cons_succ]); (try simp only [List.set_cons_zero]))
              refine wpAnyH_done (by kernel_rfl) ?_ _
              go_wp2_with fail
              go_meet
              exact ⟨n6, n7, A', c', l', s', g', rfl, rfl, D6, D7, HR, HX7, hHeld⟩
          ·
            go_simp
            refine hK.out _ _ (EH.alloc _) (fun hHeld => ?_)
            clear hK K hHeld
            (try simp only [List.getElem_toArray]); (try simp only [List.getElem_cons_succ]); (try simp only [List.getElem_cons_zero]); (try simp only [Act.put]); (try simp only [List.setIfInBounds_toArray]); (try simp only [List.set_cons_succ]); (try simp only [List.set_cons_zero])
            have HX := Lib.hid (HX.out.ext ((Ext.refl _).alloc (.cells #[.slice none 0 0, .int .i64 0] 28)))
            have B7 := Lib.hid (B7.out.ext ((Ext.refl _).alloc (.cells #[.slice none 0 0, .int .i64 0] 28)))
            have B6 := Lib.hid (Blk.new w20 28 #[.slice none 0 0, .int .i64 0])
            obtain ⟨n6, hn6⟩ : ∃ n6, w20.heap.size = n6 := ⟨_, rfl⟩
            have hn6W : W8.heap.size ≤ n6 := by rw [← hn6]; exact EH.size
            have EH := EH.alloc (.cells #[.slice none 0 0, .int .i64 0] 28)
            rw [hn6] at B6 ⊢
            have hne_n7_n6 : n7 ≠ n6 := by have := LB7; omega
            have hne_n6_n7 : n6 ≠ n7 := fun h => hne_n7_n6 h.symm
            clear hn6
            generalize w20.alloc _ = w21 at *
            have LB6 := B6.out.lt
            refine wpAnyH_ready (rs := [2]) (by kernel_rfl) (by simp) ?_
            refine (AllReadyH.cons rfl (fun K hK => ?_) AllReadyH.nil)
            go_simp
            go_at_call 10
            refine (tty_any Ad N c nx s g0 ts pid g wr _).mono ?_
            rintro e w22 ⟨rfl, E3⟩
            (try dsimp only)
            refine hK.out _ _ (EH.trans E3) (fun hHeld => ?_)
            clear hK K hHeld
            (try simp only [List.getElem_toArray]); (try simp only [List.getElem_cons_succ]); (try simp only [List.getElem_cons_zero]); (try simp only [Act.put]); (try simp only [List.setIfInBounds_toArray]); (try simp only [List.set_cons_succ]); (try simp only [List.set_cons_zero])
            have HX := Lib.hid (HX.out.ext E3)
            have B7 := Lib.hid (B7.out.ext E3)
            have B6 := Lib.hid (B6.out.ext E3)
            have EH := EH.trans E3
            have LB6 := B6.out.lt
            have LB7 := B7.out.lt
            clear E3
            refine wpAnyH_ready (rs := [5]) (by kernel_rfl) (by simp) ?_
            refine (AllReadyH.cons rfl (fun K hK => ?_) AllReadyH.nil)
            go_simp
            go_at_call 22
            refine (HLEA.out w22 HX.out).mono ?_
            rintro e w23 ⟨A', c', l', s', g', rfl, T7, HX7, E3⟩
            (try dsimp only)
            refine hK.out _ _ (EH.trans E3) (fun hHeld => ?_)
            clear hK K hHeld
            (try simp only [List.getElem_toArray]); (try simp only [List.getElem_cons_succ]); (try simp only [List.getElem_cons_zero]); (try simp only [Act.put]); (try simp only [List.setIfInBounds_toArray]); (try simp only [List.set_cons_succ]); (try simp only [List.set_cons_zero])
            have HX7 := Lib.hid HX7
            have HX := Lib.hid (HX.out.ext E3)
            have B7 := Lib.hid (B7.out.ext E3)
            have B6 := Lib.hid (B6.out.ext E3)
            have T7 := Lib.hid (T7.lower (Nat.zero_le _))
            have EH := EH.trans E3
            have LB6 := B6.out.lt
            have LB7 := B7.out.lt
            clear E3
            have hHeld : Ext W8 w23 := EH
            (refine wpAnyH_take (i := 6) (v := ?_) rfl (by kernel_rfl) (by kernel_rfl) (by kernel_rfl) (fun _ _ _ h => h) (Or.inl ⟨by rfl, ?_⟩) (by assumption) ?_; rotate_left; (focus (intro w' hSw; go_simp; try with_reducible rfl)); (try simp only [List.getElem_toArray]); (try simp only [List.getElem_cons_succ]); (try simp only [List.getElem_cons_zero]); (try simp only [Act.put]); (try simp only [List.setIfInBounds_toArray]); (try simp only [List.set_cons_succ]); (try simp only [List.set_cons_zero]))
            (refine wpAnyH_take (i := 7) (v := ?_) rfl (by kernel_rfl) (by kernel_rfl) (by kernel_rfl) (fun _ _ _ h => h) (Or.inl ⟨by rfl, ?_⟩) (by assumption) ?_; rotate_left; (focus (intro w' hSw; go_simp; try with_reducible rfl)); (try simp only [List.getElem_toArray]); (try simp only [List.getElem_cons_succ]); (try simp only [List.getElem_cons_zero]); (try simp only [Act.put]); (try simp only [List.setIfInBounds_toArray]); (try simp only [List.set_cons_succ]); (try simp only [List.set_cons_zero]))
            (refine wpAnyH_take (i := 8) (v := ?_) rfl (by kernel_rfl) (by kernel_rfl) (by kernel_rfl) (fun _ _ _ h => h) (Or.inl ⟨by rfl, ?_⟩) (by assumption) ?_; rotate_left; (focus (intro w' hSw; go_simp; try with_reducible rfl)); (try simp only [List.getElem_toArray]); (try simp only [List.getElem_cons_succ]); (try simp only [List.getElem_cons_zero]); (try simp only [Act.put]); (try simp only [List.setIfInBounds_toArray]); (try simp only [List.set_cons_succ]); (try simp only [List.set_cons_zero]))
            clear hHeld
            have hHeld : Ext W8 w23 := EH
            have k6 := B6.out.two
            have C6 := B6.out.put2 (.slice A' N c') (.int .i64 nx)
            have M6 : Mod (fun k => k = n6) w23 _ := ((Mod.refl _ w23).set1 (.slice A' N c') (o := 0)).set1 (.int .i64 nx) (o := 1)
            have C7 := B7.out.mod M6 hne_n7_n6
            have T8 := T7.out.mod M6 B6.out (by decide)
            have EH7 := (EH.setNew (p := ⟨n6, 0, none⟩) hn6W (.slice A' N c')).setNew (p := ⟨n6, 1, none⟩) hn6W (.int .i64 nx)
            (refine wpAnyH_ready (rs := [11]) (by kernel_rfl) (by simp) ?_; refine AllReadyH.cons rfl (fun K hK => ?_) AllReadyH.nil; go_simp; refine hK.out _ _ EH7 (fun hHeld => ?_); clear hK K; (try simp only [Act.put]); (try simp only [List.getElem_toArray]); (try simp only [List.getElem_cons_succ]); (try simp only [List.getElem_cons_zero]); (try simp only [List.setIfInBounds_toArray]); (try simp only [List.set_cons_succ]); (try simp only [List.set_cons_zero]))
            generalize World.setCell (World.setCell w23 _ _) _ _ = z1 at *
            have r0 := C7.cell 0
            have r1 := C7.cell 1
            have r2 := C7.cell 2
            have f0 := C7.frozen 0
            have f1 := C7.frozen 1
            have f2 := C7.frozen 2
            have M7 : Mod (fun k => k = n7) z1 _ := (((Mod.refl _ z1).set1 (.int .i64 s') (o := 0)).set1 (.int .i64 g') (o := 1)).set1 (.bool ts) (o := 2)
            have EH8 := ((EH7.setNew (p := ⟨n7, 0, none⟩) hn7W (.int .i64 s')).setNew (p := ⟨n7, 1, none⟩) hn7W (.int .i64 g')).setNew (p := ⟨n7, 2, none⟩) hn7W (.bool ts)
            have D6 := Lib.hid (C6.mod M7 hne_n6_n7)
            have D7 := Lib.hid (show Blk _ _ _ #[.int .i64 s', .int .i64 g', .bool ts] from ((C7.set_ 0 (.int .i64 s')).set_ 1 (.int .i64 g')).set_ 2 (.bool ts))
            have T9 := T8.mod M7 C7 (by decide)
            have HR := Lib.hid (show RdY Rp (fun _ => False) _ (.slice A' N c') l' by rw [← HN.out]; exact T9.y (A := fun _ => False) (by rw [HN.out]; exact HX0.out) EH8)
            (refine wpAnyH_ready (rs := [12]) (by kernel_rfl) (by simp) ?_; refine AllReadyH.cons rfl (fun K hK => ?_) AllReadyH.nil; go_simp; refine hK.out _ _ EH8 (fun hHeld => ?_); clear hK K; (try simp only [Act.put]); (try simp only [List.getElem_toArray]); (try simp only [List.getElem_cons_succ]); (try simp only [List.getElem_cons_zero]); (try simp only [List.setIfInBounds_toArray]); (try simp only [List.set_cons_succ]); (try simp only [List.set_cons_zero]))
            refine wpAnyH_done (by kernel_rfl) ?_ _
            go_wp2_with fail
            go_meet
            exact ⟨n6, n7, A', c', l', s', g', rfl, rfl, D6, D7, HR, HX7, hHeld⟩
      case rest =>
        obtain ⟨n6, n7, A', c', l', s', g', rfl, rfl, B6, B7, R7, HX, E89⟩ := hcut
        obtain ⟨W9, hW9⟩ : ∃ W9, W9 = wc := ⟨_, rfl⟩
        subst hW9
        have E09 := E08.trans E89
        have B := Lib.hid (B.out.ext E89)
        have T := Lib.hid (T.out.ext E89)
        have P := Lib.hid (P.out.ext E89)
        have R8 := Lib.hid (R8.out.ext E89)
        have k2 := B.out.cell 2
        have k5 := B.out.cell 5
        have p3 := (prAt_blk hqok P.out).c3
        have kb := T.out.two
        clear E08 E89 HX0 HLEA
        by_cases hs0 : s = 0
        · have hs0b : (s == 0) = true := by simpa using hs0
          clear hs0 HX
          go_wp2
          go_ret
          exact ⟨rfl, E09⟩
        have hs0b : (s == 0) = false := by simpa using hs0
        have HS0 := Lib.hid hs0
        clear hs0
        by_cases hqs : q.session = s
        · have hqsb : (q.session != s) = false := by simpa using hqs
          have HQS := Lib.hid hqs
          clear hqs
          have hL := live_any (A := fun _ => False) A3 c3 l nx pid W9 (by rw [HN.out]; exact R8.out)
          rw [HN.out] at hL
          have HL := Lib.hid hL
          clear hL
          go_wp2_with fail
          refine HL.out.mono ?_
          rintro e w10 ⟨rfl, E10⟩
          cases hl : liveL l nx pid
          · clear hl
            go_wp2
            go_ret
            exact ⟨rfl, E09.trans E10⟩
          · obtain ⟨rfl, rfl, rfl⟩ := HX.out HS0.out
            have hst : (groupL l nx g0 1).map strip = l.map strip := strip_group
            have hses : (getL (groupL l nx g0 1) nx pid).1.session = s := by
              have := congrArg Pr.session (strip_get (nx := nx) (k := pid) hst).1
              rw [HGQ.out] at this
              exact this.trans HQS.out
            have hac := acc_go (l := groupL l nx g0 1) (nx := nx) (s := 0) (g := 0) (pid := pid) (ts := ts) (wr := false) ((strip_live hst).trans hl) (by unfold behP; rw [hses, hs0b]; rfl)
            have hA := access_any (A := fun _ => False) A' c' (groupL l nx g0 1) nx 0 0 ts pid false w10 (by rw [groupL_len' HN.out]; exact R7.out.ext E10) (strip_masks hst HM.out)
            rw [groupL_len' HN.out, hac] at hA
            have HA := Lib.hid hA
            have kb := (B6.out.ext E10).two
            have y0 := (B7.out.ext E10).cell 0
            have y1 := (B7.out.ext E10).cell 1
            have y2 := (B7.out.ext E10).cell 2
            have k5 := (B.out.ext E10).cell 5
            clear hst hses hac hA hl
            go_wp2_with fail
            refine HA.out.mono ?_
            rintro e w11 ⟨rfl, E11⟩
            have y0 := (B7.out.ext (E10.trans E11)).cell 0
            have y1 := (B7.out.ext (E10.trans E11)).cell 1
            clear kb y2 k5
            go_wp2
            go_ret
            exact ⟨rfl, E09.trans (E10.trans E11)⟩
        · have hqsb : (q.session != s) = true := by simpa using hqs
          clear hqs HX
          go_wp2
          go_ret
          exact ⟨rfl, E09⟩
end Go.Proofs.Ytcncacllaonplaa
