/- CanonRoom, walked for a line without an end: the law answers true. Condition: there is not too much. -/
import Derived.Test.YtgahpclgdhghjaaJA13
namespace Go.Proofs.Ytgahpclgdhghjaa
open Go.RowKit Go.Kb Go.ChangeShapes Go.WideShapes Go.ChangeAt

set_option maxRecDepth 100000 in
set_option maxHeartbeats 16000000 in
theorem canonRoom_false (v v2 : Value) (ls : List (List Int × Bool)) (l : List Int) (w : World) (h : RdS Ln (fun _ => True) w v ls) (h2 : RdS Ub (fun _ => True) w v2 l) (hb : ∀ x ∈ ls, x.1.length ≤ 140737488351232) (hb2 : l.length ≤ 140737488351232) (hg : ¬ greatL ([(l, false)] ++ ls) = true) :
    Calls Try.prog 4 #[v, .agg #[v2, .bool false]] w fun e w' => e = .returned (.bool true) ∧ Ext w w' := by
  obtain ⟨Ad, c, rfl, hc1, hc2⟩ := h.shape
  obtain ⟨Ad2, c2, rfl, hc3, hc4⟩ := h2.shape
  have H := Lib.hid h
  have H2 := Lib.hid h2
  have hbox : Hid (Blk (w.alloc (.cells #[.slice Ad2 l.length c2, .bool false] 35)) w.heap.size 35 #[.slice Ad2 l.length c2, .bool false]) := Lib.hid (by repeat (first | ((with_reducible refine Blk.at_ _ _ ?_); simp; done) | with_reducible refine Blk.drew ?_ | with_reducible refine Blk.alloc ?_ _ | refine Blk.ext ?_ (by assumption)))
  clear h h2
  have HG : Hid (greatL ([(l, false)] ++ ls) = false) := Lib.hid (by simpa using hg)
  have hg2 := great_no HG.out (ln_all hb2 hb)
  have hus : usedL ([(l, false)] ++ ls) = szL (l, false) + usedL ls := by rw [usedL_append]; simp [usedL]
  rw [hus] at hg2
  obtain ⟨hu, hlen⟩ := hg2
  have hlen1 : ls.length ≤ 199 := by simp at hlen; omega
  have hz0 := szL_nn (l, false)
  have hz1 := usedL_nn ls
  have HU : Hid (usedL ls ≤ 140737488355328) := Lib.hid (by omega)
  have HU2 : Hid (usedL ls + szL (l, false) ≤ 140737488355328) := Lib.hid (by omega)
  have HU1 : Hid (usedL [(l, false)] ≤ 140737488355328) := Lib.hid (by simp [usedL]; omega)
  have HL : Hid (ls.length ≤ 1000000000) := Lib.hid (by omega)
  have HL2 : Hid (ls.length ≤ 1000000) := Lib.hid (by omega)
  clear hg hb hus hu hlen
  go_enter Try.func4, Try.ntmps4
  (go_wp2_with fail; refine (alive_any _).mono ?_; rintro e w1 ⟨rfl, E1⟩)
  obtain ⟨q0, q1, _, _⟩ := (hbox.out.ext E1).two
  have hs0 := Below.size E1
  have hs1 := Below.size E1
  simp at hs1
  go_wp2_with (first
    | ((at_builtin; refine wpList_app (A := fun k => k < w.heap.size) (B := fun k => k < w.heap.size) (base := w1.heap.size) rfl (.tmp 12) (.tmp 13) rfl Try.underlying22 info_ll rfl (OwnS.litB (A := fun k => k < w.heap.size) (RdE.single (ln_rel (f := false) ((H2.out.lt.mono (fun k _ hk => hk.2)).ext (by repeat (first | with_reducible exact Ext.refl _ | refine Ext.drewN ?_ _ | refine Ext.drew ?_ | refine Ext.alloc ?_ _ | assumption | (refine Below.trans ?_ (by assumption)) | (refine Ext.trans ?_ (by assumption)) | (refine Below.trans ?_ (Below.mono (by assumption) (by omega)))))))) (by repeat (first | ((with_reducible refine Blk.at_ _ _ ?_); simp; done) | with_reducible refine Blk.drew ?_ | with_reducible refine Blk.alloc ?_ _ | refine Blk.ext ?_ (by assumption))) (fun k _ hk => ⟨hk, by have := E1.size; simp at this; omega⟩) (Nat.le_refl _) (m := 1) rfl (by decide)) rfl (RdY.ext (H.out.lt.mono (fun k _ hk => hk.2)).y (by repeat (first | with_reducible exact Ext.refl _ | refine Ext.drewN ?_ _ | refine Ext.drew ?_ | refine Ext.alloc ?_ _ | assumption | (refine Below.trans ?_ (by assumption)) | (refine Ext.trans ?_ (by assumption)) | (refine Below.trans ?_ (Below.mono (by assumption) (by omega)))))) rfl (fun k _ hk => ⟨hk, fun h => by simp [Value.ownBlock] at h; have := E1.size; simp at this; omega⟩) (N := 1 + ls.length) rfl (by simp [maxLen]; omega) (by omega) (by simp) ?_; intro A3 c3 w3 o3 M3 B3; clear M3))
    | ((go_at_call 8; refine (great_any _ ([(l, false)] ++ ls) _ o3.rdT.y).mono ?_; rintro e w2 ⟨rfl, E2⟩); rw [HG.out]))
  have E20 : Ext (w.alloc (.cells #[.slice Ad2 l.length c2, .bool false] 35)) w2 := (by repeat (first | with_reducible exact Ext.refl _ | refine Ext.drewN ?_ _ | refine Ext.drew ?_ | refine Ext.alloc ?_ _ | assumption | (refine Below.trans ?_ (by assumption)) | (refine Ext.trans ?_ (by assumption)) | (refine Below.trans ?_ (Below.mono (by assumption) (by omega)))))
  have hB2 := hbox.out.ext E20
  refine (to_any _ ls _ (H.out.y.ext (((Ext.refl _).alloc _).trans E20)) HU.out HL.out).mono ?_
  rintro e w4 ⟨A4, c4, rfl, o4, E4⟩
  (go_wp2_with fail; refine (used_any _ ls _ o4.rdT.y HU.out).mono ?_; rintro e w5 ⟨rfl, E5⟩)
  have E50 : Ext (w.alloc (.cells #[.slice Ad2 l.length c2, .bool false] 35)) w5 := E20.trans (E4.trans E5)
  clear q0 q1 o4 o3 E1 E2 E4 E5 E20 B3 hB2
  obtain ⟨q0, q1, _, _⟩ := (hbox.out.ext E50).two
  go_upto_region 9 with fail
  go_cut [7, 8] (fun s7 s8 wx => ∃ Ap cp, s7 = .slice Ap (putL ls (l, false)).1.length cp ∧ s8 = .bool (putL ls (l, false)).2 ∧ RdS Ln (fun _ => True) wx (.slice Ap (putL ls (l, false)).1.length cp) (putL ls (l, false)).1 ∧ Ext w5 wx)
  case first =>
    have hw5 := Below.size E50
    simp at hw5
    refine wp_region_held_drew (S := fun w' => Ext w5 w') (by kernel_rfl) (by repeat (first | with_reducible exact Ext.refl _ | refine Ext.drewN ?_ _ | refine Ext.drew ?_ | refine Ext.alloc ?_ _ | assumption | (refine Below.trans ?_ (by assumption)) | (refine Ext.trans ?_ (by assumption)) | (refine Below.trans ?_ (Below.mono (by assumption) (by omega))))) (fun hHeld => ?_)
    (refine wpAnyH_take (i := 0) (v := ?_) rfl (by kernel_rfl) (by kernel_rfl) (by kernel_rfl) (fun _ _ _ h => h) (Or.inl ⟨by rfl, ?_⟩) (by assumption) ?_; rotate_left; focus (intro w' hSw; go_simp; try with_reducible rfl); (try simp only [Act.put]); (try simp only [List.getElem_toArray]); (try simp only [List.getElem_cons_succ]); (try simp only [List.getElem_cons_zero]); (try simp only [List.setIfInBounds_toArray]); (try simp only [List.set_cons_succ]); (try simp only [List.set_cons_zero]))
    (refine wpAnyH_take (i := 2) (v := ?_) rfl (by kernel_rfl) (by kernel_rfl) (by kernel_rfl) (fun _ _ _ h => h) (Or.inl ⟨by rfl, ?_⟩) (by assumption) ?_; rotate_left; focus (intro w' hSw; have kc := cell_ext hSw q0; have kd := cell_ext hSw q1; go_simp; try with_reducible rfl); (try simp only [Act.put]); (try simp only [List.getElem_toArray]); (try simp only [List.getElem_cons_succ]); (try simp only [List.getElem_cons_zero]); (try simp only [List.setIfInBounds_toArray]); (try simp only [List.set_cons_succ]); (try simp only [List.set_cons_zero]))
    refine wpAnyH_ready (rs := [1, 3]) (by kernel_rfl) (by simp) ?_
    refine AllReadyH.cons rfl (fun K hK => ?_) (AllReadyH.cons rfl (fun K hK => ?_) AllReadyH.nil)
    · go_simp
      go_at_call 10
      refine (to_any _ ls _ (H.out.y.ext (Ext.trans (((Ext.refl w).alloc _).trans E50) hHeld)) HU.out HL.out).mono ?_
      rintro e w6 ⟨A6, c6, rfl, o6, E6⟩
      (try dsimp only)
      refine hK.out _ _ (Ext.trans hHeld E6) (fun hHeld => ?_)
      clear hK K
      (try simp only [Act.put]); (try simp only [List.getElem_toArray]); (try simp only [List.getElem_cons_succ]); (try simp only [List.getElem_cons_zero]); (try simp only [List.setIfInBounds_toArray]); (try simp only [List.set_cons_succ]); (try simp only [List.set_cons_zero])
      (refine wpAnyH_ready (rs := [3]) (by kernel_rfl) (by simp) ?_; refine AllReadyH.cons rfl (fun K hK => ?_) AllReadyH.nil; go_simp; refine hK.out _ _ (by repeat (first | with_reducible exact Ext.refl _ | refine Ext.drewN ?_ _ | refine Ext.drew ?_ | refine Ext.alloc ?_ _ | assumption | (refine Below.trans ?_ (by assumption)) | (refine Ext.trans ?_ (by assumption)) | (refine Below.trans ?_ (Below.mono (by assumption) (by omega))))) (fun hHeld => ?_); clear hK K; (try simp only [Act.put]); (try simp only [List.getElem_toArray]); (try simp only [List.getElem_cons_succ]); (try simp only [List.getElem_cons_zero]); (try simp only [List.setIfInBounds_toArray]); (try simp only [List.set_cons_succ]); (try simp only [List.set_cons_zero]))
      (refine wpAnyH_ready (rs := [4]) (by kernel_rfl) (by simp) ?_; refine AllReadyH.cons rfl (fun K hK => ?_) AllReadyH.nil; go_simp; go_at_call 10; refine (to_any _ [(l, false)] _ (ln_oneF (H2.out.ext (Ext.trans (((Ext.refl w).alloc _).trans E50) hHeld)) (Blk.new _ _ _)) HU1.out (by simp)).mono ?_; rintro e w7 ⟨A7, c7, rfl, o7, E7⟩; (try dsimp only); refine hK.out _ _ (by repeat (first | with_reducible exact Ext.refl _ | refine Ext.drewN ?_ _ | refine Ext.drew ?_ | refine Ext.alloc ?_ _ | assumption | (refine Below.trans ?_ (by assumption)) | (refine Ext.trans ?_ (by assumption)) | (refine Below.trans ?_ (Below.mono (by assumption) (by omega))))) (fun hHeld => ?_); clear hK K; (try simp only [Act.put]); (try simp only [List.getElem_toArray]); (try simp only [List.getElem_cons_succ]); (try simp only [List.getElem_cons_zero]); (try simp only [List.setIfInBounds_toArray]); (try simp only [List.set_cons_succ]); (try simp only [List.set_cons_zero]))
      obtain ⟨b7, off7, B7, m7, f7, d7, rfl, hx7, hy7, hd7', hr7, _, _⟩ := ln_at o7.y (j := 0) (by simp)
      have hq7 := hd7'.out
      simp only [List.getElem?_cons_zero, Option.some.injEq, Prod.mk.injEq] at hq7
      obtain ⟨rfl, rfl⟩ := hq7
      simp only [Nat.zero_mul, Nat.add_zero] at hx7 hy7
      clear hd7'
      have o6' := o6.rdT.ext (Ext.trans ((Ext.refl w6).alloc _) E7)
      (refine wpAnyH_take (i := 5) (v := ?_) rfl (by kernel_rfl) (by kernel_rfl) (by kernel_rfl) (fun _ _ _ h => h) (Or.inl ⟨by rfl, ?_⟩) (by assumption) ?_; rotate_left; focus (intro w' hSw; go_simp; try with_reducible rfl); (try simp only [Act.put]); (try simp only [List.getElem_toArray]); (try simp only [List.getElem_cons_succ]); (try simp only [List.getElem_cons_zero]); (try simp only [List.setIfInBounds_toArray]); (try simp only [List.set_cons_succ]); (try simp only [List.set_cons_zero]))
      (refine wpAnyH_ready (rs := [6]) (by kernel_rfl) (by simp) ?_; refine AllReadyH.cons rfl (fun K hK => ?_) AllReadyH.nil; go_simp; refine hK.out _ _ hHeld (fun hHeld => ?_); clear hK K; (try simp only [Act.put]); (try simp only [List.getElem_toArray]); (try simp only [List.getElem_cons_succ]); (try simp only [List.getElem_cons_zero]); (try simp only [List.setIfInBounds_toArray]); (try simp only [List.set_cons_succ]); (try simp only [List.set_cons_zero]))
      (refine wpAnyH_ready (rs := [7]) (by kernel_rfl) (by simp) ?_; refine AllReadyH.cons rfl (fun K hK => ?_) AllReadyH.nil; go_simp; go_at_call 16; refine (put_any _ _ ls l false _ o6' (RdS.mono (B := fun _ => True) hr7.out (fun _ _ _ => trivial)) HU2.out HL2.out).mono ?_; rintro e w8 ⟨A8, c8, rfl, o8, E8⟩; (try dsimp only); refine hK.out _ _ (by repeat (first | with_reducible exact Ext.refl _ | refine Ext.drewN ?_ _ | refine Ext.drew ?_ | refine Ext.alloc ?_ _ | assumption | (refine Below.trans ?_ (by assumption)) | (refine Ext.trans ?_ (by assumption)) | (refine Below.trans ?_ (Below.mono (by assumption) (by omega))))) (fun hHeld => ?_); clear hK K; (try simp only [Act.put]); (try simp only [List.getElem_toArray]); (try simp only [List.getElem_cons_succ]); (try simp only [List.getElem_cons_zero]); (try simp only [List.setIfInBounds_toArray]); (try simp only [List.set_cons_succ]); (try simp only [List.set_cons_zero]))
      (refine wpAnyH_take (i := 8) (v := ?_) rfl (by kernel_rfl) (by kernel_rfl) (by kernel_rfl) (fun _ _ _ h => h) (Or.inl ⟨by rfl, ?_⟩) (by assumption) ?_; rotate_left; focus (intro w' hSw; go_simp; try with_reducible rfl); (try simp only [Act.put]); (try simp only [List.getElem_toArray]); (try simp only [List.getElem_cons_succ]); (try simp only [List.getElem_cons_zero]); (try simp only [List.setIfInBounds_toArray]); (try simp only [List.set_cons_succ]); (try simp only [List.set_cons_zero]))
      (refine wpAnyH_take (i := 9) (v := ?_) rfl (by kernel_rfl) (by kernel_rfl) (by kernel_rfl) (fun _ _ _ h => h) (Or.inl ⟨by rfl, ?_⟩) (by assumption) ?_; rotate_left; focus (intro w' hSw; go_simp; try with_reducible rfl); (try simp only [Act.put]); (try simp only [List.getElem_toArray]); (try simp only [List.getElem_cons_succ]); (try simp only [List.getElem_cons_zero]); (try simp only [List.setIfInBounds_toArray]); (try simp only [List.set_cons_succ]); (try simp only [List.set_cons_zero]))
      (refine wpAnyH_take (i := 10) (v := ?_) rfl (by kernel_rfl) (by kernel_rfl) (by kernel_rfl) (fun _ _ _ h => h) (Or.inl ⟨by rfl, ?_⟩) (by assumption) ?_; rotate_left; focus (intro w' hSw; go_simp; try with_reducible rfl); (try simp only [Act.put]); (try simp only [List.getElem_toArray]); (try simp only [List.getElem_cons_succ]); (try simp only [List.getElem_cons_zero]); (try simp only [List.setIfInBounds_toArray]); (try simp only [List.set_cons_succ]); (try simp only [List.set_cons_zero]))
      (refine wpAnyH_take (i := 11) (v := ?_) rfl (by kernel_rfl) (by kernel_rfl) (by kernel_rfl) (fun _ _ _ h => h) (Or.inl ⟨by rfl, ?_⟩) (by assumption) ?_; rotate_left; focus (intro w' hSw; go_simp; try with_reducible rfl); (try simp only [Act.put]); (try simp only [List.getElem_toArray]); (try simp only [List.getElem_cons_succ]); (try simp only [List.getElem_cons_zero]); (try simp only [List.setIfInBounds_toArray]); (try simp only [List.set_cons_succ]); (try simp only [List.set_cons_zero]))
      (refine wpAnyH_take (i := 12) (v := ?_) rfl (by kernel_rfl) (by kernel_rfl) (by kernel_rfl) (fun _ _ _ h => h) (Or.inl ⟨by rfl, ?_⟩) (by assumption) ?_; rotate_left; focus (intro w' hSw; go_simp; try with_reducible rfl); (try simp only [Act.put]); (try simp only [List.getElem_toArray]); (try simp only [List.getElem_cons_succ]); (try simp only [List.getElem_cons_zero]); (try simp only [List.setIfInBounds_toArray]); (try simp only [List.set_cons_succ]); (try simp only [List.set_cons_zero]))
      refine wpAnyH_done (by kernel_rfl) ?_ _
      go_wp2_with fail
      go_meet
      exact ⟨_, _, rfl, rfl, o8.rdT, hHeld⟩
    · go_simp
      refine hK.out _ _ (by repeat (first | with_reducible exact Ext.refl _ | refine Ext.drewN ?_ _ | refine Ext.drew ?_ | refine Ext.alloc ?_ _ | assumption | (refine Below.trans ?_ (by assumption)) | (refine Ext.trans ?_ (by assumption)) | (refine Below.trans ?_ (Below.mono (by assumption) (by omega))))) (fun hHeld => ?_)
      clear hK K
      (try simp only [Act.put]); (try simp only [List.getElem_toArray]); (try simp only [List.getElem_cons_succ]); (try simp only [List.getElem_cons_zero]); (try simp only [List.setIfInBounds_toArray]); (try simp only [List.set_cons_succ]); (try simp only [List.set_cons_zero])
      have hBn := Lib.hid (Blk.new w5.drew 35 #[.slice Ad2 l.length c2, .bool false])
      (refine wpAnyH_ready (rs := [1]) (by kernel_rfl) (by simp) ?_; refine AllReadyH.cons rfl (fun K hK => ?_) AllReadyH.nil; go_simp; go_at_call 10; refine (to_any _ ls _ (H.out.y.ext (Ext.trans (((Ext.refl w).alloc _).trans E50) hHeld)) HU.out HL.out).mono ?_; rintro e w6 ⟨A6, c6, rfl, o6, E6⟩; (try dsimp only); refine hK.out _ _ (by repeat (first | with_reducible exact Ext.refl _ | refine Ext.drewN ?_ _ | refine Ext.drew ?_ | refine Ext.alloc ?_ _ | assumption | (refine Below.trans ?_ (by assumption)) | (refine Ext.trans ?_ (by assumption)) | (refine Below.trans ?_ (Below.mono (by assumption) (by omega))))) (fun hHeld => ?_); clear hK K; (try simp only [Act.put]); (try simp only [List.getElem_toArray]); (try simp only [List.getElem_cons_succ]); (try simp only [List.getElem_cons_zero]); (try simp only [List.setIfInBounds_toArray]); (try simp only [List.set_cons_succ]); (try simp only [List.set_cons_zero]))
      (refine wpAnyH_ready (rs := [4]) (by kernel_rfl) (by simp) ?_; refine AllReadyH.cons rfl (fun K hK => ?_) AllReadyH.nil; go_simp; go_at_call 10; refine (to_any _ [(l, false)] _ (ln_oneF (H2.out.ext (Ext.trans (((Ext.refl w).alloc _).trans E50) hHeld)) (hBn.out.ext E6)) HU1.out (by simp)).mono ?_; rintro e w7 ⟨A7, c7, rfl, o7, E7⟩; (try dsimp only); refine hK.out _ _ (by repeat (first | with_reducible exact Ext.refl _ | refine Ext.drewN ?_ _ | refine Ext.drew ?_ | refine Ext.alloc ?_ _ | assumption | (refine Below.trans ?_ (by assumption)) | (refine Ext.trans ?_ (by assumption)) | (refine Below.trans ?_ (Below.mono (by assumption) (by omega))))) (fun hHeld => ?_); clear hK K; (try simp only [Act.put]); (try simp only [List.getElem_toArray]); (try simp only [List.getElem_cons_succ]); (try simp only [List.getElem_cons_zero]); (try simp only [List.setIfInBounds_toArray]); (try simp only [List.set_cons_succ]); (try simp only [List.set_cons_zero]))
      obtain ⟨b7, off7, B7, m7, f7, d7, rfl, hx7, hy7, hd7', hr7, _, _⟩ := ln_at o7.y (j := 0) (by simp)
      have hq7 := hd7'.out
      simp only [List.getElem?_cons_zero, Option.some.injEq, Prod.mk.injEq] at hq7
      obtain ⟨rfl, rfl⟩ := hq7
      simp only [Nat.zero_mul, Nat.add_zero] at hx7 hy7
      clear hd7'
      have o6' := o6.rdT.ext E7
      (refine wpAnyH_take (i := 5) (v := ?_) rfl (by kernel_rfl) (by kernel_rfl) (by kernel_rfl) (fun _ _ _ h => h) (Or.inl ⟨by rfl, ?_⟩) (by assumption) ?_; rotate_left; focus (intro w' hSw; go_simp; try with_reducible rfl); (try simp only [Act.put]); (try simp only [List.getElem_toArray]); (try simp only [List.getElem_cons_succ]); (try simp only [List.getElem_cons_zero]); (try simp only [List.setIfInBounds_toArray]); (try simp only [List.set_cons_succ]); (try simp only [List.set_cons_zero]))
      (refine wpAnyH_ready (rs := [6]) (by kernel_rfl) (by simp) ?_; refine AllReadyH.cons rfl (fun K hK => ?_) AllReadyH.nil; go_simp; refine hK.out _ _ hHeld (fun hHeld => ?_); clear hK K; (try simp only [Act.put]); (try simp only [List.getElem_toArray]); (try simp only [List.getElem_cons_succ]); (try simp only [List.getElem_cons_zero]); (try simp only [List.setIfInBounds_toArray]); (try simp only [List.set_cons_succ]); (try simp only [List.set_cons_zero]))
      (refine wpAnyH_ready (rs := [7]) (by kernel_rfl) (by simp) ?_; refine AllReadyH.cons rfl (fun K hK => ?_) AllReadyH.nil; go_simp; go_at_call 16; refine (put_any _ _ ls l false _ o6' (RdS.mono (B := fun _ => True) hr7.out (fun _ _ _ => trivial)) HU2.out HL2.out).mono ?_; rintro e w8 ⟨A8, c8, rfl, o8, E8⟩; (try dsimp only); refine hK.out _ _ (by repeat (first | with_reducible exact Ext.refl _ | refine Ext.drewN ?_ _ | refine Ext.drew ?_ | refine Ext.alloc ?_ _ | assumption | (refine Below.trans ?_ (by assumption)) | (refine Ext.trans ?_ (by assumption)) | (refine Below.trans ?_ (Below.mono (by assumption) (by omega))))) (fun hHeld => ?_); clear hK K; (try simp only [Act.put]); (try simp only [List.getElem_toArray]); (try simp only [List.getElem_cons_succ]); (try simp only [List.getElem_cons_zero]); (try simp only [List.setIfInBounds_toArray]); (try simp only [List.set_cons_succ]); (try simp only [List.set_cons_zero]))
      (refine wpAnyH_take (i := 8) (v := ?_) rfl (by kernel_rfl) (by kernel_rfl) (by kernel_rfl) (fun _ _ _ h => h) (Or.inl ⟨by rfl, ?_⟩) (by assumption) ?_; rotate_left; focus (intro w' hSw; go_simp; try with_reducible rfl); (try simp only [Act.put]); (try simp only [List.getElem_toArray]); (try simp only [List.getElem_cons_succ]); (try simp only [List.getElem_cons_zero]); (try simp only [List.setIfInBounds_toArray]); (try simp only [List.set_cons_succ]); (try simp only [List.set_cons_zero]))
      (refine wpAnyH_take (i := 9) (v := ?_) rfl (by kernel_rfl) (by kernel_rfl) (by kernel_rfl) (fun _ _ _ h => h) (Or.inl ⟨by rfl, ?_⟩) (by assumption) ?_; rotate_left; focus (intro w' hSw; go_simp; try with_reducible rfl); (try simp only [Act.put]); (try simp only [List.getElem_toArray]); (try simp only [List.getElem_cons_succ]); (try simp only [List.getElem_cons_zero]); (try simp only [List.setIfInBounds_toArray]); (try simp only [List.set_cons_succ]); (try simp only [List.set_cons_zero]))
      (refine wpAnyH_take (i := 10) (v := ?_) rfl (by kernel_rfl) (by kernel_rfl) (by kernel_rfl) (fun _ _ _ h => h) (Or.inl ⟨by rfl, ?_⟩) (by assumption) ?_; rotate_left; focus (intro w' hSw; go_simp; try with_reducible rfl); (try simp only [Act.put]); (try simp only [List.getElem_toArray]); (try simp only [List.getElem_cons_succ]); (try simp only [List.getElem_cons_zero]); (try simp only [List.setIfInBounds_toArray]); (try simp only [List.set_cons_succ]); (try simp only [List.set_cons_zero]))
      (refine wpAnyH_take (i := 11) (v := ?_) rfl (by kernel_rfl) (by kernel_rfl) (by kernel_rfl) (fun _ _ _ h => h) (Or.inl ⟨by rfl, ?_⟩) (by assumption) ?_; rotate_left; focus (intro w' hSw; go_simp; try with_reducible rfl); (try simp only [Act.put]); (try simp only [List.getElem_toArray]); (try simp only [List.getElem_cons_succ]); (try simp only [List.getElem_cons_zero]); (try simp only [List.setIfInBounds_toArray]); (try simp only [List.set_cons_succ]); (try simp only [List.set_cons_zero]))
      (refine wpAnyH_take (i := 12) (v := ?_) rfl (by kernel_rfl) (by kernel_rfl) (by kernel_rfl) (fun _ _ _ h => h) (Or.inl ⟨by rfl, ?_⟩) (by assumption) ?_; rotate_left; focus (intro w' hSw; go_simp; try with_reducible rfl); (try simp only [Act.put]); (try simp only [List.getElem_toArray]); (try simp only [List.getElem_cons_succ]); (try simp only [List.getElem_cons_zero]); (try simp only [List.setIfInBounds_toArray]); (try simp only [List.set_cons_succ]); (try simp only [List.set_cons_zero]))
      refine wpAnyH_done (by kernel_rfl) ?_ _
      go_wp2_with fail
      go_meet
      exact ⟨_, _, rfl, rfl, o8.rdT, hHeld⟩
  case rest =>
    obtain ⟨Ap, cp, rfl, rfl, hR, hE⟩ := hcut
    have HZ : Hid (szL (l, false) = (l.length : Int)) := Lib.hid (by simp [szL])
    have hsum : usedL ls + ((l.length : Int)) ≤ 140737488355328 := by rw [← HZ.out]; exact HU2.out
    have E5c : Ext (w.alloc (.cells #[.slice Ad2 l.length c2, .bool false] 35)) wc := E50.trans hE
    have Ewc : Ext w wc := ((Ext.refl _).alloc _).trans E5c
    have PR := Lib.hid hR
    clear hE E50 q0 q1 hR hz0
    by_cases hp : usedL ls + ((l.length : Int)) ≤ 1024
    · have HP : Hid (putL ls (l, false) = (ls ++ [(l, false)], true)) := Lib.hid (if_pos (by rw [HZ.out]; exact hp))
      simp only [HP.out] at PR ⊢
      have HN : Hid ((ls ++ [(l, false)]).length = ls.length + 1) := Lib.hid (by simp)
      have HUs : Hid (usedL (ls ++ [(l, false)]) = usedL ls + ((l.length : Int))) := Lib.hid (by rw [usedL_snoc, HZ.out])
      obtain ⟨b, off, _, d, cs, hv, _, _, _, _⟩ := PR.out.y.cells (j := 0) (by simp)
      simp only [Value.slice.injEq] at hv
      obtain ⟨rfl, -, rfl⟩ := hv
      obtain ⟨_, _, hv, hcp1, hcp2⟩ := PR.out.shape
      simp only [Value.slice.injEq] at hv
      obtain ⟨-, -, rfl⟩ := hv
      rw [HN.out] at hcp1
      have P1 : Hid (RdS Ln (fun _ => True) wc (.slice (some ⟨b, off, none⟩) ls.length cp) ls) := Lib.hid (by have := PR.out.to_ (k := ls.length) (by simp); simpa using this)
      have hcpn : ¬ cp = ls.length := by omega
      have P2 : Hid (RdS Ln (fun _ => True) wc (.slice (some ⟨b, off + ls.length * 2, none⟩) 1 (cp - ls.length)) [(l, false)]) := Lib.hid (by
        have := ln_from PR.out (k := ls.length) (by simp) hcpn
        simpa using this)
      obtain ⟨q0, q1, _, _⟩ := (hbox.out.ext E5c).two
      simp only [HN.out] at PR ⊢
      have hwc := Below.size E5c
      simp at hwc
      have HUb : Hid (usedL (ls ++ [(l, false)]) ≤ 140737488355328) := Lib.hid (by rw [HUs.out]; exact hsum)
      have j1 : (0 : Int) ≤ (ls.length : Int) := by omega
      have j2 : (ls.length : Int) ≤ (cp : Int) := by omega
      have j3 : (ls.length : Int) ≤ (ls.length : Int) + 1 := by omega
      have hw1 : IntKind.i64.wrap (usedL ls + ((l.length : Int))) = usedL ls + ((l.length : Int)) := IntWalk.i64_in _ (by omega)
      have hw2 : IntKind.i64.wrap ((ls.length : Int) + 1) = (ls.length : Int) + 1 := IntWalk.i64_in _ (by omega)
      go_wp2_with fail
      clear hbox
      go_region_held3 (fun w' => Ext wc w' ∧ w'.cell? ⟨w.heap.size, 0, none⟩ = some (.slice Ad2 l.length c2) ∧ w'.cell? ⟨w.heap.size, 1, none⟩ = some (.bool false)) (first | exact ⟨(Ext.refl _).drew, q0, q1⟩ | (refine ks_ext (by assumption) ?_; first | assumption | exact (Ext.refl _).alloc _ | exact Ext.refl _)) ((first
        | ((go_at_call 15; (with_reducible refine (used_any _ (ls ++ [(l, false)]) _ (PR.out.y.ext (And.left (by assumption))) HUb.out).mono ?_); rintro e w20 ⟨rfl, E20⟩); rw [HUs.out])
        | ((go_at_call 12; (with_reducible refine (from_any (.slice (some ⟨b, off, none⟩) ls.length cp) ls _ (P1.out.y.ext (And.left (by assumption))) HL.out).mono ?_); rintro e w21 ⟨A21, c21, rfl, o21, E21⟩); have R21 := Lib.hid o21.rdT.y; clear o21)
        | ((go_at_call 13; (with_reducible refine (ref_any (.slice Ad ls.length c) ls _ (H.out.y.ext (Ext.trans Ewc (And.left (by assumption)))) HL.out).mono ?_); rintro e w22 ⟨A22, c22, rfl, o22, E22⟩); have R22 := Lib.hid o22.rdT.y; clear o22)
        | ((go_at_call 11; (with_reducible refine (same_any (.slice A21 ls.length c21) _ ls ls _ (R21.out.ext E22) R22.out).mono ?_); rintro e w23 ⟨rfl, E23⟩))
        | ((go_at_call 12; (with_reducible refine (from_any _ [(l, false)] _ (P2.out.y.ext (And.left (by assumption))) (by simp)).mono ?_); rintro e w24 ⟨A24, c24, rfl, o24, E24⟩); have R24 := Lib.hid (show RdY Ln (fun _ => True) w24 (.slice A24 1 c24) [(l, false)] from o24.rdT.y); clear o24)
        | ((go_at_call 13; (with_reducible refine (ref_any _ [(l, false)] _ (ln_oneF (H2.out.ext (Ext.trans Ewc (And.left (by assumption)))) (Blk.new _ _ _)) (by simp)).mono ?_); rintro e w25 ⟨A25, c25, rfl, o25, E25⟩); have R25 := Lib.hid (show RdY Ln (fun _ => True) w25 (.slice A25 1 c25) [(l, false)] from o25.rdT.y); clear o25)
        | ((go_at_call 13; (with_reducible refine (ref_any _ [(l, false)] _ (ln_oneF (H2.out.ext (Ext.trans Ewc (And.left (by assumption)))) (Blk.ext (Blk.new w23 _ _) E24)) (by simp)).mono ?_); rintro e w25 ⟨A25, c25, rfl, o25, E25⟩); have R25 := Lib.hid (show RdY Ln (fun _ => True) w25 (.slice A25 1 c25) [(l, false)] from o25.rdT.y); clear o25)
        | ((go_at_call 11; (with_reducible refine (same_any (.slice A24 1 c24) (.slice A25 1 c25) [(l, false)] [(l, false)] _ (R24.out.ext (by repeat (first | with_reducible exact Ext.refl _ | refine Ext.drewN ?_ _ | refine Ext.drew ?_ | refine Ext.alloc ?_ _ | assumption | (refine Below.trans ?_ (by assumption)) | (refine Ext.trans ?_ (by assumption)) | (refine Below.trans ?_ (Below.mono (by assumption) (by omega)))))) R25.out).mono ?_); rintro e w26 ⟨rfl, E26⟩))))
      all_goals go_wp2
      all_goals go_ret
      all_goals exact ⟨by simp, Ext.trans Ewc (And.left (by assumption))⟩
    · have HP : Hid (putL ls (l, false) = (ls, false)) := Lib.hid (if_neg (by rw [HZ.out]; exact hp))
      simp only [HP.out] at PR ⊢
      go_wp2_with fail
      refine (from_any _ ls _ PR.out.y HL.out).mono ?_
      rintro e w16 ⟨A16, c16, rfl, o16, E16⟩
      have R16 := Lib.hid o16.rdT.y
      clear o16
      (go_wp2_with fail; refine (ref_any _ ls _ (H.out.y.ext (Ewc.trans E16)) HL.out).mono ?_; rintro e w17 ⟨A17, c17, rfl, o17, E17⟩)
      have R17 := Lib.hid o17.rdT.y
      clear o17
      (go_wp2_with fail; refine (same_any _ _ ls ls _ (R16.out.ext E17) R17.out).mono ?_; rintro e w18 ⟨rfl, E18⟩)
      simp only [decide_true]
      go_wp2_with fail
      go_ret
      exact ⟨rfl, Ewc.trans (E16.trans (E17.trans E18))⟩
end Go.Proofs.Ytgahpclgdhghjaa
