/- Put and Read of the document, by contract. Conditions: lengths within the reach. -/
import Derived.Test.YtgahpclgdhghjaaE13
namespace Go.Proofs.Ytgahpclgdhghjaa
open Go.RowKit Go.Kb

set_option maxHeartbeats 800000 in
theorem rput_any {A : Nat → Prop} (v v2 : Value) (ls : List (List Int × Bool)) (l : List Int) (f : Bool) (w : World) (h : RdS Ln A w v ls) (h2 : RdS Ub A w v2 l) (hn : usedL ls + szL (l, f) ≤ 140737488355328) (hm : ls.length ≤ 1000000) :
    Calls Try.prog 18 #[v, .agg #[v2, .bool f]] w fun e w' => ∃ Ad c, e = .returned (.tuple #[.slice Ad (putL ls (l, f)).1.length c, .bool (putL ls (l, f)).2]) ∧ RdS Ln (fun _ => True) w' (.slice Ad (putL ls (l, f)).1.length c) (putL ls (l, f)).1 ∧ Ext w w' := by
  obtain ⟨Ad, c, rfl, hc1, hc2⟩ := h.shape
  obtain ⟨Ad2, c2, rfl, hc3, hc4⟩ := h2.shape
  have H := Lib.hid (h.mono (B := fun _ => True) fun _ _ _ => trivial)
  have H2 := Lib.hid (h2.mono (B := fun _ => True) fun _ _ _ => trivial)
  have h0 := usedL_nn ls
  have h1 := szL_nn (l, f)
  have h5 : l.length ≤ 140737488355328 := by
    have : (l.length : Int) ≤ szL (l, f) := by unfold szL; split <;> simp <;> omega
    omega
  have hU1 : Hid (usedL ls ≤ 140737488355328) := Lib.hid (by omega)
  have hU2 : Hid (usedL [(l, f)] ≤ 140737488355328) := Lib.hid (by simp only [usedL, List.map_cons, List.map_nil, List.sum_cons, List.sum_nil]; omega)
  have hU3 : Hid (usedL (ls ++ [(l, f)]) = usedL ls + szL (l, f)) := Lib.hid (usedL_snoc _ _)
  obtain ⟨u, hu⟩ : ∃ u, usedL ls + szL (l, f) = u := ⟨_, rfl⟩
  have HU := Lib.hid hu
  rw [hu] at hn
  clear h h2 h0 h1 hu
  go_enter Try.func18, Try.ntmps18
  go_wp2_with fail
  refine (copy_any _ ls _ (H.out.y.ext (by repeat (first | with_reducible exact Ext.refl _ | refine Ext.drewN ?_ _ | refine Ext.drew ?_ | refine Ext.alloc ?_ _ | assumption | (refine Below.trans ?_ (by assumption)) | (refine Ext.trans ?_ (by assumption)) | (refine Below.trans ?_ (Below.mono (by assumption) (by omega)))))) hU1.out (by omega)).mono ?_
  rintro e w1 ⟨A1, c1, rfl, O1, E1⟩
  have O1 := Lib.hid O1
  have B1 : Blk w1 w.heap.size 47 #[.slice Ad2 l.length c2, .bool f] := Blk.ext (Blk.at_ _ _ rfl) E1
  have E1 : Ext w w1 := (by repeat (first | with_reducible exact Ext.refl _ | refine Ext.drewN ?_ _ | refine Ext.drew ?_ | refine Ext.alloc ?_ _ | assumption | (refine Below.trans ?_ (by assumption)) | (refine Ext.trans ?_ (by assumption)) | (refine Below.trans ?_ (Below.mono (by assumption) (by omega)))))
  have HB1 := Lib.hid B1
  clear B1
  go_wp2
  refine wp_region_held_drew (S := fun w' => Ext w1 w') (by kernel_rfl) (Ext.drew (Ext.refl _)) (fun hHeld => ?_)
  (refine wpAnyH_take (i := 0) (v := ?_) rfl (by kernel_rfl) (by kernel_rfl) (by kernel_rfl) (fun _ _ _ h => h) (Or.inl ⟨by rfl, ?_⟩) (by assumption) ?_; rotate_left; (focus (intro w' hSw; go_simp; try with_reducible rfl)); (try simp only [List.getElem_toArray]); (try simp only [List.getElem_cons_succ]); (try simp only [List.getElem_cons_zero]); (try simp only [Act.put]); (try simp only [List.setIfInBounds_toArray]); (try simp only [List.set_cons_succ]); (try simp only [List.set_cons_zero]))
  (refine wpAnyH_take (i := 2) (v := ?_) rfl (by kernel_rfl) (by kernel_rfl) (by kernel_rfl) (fun _ _ _ h => h) (Or.inl ⟨by rfl, ?_⟩) (by assumption) ?_; rotate_left; (focus (intro w' hSw; have kc := (HB1.out.ext hSw).two; go_simp; try with_reducible rfl)); (try simp only [List.getElem_toArray]); (try simp only [List.getElem_cons_succ]); (try simp only [List.getElem_cons_zero]); (try simp only [Act.put]); (try simp only [List.setIfInBounds_toArray]); (try simp only [List.set_cons_succ]); (try simp only [List.set_cons_zero]))
  refine wpAnyH_ready (rs := [1, 3]) (by kernel_rfl) (by simp) ?_
  refine AllReadyH.cons rfl (fun K hK => ?_) (AllReadyH.cons rfl (fun K hK => ?_) AllReadyH.nil)
  · go_simp
    go_at_call 25
    refine (copy_any _ ls _ (H.out.y.ext (by repeat (first | with_reducible exact Ext.refl _ | refine Ext.drewN ?_ _ | refine Ext.drew ?_ | refine Ext.alloc ?_ _ | assumption | (refine Below.trans ?_ (by assumption)) | (refine Ext.trans ?_ (by assumption)) | (refine Below.trans ?_ (Below.mono (by assumption) (by omega)))))) hU1.out (by omega)).mono ?_
    rintro e w2 ⟨A2, c2', rfl, O2, E2⟩
    have O2 := Lib.hid O2
    (try dsimp only); refine hK.out _ _ (by repeat (first | with_reducible exact Ext.refl _ | refine Ext.drewN ?_ _ | refine Ext.drew ?_ | refine Ext.alloc ?_ _ | assumption | (refine Below.trans ?_ (by assumption)) | (refine Ext.trans ?_ (by assumption)) | (refine Below.trans ?_ (Below.mono (by assumption) (by omega))))) (fun hHeld => ?_); clear hK K; (try simp only [Act.put]); (try simp only [List.getElem_toArray]); (try simp only [List.getElem_cons_succ]); (try simp only [List.getElem_cons_zero]); (try simp only [List.setIfInBounds_toArray]); (try simp only [List.set_cons_succ]); (try simp only [List.set_cons_zero])
    (refine wpAnyH_ready (rs := [3]) (by kernel_rfl) (by simp) ?_; refine AllReadyH.cons rfl (fun K hK => ?_) AllReadyH.nil; go_simp; refine hK.out _ _ (by repeat (first | with_reducible exact Ext.refl _ | refine Ext.drewN ?_ _ | refine Ext.drew ?_ | refine Ext.alloc ?_ _ | assumption | (refine Below.trans ?_ (by assumption)) | (refine Ext.trans ?_ (by assumption)) | (refine Below.trans ?_ (Below.mono (by assumption) (by omega))))) (fun hHeld => ?_); clear hK K; (try simp only [Act.put]); (try simp only [List.getElem_toArray]); (try simp only [List.getElem_cons_succ]); (try simp only [List.getElem_cons_zero]); (try simp only [List.setIfInBounds_toArray]); (try simp only [List.set_cons_succ]); (try simp only [List.set_cons_zero]))
    (refine wpAnyH_ready (rs := [4]) (by kernel_rfl) (by simp) ?_; refine AllReadyH.cons rfl (fun K hK => ?_) AllReadyH.nil; go_simp; go_at_call 25; refine (copy_any (A := fun _ => True) _ [(l, f)] _ (RdY.singleB (ln_rel (H2.out.ext (by repeat (first | with_reducible exact Ext.refl _ | refine Ext.drewN ?_ _ | refine Ext.drew ?_ | refine Ext.alloc ?_ _ | assumption | (refine Below.trans ?_ (by assumption)) | (refine Ext.trans ?_ (by assumption)) | (refine Below.trans ?_ (Below.mono (by assumption) (by omega))))))) (Blk.at_ _ _ rfl)) hU2.out (by simp)).mono ?_; rintro e w3 ⟨A3, c3, rfl, O3, E3⟩; (try dsimp only); refine hK.out _ _ (by repeat (first | with_reducible exact Ext.refl _ | refine Ext.drewN ?_ _ | refine Ext.drew ?_ | refine Ext.alloc ?_ _ | assumption | (refine Below.trans ?_ (by assumption)) | (refine Ext.trans ?_ (by assumption)) | (refine Below.trans ?_ (Below.mono (by assumption) (by omega))))) (fun hHeld => ?_); clear hK K; (try simp only [Act.put]); (try simp only [List.getElem_toArray]); (try simp only [List.getElem_cons_succ]); (try simp only [List.getElem_cons_zero]); (try simp only [List.setIfInBounds_toArray]); (try simp only [List.set_cons_succ]); (try simp only [List.set_cons_zero]))
    have hl1 : [(l, f)].length = 1 := rfl
    rw [hl1] at O3 ⊢
    have E23 : Ext w2 w3 := (Ext.trans ((Ext.refl _).alloc _) E3)
    have E13 : Ext w1 w3 := by assumption
    have hs2 : w1.heap.size ≤ w2.heap.size := Below.size (show Ext w1 w2 by assumption)
    have hs3 : w2.heap.size ≤ w3.heap.size := E23.size
    have hsw := E1.size
    have O3 := Lib.hid O3
    (refine wpAnyH_ready (rs := [5]) (by kernel_rfl) (by simp) ?_; refine AllReadyH.cons rfl (fun K hK => ?_) AllReadyH.nil)
    refine step_app (e := Ln) (base := w.heap.size) (B := fun k => w.heap.size ≤ k) (A := fun k => w2.heap.size ≤ k) rfl (.tmp 11) (.tmp 14) rfl Try.underlying31 info_rl rfl (((O2.out.ext E23).lower (by simp; omega)).mono fun k _ hk => by simp at hk; omega) rfl ((O3.out.rd (A := fun k => w2.heap.size ≤ k) (fun k hk => Nat.le_trans (by (try simp) <;> omega) hk) (fun k hk => Nat.le_trans (by (try simp) <;> omega) hk)).y) rfl (fun k _ hk => ⟨Nat.le_trans (by omega) hk, O2.out.newer hk⟩) (N := ls.length + 1) rfl (by simp [maxLen]; omega) (by omega) (by omega) ?_
    intro A5 c5 w5 O5 M5 B5
    have E5 : Ext w1 w5 := Mod.toExt E13 M5 fun k hk hv => by have := (O2.out.row k hv).1; simp at this; omega
    refine hK.out _ _ E5 (fun hHeld => ?_)
    clear hK K
    (try simp only [Act.put]); (try simp only [List.getElem_toArray]); (try simp only [List.getElem_cons_succ]); (try simp only [List.getElem_cons_zero]); (try simp only [List.setIfInBounds_toArray]); (try simp only [List.set_cons_succ]); (try simp only [List.set_cons_zero])
    (refine wpAnyH_take (i := 6) (v := ?_) rfl (by kernel_rfl) (by kernel_rfl) (by kernel_rfl) (fun _ _ _ h => h) (Or.inl ⟨by rfl, ?_⟩) (by assumption) ?_; rotate_left; (focus (intro w' hSw; go_simp; try with_reducible rfl)); (try simp only [List.getElem_toArray]); (try simp only [List.getElem_cons_succ]); (try simp only [List.getElem_cons_zero]); (try simp only [Act.put]); (try simp only [List.setIfInBounds_toArray]); (try simp only [List.set_cons_succ]); (try simp only [List.set_cons_zero]))
    refine wpAnyH_done (by kernel_rfl) ?_ _
    have O5 := Lib.hid O5
    clear M5 B5
    go_wp2_with fail
    refine (rused_any _ (ls ++ [(l, f)]) _ (O5.out.rdT.y.ext (by repeat (first | with_reducible exact Ext.refl _ | refine Ext.drewN ?_ _ | refine Ext.drew ?_ | refine Ext.alloc ?_ _ | assumption | (refine Below.trans ?_ (by assumption)) | (refine Ext.trans ?_ (by assumption)) | (refine Below.trans ?_ (Below.mono (by assumption) (by omega)))))) (by rw [hU3.out, HU.out]; omega)).mono ?_
    rintro e w6 ⟨rfl, E6⟩
    rw [hU3.out, HU.out]
    by_cases hp : u ≤ 1024
    · go_wp2
      go_ret2
      have HP : putL ls (l, f) = (ls ++ [(l, f)], true) := if_pos (by rw [HU.out]; exact hp)
      rw [HP]
      exact ⟨A5, c5, by simp, by simpa using O5.out.rdT.ext E6, (by repeat (first | with_reducible exact Ext.refl _ | refine Ext.drewN ?_ _ | refine Ext.drew ?_ | refine Ext.alloc ?_ _ | assumption | (refine Below.trans ?_ (by assumption)) | (refine Ext.trans ?_ (by assumption)) | (refine Below.trans ?_ (Below.mono (by assumption) (by omega)))))⟩
    · go_wp2
      go_ret2
      have HP : putL ls (l, f) = (ls, false) := if_neg (by rw [HU.out]; omega)
      rw [HP]
      exact ⟨A1, c1, rfl, O1.out.rdT.ext (by repeat (first | with_reducible exact Ext.refl _ | refine Ext.drewN ?_ _ | refine Ext.drew ?_ | refine Ext.alloc ?_ _ | assumption | (refine Below.trans ?_ (by assumption)) | (refine Ext.trans ?_ (by assumption)) | (refine Below.trans ?_ (Below.mono (by assumption) (by omega))))), (by repeat (first | with_reducible exact Ext.refl _ | refine Ext.drewN ?_ _ | refine Ext.drew ?_ | refine Ext.alloc ?_ _ | assumption | (refine Below.trans ?_ (by assumption)) | (refine Ext.trans ?_ (by assumption)) | (refine Below.trans ?_ (Below.mono (by assumption) (by omega)))))⟩
  · go_simp; refine hK.out _ _ (by repeat (first | with_reducible exact Ext.refl _ | refine Ext.drewN ?_ _ | refine Ext.drew ?_ | refine Ext.alloc ?_ _ | assumption | (refine Below.trans ?_ (by assumption)) | (refine Ext.trans ?_ (by assumption)) | (refine Below.trans ?_ (Below.mono (by assumption) (by omega))))) (fun hHeld => ?_); clear hK K; (try simp only [Act.put]); (try simp only [List.getElem_toArray]); (try simp only [List.getElem_cons_succ]); (try simp only [List.getElem_cons_zero]); (try simp only [List.setIfInBounds_toArray]); (try simp only [List.set_cons_succ]); (try simp only [List.set_cons_zero])
    (refine wpAnyH_ready (rs := [1]) (by kernel_rfl) (by simp) ?_; refine AllReadyH.cons rfl (fun K hK => ?_) AllReadyH.nil)
    go_simp
    go_at_call 25
    refine (copy_any _ ls _ (H.out.y.ext (by repeat (first | with_reducible exact Ext.refl _ | refine Ext.drewN ?_ _ | refine Ext.drew ?_ | refine Ext.alloc ?_ _ | assumption | (refine Below.trans ?_ (by assumption)) | (refine Ext.trans ?_ (by assumption)) | (refine Below.trans ?_ (Below.mono (by assumption) (by omega)))))) hU1.out (by omega)).mono ?_
    rintro e w2 ⟨A2, c2', rfl, O2, E2⟩
    have O2 := Lib.hid O2
    (try dsimp only); refine hK.out _ _ (by repeat (first | with_reducible exact Ext.refl _ | refine Ext.drewN ?_ _ | refine Ext.drew ?_ | refine Ext.alloc ?_ _ | assumption | (refine Below.trans ?_ (by assumption)) | (refine Ext.trans ?_ (by assumption)) | (refine Below.trans ?_ (Below.mono (by assumption) (by omega))))) (fun hHeld => ?_); clear hK K; (try simp only [Act.put]); (try simp only [List.getElem_toArray]); (try simp only [List.getElem_cons_succ]); (try simp only [List.getElem_cons_zero]); (try simp only [List.setIfInBounds_toArray]); (try simp only [List.set_cons_succ]); (try simp only [List.set_cons_zero])
    (refine wpAnyH_ready (rs := [4]) (by kernel_rfl) (by simp) ?_; refine AllReadyH.cons rfl (fun K hK => ?_) AllReadyH.nil; go_simp; go_at_call 25; refine (copy_any (A := fun _ => True) _ [(l, f)] _ (RdY.singleB (ln_rel (H2.out.ext (by repeat (first | with_reducible exact Ext.refl _ | refine Ext.drewN ?_ _ | refine Ext.drew ?_ | refine Ext.alloc ?_ _ | assumption | (refine Below.trans ?_ (by assumption)) | (refine Ext.trans ?_ (by assumption)) | (refine Below.trans ?_ (Below.mono (by assumption) (by omega))))))) (Blk.ext (Blk.drew (Blk.at_ _ _ rfl)) E2)) hU2.out (by simp)).mono ?_; rintro e w3 ⟨A3, c3, rfl, O3, E3⟩; (try dsimp only); refine hK.out _ _ (by repeat (first | with_reducible exact Ext.refl _ | refine Ext.drewN ?_ _ | refine Ext.drew ?_ | refine Ext.alloc ?_ _ | assumption | (refine Below.trans ?_ (by assumption)) | (refine Ext.trans ?_ (by assumption)) | (refine Below.trans ?_ (Below.mono (by assumption) (by omega))))) (fun hHeld => ?_); clear hK K; (try simp only [Act.put]); (try simp only [List.getElem_toArray]); (try simp only [List.getElem_cons_succ]); (try simp only [List.getElem_cons_zero]); (try simp only [List.setIfInBounds_toArray]); (try simp only [List.set_cons_succ]); (try simp only [List.set_cons_zero]))
    have hl1 : [(l, f)].length = 1 := rfl
    rw [hl1] at O3 ⊢
    have E23 : Ext w2 w3 := E3
    have E13 : Ext w1 w3 := by assumption
    have hs2 : w1.heap.size ≤ w2.heap.size := Below.size (show Ext w1 w2 by assumption)
    have hs3 : w2.heap.size ≤ w3.heap.size := E23.size
    have hsw := E1.size
    have O3 := Lib.hid O3
    (refine wpAnyH_ready (rs := [5]) (by kernel_rfl) (by simp) ?_; refine AllReadyH.cons rfl (fun K hK => ?_) AllReadyH.nil)
    refine step_app (e := Ln) (base := w.heap.size) (B := fun k => w.heap.size ≤ k) (A := fun k => w2.heap.size ≤ k) rfl (.tmp 11) (.tmp 14) rfl Try.underlying31 info_rl rfl (((O2.out.ext E23).lower (by simp; omega)).mono fun k _ hk => by simp at hk; omega) rfl ((O3.out.rd (A := fun k => w2.heap.size ≤ k) (fun k hk => Nat.le_trans (by (try simp) <;> omega) hk) (fun k hk => Nat.le_trans (by (try simp) <;> omega) hk)).y) rfl (fun k _ hk => ⟨Nat.le_trans (by omega) hk, O2.out.newer hk⟩) (N := ls.length + 1) rfl (by simp [maxLen]; omega) (by omega) (by omega) ?_
    intro A5 c5 w5 O5 M5 B5
    have E5 : Ext w1 w5 := Mod.toExt E13 M5 fun k hk hv => by have := (O2.out.row k hv).1; simp at this; omega
    refine hK.out _ _ E5 (fun hHeld => ?_)
    clear hK K
    (try simp only [Act.put]); (try simp only [List.getElem_toArray]); (try simp only [List.getElem_cons_succ]); (try simp only [List.getElem_cons_zero]); (try simp only [List.setIfInBounds_toArray]); (try simp only [List.set_cons_succ]); (try simp only [List.set_cons_zero])
    (refine wpAnyH_take (i := 6) (v := ?_) rfl (by kernel_rfl) (by kernel_rfl) (by kernel_rfl) (fun _ _ _ h => h) (Or.inl ⟨by rfl, ?_⟩) (by assumption) ?_; rotate_left; (focus (intro w' hSw; go_simp; try with_reducible rfl)); (try simp only [List.getElem_toArray]); (try simp only [List.getElem_cons_succ]); (try simp only [List.getElem_cons_zero]); (try simp only [Act.put]); (try simp only [List.setIfInBounds_toArray]); (try simp only [List.set_cons_succ]); (try simp only [List.set_cons_zero]))
    refine wpAnyH_done (by kernel_rfl) ?_ _
    have O5 := Lib.hid O5
    clear M5 B5
    go_wp2_with fail
    refine (rused_any _ (ls ++ [(l, f)]) _ (O5.out.rdT.y.ext (by repeat (first | with_reducible exact Ext.refl _ | refine Ext.drewN ?_ _ | refine Ext.drew ?_ | refine Ext.alloc ?_ _ | assumption | (refine Below.trans ?_ (by assumption)) | (refine Ext.trans ?_ (by assumption)) | (refine Below.trans ?_ (Below.mono (by assumption) (by omega)))))) (by rw [hU3.out, HU.out]; omega)).mono ?_
    rintro e w6 ⟨rfl, E6⟩
    rw [hU3.out, HU.out]
    by_cases hp : u ≤ 1024
    · go_wp2
      go_ret2
      have HP : putL ls (l, f) = (ls ++ [(l, f)], true) := if_pos (by rw [HU.out]; exact hp)
      rw [HP]
      exact ⟨A5, c5, by simp, by simpa using O5.out.rdT.ext E6, (by repeat (first | with_reducible exact Ext.refl _ | refine Ext.drewN ?_ _ | refine Ext.drew ?_ | refine Ext.alloc ?_ _ | assumption | (refine Below.trans ?_ (by assumption)) | (refine Ext.trans ?_ (by assumption)) | (refine Below.trans ?_ (Below.mono (by assumption) (by omega)))))⟩
    · go_wp2
      go_ret2
      have HP : putL ls (l, f) = (ls, false) := if_neg (by rw [HU.out]; omega)
      rw [HP]
      exact ⟨A1, c1, rfl, O1.out.rdT.ext (by repeat (first | with_reducible exact Ext.refl _ | refine Ext.drewN ?_ _ | refine Ext.drew ?_ | refine Ext.alloc ?_ _ | assumption | (refine Below.trans ?_ (by assumption)) | (refine Ext.trans ?_ (by assumption)) | (refine Below.trans ?_ (Below.mono (by assumption) (by omega))))), (by repeat (first | with_reducible exact Ext.refl _ | refine Ext.drewN ?_ _ | refine Ext.drew ?_ | refine Ext.alloc ?_ _ | assumption | (refine Below.trans ?_ (by assumption)) | (refine Ext.trans ?_ (by assumption)) | (refine Below.trans ?_ (Below.mono (by assumption) (by omega)))))⟩
end Go.Proofs.Ytgahpclgdhghjaa
