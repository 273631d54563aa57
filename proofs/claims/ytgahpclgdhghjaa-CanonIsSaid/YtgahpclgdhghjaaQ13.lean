/- Any lines with one more, and any read of them, walked: the law answers true for every argument. Conditions: lengths within the reach. -/
import Derived.Test.YtgahpclgdhghjaaP13
import Derived.Test.YtgahpclgdhghjaaO13
import Derived.Test.YtgahpclgdhghjaaJA13
namespace Go.Proofs.Ytgahpclgdhghjaa
open Go.RowKit Go.Kb

theorem line_one {T : TypeId} {base : Nat} {w : World} {Ad : Option Addr} {c : Nat} {l : List Int} {f : Bool} {B : Nat → Prop} (h : OwnS Ln T base B w (.slice Ad 1 c) [(l, f)]) :
    ∃ b Ao co, Ad = some ⟨b, 0, none⟩ ∧ w.cell? ⟨b, 0, none⟩ = some (.slice Ao l.length co) ∧ w.cell? ⟨b, 1, none⟩ = some (.bool f) ∧ Hid (RdS Ub (fun k => B k ∧ k < w.heap.size) w (.slice Ao l.length co) l) ∧ l.length ≤ co ∧ co ≤ 9223372036854775807 := by
  obtain ⟨g, rfl, _, _⟩ := h.addr (by omega)
  obtain ⟨b3, off3, A4, l4, f4, c4, hb3, hx3, hy3, hd3, hr3, hl3, hl4⟩ := ln_at h.y (j := 0) (by omega)
  have hd0 := hd3.out
  simp only [List.getElem?_cons_zero, Option.some.injEq, Prod.mk.injEq] at hd0
  obtain ⟨rfl, rfl⟩ := hd0
  simp only [Option.some.injEq, Addr.mk.injEq, and_true] at hb3
  obtain ⟨rfl, rfl⟩ := hb3
  simp only [Nat.zero_mul, Nat.add_zero, Nat.zero_add] at hx3 hy3
  exact ⟨g, A4, c4, rfl, hx3, hy3, hr3.out.lt.mono fun k _ hk => ⟨hk.1.1, hk.2⟩, hl3, hl4⟩
theorem Blk.below {w w' : World} {B g : Nat} {t : TypeId} {cs : Array Value} (h : Blk w g t cs) (hb : Below B w w') (hg : g < B) : Blk w' g t cs := (hb.block g hg).trans h
theorem rds_ln' {A : Nat → Prop} {w : World} {v : Value} {ds : List (List Int × Bool)} (h : RdS Ln A w v ds) : RdS Ln (fun _ => True) w v ds := h.mono fun _ _ _ => trivial
set_option maxHeartbeats 3000000 in
set_option maxRecDepth 100000 in
theorem canonIs_walk (v v2 : Value) (ls : List (List Int × Bool)) (l : List Int) (f : Bool) (n : Int) (w : World) (h : RdS Ln (fun _ => True) w v ls) (h2 : RdS Ub (fun _ => True) w v2 l) (hb : ∀ x ∈ ls, x.1.length ≤ 140737488351232) (hb2 : l.length ≤ 140737488351232) (hll : ls.length ≤ 4398046510976) :
    Calls Try.prog 6 #[v, .agg #[v2, .bool f], .int .i64 n] w fun e w' => e = .returned (.bool true) ∧ Ext w w' := by
  obtain ⟨Ad, c, rfl, hc1, hc2⟩ := h.shape
  obtain ⟨Ad2, c2, rfl, hc3, hc4⟩ := h2.shape
  have H := Lib.hid h
  have H2 := Lib.hid h2
  have hbox : Hid (Blk (w.alloc (.cells #[.slice Ad2 l.length c2, .bool f] 35)) w.heap.size 35 #[.slice Ad2 l.length c2, .bool f]) := Lib.hid (by repeat (first | ((with_reducible refine Blk.at_ _ _ ?_); simp; done) | with_reducible refine Blk.drew ?_ | with_reducible refine Blk.alloc ?_ _ | refine Blk.ext ?_ (by assumption)))
  obtain ⟨w0, hw0⟩ : ∃ w0, w0 = w.alloc (.cells #[.slice Ad2 l.length c2, .bool f] 35) := ⟨_, rfl⟩
  have HW0 := Lib.hid hw0
  rw [← hw0] at hbox
  have E0 : Ext w w0 := by rw [hw0]; exact (by repeat (first | with_reducible exact Ext.refl _ | refine Ext.drewN ?_ _ | refine Ext.drew ?_ | refine Ext.alloc ?_ _ | assumption | (refine Below.trans ?_ (by assumption)) | (refine Ext.trans ?_ (by assumption)) | (refine Below.trans ?_ (Below.mono (by assumption) (by omega)))))
  have HB := Lib.hid hb
  have gr := great_no (ls := [(l, f)] ++ ls)
  have GR := Lib.hid gr
  clear h h2 hw0 hb gr
  go_enter Try.func6, Try.ntmps6
  go_wp2_with fail
  rw [← HW0.out]
  refine (alive_any _).mono ?_
  rintro e w1 ⟨rfl, E1⟩
  obtain ⟨q0, q1, _, _⟩ := (hbox.out.ext E1).two
  have hs1 := E1.size
  have hlt0 : w.heap.size < w0.heap.size := hbox.out.lt
  go_wp2_with (at_builtin; go_loud (refine wpList_app (A := fun k => k < w.heap.size) (B := fun k => k < w.heap.size) (base := w1.heap.size) rfl (.tmp 28) (.tmp 29) rfl Try.underlying22 info_ll rfl (OwnS.litB (A := fun k => k < w.heap.size) (RdE.single (ln_rel (f := f) ((H2.out.lt.mono (fun k _ hk => hk.2)).ext (by repeat (first | with_reducible exact Ext.refl _ | refine Ext.drewN ?_ _ | refine Ext.drew ?_ | refine Ext.alloc ?_ _ | assumption | (refine Below.trans ?_ (by assumption)) | (refine Ext.trans ?_ (by assumption)) | (refine Below.trans ?_ (Below.mono (by assumption) (by omega)))))))) (Blk.at_ _ _ rfl) (fun k _ hk => ⟨hk, by omega⟩) (Nat.le_refl _) (m := 1) rfl (by decide)) rfl ((H.out.lt.mono (fun k _ hk => hk.2)).y.ext (by repeat (first | with_reducible exact Ext.refl _ | refine Ext.drewN ?_ _ | refine Ext.drew ?_ | refine Ext.alloc ?_ _ | assumption | (refine Below.trans ?_ (by assumption)) | (refine Ext.trans ?_ (by assumption)) | (refine Below.trans ?_ (Below.mono (by assumption) (by omega)))))) rfl (fun k _ hk => ⟨hk, fun h => by simp [Value.ownBlock] at h; omega⟩) (N := 1 + ls.length) rfl (by simp [maxLen]; omega) (by omega) (by simp) ?_; intro A3 c3 w2 o3 M3 B3))
  have E2 : Ext w0 w2 := by first | exact Ext.trans_below (E1.alloc _) B3 (by omega) | exact Ext.trans_below (E1.alloc _).drew B3 (by omega)
  have O3 := Lib.hid o3
  clear M3 B3 o3 q0 q1
  go_wp2_with fail
  refine (great_any _ ([(l, f)] ++ ls) _ O3.out.rdT.y).mono ?_
  rintro e w3 ⟨rfl, E3⟩
  cases hg : greatL ([(l, f)] ++ ls)
  rotate_left
  · go_wp2
    go_ret
    exact ⟨rfl, (by repeat (first | with_reducible exact Ext.refl _ | refine Ext.drewN ?_ _ | refine Ext.drew ?_ | refine Ext.alloc ?_ _ | assumption | (refine Below.trans ?_ (by assumption)) | (refine Ext.trans ?_ (by assumption)) | (refine Below.trans ?_ (Below.mono (by assumption) (by omega)))))⟩
  obtain ⟨hu, hlen⟩ := GR.out hg (ln_all hb2 HB.out)
  simp only [List.length_append, List.length_cons, List.length_nil] at hlen
  have hsp : usedL ([(l, f)] ++ ls) = szL (l, f) + usedL ls := usedL_cons _ _
  have hu1 := usedL_nn ls
  have hu2 := szL_nn (l, f)
  have HU : Hid (usedL ls ≤ 140737488355328) := Lib.hid (by omega)
  have HU1 : Hid (usedL [(l, f)] ≤ 140737488355328) := Lib.hid (by rw [usedL_cons]; simp only [usedL, List.map_nil, List.sum_nil]; omega)
  have HUS : Hid (usedL ls + szL (l, f) ≤ 140737488355328) := Lib.hid (by omega)
  have E03 : Ext w0 w3 := (by repeat (first | with_reducible exact Ext.refl _ | refine Ext.drewN ?_ _ | refine Ext.drew ?_ | refine Ext.alloc ?_ _ | assumption | (refine Below.trans ?_ (by assumption)) | (refine Ext.trans ?_ (by assumption)) | (refine Below.trans ?_ (Below.mono (by assumption) (by omega)))))
  have HBX := Lib.hid (hbox.out.ext E03)
  clear hg hu hsp hu1 hu2 E1 E2 E3 hs1 hlt0
  go_wp2
  go_cut [7, 8] (fun s7 s8 wx => ∃ Ai ci gb Ao co, s7 = .slice Ai ls.length ci ∧ s8 = .pointer (some ⟨gb, 0, none⟩) ∧ Hid (RdS Ln (fun k => w3.heap.size ≤ k) wx (.slice Ai ls.length ci) ls) ∧ Hid (Blk wx gb 41 #[.slice Ao l.length co, .bool f]) ∧ Hid (RdS Ub (fun k => w3.heap.size ≤ k) wx (.slice Ao l.length co) l) ∧ Ext w3 wx)
  case first =>
    as_aux_lemma =>
      refine wp_region_held_drew (S := fun w' => Ext w3 w') (by kernel_rfl) (Ext.drew (Ext.refl _)) (fun hHeld => ?_)
      (refine wpAnyH_take (i := 0) (v := ?_) rfl (by kernel_rfl) (by kernel_rfl) (by kernel_rfl) (fun _ _ _ h => h) (Or.inl ⟨by rfl, ?_⟩) (by assumption) ?_; rotate_left; (focus (intro w' hSw; go_simp; try with_reducible rfl)); (try simp only [List.getElem_toArray]); (try simp only [List.getElem_cons_succ]); (try simp only [List.getElem_cons_zero]); (try simp only [Act.put]); (try simp only [List.setIfInBounds_toArray]); (try simp only [List.set_cons_succ]); (try simp only [List.set_cons_zero]))
      (refine wpAnyH_take (i := 2) (v := ?_) rfl (by kernel_rfl) (by kernel_rfl) (by kernel_rfl) (fun _ _ _ h => h) (Or.inl ⟨by rfl, ?_⟩) (by assumption) ?_; rotate_left; (focus (intro w' hSw; have kc := (HBX.out.ext hSw).two; go_simp; try with_reducible rfl)); (try simp only [List.getElem_toArray]); (try simp only [List.getElem_cons_succ]); (try simp only [List.getElem_cons_zero]); (try simp only [Act.put]); (try simp only [List.setIfInBounds_toArray]); (try simp only [List.set_cons_succ]); (try simp only [List.set_cons_zero]))
      refine wpAnyH_ready (rs := [1, 3, 7]) (by kernel_rfl) (by simp) ?_
      refine AllReadyH.cons rfl (fun K hK => ?_) (AllReadyH.cons rfl (fun K hK => ?_) (AllReadyH.cons rfl (fun K hK => ?_) AllReadyH.nil))
      ·
        go_simp
        go_at_call 10
        refine (to_any (A := fun _ => True) _ ls _ (H.out.y.ext (by repeat (first | with_reducible exact Ext.refl _ | refine Ext.drewN ?_ _ | refine Ext.drew ?_ | refine Ext.alloc ?_ _ | assumption | (refine Below.trans ?_ (by assumption)) | (refine Ext.trans ?_ (by assumption)) | (refine Below.trans ?_ (Below.mono (by assumption) (by omega)))))) HU.out (by omega)).mono ?_
        rintro e w6 ⟨A6, c6, rfl, o6, E6⟩
        have O6 := Lib.hid o6
        have z6 := E6.size
        (try simp at z6)
        (try dsimp only)
        refine hK.out _ _ (by repeat (first | with_reducible exact Ext.refl _ | refine Ext.drewN ?_ _ | refine Ext.drew ?_ | refine Ext.alloc ?_ _ | assumption | (refine Below.trans ?_ (by assumption)) | (refine Ext.trans ?_ (by assumption)) | (refine Below.trans ?_ (Below.mono (by assumption) (by omega))))) (fun hHeld => ?_)
        clear hK K
        (try simp only [Act.put]); (try simp only [List.getElem_toArray]); (try simp only [List.getElem_cons_succ]); (try simp only [List.getElem_cons_zero]); (try simp only [List.setIfInBounds_toArray]); (try simp only [List.set_cons_succ]); (try simp only [List.set_cons_zero])
        refine wpAnyH_ready (rs := [3, 7]) (by kernel_rfl) (by simp) ?_
        refine AllReadyH.cons rfl (fun K hK => ?_) (AllReadyH.cons rfl (fun K hK => ?_) AllReadyH.nil)
        ·
          go_simp
          refine hK.out _ _ (by repeat (first | with_reducible exact Ext.refl _ | refine Ext.drewN ?_ _ | refine Ext.drew ?_ | refine Ext.alloc ?_ _ | assumption | (refine Below.trans ?_ (by assumption)) | (refine Ext.trans ?_ (by assumption)) | (refine Below.trans ?_ (Below.mono (by assumption) (by omega))))) (fun hHeld => ?_)
          clear hK K
          (try simp only [Act.put]); (try simp only [List.getElem_toArray]); (try simp only [List.getElem_cons_succ]); (try simp only [List.getElem_cons_zero]); (try simp only [List.setIfInBounds_toArray]); (try simp only [List.set_cons_succ]); (try simp only [List.set_cons_zero])
          refine wpAnyH_ready (rs := [4, 7]) (by kernel_rfl) (by simp) ?_
          refine AllReadyH.cons rfl (fun K hK => ?_) (AllReadyH.cons rfl (fun K hK => ?_) AllReadyH.nil)
          ·
            go_simp
            go_at_call 10
            refine (to_any (A := fun _ => True) _ [(l, f)] _ (RdY.singleB (ln_rel (f := f) (H2.out.ext (by repeat (first | with_reducible exact Ext.refl _ | refine Ext.drewN ?_ _ | refine Ext.drew ?_ | refine Ext.alloc ?_ _ | assumption | (refine Below.trans ?_ (by assumption)) | (refine Ext.trans ?_ (by assumption)) | (refine Below.trans ?_ (Below.mono (by assumption) (by omega))))))) (Blk.at_ (w := w6) (B := w6.heap.size) 35 #[.slice Ad2 l.length c2, .bool f] (by simp))) HU1.out (by simp)).mono ?_
            rintro e w7 ⟨A7, c7, rfl, o7, E7⟩
            have hl1 : [(l, f)].length = 1 := rfl
            rw [hl1] at o7 ⊢
            have O7 := Lib.hid o7
            have z7 := E7.size
            (try simp at z7)
            (try dsimp only)
            refine hK.out _ _ (by repeat (first | with_reducible exact Ext.refl _ | refine Ext.drewN ?_ _ | refine Ext.drew ?_ | refine Ext.alloc ?_ _ | assumption | (refine Below.trans ?_ (by assumption)) | (refine Ext.trans ?_ (by assumption)) | (refine Below.trans ?_ (Below.mono (by assumption) (by omega))))) (fun hHeld => ?_)
            clear hK K
            (try simp only [Act.put]); (try simp only [List.getElem_toArray]); (try simp only [List.getElem_cons_succ]); (try simp only [List.getElem_cons_zero]); (try simp only [List.setIfInBounds_toArray]); (try simp only [List.set_cons_succ]); (try simp only [List.set_cons_zero])
            obtain ⟨b7, Ao, co, rfl, hx7, hy7, hr7, hq1, hq2⟩ := line_one O7.out
            (refine wpAnyH_take (i := 5) (v := ?_) rfl (by kernel_rfl) (by kernel_rfl) (by kernel_rfl) (fun _ _ _ h => h) (Or.inl ⟨by rfl, ?_⟩) (by assumption) ?_; rotate_left; (focus (intro w' hSw; go_simp; try with_reducible rfl)); (try simp only [List.getElem_toArray]); (try simp only [List.getElem_cons_succ]); (try simp only [List.getElem_cons_zero]); (try simp only [Act.put]); (try simp only [List.setIfInBounds_toArray]); (try simp only [List.set_cons_succ]); (try simp only [List.set_cons_zero]))
            refine wpAnyH_ready (rs := [6, 7]) (by kernel_rfl) (by simp) ?_
            refine AllReadyH.cons rfl (fun K hK => ?_) (AllReadyH.cons rfl (fun K hK => ?_) AllReadyH.nil)
            ·
              have kx : (w7).cell? ⟨b7, 0, none⟩ = some (.slice Ao l.length co) := cell_ext (Ext.refl _) hx7
              have ky : (w7).cell? ⟨b7, 1, none⟩ = some (.bool f) := cell_ext (Ext.refl _) hy7
              go_simp
              refine hK.out _ _ (by repeat (first | with_reducible exact Ext.refl _ | refine Ext.drewN ?_ _ | refine Ext.drew ?_ | refine Ext.alloc ?_ _ | assumption | (refine Below.trans ?_ (by assumption)) | (refine Ext.trans ?_ (by assumption)) | (refine Below.trans ?_ (Below.mono (by assumption) (by omega))))) (fun hHeld => ?_)
              clear hK K
              (try simp only [Act.put]); (try simp only [List.getElem_toArray]); (try simp only [List.getElem_cons_succ]); (try simp only [List.getElem_cons_zero]); (try simp only [List.setIfInBounds_toArray]); (try simp only [List.set_cons_succ]); (try simp only [List.set_cons_zero])
              refine wpAnyH_ready (rs := [7]) (by kernel_rfl) (by simp) ?_
              refine AllReadyH.cons rfl (fun K hK => ?_) AllReadyH.nil
              go_simp
              refine hK.out _ _ (by repeat (first | with_reducible exact Ext.refl _ | refine Ext.drewN ?_ _ | refine Ext.drew ?_ | refine Ext.alloc ?_ _ | assumption | (refine Below.trans ?_ (by assumption)) | (refine Ext.trans ?_ (by assumption)) | (refine Below.trans ?_ (Below.mono (by assumption) (by omega))))) (fun hHeld => ?_)
              clear hK K
              (try simp only [Act.put]); (try simp only [List.getElem_toArray]); (try simp only [List.getElem_cons_succ]); (try simp only [List.getElem_cons_zero]); (try simp only [List.setIfInBounds_toArray]); (try simp only [List.set_cons_succ]); (try simp only [List.set_cons_zero])
              (refine wpAnyH_take (i := 8) (v := ?_) rfl (by kernel_rfl) (by kernel_rfl) (by kernel_rfl) (fun _ _ _ h => h) (Or.inl ⟨by rfl, ?_⟩) (by assumption) ?_; rotate_left; (focus (intro w' hSw; go_simp; try with_reducible rfl)); (try simp only [List.getElem_toArray]); (try simp only [List.getElem_cons_succ]); (try simp only [List.getElem_cons_zero]); (try simp only [Act.put]); (try simp only [List.setIfInBounds_toArray]); (try simp only [List.set_cons_succ]); (try simp only [List.set_cons_zero]))
              refine wpAnyH_ready (rs := [9]) (by kernel_rfl) (by simp) ?_
              refine AllReadyH.cons rfl (fun K hK => ?_) AllReadyH.nil
              have R6 := Lib.hid (((O6.out.rd (A := fun k => (w3.drew).heap.size ≤ k) (fun _ h => h) (fun _ h => h)).ext (show Ext w6 w7 from (Ext.trans (Ext.alloc (Ext.refl _) _) E7))).mono (B := fun k => w3.heap.size ≤ k) (fun k _ hk => by (try simp at hk); (try simp); omega))
              have R7 := Lib.hid ((hr7.out.ext (show Ext w7 w7 from (Ext.refl _))).mono (B := fun k => w3.heap.size ≤ k) (fun k _ hk => by (try simp at hk); (try simp); omega))
              go_simp
              refine hK.out _ _ (Ext.alloc (by assumption : Ext w3 w7) _) (fun hHeld => ?_)
              clear hK K
              (try simp only [Act.put]); (try simp only [List.getElem_toArray]); (try simp only [List.getElem_cons_succ]); (try simp only [List.getElem_cons_zero]); (try simp only [List.setIfInBounds_toArray]); (try simp only [List.set_cons_succ]); (try simp only [List.set_cons_zero])
              refine wpAnyH_done (by kernel_rfl) ?_ _
              go_wp2_with fail
              go_meet
              exact ⟨_, _, _, Ao, co, rfl, rfl, Lib.hid (R6.out.ext ((Ext.refl _).alloc _)), Lib.hid (Blk.at_ _ _ (by simp)), Lib.hid (R7.out.ext ((Ext.refl _).alloc _)), hHeld⟩
            ·
              go_simp
              refine hK.out _ _ (by repeat (first | with_reducible exact Ext.refl _ | refine Ext.drewN ?_ _ | refine Ext.drew ?_ | refine Ext.alloc ?_ _ | assumption | (refine Below.trans ?_ (by assumption)) | (refine Ext.trans ?_ (by assumption)) | (refine Below.trans ?_ (Below.mono (by assumption) (by omega))))) (fun hHeld => ?_)
              clear hK K
              (try simp only [Act.put]); (try simp only [List.getElem_toArray]); (try simp only [List.getElem_cons_succ]); (try simp only [List.getElem_cons_zero]); (try simp only [List.setIfInBounds_toArray]); (try simp only [List.set_cons_succ]); (try simp only [List.set_cons_zero])
              (refine wpAnyH_take (i := 8) (v := ?_) rfl (by kernel_rfl) (by kernel_rfl) (by kernel_rfl) (fun _ _ _ h => h) (Or.inl ⟨by rfl, ?_⟩) (by assumption) ?_; rotate_left; (focus (intro w' hSw; go_simp; try with_reducible rfl)); (try simp only [List.getElem_toArray]); (try simp only [List.getElem_cons_succ]); (try simp only [List.getElem_cons_zero]); (try simp only [Act.put]); (try simp only [List.setIfInBounds_toArray]); (try simp only [List.set_cons_succ]); (try simp only [List.set_cons_zero]))
              refine wpAnyH_ready (rs := [6]) (by kernel_rfl) (by simp) ?_
              refine AllReadyH.cons rfl (fun K hK => ?_) AllReadyH.nil
              have kx : ((w7.alloc (.cells #[.slice none 0 0, .bool false] 41))).cell? ⟨b7, 0, none⟩ = some (.slice Ao l.length co) := cell_ext (Ext.alloc (Ext.refl _) _) hx7
              have ky : ((w7.alloc (.cells #[.slice none 0 0, .bool false] 41))).cell? ⟨b7, 1, none⟩ = some (.bool f) := cell_ext (Ext.alloc (Ext.refl _) _) hy7
              go_simp
              refine hK.out _ _ (by repeat (first | with_reducible exact Ext.refl _ | refine Ext.drewN ?_ _ | refine Ext.drew ?_ | refine Ext.alloc ?_ _ | assumption | (refine Below.trans ?_ (by assumption)) | (refine Ext.trans ?_ (by assumption)) | (refine Below.trans ?_ (Below.mono (by assumption) (by omega))))) (fun hHeld => ?_)
              clear hK K
              (try simp only [Act.put]); (try simp only [List.getElem_toArray]); (try simp only [List.getElem_cons_succ]); (try simp only [List.getElem_cons_zero]); (try simp only [List.setIfInBounds_toArray]); (try simp only [List.set_cons_succ]); (try simp only [List.set_cons_zero])
              refine wpAnyH_ready (rs := [9]) (by kernel_rfl) (by simp) ?_
              refine AllReadyH.cons rfl (fun K hK => ?_) AllReadyH.nil
              have R6 := Lib.hid (((O6.out.rd (A := fun k => (w3.drew).heap.size ≤ k) (fun _ h => h) (fun _ h => h)).ext (show Ext w6 w7 from (Ext.trans (Ext.alloc (Ext.refl _) _) E7))).mono (B := fun k => w3.heap.size ≤ k) (fun k _ hk => by (try simp at hk); (try simp); omega))
              have R7 := Lib.hid ((hr7.out.ext (show Ext w7 w7 from (Ext.refl _))).mono (B := fun k => w3.heap.size ≤ k) (fun k _ hk => by (try simp at hk); (try simp); omega))
              go_simp
              refine hK.out _ _ (Ext.alloc (by assumption : Ext w3 w7) _) (fun hHeld => ?_)
              clear hK K
              (try simp only [Act.put]); (try simp only [List.getElem_toArray]); (try simp only [List.getElem_cons_succ]); (try simp only [List.getElem_cons_zero]); (try simp only [List.setIfInBounds_toArray]); (try simp only [List.set_cons_succ]); (try simp only [List.set_cons_zero])
              refine wpAnyH_done (by kernel_rfl) ?_ _
              go_wp2_with fail
              go_meet
              exact ⟨_, _, _, Ao, co, rfl, rfl, Lib.hid (R6.out.ext ((Ext.refl _).alloc _)), Lib.hid (Blk.at_ _ _ (by simp)), Lib.hid (R7.out.ext ((Ext.refl _).alloc _)), hHeld⟩
          ·
            go_simp
            refine hK.out _ _ (by repeat (first | with_reducible exact Ext.refl _ | refine Ext.drewN ?_ _ | refine Ext.drew ?_ | refine Ext.alloc ?_ _ | assumption | (refine Below.trans ?_ (by assumption)) | (refine Ext.trans ?_ (by assumption)) | (refine Below.trans ?_ (Below.mono (by assumption) (by omega))))) (fun hHeld => ?_)
            clear hK K
            (try simp only [Act.put]); (try simp only [List.getElem_toArray]); (try simp only [List.getElem_cons_succ]); (try simp only [List.getElem_cons_zero]); (try simp only [List.setIfInBounds_toArray]); (try simp only [List.set_cons_succ]); (try simp only [List.set_cons_zero])
            refine wpAnyH_ready (rs := [4]) (by kernel_rfl) (by simp) ?_
            refine AllReadyH.cons rfl (fun K hK => ?_) AllReadyH.nil
            go_simp
            go_at_call 10
            refine (to_any (A := fun _ => True) _ [(l, f)] _ (RdY.singleB (ln_rel (f := f) (H2.out.ext (by repeat (first | with_reducible exact Ext.refl _ | refine Ext.drewN ?_ _ | refine Ext.drew ?_ | refine Ext.alloc ?_ _ | assumption | (refine Below.trans ?_ (by assumption)) | (refine Ext.trans ?_ (by assumption)) | (refine Below.trans ?_ (Below.mono (by assumption) (by omega))))))) (Blk.alloc (Blk.at_ (w := w6) (B := w6.heap.size) 35 #[.slice Ad2 l.length c2, .bool f] (by simp)) _)) HU1.out (by simp)).mono ?_
            rintro e w7 ⟨A7, c7, rfl, o7, E7⟩
            have hl1 : [(l, f)].length = 1 := rfl
            rw [hl1] at o7 ⊢
            have O7 := Lib.hid o7
            have z7 := E7.size
            (try simp at z7)
            (try dsimp only)
            refine hK.out _ _ (by repeat (first | with_reducible exact Ext.refl _ | refine Ext.drewN ?_ _ | refine Ext.drew ?_ | refine Ext.alloc ?_ _ | assumption | (refine Below.trans ?_ (by assumption)) | (refine Ext.trans ?_ (by assumption)) | (refine Below.trans ?_ (Below.mono (by assumption) (by omega))))) (fun hHeld => ?_)
            clear hK K
            (try simp only [Act.put]); (try simp only [List.getElem_toArray]); (try simp only [List.getElem_cons_succ]); (try simp only [List.getElem_cons_zero]); (try simp only [List.setIfInBounds_toArray]); (try simp only [List.set_cons_succ]); (try simp only [List.set_cons_zero])
            obtain ⟨b7, Ao, co, rfl, hx7, hy7, hr7, hq1, hq2⟩ := line_one O7.out
            (refine wpAnyH_take (i := 5) (v := ?_) rfl (by kernel_rfl) (by kernel_rfl) (by kernel_rfl) (fun _ _ _ h => h) (Or.inl ⟨by rfl, ?_⟩) (by assumption) ?_; rotate_left; (focus (intro w' hSw; go_simp; try with_reducible rfl)); (try simp only [List.getElem_toArray]); (try simp only [List.getElem_cons_succ]); (try simp only [List.getElem_cons_zero]); (try simp only [Act.put]); (try simp only [List.setIfInBounds_toArray]); (try simp only [List.set_cons_succ]); (try simp only [List.set_cons_zero]))
            (refine wpAnyH_take (i := 8) (v := ?_) rfl (by kernel_rfl) (by kernel_rfl) (by kernel_rfl) (fun _ _ _ h => h) (Or.inl ⟨by rfl, ?_⟩) (by assumption) ?_; rotate_left; (focus (intro w' hSw; go_simp; try with_reducible rfl)); (try simp only [List.getElem_toArray]); (try simp only [List.getElem_cons_succ]); (try simp only [List.getElem_cons_zero]); (try simp only [Act.put]); (try simp only [List.setIfInBounds_toArray]); (try simp only [List.set_cons_succ]); (try simp only [List.set_cons_zero]))
            refine wpAnyH_ready (rs := [6]) (by kernel_rfl) (by simp) ?_
            refine AllReadyH.cons rfl (fun K hK => ?_) AllReadyH.nil
            have kx : (w7).cell? ⟨b7, 0, none⟩ = some (.slice Ao l.length co) := cell_ext (Ext.refl _) hx7
            have ky : (w7).cell? ⟨b7, 1, none⟩ = some (.bool f) := cell_ext (Ext.refl _) hy7
            go_simp
            refine hK.out _ _ (by repeat (first | with_reducible exact Ext.refl _ | refine Ext.drewN ?_ _ | refine Ext.drew ?_ | refine Ext.alloc ?_ _ | assumption | (refine Below.trans ?_ (by assumption)) | (refine Ext.trans ?_ (by assumption)) | (refine Below.trans ?_ (Below.mono (by assumption) (by omega))))) (fun hHeld => ?_)
            clear hK K
            (try simp only [Act.put]); (try simp only [List.getElem_toArray]); (try simp only [List.getElem_cons_succ]); (try simp only [List.getElem_cons_zero]); (try simp only [List.setIfInBounds_toArray]); (try simp only [List.set_cons_succ]); (try simp only [List.set_cons_zero])
            refine wpAnyH_ready (rs := [9]) (by kernel_rfl) (by simp) ?_
            refine AllReadyH.cons rfl (fun K hK => ?_) AllReadyH.nil
            have BX : Blk w7 (w6.heap.size + 1) 41 #[.slice none 0 0, .bool false] := (Blk.ext (Blk.at_ (w := (w6.alloc (.cells #[.slice Ad2 l.length c2, .bool f] 35))) (B := (w6.heap.size + 1)) 41 #[.slice none 0 0, .bool false] (by simp)) E7)
            obtain ⟨g0, g1, gf0, gf1⟩ := BX.two
            have R6 := ((O6.out.rd (A := fun k => (w3.drew).heap.size ≤ k) (fun _ h => h) (fun _ h => h)).lt.ext (show Ext w6 w7 from (Ext.trans (Ext.alloc (Ext.alloc (Ext.refl _) _) _) E7))).mono (B := fun k => w3.heap.size ≤ k ∧ k ≠ (w6.heap.size + 1)) (fun k _ hk => by (try simp at hk); constructor <;> (try simp) <;> omega)
            have R7 := (hr7.out.ext (show Ext w7 w7 from (Ext.refl _))).mono (B := fun k => w3.heap.size ≤ k ∧ k ≠ (w6.heap.size + 1)) (fun k _ hk => by (try simp at hk); constructor <;> (try simp) <;> omega)
            have R6 := Lib.hid R6
            have R7 := Lib.hid R7
            have BX := Lib.hid BX
            go_simp
            refine hK.out _ _ (Mod.toExt (by assumption : Ext w3 w7) (S := fun k => k = (w6.heap.size + 1)) (by repeat (first | with_reducible exact Mod.refl _ _ | refine Mod.drew ?_ | refine Mod.drewN ?_ _ | refine Mod.set1 ?_ _)) (fun k hk hs => by (try simp at hs); omega)) (fun hHeld => ?_)
            clear hK K
            (try simp only [Act.put]); (try simp only [List.getElem_toArray]); (try simp only [List.getElem_cons_succ]); (try simp only [List.getElem_cons_zero]); (try simp only [List.setIfInBounds_toArray]); (try simp only [List.set_cons_succ]); (try simp only [List.set_cons_zero])
            refine wpAnyH_done (by kernel_rfl) ?_ _
            go_wp2_with fail
            go_meet
            exact ⟨_, _, _, Ao, co, rfl, rfl, Lib.hid ((R6.out.mod (S := fun k => k = (w6.heap.size + 1)) (by repeat (first | with_reducible exact Mod.refl _ _ | refine Mod.drew ?_ | refine Mod.drewN ?_ _ | refine Mod.set1 ?_ _)) (fun k _ hk => hk.2)).mono fun k _ hk => hk.1), Lib.hid (BX.out.put2 _ _), Lib.hid ((R7.out.mod (S := fun k => k = (w6.heap.size + 1)) (by repeat (first | with_reducible exact Mod.refl _ _ | refine Mod.drew ?_ | refine Mod.drewN ?_ _ | refine Mod.set1 ?_ _)) (fun k _ hk => hk.2)).mono fun k _ hk => hk.1), hHeld⟩
        ·
          go_simp
          refine hK.out _ _ (by repeat (first | with_reducible exact Ext.refl _ | refine Ext.drewN ?_ _ | refine Ext.drew ?_ | refine Ext.alloc ?_ _ | assumption | (refine Below.trans ?_ (by assumption)) | (refine Ext.trans ?_ (by assumption)) | (refine Below.trans ?_ (Below.mono (by assumption) (by omega))))) (fun hHeld => ?_)
          clear hK K
          (try simp only [Act.put]); (try simp only [List.getElem_toArray]); (try simp only [List.getElem_cons_succ]); (try simp only [List.getElem_cons_zero]); (try simp only [List.setIfInBounds_toArray]); (try simp only [List.set_cons_succ]); (try simp only [List.set_cons_zero])
          refine wpAnyH_ready (rs := [3]) (by kernel_rfl) (by simp) ?_
          refine AllReadyH.cons rfl (fun K hK => ?_) AllReadyH.nil
          go_simp
          refine hK.out _ _ (by repeat (first | with_reducible exact Ext.refl _ | refine Ext.drewN ?_ _ | refine Ext.drew ?_ | refine Ext.alloc ?_ _ | assumption | (refine Below.trans ?_ (by assumption)) | (refine Ext.trans ?_ (by assumption)) | (refine Below.trans ?_ (Below.mono (by assumption) (by omega))))) (fun hHeld => ?_)
          clear hK K
          (try simp only [Act.put]); (try simp only [List.getElem_toArray]); (try simp only [List.getElem_cons_succ]); (try simp only [List.getElem_cons_zero]); (try simp only [List.setIfInBounds_toArray]); (try simp only [List.set_cons_succ]); (try simp only [List.set_cons_zero])
          refine wpAnyH_ready (rs := [4]) (by kernel_rfl) (by simp) ?_
          refine AllReadyH.cons rfl (fun K hK => ?_) AllReadyH.nil
          go_simp
          go_at_call 10
          refine (to_any (A := fun _ => True) _ [(l, f)] _ (RdY.singleB (ln_rel (f := f) (H2.out.ext (by repeat (first | with_reducible exact Ext.refl _ | refine Ext.drewN ?_ _ | refine Ext.drew ?_ | refine Ext.alloc ?_ _ | assumption | (refine Below.trans ?_ (by assumption)) | (refine Ext.trans ?_ (by assumption)) | (refine Below.trans ?_ (Below.mono (by assumption) (by omega))))))) (Blk.at_ (w := (w6.alloc (.cells #[.slice none 0 0, .bool false] 41))) (B := w6.heap.size + 1) 35 #[.slice Ad2 l.length c2, .bool f] (by simp))) HU1.out (by simp)).mono ?_
          rintro e w7 ⟨A7, c7, rfl, o7, E7⟩
          have hl1 : [(l, f)].length = 1 := rfl
          rw [hl1] at o7 ⊢
          have O7 := Lib.hid o7
          have z7 := E7.size
          (try simp at z7)
          (try dsimp only)
          refine hK.out _ _ (by repeat (first | with_reducible exact Ext.refl _ | refine Ext.drewN ?_ _ | refine Ext.drew ?_ | refine Ext.alloc ?_ _ | assumption | (refine Below.trans ?_ (by assumption)) | (refine Ext.trans ?_ (by assumption)) | (refine Below.trans ?_ (Below.mono (by assumption) (by omega))))) (fun hHeld => ?_)
          clear hK K
          (try simp only [Act.put]); (try simp only [List.getElem_toArray]); (try simp only [List.getElem_cons_succ]); (try simp only [List.getElem_cons_zero]); (try simp only [List.setIfInBounds_toArray]); (try simp only [List.set_cons_succ]); (try simp only [List.set_cons_zero])
          obtain ⟨b7, Ao, co, rfl, hx7, hy7, hr7, hq1, hq2⟩ := line_one O7.out
          (refine wpAnyH_take (i := 5) (v := ?_) rfl (by kernel_rfl) (by kernel_rfl) (by kernel_rfl) (fun _ _ _ h => h) (Or.inl ⟨by rfl, ?_⟩) (by assumption) ?_; rotate_left; (focus (intro w' hSw; go_simp; try with_reducible rfl)); (try simp only [List.getElem_toArray]); (try simp only [List.getElem_cons_succ]); (try simp only [List.getElem_cons_zero]); (try simp only [Act.put]); (try simp only [List.setIfInBounds_toArray]); (try simp only [List.set_cons_succ]); (try simp only [List.set_cons_zero]))
          (refine wpAnyH_take (i := 8) (v := ?_) rfl (by kernel_rfl) (by kernel_rfl) (by kernel_rfl) (fun _ _ _ h => h) (Or.inl ⟨by rfl, ?_⟩) (by assumption) ?_; rotate_left; (focus (intro w' hSw; go_simp; try with_reducible rfl)); (try simp only [List.getElem_toArray]); (try simp only [List.getElem_cons_succ]); (try simp only [List.getElem_cons_zero]); (try simp only [Act.put]); (try simp only [List.setIfInBounds_toArray]); (try simp only [List.set_cons_succ]); (try simp only [List.set_cons_zero]))
          refine wpAnyH_ready (rs := [6]) (by kernel_rfl) (by simp) ?_
          refine AllReadyH.cons rfl (fun K hK => ?_) AllReadyH.nil
          have kx : (w7).cell? ⟨b7, 0, none⟩ = some (.slice Ao l.length co) := cell_ext (Ext.refl _) hx7
          have ky : (w7).cell? ⟨b7, 1, none⟩ = some (.bool f) := cell_ext (Ext.refl _) hy7
          go_simp
          refine hK.out _ _ (by repeat (first | with_reducible exact Ext.refl _ | refine Ext.drewN ?_ _ | refine Ext.drew ?_ | refine Ext.alloc ?_ _ | assumption | (refine Below.trans ?_ (by assumption)) | (refine Ext.trans ?_ (by assumption)) | (refine Below.trans ?_ (Below.mono (by assumption) (by omega))))) (fun hHeld => ?_)
          clear hK K
          (try simp only [Act.put]); (try simp only [List.getElem_toArray]); (try simp only [List.getElem_cons_succ]); (try simp only [List.getElem_cons_zero]); (try simp only [List.setIfInBounds_toArray]); (try simp only [List.set_cons_succ]); (try simp only [List.set_cons_zero])
          refine wpAnyH_ready (rs := [9]) (by kernel_rfl) (by simp) ?_
          refine AllReadyH.cons rfl (fun K hK => ?_) AllReadyH.nil
          have BX : Blk w7 (w6.heap.size) 41 #[.slice none 0 0, .bool false] := (Blk.ext (Blk.alloc (Blk.at_ (w := w6) (B := (w6.heap.size)) 41 #[.slice none 0 0, .bool false] (by simp)) _) E7)
          obtain ⟨g0, g1, gf0, gf1⟩ := BX.two
          have R6 := ((O6.out.rd (A := fun k => (w3.drew).heap.size ≤ k) (fun _ h => h) (fun _ h => h)).lt.ext (show Ext w6 w7 from (Ext.trans (Ext.alloc (Ext.alloc (Ext.refl _) _) _) E7))).mono (B := fun k => w3.heap.size ≤ k ∧ k ≠ (w6.heap.size)) (fun k _ hk => by (try simp at hk); constructor <;> (try simp) <;> omega)
          have R7 := (hr7.out.ext (show Ext w7 w7 from (Ext.refl _))).mono (B := fun k => w3.heap.size ≤ k ∧ k ≠ (w6.heap.size)) (fun k _ hk => by (try simp at hk); constructor <;> (try simp) <;> omega)
          have R6 := Lib.hid R6
          have R7 := Lib.hid R7
          have BX := Lib.hid BX
          go_simp
          refine hK.out _ _ (Mod.toExt (by assumption : Ext w3 w7) (S := fun k => k = (w6.heap.size)) (by repeat (first | with_reducible exact Mod.refl _ _ | refine Mod.drew ?_ | refine Mod.drewN ?_ _ | refine Mod.set1 ?_ _)) (fun k hk hs => by (try simp at hs); omega)) (fun hHeld => ?_)
          clear hK K
          (try simp only [Act.put]); (try simp only [List.getElem_toArray]); (try simp only [List.getElem_cons_succ]); (try simp only [List.getElem_cons_zero]); (try simp only [List.setIfInBounds_toArray]); (try simp only [List.set_cons_succ]); (try simp only [List.set_cons_zero])
          refine wpAnyH_done (by kernel_rfl) ?_ _
          go_wp2_with fail
          go_meet
          exact ⟨_, _, _, Ao, co, rfl, rfl, Lib.hid ((R6.out.mod (S := fun k => k = (w6.heap.size)) (by repeat (first | with_reducible exact Mod.refl _ _ | refine Mod.drew ?_ | refine Mod.drewN ?_ _ | refine Mod.set1 ?_ _)) (fun k _ hk => hk.2)).mono fun k _ hk => hk.1), Lib.hid (BX.out.put2 _ _), Lib.hid ((R7.out.mod (S := fun k => k = (w6.heap.size)) (by repeat (first | with_reducible exact Mod.refl _ _ | refine Mod.drew ?_ | refine Mod.drewN ?_ _ | refine Mod.set1 ?_ _)) (fun k _ hk => hk.2)).mono fun k _ hk => hk.1), hHeld⟩
      ·
        go_simp
        refine hK.out _ _ (by repeat (first | with_reducible exact Ext.refl _ | refine Ext.drewN ?_ _ | refine Ext.drew ?_ | refine Ext.alloc ?_ _ | assumption | (refine Below.trans ?_ (by assumption)) | (refine Ext.trans ?_ (by assumption)) | (refine Below.trans ?_ (Below.mono (by assumption) (by omega))))) (fun hHeld => ?_)
        clear hK K
        (try simp only [Act.put]); (try simp only [List.getElem_toArray]); (try simp only [List.getElem_cons_succ]); (try simp only [List.getElem_cons_zero]); (try simp only [List.setIfInBounds_toArray]); (try simp only [List.set_cons_succ]); (try simp only [List.set_cons_zero])
        refine wpAnyH_ready (rs := [1, 7]) (by kernel_rfl) (by simp) ?_
        refine AllReadyH.cons rfl (fun K hK => ?_) (AllReadyH.cons rfl (fun K hK => ?_) AllReadyH.nil)
        ·
          go_simp
          go_at_call 10
          refine (to_any (A := fun _ => True) _ ls _ (H.out.y.ext (by repeat (first | with_reducible exact Ext.refl _ | refine Ext.drewN ?_ _ | refine Ext.drew ?_ | refine Ext.alloc ?_ _ | assumption | (refine Below.trans ?_ (by assumption)) | (refine Ext.trans ?_ (by assumption)) | (refine Below.trans ?_ (Below.mono (by assumption) (by omega)))))) HU.out (by omega)).mono ?_
          rintro e w6 ⟨A6, c6, rfl, o6, E6⟩
          have O6 := Lib.hid o6
          have z6 := E6.size
          (try simp at z6)
          (try dsimp only)
          refine hK.out _ _ (by repeat (first | with_reducible exact Ext.refl _ | refine Ext.drewN ?_ _ | refine Ext.drew ?_ | refine Ext.alloc ?_ _ | assumption | (refine Below.trans ?_ (by assumption)) | (refine Ext.trans ?_ (by assumption)) | (refine Below.trans ?_ (Below.mono (by assumption) (by omega))))) (fun hHeld => ?_)
          clear hK K
          (try simp only [Act.put]); (try simp only [List.getElem_toArray]); (try simp only [List.getElem_cons_succ]); (try simp only [List.getElem_cons_zero]); (try simp only [List.setIfInBounds_toArray]); (try simp only [List.set_cons_succ]); (try simp only [List.set_cons_zero])
          refine wpAnyH_ready (rs := [4, 7]) (by kernel_rfl) (by simp) ?_
          refine AllReadyH.cons rfl (fun K hK => ?_) (AllReadyH.cons rfl (fun K hK => ?_) AllReadyH.nil)
          ·
            go_simp
            go_at_call 10
            refine (to_any (A := fun _ => True) _ [(l, f)] _ (RdY.singleB (ln_rel (f := f) (H2.out.ext (by repeat (first | with_reducible exact Ext.refl _ | refine Ext.drewN ?_ _ | refine Ext.drew ?_ | refine Ext.alloc ?_ _ | assumption | (refine Below.trans ?_ (by assumption)) | (refine Ext.trans ?_ (by assumption)) | (refine Below.trans ?_ (Below.mono (by assumption) (by omega))))))) (Blk.ext (Blk.at_ (w := w3.drew) (B := w3.heap.size) 35 #[.slice Ad2 l.length c2, .bool f] (by simp)) E6)) HU1.out (by simp)).mono ?_
            rintro e w7 ⟨A7, c7, rfl, o7, E7⟩
            have hl1 : [(l, f)].length = 1 := rfl
            rw [hl1] at o7 ⊢
            have O7 := Lib.hid o7
            have z7 := E7.size
            (try simp at z7)
            (try dsimp only)
            refine hK.out _ _ (by repeat (first | with_reducible exact Ext.refl _ | refine Ext.drewN ?_ _ | refine Ext.drew ?_ | refine Ext.alloc ?_ _ | assumption | (refine Below.trans ?_ (by assumption)) | (refine Ext.trans ?_ (by assumption)) | (refine Below.trans ?_ (Below.mono (by assumption) (by omega))))) (fun hHeld => ?_)
            clear hK K
            (try simp only [Act.put]); (try simp only [List.getElem_toArray]); (try simp only [List.getElem_cons_succ]); (try simp only [List.getElem_cons_zero]); (try simp only [List.setIfInBounds_toArray]); (try simp only [List.set_cons_succ]); (try simp only [List.set_cons_zero])
            obtain ⟨b7, Ao, co, rfl, hx7, hy7, hr7, hq1, hq2⟩ := line_one O7.out
            (refine wpAnyH_take (i := 5) (v := ?_) rfl (by kernel_rfl) (by kernel_rfl) (by kernel_rfl) (fun _ _ _ h => h) (Or.inl ⟨by rfl, ?_⟩) (by assumption) ?_; rotate_left; (focus (intro w' hSw; go_simp; try with_reducible rfl)); (try simp only [List.getElem_toArray]); (try simp only [List.getElem_cons_succ]); (try simp only [List.getElem_cons_zero]); (try simp only [Act.put]); (try simp only [List.setIfInBounds_toArray]); (try simp only [List.set_cons_succ]); (try simp only [List.set_cons_zero]))
            refine wpAnyH_ready (rs := [6, 7]) (by kernel_rfl) (by simp) ?_
            refine AllReadyH.cons rfl (fun K hK => ?_) (AllReadyH.cons rfl (fun K hK => ?_) AllReadyH.nil)
            ·
              have kx : (w7).cell? ⟨b7, 0, none⟩ = some (.slice Ao l.length co) := cell_ext (Ext.refl _) hx7
              have ky : (w7).cell? ⟨b7, 1, none⟩ = some (.bool f) := cell_ext (Ext.refl _) hy7
              go_simp
              refine hK.out _ _ (by repeat (first | with_reducible exact Ext.refl _ | refine Ext.drewN ?_ _ | refine Ext.drew ?_ | refine Ext.alloc ?_ _ | assumption | (refine Below.trans ?_ (by assumption)) | (refine Ext.trans ?_ (by assumption)) | (refine Below.trans ?_ (Below.mono (by assumption) (by omega))))) (fun hHeld => ?_)
              clear hK K
              (try simp only [Act.put]); (try simp only [List.getElem_toArray]); (try simp only [List.getElem_cons_succ]); (try simp only [List.getElem_cons_zero]); (try simp only [List.setIfInBounds_toArray]); (try simp only [List.set_cons_succ]); (try simp only [List.set_cons_zero])
              refine wpAnyH_ready (rs := [7]) (by kernel_rfl) (by simp) ?_
              refine AllReadyH.cons rfl (fun K hK => ?_) AllReadyH.nil
              go_simp
              refine hK.out _ _ (by repeat (first | with_reducible exact Ext.refl _ | refine Ext.drewN ?_ _ | refine Ext.drew ?_ | refine Ext.alloc ?_ _ | assumption | (refine Below.trans ?_ (by assumption)) | (refine Ext.trans ?_ (by assumption)) | (refine Below.trans ?_ (Below.mono (by assumption) (by omega))))) (fun hHeld => ?_)
              clear hK K
              (try simp only [Act.put]); (try simp only [List.getElem_toArray]); (try simp only [List.getElem_cons_succ]); (try simp only [List.getElem_cons_zero]); (try simp only [List.setIfInBounds_toArray]); (try simp only [List.set_cons_succ]); (try simp only [List.set_cons_zero])
              (refine wpAnyH_take (i := 8) (v := ?_) rfl (by kernel_rfl) (by kernel_rfl) (by kernel_rfl) (fun _ _ _ h => h) (Or.inl ⟨by rfl, ?_⟩) (by assumption) ?_; rotate_left; (focus (intro w' hSw; go_simp; try with_reducible rfl)); (try simp only [List.getElem_toArray]); (try simp only [List.getElem_cons_succ]); (try simp only [List.getElem_cons_zero]); (try simp only [Act.put]); (try simp only [List.setIfInBounds_toArray]); (try simp only [List.set_cons_succ]); (try simp only [List.set_cons_zero]))
              refine wpAnyH_ready (rs := [9]) (by kernel_rfl) (by simp) ?_
              refine AllReadyH.cons rfl (fun K hK => ?_) AllReadyH.nil
              have R6 := Lib.hid (((O6.out.rd (A := fun k => ((w3.drew.alloc (.cells #[.slice Ad2 l.length c2, .bool f] 35))).heap.size ≤ k) (fun _ h => h) (fun _ h => h)).ext (show Ext w6 w7 from (Ext.trans (Ext.refl _) E7))).mono (B := fun k => w3.heap.size ≤ k) (fun k _ hk => by (try simp at hk); (try simp); omega))
              have R7 := Lib.hid ((hr7.out.ext (show Ext w7 w7 from (Ext.refl _))).mono (B := fun k => w3.heap.size ≤ k) (fun k _ hk => by (try simp at hk); (try simp); omega))
              go_simp
              refine hK.out _ _ (Ext.alloc (by assumption : Ext w3 w7) _) (fun hHeld => ?_)
              clear hK K
              (try simp only [Act.put]); (try simp only [List.getElem_toArray]); (try simp only [List.getElem_cons_succ]); (try simp only [List.getElem_cons_zero]); (try simp only [List.setIfInBounds_toArray]); (try simp only [List.set_cons_succ]); (try simp only [List.set_cons_zero])
              refine wpAnyH_done (by kernel_rfl) ?_ _
              go_wp2_with fail
              go_meet
              exact ⟨_, _, _, Ao, co, rfl, rfl, Lib.hid (R6.out.ext ((Ext.refl _).alloc _)), Lib.hid (Blk.at_ _ _ (by simp)), Lib.hid (R7.out.ext ((Ext.refl _).alloc _)), hHeld⟩
            ·
              go_simp
              refine hK.out _ _ (by repeat (first | with_reducible exact Ext.refl _ | refine Ext.drewN ?_ _ | refine Ext.drew ?_ | refine Ext.alloc ?_ _ | assumption | (refine Below.trans ?_ (by assumption)) | (refine Ext.trans ?_ (by assumption)) | (refine Below.trans ?_ (Below.mono (by assumption) (by omega))))) (fun hHeld => ?_)
              clear hK K
              (try simp only [Act.put]); (try simp only [List.getElem_toArray]); (try simp only [List.getElem_cons_succ]); (try simp only [List.getElem_cons_zero]); (try simp only [List.setIfInBounds_toArray]); (try simp only [List.set_cons_succ]); (try simp only [List.set_cons_zero])
              (refine wpAnyH_take (i := 8) (v := ?_) rfl (by kernel_rfl) (by kernel_rfl) (by kernel_rfl) (fun _ _ _ h => h) (Or.inl ⟨by rfl, ?_⟩) (by assumption) ?_; rotate_left; (focus (intro w' hSw; go_simp; try with_reducible rfl)); (try simp only [List.getElem_toArray]); (try simp only [List.getElem_cons_succ]); (try simp only [List.getElem_cons_zero]); (try simp only [Act.put]); (try simp only [List.setIfInBounds_toArray]); (try simp only [List.set_cons_succ]); (try simp only [List.set_cons_zero]))
              refine wpAnyH_ready (rs := [6]) (by kernel_rfl) (by simp) ?_
              refine AllReadyH.cons rfl (fun K hK => ?_) AllReadyH.nil
              have kx : ((w7.alloc (.cells #[.slice none 0 0, .bool false] 41))).cell? ⟨b7, 0, none⟩ = some (.slice Ao l.length co) := cell_ext (Ext.alloc (Ext.refl _) _) hx7
              have ky : ((w7.alloc (.cells #[.slice none 0 0, .bool false] 41))).cell? ⟨b7, 1, none⟩ = some (.bool f) := cell_ext (Ext.alloc (Ext.refl _) _) hy7
              go_simp
              refine hK.out _ _ (by repeat (first | with_reducible exact Ext.refl _ | refine Ext.drewN ?_ _ | refine Ext.drew ?_ | refine Ext.alloc ?_ _ | assumption | (refine Below.trans ?_ (by assumption)) | (refine Ext.trans ?_ (by assumption)) | (refine Below.trans ?_ (Below.mono (by assumption) (by omega))))) (fun hHeld => ?_)
              clear hK K
              (try simp only [Act.put]); (try simp only [List.getElem_toArray]); (try simp only [List.getElem_cons_succ]); (try simp only [List.getElem_cons_zero]); (try simp only [List.setIfInBounds_toArray]); (try simp only [List.set_cons_succ]); (try simp only [List.set_cons_zero])
              refine wpAnyH_ready (rs := [9]) (by kernel_rfl) (by simp) ?_
              refine AllReadyH.cons rfl (fun K hK => ?_) AllReadyH.nil
              have R6 := Lib.hid (((O6.out.rd (A := fun k => ((w3.drew.alloc (.cells #[.slice Ad2 l.length c2, .bool f] 35))).heap.size ≤ k) (fun _ h => h) (fun _ h => h)).ext (show Ext w6 w7 from (Ext.trans (Ext.refl _) E7))).mono (B := fun k => w3.heap.size ≤ k) (fun k _ hk => by (try simp at hk); (try simp); omega))
              have R7 := Lib.hid ((hr7.out.ext (show Ext w7 w7 from (Ext.refl _))).mono (B := fun k => w3.heap.size ≤ k) (fun k _ hk => by (try simp at hk); (try simp); omega))
              go_simp
              refine hK.out _ _ (Ext.alloc (by assumption : Ext w3 w7) _) (fun hHeld => ?_)
              clear hK K
              (try simp only [Act.put]); (try simp only [List.getElem_toArray]); (try simp only [List.getElem_cons_succ]); (try simp only [List.getElem_cons_zero]); (try simp only [List.setIfInBounds_toArray]); (try simp only [List.set_cons_succ]); (try simp only [List.set_cons_zero])
              refine wpAnyH_done (by kernel_rfl) ?_ _
              go_wp2_with fail
              go_meet
              exact ⟨_, _, _, Ao, co, rfl, rfl, Lib.hid (R6.out.ext ((Ext.refl _).alloc _)), Lib.hid (Blk.at_ _ _ (by simp)), Lib.hid (R7.out.ext ((Ext.refl _).alloc _)), hHeld⟩
          ·
            go_simp
            refine hK.out _ _ (by repeat (first | with_reducible exact Ext.refl _ | refine Ext.drewN ?_ _ | refine Ext.drew ?_ | refine Ext.alloc ?_ _ | assumption | (refine Below.trans ?_ (by assumption)) | (refine Ext.trans ?_ (by assumption)) | (refine Below.trans ?_ (Below.mono (by assumption) (by omega))))) (fun hHeld => ?_)
            clear hK K
            (try simp only [Act.put]); (try simp only [List.getElem_toArray]); (try simp only [List.getElem_cons_succ]); (try simp only [List.getElem_cons_zero]); (try simp only [List.setIfInBounds_toArray]); (try simp only [List.set_cons_succ]); (try simp only [List.set_cons_zero])
            refine wpAnyH_ready (rs := [4]) (by kernel_rfl) (by simp) ?_
            refine AllReadyH.cons rfl (fun K hK => ?_) AllReadyH.nil
            go_simp
            go_at_call 10
            refine (to_any (A := fun _ => True) _ [(l, f)] _ (RdY.singleB (ln_rel (f := f) (H2.out.ext (by repeat (first | with_reducible exact Ext.refl _ | refine Ext.drewN ?_ _ | refine Ext.drew ?_ | refine Ext.alloc ?_ _ | assumption | (refine Below.trans ?_ (by assumption)) | (refine Ext.trans ?_ (by assumption)) | (refine Below.trans ?_ (Below.mono (by assumption) (by omega))))))) (Blk.alloc (Blk.ext (Blk.at_ (w := w3.drew) (B := w3.heap.size) 35 #[.slice Ad2 l.length c2, .bool f] (by simp)) E6) _)) HU1.out (by simp)).mono ?_
            rintro e w7 ⟨A7, c7, rfl, o7, E7⟩
            have hl1 : [(l, f)].length = 1 := rfl
            rw [hl1] at o7 ⊢
            have O7 := Lib.hid o7
            have z7 := E7.size
            (try simp at z7)
            (try dsimp only)
            refine hK.out _ _ (by repeat (first | with_reducible exact Ext.refl _ | refine Ext.drewN ?_ _ | refine Ext.drew ?_ | refine Ext.alloc ?_ _ | assumption | (refine Below.trans ?_ (by assumption)) | (refine Ext.trans ?_ (by assumption)) | (refine Below.trans ?_ (Below.mono (by assumption) (by omega))))) (fun hHeld => ?_)
            clear hK K
            (try simp only [Act.put]); (try simp only [List.getElem_toArray]); (try simp only [List.getElem_cons_succ]); (try simp only [List.getElem_cons_zero]); (try simp only [List.setIfInBounds_toArray]); (try simp only [List.set_cons_succ]); (try simp only [List.set_cons_zero])
            obtain ⟨b7, Ao, co, rfl, hx7, hy7, hr7, hq1, hq2⟩ := line_one O7.out
            (refine wpAnyH_take (i := 5) (v := ?_) rfl (by kernel_rfl) (by kernel_rfl) (by kernel_rfl) (fun _ _ _ h => h) (Or.inl ⟨by rfl, ?_⟩) (by assumption) ?_; rotate_left; (focus (intro w' hSw; go_simp; try with_reducible rfl)); (try simp only [List.getElem_toArray]); (try simp only [List.getElem_cons_succ]); (try simp only [List.getElem_cons_zero]); (try simp only [Act.put]); (try simp only [List.setIfInBounds_toArray]); (try simp only [List.set_cons_succ]); (try simp only [List.set_cons_zero]))
            (refine wpAnyH_take (i := 8) (v := ?_) rfl (by kernel_rfl) (by kernel_rfl) (by kernel_rfl) (fun _ _ _ h => h) (Or.inl ⟨by rfl, ?_⟩) (by assumption) ?_; rotate_left; (focus (intro w' hSw; go_simp; try with_reducible rfl)); (try simp only [List.getElem_toArray]); (try simp only [List.getElem_cons_succ]); (try simp only [List.getElem_cons_zero]); (try simp only [Act.put]); (try simp only [List.setIfInBounds_toArray]); (try simp only [List.set_cons_succ]); (try simp only [List.set_cons_zero]))
            refine wpAnyH_ready (rs := [6]) (by kernel_rfl) (by simp) ?_
            refine AllReadyH.cons rfl (fun K hK => ?_) AllReadyH.nil
            have kx : (w7).cell? ⟨b7, 0, none⟩ = some (.slice Ao l.length co) := cell_ext (Ext.refl _) hx7
            have ky : (w7).cell? ⟨b7, 1, none⟩ = some (.bool f) := cell_ext (Ext.refl _) hy7
            go_simp
            refine hK.out _ _ (by repeat (first | with_reducible exact Ext.refl _ | refine Ext.drewN ?_ _ | refine Ext.drew ?_ | refine Ext.alloc ?_ _ | assumption | (refine Below.trans ?_ (by assumption)) | (refine Ext.trans ?_ (by assumption)) | (refine Below.trans ?_ (Below.mono (by assumption) (by omega))))) (fun hHeld => ?_)
            clear hK K
            (try simp only [Act.put]); (try simp only [List.getElem_toArray]); (try simp only [List.getElem_cons_succ]); (try simp only [List.getElem_cons_zero]); (try simp only [List.setIfInBounds_toArray]); (try simp only [List.set_cons_succ]); (try simp only [List.set_cons_zero])
            refine wpAnyH_ready (rs := [9]) (by kernel_rfl) (by simp) ?_
            refine AllReadyH.cons rfl (fun K hK => ?_) AllReadyH.nil
            have BX : Blk w7 (w6.heap.size) 41 #[.slice none 0 0, .bool false] := (Blk.ext (Blk.at_ (w := w6) (B := (w6.heap.size)) 41 #[.slice none 0 0, .bool false] (by simp)) E7)
            obtain ⟨g0, g1, gf0, gf1⟩ := BX.two
            have R6 := ((O6.out.rd (A := fun k => ((w3.drew.alloc (.cells #[.slice Ad2 l.length c2, .bool f] 35))).heap.size ≤ k) (fun _ h => h) (fun _ h => h)).lt.ext (show Ext w6 w7 from (Ext.trans (Ext.alloc (Ext.refl _) _) E7))).mono (B := fun k => w3.heap.size ≤ k ∧ k ≠ (w6.heap.size)) (fun k _ hk => by (try simp at hk); constructor <;> (try simp) <;> omega)
            have R7 := (hr7.out.ext (show Ext w7 w7 from (Ext.refl _))).mono (B := fun k => w3.heap.size ≤ k ∧ k ≠ (w6.heap.size)) (fun k _ hk => by (try simp at hk); constructor <;> (try simp) <;> omega)
            have R6 := Lib.hid R6
            have R7 := Lib.hid R7
            have BX := Lib.hid BX
            go_simp
            refine hK.out _ _ (Mod.toExt (by assumption : Ext w3 w7) (S := fun k => k = (w6.heap.size)) (by repeat (first | with_reducible exact Mod.refl _ _ | refine Mod.drew ?_ | refine Mod.drewN ?_ _ | refine Mod.set1 ?_ _)) (fun k hk hs => by (try simp at hs); omega)) (fun hHeld => ?_)
            clear hK K
            (try simp only [Act.put]); (try simp only [List.getElem_toArray]); (try simp only [List.getElem_cons_succ]); (try simp only [List.getElem_cons_zero]); (try simp only [List.setIfInBounds_toArray]); (try simp only [List.set_cons_succ]); (try simp only [List.set_cons_zero])
            refine wpAnyH_done (by kernel_rfl) ?_ _
            go_wp2_with fail
            go_meet
            exact ⟨_, _, _, Ao, co, rfl, rfl, Lib.hid ((R6.out.mod (S := fun k => k = (w6.heap.size)) (by repeat (first | with_reducible exact Mod.refl _ _ | refine Mod.drew ?_ | refine Mod.drewN ?_ _ | refine Mod.set1 ?_ _)) (fun k _ hk => hk.2)).mono fun k _ hk => hk.1), Lib.hid (BX.out.put2 _ _), Lib.hid ((R7.out.mod (S := fun k => k = (w6.heap.size)) (by repeat (first | with_reducible exact Mod.refl _ _ | refine Mod.drew ?_ | refine Mod.drewN ?_ _ | refine Mod.set1 ?_ _)) (fun k _ hk => hk.2)).mono fun k _ hk => hk.1), hHeld⟩
        ·
          go_simp
          refine hK.out _ _ (by repeat (first | with_reducible exact Ext.refl _ | refine Ext.drewN ?_ _ | refine Ext.drew ?_ | refine Ext.alloc ?_ _ | assumption | (refine Below.trans ?_ (by assumption)) | (refine Ext.trans ?_ (by assumption)) | (refine Below.trans ?_ (Below.mono (by assumption) (by omega))))) (fun hHeld => ?_)
          clear hK K
          (try simp only [Act.put]); (try simp only [List.getElem_toArray]); (try simp only [List.getElem_cons_succ]); (try simp only [List.getElem_cons_zero]); (try simp only [List.setIfInBounds_toArray]); (try simp only [List.set_cons_succ]); (try simp only [List.set_cons_zero])
          refine wpAnyH_ready (rs := [1]) (by kernel_rfl) (by simp) ?_
          refine AllReadyH.cons rfl (fun K hK => ?_) AllReadyH.nil
          go_simp
          go_at_call 10
          refine (to_any (A := fun _ => True) _ ls _ (H.out.y.ext (by repeat (first | with_reducible exact Ext.refl _ | refine Ext.drewN ?_ _ | refine Ext.drew ?_ | refine Ext.alloc ?_ _ | assumption | (refine Below.trans ?_ (by assumption)) | (refine Ext.trans ?_ (by assumption)) | (refine Below.trans ?_ (Below.mono (by assumption) (by omega)))))) HU.out (by omega)).mono ?_
          rintro e w6 ⟨A6, c6, rfl, o6, E6⟩
          have O6 := Lib.hid o6
          have z6 := E6.size
          (try simp at z6)
          (try dsimp only)
          refine hK.out _ _ (by repeat (first | with_reducible exact Ext.refl _ | refine Ext.drewN ?_ _ | refine Ext.drew ?_ | refine Ext.alloc ?_ _ | assumption | (refine Below.trans ?_ (by assumption)) | (refine Ext.trans ?_ (by assumption)) | (refine Below.trans ?_ (Below.mono (by assumption) (by omega))))) (fun hHeld => ?_)
          clear hK K
          (try simp only [Act.put]); (try simp only [List.getElem_toArray]); (try simp only [List.getElem_cons_succ]); (try simp only [List.getElem_cons_zero]); (try simp only [List.setIfInBounds_toArray]); (try simp only [List.set_cons_succ]); (try simp only [List.set_cons_zero])
          refine wpAnyH_ready (rs := [4]) (by kernel_rfl) (by simp) ?_
          refine AllReadyH.cons rfl (fun K hK => ?_) AllReadyH.nil
          go_simp
          go_at_call 10
          refine (to_any (A := fun _ => True) _ [(l, f)] _ (RdY.singleB (ln_rel (f := f) (H2.out.ext (by repeat (first | with_reducible exact Ext.refl _ | refine Ext.drewN ?_ _ | refine Ext.drew ?_ | refine Ext.alloc ?_ _ | assumption | (refine Below.trans ?_ (by assumption)) | (refine Ext.trans ?_ (by assumption)) | (refine Below.trans ?_ (Below.mono (by assumption) (by omega))))))) (Blk.ext (Blk.alloc (Blk.at_ (w := w3.drew) (B := w3.heap.size) 35 #[.slice Ad2 l.length c2, .bool f] (by simp)) _) E6)) HU1.out (by simp)).mono ?_
          rintro e w7 ⟨A7, c7, rfl, o7, E7⟩
          have hl1 : [(l, f)].length = 1 := rfl
          rw [hl1] at o7 ⊢
          have O7 := Lib.hid o7
          have z7 := E7.size
          (try simp at z7)
          (try dsimp only)
          refine hK.out _ _ (by repeat (first | with_reducible exact Ext.refl _ | refine Ext.drewN ?_ _ | refine Ext.drew ?_ | refine Ext.alloc ?_ _ | assumption | (refine Below.trans ?_ (by assumption)) | (refine Ext.trans ?_ (by assumption)) | (refine Below.trans ?_ (Below.mono (by assumption) (by omega))))) (fun hHeld => ?_)
          clear hK K
          (try simp only [Act.put]); (try simp only [List.getElem_toArray]); (try simp only [List.getElem_cons_succ]); (try simp only [List.getElem_cons_zero]); (try simp only [List.setIfInBounds_toArray]); (try simp only [List.set_cons_succ]); (try simp only [List.set_cons_zero])
          obtain ⟨b7, Ao, co, rfl, hx7, hy7, hr7, hq1, hq2⟩ := line_one O7.out
          (refine wpAnyH_take (i := 5) (v := ?_) rfl (by kernel_rfl) (by kernel_rfl) (by kernel_rfl) (fun _ _ _ h => h) (Or.inl ⟨by rfl, ?_⟩) (by assumption) ?_; rotate_left; (focus (intro w' hSw; go_simp; try with_reducible rfl)); (try simp only [List.getElem_toArray]); (try simp only [List.getElem_cons_succ]); (try simp only [List.getElem_cons_zero]); (try simp only [Act.put]); (try simp only [List.setIfInBounds_toArray]); (try simp only [List.set_cons_succ]); (try simp only [List.set_cons_zero]))
          (refine wpAnyH_take (i := 8) (v := ?_) rfl (by kernel_rfl) (by kernel_rfl) (by kernel_rfl) (fun _ _ _ h => h) (Or.inl ⟨by rfl, ?_⟩) (by assumption) ?_; rotate_left; (focus (intro w' hSw; go_simp; try with_reducible rfl)); (try simp only [List.getElem_toArray]); (try simp only [List.getElem_cons_succ]); (try simp only [List.getElem_cons_zero]); (try simp only [Act.put]); (try simp only [List.setIfInBounds_toArray]); (try simp only [List.set_cons_succ]); (try simp only [List.set_cons_zero]))
          refine wpAnyH_ready (rs := [6]) (by kernel_rfl) (by simp) ?_
          refine AllReadyH.cons rfl (fun K hK => ?_) AllReadyH.nil
          have kx : (w7).cell? ⟨b7, 0, none⟩ = some (.slice Ao l.length co) := cell_ext (Ext.refl _) hx7
          have ky : (w7).cell? ⟨b7, 1, none⟩ = some (.bool f) := cell_ext (Ext.refl _) hy7
          go_simp
          refine hK.out _ _ (by repeat (first | with_reducible exact Ext.refl _ | refine Ext.drewN ?_ _ | refine Ext.drew ?_ | refine Ext.alloc ?_ _ | assumption | (refine Below.trans ?_ (by assumption)) | (refine Ext.trans ?_ (by assumption)) | (refine Below.trans ?_ (Below.mono (by assumption) (by omega))))) (fun hHeld => ?_)
          clear hK K
          (try simp only [Act.put]); (try simp only [List.getElem_toArray]); (try simp only [List.getElem_cons_succ]); (try simp only [List.getElem_cons_zero]); (try simp only [List.setIfInBounds_toArray]); (try simp only [List.set_cons_succ]); (try simp only [List.set_cons_zero])
          refine wpAnyH_ready (rs := [9]) (by kernel_rfl) (by simp) ?_
          refine AllReadyH.cons rfl (fun K hK => ?_) AllReadyH.nil
          have BX : Blk w7 (w3.heap.size + 1) 41 #[.slice none 0 0, .bool false] := (Blk.ext (Blk.ext (Blk.at_ (w := (w3.drew.alloc (.cells #[.slice Ad2 l.length c2, .bool f] 35))) (B := (w3.heap.size + 1)) 41 #[.slice none 0 0, .bool false] (by simp)) E6) E7)
          obtain ⟨g0, g1, gf0, gf1⟩ := BX.two
          have R6 := ((O6.out.rd (A := fun k => (((w3.drew.alloc (.cells #[.slice Ad2 l.length c2, .bool f] 35)).alloc (.cells #[.slice none 0 0, .bool false] 41))).heap.size ≤ k) (fun _ h => h) (fun _ h => h)).lt.ext (show Ext w6 w7 from (Ext.trans (Ext.refl _) E7))).mono (B := fun k => w3.heap.size ≤ k ∧ k ≠ (w3.heap.size + 1)) (fun k _ hk => by (try simp at hk); constructor <;> (try simp) <;> omega)
          have R7 := (hr7.out.ext (show Ext w7 w7 from (Ext.refl _))).mono (B := fun k => w3.heap.size ≤ k ∧ k ≠ (w3.heap.size + 1)) (fun k _ hk => by (try simp at hk); constructor <;> (try simp) <;> omega)
          have R6 := Lib.hid R6
          have R7 := Lib.hid R7
          have BX := Lib.hid BX
          go_simp
          refine hK.out _ _ (Mod.toExt (by assumption : Ext w3 w7) (S := fun k => k = (w3.heap.size + 1)) (by repeat (first | with_reducible exact Mod.refl _ _ | refine Mod.drew ?_ | refine Mod.drewN ?_ _ | refine Mod.set1 ?_ _)) (fun k hk hs => by (try simp at hs); omega)) (fun hHeld => ?_)
          clear hK K
          (try simp only [Act.put]); (try simp only [List.getElem_toArray]); (try simp only [List.getElem_cons_succ]); (try simp only [List.getElem_cons_zero]); (try simp only [List.setIfInBounds_toArray]); (try simp only [List.set_cons_succ]); (try simp only [List.set_cons_zero])
          refine wpAnyH_done (by kernel_rfl) ?_ _
          go_wp2_with fail
          go_meet
          exact ⟨_, _, _, Ao, co, rfl, rfl, Lib.hid ((R6.out.mod (S := fun k => k = (w3.heap.size + 1)) (by repeat (first | with_reducible exact Mod.refl _ _ | refine Mod.drew ?_ | refine Mod.drewN ?_ _ | refine Mod.set1 ?_ _)) (fun k _ hk => hk.2)).mono fun k _ hk => hk.1), Lib.hid (BX.out.put2 _ _), Lib.hid ((R7.out.mod (S := fun k => k = (w3.heap.size + 1)) (by repeat (first | with_reducible exact Mod.refl _ _ | refine Mod.drew ?_ | refine Mod.drewN ?_ _ | refine Mod.set1 ?_ _)) (fun k _ hk => hk.2)).mono fun k _ hk => hk.1), hHeld⟩
      ·
        go_simp
        refine hK.out _ _ (by repeat (first | with_reducible exact Ext.refl _ | refine Ext.drewN ?_ _ | refine Ext.drew ?_ | refine Ext.alloc ?_ _ | assumption | (refine Below.trans ?_ (by assumption)) | (refine Ext.trans ?_ (by assumption)) | (refine Below.trans ?_ (Below.mono (by assumption) (by omega))))) (fun hHeld => ?_)
        clear hK K
        (try simp only [Act.put]); (try simp only [List.getElem_toArray]); (try simp only [List.getElem_cons_succ]); (try simp only [List.getElem_cons_zero]); (try simp only [List.setIfInBounds_toArray]); (try simp only [List.set_cons_succ]); (try simp only [List.set_cons_zero])
        refine wpAnyH_ready (rs := [1, 3]) (by kernel_rfl) (by simp) ?_
        refine AllReadyH.cons rfl (fun K hK => ?_) (AllReadyH.cons rfl (fun K hK => ?_) AllReadyH.nil)
        ·
          go_simp
          go_at_call 10
          refine (to_any (A := fun _ => True) _ ls _ (H.out.y.ext (by repeat (first | with_reducible exact Ext.refl _ | refine Ext.drewN ?_ _ | refine Ext.drew ?_ | refine Ext.alloc ?_ _ | assumption | (refine Below.trans ?_ (by assumption)) | (refine Ext.trans ?_ (by assumption)) | (refine Below.trans ?_ (Below.mono (by assumption) (by omega)))))) HU.out (by omega)).mono ?_
          rintro e w6 ⟨A6, c6, rfl, o6, E6⟩
          have O6 := Lib.hid o6
          have z6 := E6.size
          (try simp at z6)
          (try dsimp only)
          refine hK.out _ _ (by repeat (first | with_reducible exact Ext.refl _ | refine Ext.drewN ?_ _ | refine Ext.drew ?_ | refine Ext.alloc ?_ _ | assumption | (refine Below.trans ?_ (by assumption)) | (refine Ext.trans ?_ (by assumption)) | (refine Below.trans ?_ (Below.mono (by assumption) (by omega))))) (fun hHeld => ?_)
          clear hK K
          (try simp only [Act.put]); (try simp only [List.getElem_toArray]); (try simp only [List.getElem_cons_succ]); (try simp only [List.getElem_cons_zero]); (try simp only [List.setIfInBounds_toArray]); (try simp only [List.set_cons_succ]); (try simp only [List.set_cons_zero])
          refine wpAnyH_ready (rs := [3]) (by kernel_rfl) (by simp) ?_
          refine AllReadyH.cons rfl (fun K hK => ?_) AllReadyH.nil
          go_simp
          refine hK.out _ _ (by repeat (first | with_reducible exact Ext.refl _ | refine Ext.drewN ?_ _ | refine Ext.drew ?_ | refine Ext.alloc ?_ _ | assumption | (refine Below.trans ?_ (by assumption)) | (refine Ext.trans ?_ (by assumption)) | (refine Below.trans ?_ (Below.mono (by assumption) (by omega))))) (fun hHeld => ?_)
          clear hK K
          (try simp only [Act.put]); (try simp only [List.getElem_toArray]); (try simp only [List.getElem_cons_succ]); (try simp only [List.getElem_cons_zero]); (try simp only [List.setIfInBounds_toArray]); (try simp only [List.set_cons_succ]); (try simp only [List.set_cons_zero])
          refine wpAnyH_ready (rs := [4]) (by kernel_rfl) (by simp) ?_
          refine AllReadyH.cons rfl (fun K hK => ?_) AllReadyH.nil
          go_simp
          go_at_call 10
          refine (to_any (A := fun _ => True) _ [(l, f)] _ (RdY.singleB (ln_rel (f := f) (H2.out.ext (by repeat (first | with_reducible exact Ext.refl _ | refine Ext.drewN ?_ _ | refine Ext.drew ?_ | refine Ext.alloc ?_ _ | assumption | (refine Below.trans ?_ (by assumption)) | (refine Ext.trans ?_ (by assumption)) | (refine Below.trans ?_ (Below.mono (by assumption) (by omega))))))) (Blk.at_ (w := w6) (B := w6.heap.size) 35 #[.slice Ad2 l.length c2, .bool f] (by simp))) HU1.out (by simp)).mono ?_
          rintro e w7 ⟨A7, c7, rfl, o7, E7⟩
          have hl1 : [(l, f)].length = 1 := rfl
          rw [hl1] at o7 ⊢
          have O7 := Lib.hid o7
          have z7 := E7.size
          (try simp at z7)
          (try dsimp only)
          refine hK.out _ _ (by repeat (first | with_reducible exact Ext.refl _ | refine Ext.drewN ?_ _ | refine Ext.drew ?_ | refine Ext.alloc ?_ _ | assumption | (refine Below.trans ?_ (by assumption)) | (refine Ext.trans ?_ (by assumption)) | (refine Below.trans ?_ (Below.mono (by assumption) (by omega))))) (fun hHeld => ?_)
          clear hK K
          (try simp only [Act.put]); (try simp only [List.getElem_toArray]); (try simp only [List.getElem_cons_succ]); (try simp only [List.getElem_cons_zero]); (try simp only [List.setIfInBounds_toArray]); (try simp only [List.set_cons_succ]); (try simp only [List.set_cons_zero])
          obtain ⟨b7, Ao, co, rfl, hx7, hy7, hr7, hq1, hq2⟩ := line_one O7.out
          (refine wpAnyH_take (i := 5) (v := ?_) rfl (by kernel_rfl) (by kernel_rfl) (by kernel_rfl) (fun _ _ _ h => h) (Or.inl ⟨by rfl, ?_⟩) (by assumption) ?_; rotate_left; (focus (intro w' hSw; go_simp; try with_reducible rfl)); (try simp only [List.getElem_toArray]); (try simp only [List.getElem_cons_succ]); (try simp only [List.getElem_cons_zero]); (try simp only [Act.put]); (try simp only [List.setIfInBounds_toArray]); (try simp only [List.set_cons_succ]); (try simp only [List.set_cons_zero]))
          (refine wpAnyH_take (i := 8) (v := ?_) rfl (by kernel_rfl) (by kernel_rfl) (by kernel_rfl) (fun _ _ _ h => h) (Or.inl ⟨by rfl, ?_⟩) (by assumption) ?_; rotate_left; (focus (intro w' hSw; go_simp; try with_reducible rfl)); (try simp only [List.getElem_toArray]); (try simp only [List.getElem_cons_succ]); (try simp only [List.getElem_cons_zero]); (try simp only [Act.put]); (try simp only [List.setIfInBounds_toArray]); (try simp only [List.set_cons_succ]); (try simp only [List.set_cons_zero]))
          refine wpAnyH_ready (rs := [6]) (by kernel_rfl) (by simp) ?_
          refine AllReadyH.cons rfl (fun K hK => ?_) AllReadyH.nil
          have kx : (w7).cell? ⟨b7, 0, none⟩ = some (.slice Ao l.length co) := cell_ext (Ext.refl _) hx7
          have ky : (w7).cell? ⟨b7, 1, none⟩ = some (.bool f) := cell_ext (Ext.refl _) hy7
          go_simp
          refine hK.out _ _ (by repeat (first | with_reducible exact Ext.refl _ | refine Ext.drewN ?_ _ | refine Ext.drew ?_ | refine Ext.alloc ?_ _ | assumption | (refine Below.trans ?_ (by assumption)) | (refine Ext.trans ?_ (by assumption)) | (refine Below.trans ?_ (Below.mono (by assumption) (by omega))))) (fun hHeld => ?_)
          clear hK K
          (try simp only [Act.put]); (try simp only [List.getElem_toArray]); (try simp only [List.getElem_cons_succ]); (try simp only [List.getElem_cons_zero]); (try simp only [List.setIfInBounds_toArray]); (try simp only [List.set_cons_succ]); (try simp only [List.set_cons_zero])
          refine wpAnyH_ready (rs := [9]) (by kernel_rfl) (by simp) ?_
          refine AllReadyH.cons rfl (fun K hK => ?_) AllReadyH.nil
          have BX : Blk w7 (w3.heap.size) 41 #[.slice none 0 0, .bool false] := (Blk.ext (Blk.alloc (Blk.ext (Blk.at_ (w := w3.drew) (B := (w3.heap.size)) 41 #[.slice none 0 0, .bool false] (by simp)) E6) _) E7)
          obtain ⟨g0, g1, gf0, gf1⟩ := BX.two
          have R6 := ((O6.out.rd (A := fun k => ((w3.drew.alloc (.cells #[.slice none 0 0, .bool false] 41))).heap.size ≤ k) (fun _ h => h) (fun _ h => h)).lt.ext (show Ext w6 w7 from (Ext.trans (Ext.alloc (Ext.refl _) _) E7))).mono (B := fun k => w3.heap.size ≤ k ∧ k ≠ (w3.heap.size)) (fun k _ hk => by (try simp at hk); constructor <;> (try simp) <;> omega)
          have R7 := (hr7.out.ext (show Ext w7 w7 from (Ext.refl _))).mono (B := fun k => w3.heap.size ≤ k ∧ k ≠ (w3.heap.size)) (fun k _ hk => by (try simp at hk); constructor <;> (try simp) <;> omega)
          have R6 := Lib.hid R6
          have R7 := Lib.hid R7
          have BX := Lib.hid BX
          go_simp
          refine hK.out _ _ (Mod.toExt (by assumption : Ext w3 w7) (S := fun k => k = (w3.heap.size)) (by repeat (first | with_reducible exact Mod.refl _ _ | refine Mod.drew ?_ | refine Mod.drewN ?_ _ | refine Mod.set1 ?_ _)) (fun k hk hs => by (try simp at hs); omega)) (fun hHeld => ?_)
          clear hK K
          (try simp only [Act.put]); (try simp only [List.getElem_toArray]); (try simp only [List.getElem_cons_succ]); (try simp only [List.getElem_cons_zero]); (try simp only [List.setIfInBounds_toArray]); (try simp only [List.set_cons_succ]); (try simp only [List.set_cons_zero])
          refine wpAnyH_done (by kernel_rfl) ?_ _
          go_wp2_with fail
          go_meet
          exact ⟨_, _, _, Ao, co, rfl, rfl, Lib.hid ((R6.out.mod (S := fun k => k = (w3.heap.size)) (by repeat (first | with_reducible exact Mod.refl _ _ | refine Mod.drew ?_ | refine Mod.drewN ?_ _ | refine Mod.set1 ?_ _)) (fun k _ hk => hk.2)).mono fun k _ hk => hk.1), Lib.hid (BX.out.put2 _ _), Lib.hid ((R7.out.mod (S := fun k => k = (w3.heap.size)) (by repeat (first | with_reducible exact Mod.refl _ _ | refine Mod.drew ?_ | refine Mod.drewN ?_ _ | refine Mod.set1 ?_ _)) (fun k _ hk => hk.2)).mono fun k _ hk => hk.1), hHeld⟩
        ·
          go_simp
          refine hK.out _ _ (by repeat (first | with_reducible exact Ext.refl _ | refine Ext.drewN ?_ _ | refine Ext.drew ?_ | refine Ext.alloc ?_ _ | assumption | (refine Below.trans ?_ (by assumption)) | (refine Ext.trans ?_ (by assumption)) | (refine Below.trans ?_ (Below.mono (by assumption) (by omega))))) (fun hHeld => ?_)
          clear hK K
          (try simp only [Act.put]); (try simp only [List.getElem_toArray]); (try simp only [List.getElem_cons_succ]); (try simp only [List.getElem_cons_zero]); (try simp only [List.setIfInBounds_toArray]); (try simp only [List.set_cons_succ]); (try simp only [List.set_cons_zero])
          refine wpAnyH_ready (rs := [1]) (by kernel_rfl) (by simp) ?_
          refine AllReadyH.cons rfl (fun K hK => ?_) AllReadyH.nil
          go_simp
          go_at_call 10
          refine (to_any (A := fun _ => True) _ ls _ (H.out.y.ext (by repeat (first | with_reducible exact Ext.refl _ | refine Ext.drewN ?_ _ | refine Ext.drew ?_ | refine Ext.alloc ?_ _ | assumption | (refine Below.trans ?_ (by assumption)) | (refine Ext.trans ?_ (by assumption)) | (refine Below.trans ?_ (Below.mono (by assumption) (by omega)))))) HU.out (by omega)).mono ?_
          rintro e w6 ⟨A6, c6, rfl, o6, E6⟩
          have O6 := Lib.hid o6
          have z6 := E6.size
          (try simp at z6)
          (try dsimp only)
          refine hK.out _ _ (by repeat (first | with_reducible exact Ext.refl _ | refine Ext.drewN ?_ _ | refine Ext.drew ?_ | refine Ext.alloc ?_ _ | assumption | (refine Below.trans ?_ (by assumption)) | (refine Ext.trans ?_ (by assumption)) | (refine Below.trans ?_ (Below.mono (by assumption) (by omega))))) (fun hHeld => ?_)
          clear hK K
          (try simp only [Act.put]); (try simp only [List.getElem_toArray]); (try simp only [List.getElem_cons_succ]); (try simp only [List.getElem_cons_zero]); (try simp only [List.setIfInBounds_toArray]); (try simp only [List.set_cons_succ]); (try simp only [List.set_cons_zero])
          refine wpAnyH_ready (rs := [4]) (by kernel_rfl) (by simp) ?_
          refine AllReadyH.cons rfl (fun K hK => ?_) AllReadyH.nil
          go_simp
          go_at_call 10
          refine (to_any (A := fun _ => True) _ [(l, f)] _ (RdY.singleB (ln_rel (f := f) (H2.out.ext (by repeat (first | with_reducible exact Ext.refl _ | refine Ext.drewN ?_ _ | refine Ext.drew ?_ | refine Ext.alloc ?_ _ | assumption | (refine Below.trans ?_ (by assumption)) | (refine Ext.trans ?_ (by assumption)) | (refine Below.trans ?_ (Below.mono (by assumption) (by omega))))))) (Blk.ext (Blk.at_ (w := (w3.drew.alloc (.cells #[.slice none 0 0, .bool false] 41))) (B := w3.heap.size + 1) 35 #[.slice Ad2 l.length c2, .bool f] (by simp)) E6)) HU1.out (by simp)).mono ?_
          rintro e w7 ⟨A7, c7, rfl, o7, E7⟩
          have hl1 : [(l, f)].length = 1 := rfl
          rw [hl1] at o7 ⊢
          have O7 := Lib.hid o7
          have z7 := E7.size
          (try simp at z7)
          (try dsimp only)
          refine hK.out _ _ (by repeat (first | with_reducible exact Ext.refl _ | refine Ext.drewN ?_ _ | refine Ext.drew ?_ | refine Ext.alloc ?_ _ | assumption | (refine Below.trans ?_ (by assumption)) | (refine Ext.trans ?_ (by assumption)) | (refine Below.trans ?_ (Below.mono (by assumption) (by omega))))) (fun hHeld => ?_)
          clear hK K
          (try simp only [Act.put]); (try simp only [List.getElem_toArray]); (try simp only [List.getElem_cons_succ]); (try simp only [List.getElem_cons_zero]); (try simp only [List.setIfInBounds_toArray]); (try simp only [List.set_cons_succ]); (try simp only [List.set_cons_zero])
          obtain ⟨b7, Ao, co, rfl, hx7, hy7, hr7, hq1, hq2⟩ := line_one O7.out
          (refine wpAnyH_take (i := 5) (v := ?_) rfl (by kernel_rfl) (by kernel_rfl) (by kernel_rfl) (fun _ _ _ h => h) (Or.inl ⟨by rfl, ?_⟩) (by assumption) ?_; rotate_left; (focus (intro w' hSw; go_simp; try with_reducible rfl)); (try simp only [List.getElem_toArray]); (try simp only [List.getElem_cons_succ]); (try simp only [List.getElem_cons_zero]); (try simp only [Act.put]); (try simp only [List.setIfInBounds_toArray]); (try simp only [List.set_cons_succ]); (try simp only [List.set_cons_zero]))
          (refine wpAnyH_take (i := 8) (v := ?_) rfl (by kernel_rfl) (by kernel_rfl) (by kernel_rfl) (fun _ _ _ h => h) (Or.inl ⟨by rfl, ?_⟩) (by assumption) ?_; rotate_left; (focus (intro w' hSw; go_simp; try with_reducible rfl)); (try simp only [List.getElem_toArray]); (try simp only [List.getElem_cons_succ]); (try simp only [List.getElem_cons_zero]); (try simp only [Act.put]); (try simp only [List.setIfInBounds_toArray]); (try simp only [List.set_cons_succ]); (try simp only [List.set_cons_zero]))
          refine wpAnyH_ready (rs := [6]) (by kernel_rfl) (by simp) ?_
          refine AllReadyH.cons rfl (fun K hK => ?_) AllReadyH.nil
          have kx : (w7).cell? ⟨b7, 0, none⟩ = some (.slice Ao l.length co) := cell_ext (Ext.refl _) hx7
          have ky : (w7).cell? ⟨b7, 1, none⟩ = some (.bool f) := cell_ext (Ext.refl _) hy7
          go_simp
          refine hK.out _ _ (by repeat (first | with_reducible exact Ext.refl _ | refine Ext.drewN ?_ _ | refine Ext.drew ?_ | refine Ext.alloc ?_ _ | assumption | (refine Below.trans ?_ (by assumption)) | (refine Ext.trans ?_ (by assumption)) | (refine Below.trans ?_ (Below.mono (by assumption) (by omega))))) (fun hHeld => ?_)
          clear hK K
          (try simp only [Act.put]); (try simp only [List.getElem_toArray]); (try simp only [List.getElem_cons_succ]); (try simp only [List.getElem_cons_zero]); (try simp only [List.setIfInBounds_toArray]); (try simp only [List.set_cons_succ]); (try simp only [List.set_cons_zero])
          refine wpAnyH_ready (rs := [9]) (by kernel_rfl) (by simp) ?_
          refine AllReadyH.cons rfl (fun K hK => ?_) AllReadyH.nil
          have BX : Blk w7 (w3.heap.size) 41 #[.slice none 0 0, .bool false] := (Blk.ext (Blk.ext (Blk.alloc (Blk.at_ (w := w3.drew) (B := (w3.heap.size)) 41 #[.slice none 0 0, .bool false] (by simp)) _) E6) E7)
          obtain ⟨g0, g1, gf0, gf1⟩ := BX.two
          have R6 := ((O6.out.rd (A := fun k => (((w3.drew.alloc (.cells #[.slice none 0 0, .bool false] 41)).alloc (.cells #[.slice Ad2 l.length c2, .bool f] 35))).heap.size ≤ k) (fun _ h => h) (fun _ h => h)).lt.ext (show Ext w6 w7 from (Ext.trans (Ext.refl _) E7))).mono (B := fun k => w3.heap.size ≤ k ∧ k ≠ (w3.heap.size)) (fun k _ hk => by (try simp at hk); constructor <;> (try simp) <;> omega)
          have R7 := (hr7.out.ext (show Ext w7 w7 from (Ext.refl _))).mono (B := fun k => w3.heap.size ≤ k ∧ k ≠ (w3.heap.size)) (fun k _ hk => by (try simp at hk); constructor <;> (try simp) <;> omega)
          have R6 := Lib.hid R6
          have R7 := Lib.hid R7
          have BX := Lib.hid BX
          go_simp
          refine hK.out _ _ (Mod.toExt (by assumption : Ext w3 w7) (S := fun k => k = (w3.heap.size)) (by repeat (first | with_reducible exact Mod.refl _ _ | refine Mod.drew ?_ | refine Mod.drewN ?_ _ | refine Mod.set1 ?_ _)) (fun k hk hs => by (try simp at hs); omega)) (fun hHeld => ?_)
          clear hK K
          (try simp only [Act.put]); (try simp only [List.getElem_toArray]); (try simp only [List.getElem_cons_succ]); (try simp only [List.getElem_cons_zero]); (try simp only [List.setIfInBounds_toArray]); (try simp only [List.set_cons_succ]); (try simp only [List.set_cons_zero])
          refine wpAnyH_done (by kernel_rfl) ?_ _
          go_wp2_with fail
          go_meet
          exact ⟨_, _, _, Ao, co, rfl, rfl, Lib.hid ((R6.out.mod (S := fun k => k = (w3.heap.size)) (by repeat (first | with_reducible exact Mod.refl _ _ | refine Mod.drew ?_ | refine Mod.drewN ?_ _ | refine Mod.set1 ?_ _)) (fun k _ hk => hk.2)).mono fun k _ hk => hk.1), Lib.hid (BX.out.put2 _ _), Lib.hid ((R7.out.mod (S := fun k => k = (w3.heap.size)) (by repeat (first | with_reducible exact Mod.refl _ _ | refine Mod.drew ?_ | refine Mod.drewN ?_ _ | refine Mod.set1 ?_ _)) (fun k _ hk => hk.2)).mono fun k _ hk => hk.1), hHeld⟩
  case rest =>
    obtain ⟨A4, c4, gb, Ao, co, rfl, rfl, RI4, BB4, RO4, E4⟩ := hcut
    obtain ⟨g0, g1, _, _⟩ := BB4.out.two
    obtain ⟨⟨pl, pb⟩, hp⟩ : ∃ x, putL ls (l, f) = x := ⟨_, rfl⟩
    obtain ⟨⟨rl, rr, rk⟩, hr⟩ : ∃ x, readL ls n = x := ⟨_, rfl⟩
    have HP := Lib.hid hp
    have HRD := Lib.hid hr
    have EC : Ext w0 wc := E03.trans E4
    have hlc : ls.length ≤ 200 := by omega
    have hpl : pl.length ≤ 201 := by
      have := hp
      unfold putL at this
      split at this <;> (simp only [Prod.mk.injEq] at this; rw [← this.1]; simp; omega)
    have hrr : rr.length ≤ 200 := by
      have := hr
      unfold readL at this
      rcases ls with _ | ⟨⟨l0, f0⟩, t0⟩
      · simp only [Prod.mk.injEq] at this; rw [← this.2.1]; simp
      · simp only at this
        simp only [List.length_cons] at hlc
        split at this
        · simp only [Prod.mk.injEq] at this; rw [← this.2.1]; simp; omega
        · split at this <;> (simp only [Prod.mk.injEq] at this; rw [← this.2.1]; simp; omega)
    clear hp hr
    go_wp2_with fail
    have hput := putW_any (.slice A4 ls.length c4) (.slice Ao l.length co) ls l f _ (A := fun _ => True) (rds_ln' RI4.out) (RO4.out.mono fun _ _ _ => trivial) HUS.out (by omega)
    rw [HP.out] at hput
    refine hput.mono ?_
    rintro e w5 ⟨Ap, cp, rfl, Op, E5⟩
    have Op := Lib.hid Op
    clear hput
    have E05 : Ext w0 w5 := EC.trans E5
    have q := (HBX.out.ext (show Ext w3 w5 from E4.trans E5)).two
    go_wp2
    refine wp_region_held_drew (S := fun w' => Ext w5 w') (by kernel_rfl) (Ext.drew (Ext.refl _)) (fun hHeld => ?_)
    (refine wpAnyH_take (i := 0) (v := ?_) rfl (by kernel_rfl) (by kernel_rfl) (by kernel_rfl) (fun _ _ _ h => h) (Or.inl ⟨by rfl, ?_⟩) (by assumption) ?_; rotate_left; (focus (intro w' hSw; go_simp; try with_reducible rfl)); (try simp only [List.getElem_toArray]); (try simp only [List.getElem_cons_succ]); (try simp only [List.getElem_cons_zero]); (try simp only [Act.put]); (try simp only [List.setIfInBounds_toArray]); (try simp only [List.set_cons_succ]); (try simp only [List.set_cons_zero]))
    (refine wpAnyH_take (i := 2) (v := ?_) rfl (by kernel_rfl) (by kernel_rfl) (by kernel_rfl) (fun _ _ _ h => h) (Or.inl ⟨by rfl, ?_⟩) (by assumption) ?_; rotate_left; (focus (intro w' hSw; have kc := (HBX.out.ext (Ext.trans (show Ext w3 w5 from E4.trans E5) hSw)).two; go_simp; try with_reducible rfl)); (try simp only [List.getElem_toArray]); (try simp only [List.getElem_cons_succ]); (try simp only [List.getElem_cons_zero]); (try simp only [Act.put]); (try simp only [List.setIfInBounds_toArray]); (try simp only [List.set_cons_succ]); (try simp only [List.set_cons_zero]))
    (refine wpAnyH_ready (rs := [1]) (by kernel_rfl) (by simp) ?_; refine AllReadyH.cons rfl (fun K hK => ?_) AllReadyH.nil; go_simp; go_at_call 13; refine (ref_any (A := fun _ => True) _ ls _ (H.out.y.ext (E0.trans (E05.trans (by assumption)))) (by omega)).mono ?_; rintro e w6 ⟨A6, c6, rfl, O6, E6⟩; (try dsimp only); refine hK.out _ _ (by repeat (first | with_reducible exact Ext.refl _ | refine Ext.drewN ?_ _ | refine Ext.drew ?_ | refine Ext.alloc ?_ _ | assumption | (refine Below.trans ?_ (by assumption)) | (refine Ext.trans ?_ (by assumption)) | (refine Below.trans ?_ (Below.mono (by assumption) (by omega))))) (fun hHeld => ?_); clear hK K; (try simp only [Act.put]); (try simp only [List.getElem_toArray]); (try simp only [List.getElem_cons_succ]); (try simp only [List.getElem_cons_zero]); (try simp only [List.setIfInBounds_toArray]); (try simp only [List.set_cons_succ]); (try simp only [List.set_cons_zero]))
    have O6 := Lib.hid O6
    have hrp := rput_any (A := fun _ => True) (.slice A6 ls.length c6) (.slice Ad2 l.length c2) ls l f w6 (O6.out.rdT) (H2.out.ext (E0.trans (E05.trans (by assumption)))) HUS.out (by omega)
    rw [HP.out] at hrp
    have HRP := Lib.hid hrp
    clear hrp
    (refine wpAnyH_ready (rs := [3]) (by kernel_rfl) (by simp) ?_; refine AllReadyH.cons rfl (fun K hK => ?_) AllReadyH.nil; go_simp; go_at_call 18; refine (HRP.out).mono ?_; rintro e w7 ⟨A7, c7, rfl, R7, E7⟩; (try dsimp only); refine hK.out _ _ (by repeat (first | with_reducible exact Ext.refl _ | refine Ext.drewN ?_ _ | refine Ext.drew ?_ | refine Ext.alloc ?_ _ | assumption | (refine Below.trans ?_ (by assumption)) | (refine Ext.trans ?_ (by assumption)) | (refine Below.trans ?_ (Below.mono (by assumption) (by omega))))) (fun hHeld => ?_); clear hK K; (try simp only [Act.put]); (try simp only [List.getElem_toArray]); (try simp only [List.getElem_cons_succ]); (try simp only [List.getElem_cons_zero]); (try simp only [List.setIfInBounds_toArray]); (try simp only [List.set_cons_succ]); (try simp only [List.set_cons_zero]))
    have R7 := Lib.hid R7
    (refine wpAnyH_take (i := 4) (v := ?_) rfl (by kernel_rfl) (by kernel_rfl) (by kernel_rfl) (fun _ _ _ h => h) (Or.inl ⟨by rfl, ?_⟩) (by assumption) ?_; rotate_left; (focus (intro w' hSw; go_simp; try with_reducible rfl)); (try simp only [List.getElem_toArray]); (try simp only [List.getElem_cons_succ]); (try simp only [List.getElem_cons_zero]); (try simp only [Act.put]); (try simp only [List.setIfInBounds_toArray]); (try simp only [List.set_cons_succ]); (try simp only [List.set_cons_zero]))
    (refine wpAnyH_take (i := 5) (v := ?_) rfl (by kernel_rfl) (by kernel_rfl) (by kernel_rfl) (fun _ _ _ h => h) (Or.inl ⟨by rfl, ?_⟩) (by assumption) ?_; rotate_left; (focus (intro w' hSw; go_simp; try with_reducible rfl)); (try simp only [List.getElem_toArray]); (try simp only [List.getElem_cons_succ]); (try simp only [List.getElem_cons_zero]); (try simp only [Act.put]); (try simp only [List.setIfInBounds_toArray]); (try simp only [List.set_cons_succ]); (try simp only [List.set_cons_zero]))
    (refine wpAnyH_take (i := 6) (v := ?_) rfl (by kernel_rfl) (by kernel_rfl) (by kernel_rfl) (fun _ _ _ h => h) (Or.inl ⟨by rfl, ?_⟩) (by assumption) ?_; rotate_left; (focus (intro w' hSw; go_simp; try with_reducible rfl)); (try simp only [List.getElem_toArray]); (try simp only [List.getElem_cons_succ]); (try simp only [List.getElem_cons_zero]); (try simp only [Act.put]); (try simp only [List.setIfInBounds_toArray]); (try simp only [List.set_cons_succ]); (try simp only [List.set_cons_zero]))
    (refine wpAnyH_take (i := 7) (v := ?_) rfl (by kernel_rfl) (by kernel_rfl) (by kernel_rfl) (fun _ _ _ h => h) (Or.inl ⟨by rfl, ?_⟩) (by assumption) ?_; rotate_left; (focus (intro w' hSw; go_simp; try with_reducible rfl)); (try simp only [List.getElem_toArray]); (try simp only [List.getElem_cons_succ]); (try simp only [List.getElem_cons_zero]); (try simp only [Act.put]); (try simp only [List.setIfInBounds_toArray]); (try simp only [List.set_cons_succ]); (try simp only [List.set_cons_zero]))
    (refine wpAnyH_take (i := 8) (v := ?_) rfl (by kernel_rfl) (by kernel_rfl) (by kernel_rfl) (fun _ _ _ h => h) (Or.inl ⟨by rfl, ?_⟩) (by assumption) ?_; rotate_left; (focus (intro w' hSw; go_simp; try with_reducible rfl)); (try simp only [List.getElem_toArray]); (try simp only [List.getElem_cons_succ]); (try simp only [List.getElem_cons_zero]); (try simp only [Act.put]); (try simp only [List.setIfInBounds_toArray]); (try simp only [List.set_cons_succ]); (try simp only [List.set_cons_zero]))
    refine wpAnyH_done (by kernel_rfl) ?_ _
    have E57 : Ext w5 w7 := by assumption
    have E07 : Ext w0 w7 := E05.trans E57
    clear HRP O6 E6 E7 q
    go_wp2_with fail
    have hrd := readW_any (.slice A4 ls.length c4) ls n w7 (rds_ln' (RI4.out.ext (E5.trans E57))) HU.out (by omega)
    rw [HRD.out] at hrd
    refine hrd.mono ?_
    rintro e w8 ⟨A8, c8, B8, d8, rfl, R8, S8, E8⟩
    have R8 := Lib.hid R8
    have S8 := Lib.hid S8
    clear hrd
    have E08 : Ext w0 w8 := E07.trans E8
    go_wp2_with fail
    refine (ref_any (A := fun _ => True) _ ls _ (H.out.y.ext (E0.trans E08)) (by omega)).mono ?_
    rintro e w9 ⟨A9, c9, rfl, O9, E9⟩
    have O9 := Lib.hid O9
    have E09 : Ext w0 w9 := E08.trans E9
    go_wp2_with fail
    have hrr2 := rread_any (.slice A9 ls.length c9) ls n w9 O9.out.rdT HU.out (by omega)
    rw [HRD.out] at hrr2
    refine hrr2.mono ?_
    rintro e w10 ⟨A10, c10, B10, d10, rfl, R10, S10, E10⟩
    have R10 := Lib.hid R10
    have S10 := Lib.hid S10
    clear hrr2 O9
    have E810 : Ext w8 w10 := E9.trans E10
    have E010 : Ext w0 w10 := E08.trans E810
    have E510 : Ext w5 w10 := E57.trans (E8.trans E810)
    simp only at R8 S8 R10 S10 Op R7
    have KE : Ext w5 w10 ∧ Ext w7 w10 ∧ Ext w8 w10 ∧ Ext w0 w10 ∧ Ext wc w10 := ⟨E510, E8.trans E810, E810, E010, E5.trans E510⟩
    have h57 : wc.heap.size ≤ w7.heap.size := (E5.trans E57).size
    have R7 := Lib.hid (R7.out.ext KE.2.1)
    have Opx := Lib.hid ((own_ln Op.out).rdT.y.ext KE.1)
    have R8x := Lib.hid (RdN.ext R8.out.1.ri KE.2.2.1)
    have S8x := Lib.hid ((rds_ln' (rds_ln S8.out)).y.ext KE.2.2.1)
    have RIx := Lib.hid ((rds_ln' RI4.out).y.ext KE.2.2.2.2)
    have Hx := Lib.hid (H.out.y.ext (E0.trans KE.2.2.2.1))
    clear E510 E810 E010 E08 E07 E05 E10 E9 E8 E57 E5
    have z1 : (pb != pb) = false := by cases pb <;> rfl
    have z2 : (rk != rk) = false := by cases rk <;> rfl
    go_wp2_with fail
    refine (from_any (A := fun _ => True) _ pl _ (Opx.out.ext (by repeat (first | with_reducible exact Ext.refl _ | refine Ext.drewN ?_ _ | refine Ext.drew ?_ | refine Ext.alloc ?_ _ | assumption | (refine Below.trans ?_ (by assumption)) | (refine Ext.trans ?_ (by assumption)) | (refine Below.trans ?_ (Below.mono (by assumption) (by omega)))))) (by omega)).mono ?_
    rintro e w11 ⟨A11, c11, rfl, O11, E11⟩
    have O11 := Lib.hid O11
    go_wp2_with fail
    refine (same_any _ _ pl pl _ (O11.out.rdT.y.ext (by repeat (first | with_reducible exact Ext.refl _ | refine Ext.drewN ?_ _ | refine Ext.drew ?_ | refine Ext.alloc ?_ _ | assumption | (refine Below.trans ?_ (by assumption)) | (refine Ext.trans ?_ (by assumption)) | (refine Below.trans ?_ (Below.mono (by assumption) (by omega)))))) (R7.out.y.ext (by repeat (first | with_reducible exact Ext.refl _ | refine Ext.drewN ?_ _ | refine Ext.drew ?_ | refine Ext.alloc ?_ _ | assumption | (refine Below.trans ?_ (by assumption)) | (refine Ext.trans ?_ (by assumption)) | (refine Below.trans ?_ (Below.mono (by assumption) (by omega))))))).mono ?_
    rintro e w12 ⟨rfl, E12⟩
    simp only [decide_true]
    go_wp2_with fail
    refine (bytes_any _ _ rl rl _ (RdN.ext R8x.out (by repeat (first | with_reducible exact Ext.refl _ | refine Ext.drewN ?_ _ | refine Ext.drew ?_ | refine Ext.alloc ?_ _ | assumption | (refine Below.trans ?_ (by assumption)) | (refine Ext.trans ?_ (by assumption)) | (refine Below.trans ?_ (Below.mono (by assumption) (by omega)))))) (RdN.ext R10.out.ri (by repeat (first | with_reducible exact Ext.refl _ | refine Ext.drewN ?_ _ | refine Ext.drew ?_ | refine Ext.alloc ?_ _ | assumption | (refine Below.trans ?_ (by assumption)) | (refine Ext.trans ?_ (by assumption)) | (refine Below.trans ?_ (Below.mono (by assumption) (by omega))))))).mono ?_
    rintro e w13 ⟨rfl, E13⟩
    simp only [decide_true]
    go_wp2_with fail
    refine (from_any (A := fun _ => True) _ rr _ (S8x.out.ext (by repeat (first | with_reducible exact Ext.refl _ | refine Ext.drewN ?_ _ | refine Ext.drew ?_ | refine Ext.alloc ?_ _ | assumption | (refine Below.trans ?_ (by assumption)) | (refine Ext.trans ?_ (by assumption)) | (refine Below.trans ?_ (Below.mono (by assumption) (by omega)))))) (by omega)).mono ?_
    rintro e w14 ⟨A14, c14, rfl, O14, E14⟩
    have O14 := Lib.hid O14
    go_wp2_with fail
    refine (same_any _ _ rr rr _ (O14.out.rdT.y.ext (by repeat (first | with_reducible exact Ext.refl _ | refine Ext.drewN ?_ _ | refine Ext.drew ?_ | refine Ext.alloc ?_ _ | assumption | (refine Below.trans ?_ (by assumption)) | (refine Ext.trans ?_ (by assumption)) | (refine Below.trans ?_ (Below.mono (by assumption) (by omega)))))) (S10.out.y.ext (by repeat (first | with_reducible exact Ext.refl _ | refine Ext.drewN ?_ _ | refine Ext.drew ?_ | refine Ext.alloc ?_ _ | assumption | (refine Below.trans ?_ (by assumption)) | (refine Ext.trans ?_ (by assumption)) | (refine Below.trans ?_ (Below.mono (by assumption) (by omega))))))).mono ?_
    rintro e w15 ⟨rfl, E15⟩
    simp only [decide_true]
    go_wp2_with fail
    refine (used_any (A := fun _ => True) _ ls _ (RIx.out.ext (by repeat (first | with_reducible exact Ext.refl _ | refine Ext.drewN ?_ _ | refine Ext.drew ?_ | refine Ext.alloc ?_ _ | assumption | (refine Below.trans ?_ (by assumption)) | (refine Ext.trans ?_ (by assumption)) | (refine Below.trans ?_ (Below.mono (by assumption) (by omega)))))) HU.out).mono ?_
    rintro e w16 ⟨rfl, E16⟩
    go_wp2_with fail
    refine (ref_any (A := fun _ => True) _ ls _ (Hx.out.ext (by repeat (first | with_reducible exact Ext.refl _ | refine Ext.drewN ?_ _ | refine Ext.drew ?_ | refine Ext.alloc ?_ _ | assumption | (refine Below.trans ?_ (by assumption)) | (refine Ext.trans ?_ (by assumption)) | (refine Below.trans ?_ (Below.mono (by assumption) (by omega)))))) (by omega)).mono ?_
    rintro e w17 ⟨A17, c17, rfl, O17, E17⟩
    have O17 := Lib.hid O17
    go_wp2_with fail
    refine (rused_any _ ls _ (O17.out.rdT.y.ext (by repeat (first | with_reducible exact Ext.refl _ | refine Ext.drewN ?_ _ | refine Ext.drew ?_ | refine Ext.alloc ?_ _ | assumption | (refine Below.trans ?_ (by assumption)) | (refine Ext.trans ?_ (by assumption)) | (refine Below.trans ?_ (Below.mono (by assumption) (by omega)))))) HU.out).mono ?_
    rintro e w18 ⟨rfl, E18⟩
    obtain ⟨u, hu⟩ : ∃ u, usedL ls = u := ⟨_, rfl⟩
    rw [hu]
    have z3 : (u != u) = false := by simp
    clear hu
    go_wp2_with fail
    refine (flat_any (A := fun _ => True) _ ls _ (RIx.out.ext (by repeat (first | with_reducible exact Ext.refl _ | refine Ext.drewN ?_ _ | refine Ext.drew ?_ | refine Ext.alloc ?_ _ | assumption | (refine Below.trans ?_ (by assumption)) | (refine Ext.trans ?_ (by assumption)) | (refine Below.trans ?_ (Below.mono (by assumption) (by omega)))))) HU.out).mono ?_
    rintro e w19 ⟨A19, c19, rfl, O19, E19⟩
    have O19 := Lib.hid O19
    go_wp2_with fail
    refine (ref_any (A := fun _ => True) _ ls _ (Hx.out.ext (by repeat (first | with_reducible exact Ext.refl _ | refine Ext.drewN ?_ _ | refine Ext.drew ?_ | refine Ext.alloc ?_ _ | assumption | (refine Below.trans ?_ (by assumption)) | (refine Ext.trans ?_ (by assumption)) | (refine Below.trans ?_ (Below.mono (by assumption) (by omega)))))) (by omega)).mono ?_
    rintro e w20 ⟨A20, c20, rfl, O20, E20⟩
    have O20 := Lib.hid O20
    go_wp2_with fail
    refine (rflat_any _ ls _ (O20.out.rdT.y.ext (by repeat (first | with_reducible exact Ext.refl _ | refine Ext.drewN ?_ _ | refine Ext.drew ?_ | refine Ext.alloc ?_ _ | assumption | (refine Below.trans ?_ (by assumption)) | (refine Ext.trans ?_ (by assumption)) | (refine Below.trans ?_ (Below.mono (by assumption) (by omega)))))) HU.out).mono ?_
    rintro e w21 ⟨A21, c21, rfl, O21, E21⟩
    have O21 := Lib.hid O21
    go_wp2_with fail
    refine (bytes_any _ _ (flatL ls) (flatL ls) _ (RdN.ext O19.out.rdT.ri (by repeat (first | with_reducible exact Ext.refl _ | refine Ext.drewN ?_ _ | refine Ext.drew ?_ | refine Ext.alloc ?_ _ | assumption | (refine Below.trans ?_ (by assumption)) | (refine Ext.trans ?_ (by assumption)) | (refine Below.trans ?_ (Below.mono (by assumption) (by omega)))))) (RdN.ext O21.out.rdT.ri (by repeat (first | with_reducible exact Ext.refl _ | refine Ext.drewN ?_ _ | refine Ext.drew ?_ | refine Ext.alloc ?_ _ | assumption | (refine Below.trans ?_ (by assumption)) | (refine Ext.trans ?_ (by assumption)) | (refine Below.trans ?_ (Below.mono (by assumption) (by omega))))))).mono ?_
    rintro e ws ⟨rfl, E22⟩
    simp only [decide_true]
    have E10s : Ext w10 ws := (by repeat (first | with_reducible exact Ext.refl _ | refine Ext.drewN ?_ _ | refine Ext.drew ?_ | refine Ext.alloc ?_ _ | assumption | (refine Below.trans ?_ (by assumption)) | (refine Ext.trans ?_ (by assumption)) | (refine Below.trans ?_ (Below.mono (by assumption) (by omega)))))
    have E5s : Ext w5 ws := KE.1.trans E10s
    have E8s : Ext w8 ws := KE.2.2.1.trans E10s
    have Ecs : Ext wc ws := KE.2.2.2.2.trans E10s
    have E0s : Ext w0 ws := EC.trans Ecs
    have hBs : wc.heap.size ≤ ws.heap.size := Ecs.size
    have HPL := Lib.hid ((Op.out.rd (A := fun k => wc.heap.size ≤ k) (fun _ h => h) (fun _ h => h)).lt.ext E5s |>.mono (B := fun k => wc.heap.size ≤ k ∧ k < ws.heap.size) fun k hk hA => ⟨hA.1, hk⟩)
    have HRR := Lib.hid ((S8.out.ext E8s).mono (B := fun k => wc.heap.size ≤ k ∧ k < ws.heap.size) fun k hk hA => ⟨Nat.le_trans h57 hA, hk⟩)
    have HRL := Lib.hid ((R8.out.ext E8s).mono (B := fun k => wc.heap.size ≤ k ∧ k < ws.heap.size) fun k hk hA => ⟨Nat.le_trans h57 hA, hk⟩)
    have HIN := Lib.hid (((RI4.out.lt).ext Ecs).mono (B := fun k => k < wc.heap.size) fun k _ hk => hk.2)
    have HON := Lib.hid (((RO4.out.lt).ext Ecs).mono (B := fun k => k < wc.heap.size) fun k _ hk => hk.2)
    have HBB := Lib.hid (BB4.out.ext Ecs)
    have hgb : gb < wc.heap.size := BB4.out.lt
    have HBW := Lib.hid (HBX.out.ext (E4.trans Ecs))
    have h0c : w0.heap.size ≤ wc.heap.size := EC.size
    have hwx : w.heap.size < wc.heap.size := Nat.lt_of_lt_of_le hbox.out.lt h0c
    clear E11 E12 E13 E14 E15 E16 E17 E18 E19 E20 E21 E22 O11 O14 O17 O19 O20 O21 R7 R8 R10 S8 S10 Op RI4 RO4 BB4 HBX E10s E5s E8s KE Opx R8x S8x RIx Hx g0 g1
    have ix0 : ∀ (A B : Option Addr) (n m c d : Nat) w, (Instr.index 52 (.agg #[.slice A n c, .slice B m d]) (.int .i64 0)).run Try.prog w = .ok (.slice A n c) w := fun _ _ _ _ _ _ _ => by kernel_rfl
    have ix1 : ∀ (A B : Option Addr) (n m c d : Nat) w, (Instr.index 52 (.agg #[.slice A n c, .slice B m d]) (.int .i64 1)).run Try.prog w = .ok (.slice B m d) w := fun _ _ _ _ _ _ _ => by kernel_rfl
    go_wp2
    go_loopw [115] (fun i wr => ∃ k : Nat, k ≤ 2 ∧ i = .int .i64 k ∧ Hid (Ow wc.heap.size ws wr)) (fun i _ => 2 - (intOf i).toNat)
    case atStart => exact ⟨0, by omega, rfl, Lib.hid (Ow.refl _ _)⟩
    case round =>
      obtain ⟨k, hk, rfl, HO1⟩ := hrel
      obtain ⟨wq, rfl⟩ : ∃ wq, wq = wr := ⟨_, rfl⟩
      by_cases hk2 : k < 2
      · obtain rfl | rfl : k = 0 ∨ k = 1 := by omega
        · go_wp2
          go_loopw [120] (fun j wr => ∃ m : Nat, m ≤ pl.length ∧ j = .int .i64 m ∧ Hid (Ow wc.heap.size ws wr)) (fun j _ => pl.length - (intOf j).toNat)
          case atStart => exact ⟨0, Nat.zero_le _, rfl, Lib.hid (HO1.out.ext (by repeat (first | with_reducible exact Ext.refl _ | refine Ext.drewN ?_ _ | refine Ext.drew ?_ | refine Ext.alloc ?_ _ | assumption | (refine Below.trans ?_ (by assumption)) | (refine Ext.trans ?_ (by assumption)) | (refine Below.trans ?_ (Below.mono (by assumption) (by omega))))) hBs)⟩
          case round =>
            obtain ⟨m, hm, rfl, HO2⟩ := hrel
            obtain ⟨wv, rfl⟩ : ∃ wv, wv = wr := ⟨_, rfl⟩
            by_cases hlm : m < pl.length
            · obtain ⟨b1, off1, At, lt, ft, ct, rfl, hx, hy, hd, hrt, hl1, hl2⟩ := lw_at HPL.out.y hlm
              have hx := HO2.out.row hx
              have hy := HO2.out.flag hy
              obtain ⟨nt, hnt⟩ : ∃ nt, lt.length = nt := ⟨_, rfl⟩
              have HNT := Lib.hid hnt
              rw [hnt] at hx hrt hl1
              have hsv := HO2.out.size
              clear hd hnt
              go_wp2
              go_loopw [127] (fun j wr => ∃ q : Nat, q ≤ nt ∧ j = .int .i64 q ∧ Hid (Ow wc.heap.size ws wr) ∧ Hid (Blk wr wv.heap.size 41 #[.slice At nt ct, .bool ft])) (fun j _ => nt - (intOf j).toNat)
              case atStart => exact ⟨0, Nat.zero_le _, rfl, Lib.hid (HO2.out.ext (by repeat (first | with_reducible exact Ext.refl _ | refine Ext.drewN ?_ _ | refine Ext.drew ?_ | refine Ext.alloc ?_ _ | assumption | (refine Below.trans ?_ (by assumption)) | (refine Ext.trans ?_ (by assumption)) | (refine Below.trans ?_ (Below.mono (by assumption) (by omega))))) hBs), Lib.hid (by repeat (first | ((with_reducible refine Blk.at_ _ _ ?_); simp; done) | with_reducible refine Blk.drew ?_ | with_reducible refine Blk.alloc ?_ _ | refine Blk.ext ?_ (by assumption)))⟩
              case round =>
                obtain ⟨q, hq, rfl, HO3, HBt⟩ := hrel
                by_cases hlq : q < nt
                · obtain ⟨tb, toff, y, rfl, hc, hf, hA⟩ := Ow.u8 HO3.out hrt.out HNT.out hlq
                  obtain ⟨k0, k1, _, _⟩ := HBt.out.two
                  have htb : tb ≠ wv.heap.size := by omega
                  go_wp2
                  go_region
                  go_wp2
                  go_roundw
                  case rel => exact ⟨q + 1, by omega, by go_num, Lib.hid ((Ow.set HO3.out hc (by omega)).ext (Ext.drew (Ext.refl _)) hBs), Lib.hid (HBt.out.far (Ne.symm htb) _)⟩
                  case measure => simp [intOf]; omega
                · go_wp2
                  go_roundw
                  case rel => exact ⟨m + 1, by omega, by go_num, HO3⟩
                  case measure => simp [intOf]; omega
            · go_wp2
              go_roundw
              case rel => exact ⟨1, by omega, by go_num, HO2⟩
              case measure => simp [intOf]
        · go_wp2
          go_loopw [120] (fun j wr => ∃ m : Nat, m ≤ rr.length ∧ j = .int .i64 m ∧ Hid (Ow wc.heap.size ws wr)) (fun j _ => rr.length - (intOf j).toNat)
          case atStart => exact ⟨0, Nat.zero_le _, rfl, Lib.hid (HO1.out.ext (by repeat (first | with_reducible exact Ext.refl _ | refine Ext.drewN ?_ _ | refine Ext.drew ?_ | refine Ext.alloc ?_ _ | assumption | (refine Below.trans ?_ (by assumption)) | (refine Ext.trans ?_ (by assumption)) | (refine Below.trans ?_ (Below.mono (by assumption) (by omega))))) hBs)⟩
          case round =>
            obtain ⟨m, hm, rfl, HO2⟩ := hrel
            obtain ⟨wv, rfl⟩ : ∃ wv, wv = wr := ⟨_, rfl⟩
            by_cases hlm : m < rr.length
            · obtain ⟨b1, off1, At, lt, ft, ct, rfl, hx, hy, hd, hrt, hl1, hl2⟩ := lw_at HRR.out.y hlm
              have hx := HO2.out.row hx
              have hy := HO2.out.flag hy
              obtain ⟨nt, hnt⟩ : ∃ nt, lt.length = nt := ⟨_, rfl⟩
              have HNT := Lib.hid hnt
              rw [hnt] at hx hrt hl1
              have hsv := HO2.out.size
              clear hd hnt
              go_wp2
              go_loopw [127] (fun j wr => ∃ q : Nat, q ≤ nt ∧ j = .int .i64 q ∧ Hid (Ow wc.heap.size ws wr) ∧ Hid (Blk wr wv.heap.size 41 #[.slice At nt ct, .bool ft])) (fun j _ => nt - (intOf j).toNat)
              case atStart => exact ⟨0, Nat.zero_le _, rfl, Lib.hid (HO2.out.ext (by repeat (first | with_reducible exact Ext.refl _ | refine Ext.drewN ?_ _ | refine Ext.drew ?_ | refine Ext.alloc ?_ _ | assumption | (refine Below.trans ?_ (by assumption)) | (refine Ext.trans ?_ (by assumption)) | (refine Below.trans ?_ (Below.mono (by assumption) (by omega))))) hBs), Lib.hid (by repeat (first | ((with_reducible refine Blk.at_ _ _ ?_); simp; done) | with_reducible refine Blk.drew ?_ | with_reducible refine Blk.alloc ?_ _ | refine Blk.ext ?_ (by assumption)))⟩
              case round =>
                obtain ⟨q, hq, rfl, HO3, HBt⟩ := hrel
                by_cases hlq : q < nt
                · obtain ⟨tb, toff, y, rfl, hc, hf, hA⟩ := Ow.u8 HO3.out hrt.out HNT.out hlq
                  obtain ⟨k0, k1, _, _⟩ := HBt.out.two
                  have htb : tb ≠ wv.heap.size := by omega
                  go_wp2
                  go_region
                  go_wp2
                  go_roundw
                  case rel => exact ⟨q + 1, by omega, by go_num, Lib.hid ((Ow.set HO3.out hc (by omega)).ext (Ext.drew (Ext.refl _)) hBs), Lib.hid (HBt.out.far (Ne.symm htb) _)⟩
                  case measure => simp [intOf]; omega
                · go_wp2
                  go_roundw
                  case rel => exact ⟨m + 1, by omega, by go_num, HO3⟩
                  case measure => simp [intOf]; omega
            · go_wp2
              go_roundw
              case rel => exact ⟨2, by omega, by go_num, HO2⟩
              case measure => simp [intOf]
      · go_wp2
        have hrlb : rl.length ≤ 9223372036854775807 := by
          obtain ⟨_, _, _, h1, h2⟩ := HRL.out.1.shape
          omega
        go_loopw [145] (fun j wr => ∃ q : Nat, q ≤ rl.length ∧ j = .int .i64 q ∧ Hid (Ow wc.heap.size ws wr)) (fun j _ => rl.length - (intOf j).toNat)
        case atStart => exact ⟨0, Nat.zero_le _, rfl, HO1⟩
        case round =>
          obtain ⟨q, hq, rfl, HO3⟩ := hrel
          by_cases hlq : q < rl.length
          · obtain ⟨tb, toff, y, rfl, hc, hf, hA⟩ := Ow.u8 HO3.out HRL.out rfl hlq
            go_wp2
            go_roundw
            case rel => exact ⟨q + 1, by omega, by go_num, Lib.hid (Ow.set HO3.out hc (by omega))⟩
            case measure => simp [intOf]; omega
          · have hlow := HO3.out.low
            have HINr := Lib.hid (HIN.out.below hlow fun k _ hk => hk)
            have HONr := Lib.hid (HON.out.below hlow fun k _ hk => hk)
            have HBBr := Lib.hid (Blk.below HBB.out hlow hgb)
            have HBWr := Lib.hid (Blk.below HBW.out hlow hwx)
            have EF : Ext w0 wr := (E0s.trans_below hlow h0c)
            clear hlow
            go_wp2_with fail
            refine (from_any _ ls _ (HINr.out.y.ext (by repeat (first | with_reducible exact Ext.refl _ | refine Ext.drewN ?_ _ | refine Ext.drew ?_ | refine Ext.alloc ?_ _ | assumption | (refine Below.trans ?_ (by assumption)) | (refine Ext.trans ?_ (by assumption)) | (refine Below.trans ?_ (Below.mono (by assumption) (by omega)))))) (by omega)).mono ?_
            rintro e v1 ⟨A31, c31, rfl, O31, F1⟩
            have O31 := Lib.hid O31
            go_wp2_with fail
            refine (ref_any (A := fun _ => True) _ ls _ (H.out.y.ext (E0.trans (EF.trans (by repeat (first | with_reducible exact Ext.refl _ | refine Ext.drewN ?_ _ | refine Ext.drew ?_ | refine Ext.alloc ?_ _ | assumption | (refine Below.trans ?_ (by assumption)) | (refine Ext.trans ?_ (by assumption)) | (refine Below.trans ?_ (Below.mono (by assumption) (by omega)))))))) (by omega)).mono ?_
            rintro e v2' ⟨A32, c32, rfl, O32, F2⟩
            have O32 := Lib.hid O32
            go_wp2_with fail
            refine (same_any _ _ ls ls _ (O31.out.rdT.y.ext (by repeat (first | with_reducible exact Ext.refl _ | refine Ext.drewN ?_ _ | refine Ext.drew ?_ | refine Ext.alloc ?_ _ | assumption | (refine Below.trans ?_ (by assumption)) | (refine Ext.trans ?_ (by assumption)) | (refine Below.trans ?_ (Below.mono (by assumption) (by omega)))))) (O32.out.rdT.y.ext (by repeat (first | with_reducible exact Ext.refl _ | refine Ext.drewN ?_ _ | refine Ext.drew ?_ | refine Ext.alloc ?_ _ | assumption | (refine Below.trans ?_ (by assumption)) | (refine Ext.trans ?_ (by assumption)) | (refine Below.trans ?_ (Below.mono (by assumption) (by omega))))))).mono ?_
            rintro e v3 ⟨rfl, F3⟩
            simp only [decide_true]
            have F13 : Ext wr v3 := (by repeat (first | with_reducible exact Ext.refl _ | refine Ext.drewN ?_ _ | refine Ext.drew ?_ | refine Ext.alloc ?_ _ | assumption | (refine Below.trans ?_ (by assumption)) | (refine Ext.trans ?_ (by assumption)) | (refine Below.trans ?_ (Below.mono (by assumption) (by omega)))))
            obtain ⟨k0, _, _, _⟩ := (HBBr.out.ext F13).two
            obtain ⟨k1, _, _, _⟩ := (HBWr.out.ext F13).two
            go_wp2_with fail
            refine (bytes_any _ _ l l _ (RdN.ext (HONr.out.ext F13).ri (by repeat (first | with_reducible exact Ext.refl _ | refine Ext.drewN ?_ _ | refine Ext.drew ?_ | refine Ext.alloc ?_ _ | assumption | (refine Below.trans ?_ (by assumption)) | (refine Ext.trans ?_ (by assumption)) | (refine Below.trans ?_ (Below.mono (by assumption) (by omega)))))) (RdN.ext (H2.out.ext (E0.trans (EF.trans F13))).ri (by repeat (first | with_reducible exact Ext.refl _ | refine Ext.drewN ?_ _ | refine Ext.drew ?_ | refine Ext.alloc ?_ _ | assumption | (refine Below.trans ?_ (by assumption)) | (refine Ext.trans ?_ (by assumption)) | (refine Below.trans ?_ (Below.mono (by assumption) (by omega))))))).mono ?_
            rintro e v4 ⟨rfl, F4⟩
            simp only [decide_true]
            go_wp2
            go_ret
            exact ⟨rfl, E0.trans (EF.trans (F13.trans F4))⟩
end Go.Proofs.Ytgahpclgdhghjaa
