/- Swap of a pile, by contract. No condition. -/
import Derived.Test.YtapajcgfdiamdaaC07
import Derived.Deep.DeepCutAuto
namespace Go.Proofs.Ytapajcgfdiamdaa
open Go.RowKit Go.Kb

theorem nd_ne {es : List En} (h : (es.map (·.b)).Nodup) {i j : Nat} (hi : i < es.length) (hj : j < es.length) (hne : i ≠ j) : (ent es i).b ≠ (ent es j).b := by
  have key : ∀ i j, i < j → i < es.length → j < es.length → (ent es i).b ≠ (ent es j).b := by
    intro i j hij hi hj
    have := (List.pairwise_iff_getElem.1 h) i j (by simpa using hi) (by simpa using hj) hij
    simp only [List.getElem_map] at this
    have e1 : ent es i = es[i] := by unfold ent; rw [List.getD, List.getElem?_eq_getElem hi]; rfl
    have e2 : ent es j = es[j] := by unfold ent; rw [List.getD, List.getElem?_eq_getElem hj]; rfl
    rw [e1, e2]
    exact this
  rcases Nat.lt_or_gt_of_ne hne with h1 | h1
  · exact key i j h1 hi hj
  · exact (key j i h1 hj hi).symm
theorem map_swp {es : List En} {i k : Nat} : (swp es i k).map (·.b) = ((es.map (·.b)).set i (ent es k).b).set k (ent es i).b := by
  unfold swp
  rw [List.map_set, List.map_set]
theorem own_ent {base g n c j : Nat} {B : Nat → Prop} {w : World} {es : List En} {T : TypeId} (h : OwnS Pp T base B w (.slice (some ⟨g, 0, none⟩) n c) (es.map (·.b))) (hn : es.length = n) (hj : j < n) : w.cell? ⟨g, j, none⟩ = some (.pointer (some ⟨(ent es j).b, 0, none⟩)) ∧ w.frozen? ⟨g, j, none⟩ = false := by
  obtain ⟨b, hb, hc, hf⟩ := own_ptr h hj
  rw [List.getElem?_map, ent_some (by omega)] at hb
  simp only [Option.map_some, Option.some.injEq] at hb
  rw [← hb] at hc
  exact ⟨hc, hf⟩
theorem own_put1 {base g n c j : Nat} {B : Nat → Prop} {w : World} {bs : List Nat} {T : TypeId} (h : OwnS Pp T base B w (.slice (some ⟨g, 0, none⟩) n c) bs) (hj : j < bs.length) (b : Nat) : OwnS Pp T base B (w.setCell ⟨g, j, none⟩ (.pointer (some ⟨b, 0, none⟩))) (.slice (some ⟨g, 0, none⟩) n c) (bs.set j b) := by
  have := h.store (j := j) (i := 0) (x := .pointer (some ⟨b, 0, none⟩)) (d' := b) hj (by decide) (fun cs d _ hr => by
    have hr : cs = [.pointer (some ⟨d, 0, none⟩)] := hr
    rw [hr]; rfl)
  rwa [show j * Pp.size + 0 = j from by show j * 1 + 0 = j; omega] at this
theorem own_put2 {base g n c i k : Nat} {B : Nat → Prop} {w : World} {es : List En} {T : TypeId} (h : OwnS Pp T base B w (.slice (some ⟨g, 0, none⟩) n c) (es.map (·.b))) (hi : i < es.length) (hk : k < es.length) (x y : Nat) : OwnS Pp T base B ((w.setCell ⟨g, i, none⟩ (.pointer (some ⟨x, 0, none⟩))).setCell ⟨g, k, none⟩ (.pointer (some ⟨y, 0, none⟩))) (.slice (some ⟨g, 0, none⟩) n c) (((es.map (·.b)).set i x).set k y) :=
  own_put1 (own_put1 h (by simpa using hi) x) (by simpa using hk) y
theorem own_cell2 {base g n c i k j x y : Nat} {B : Nat → Prop} {w : World} {es : List En} {T : TypeId} (h : OwnS Pp T base B w (.slice (some ⟨g, 0, none⟩) n c) (((es.map (·.b)).set i x).set k y)) (hj : j < es.length) (hi : i < es.length) (hk : k < es.length) : w.cell? ⟨g, j, none⟩ = some (.pointer (some ⟨if j = k then y else if j = i then x else (ent es j).b, 0, none⟩)) := by
  obtain ⟨_, _, hv, _⟩ := h.shape
  simp only [Value.slice.injEq, List.length_set, List.length_map] at hv
  obtain ⟨b, hb, hc, _⟩ := own_ptr h (j := j) (by omega)
  rw [hc]
  simp only [List.getElem?_set, List.length_set, List.length_map, List.getElem?_map, ent_some hj] at hb
  by_cases h1 : k = j
  · subst h1
    simp [hk] at hb ⊢
    exact hb.symm
  · rw [if_neg h1] at hb
    rw [if_neg (Ne.symm h1)]
    by_cases h2 : i = j
    · subst h2
      simp [hi] at hb ⊢
      exact hb.symm
    · rw [if_neg h2] at hb
      rw [if_neg (Ne.symm h2)]
      simp at hb ⊢
      exact hb.symm
theorem blk_ne {w : World} {g g' : Nat} {t t' : TypeId} {cs cs' : Array Value} (h : Blk w g t cs) (k : Blk w g' t' cs') (hne : t ≠ t') : g ≠ g' := by
  rintro rfl
  have h1 : w.heap[g]? = some (.cells cs t (0, 0)) := h
  have h2 : w.heap[g]? = some (.cells cs' t' (0, 0)) := k
  rw [h1] at h2
  cases h2
  exact hne rfl
theorem swap_end {T g i k n c : Nat} {F : Nat → Prop} {mv : Value} {es : List En} {x y : En} {w V Z : World} (h : Pile T F mv w es) (hT : Blk w T 55 #[.slice (some ⟨g, 0, none⟩) es.length c, mv]) (ho : OwnS Pp 56 0 (fun _ => False) w (.slice (some ⟨g, 0, none⟩) n c) (es.map (·.b))) (hg : F g) (heg : ∀ e ∈ es, e.b ≠ g)
    (hx : ent es i = x) (hy : ent es k = y) (hi : i < es.length) (hk : k < es.length) (hne : i ≠ k)
    (O1 : OwnS Pp 56 0 (fun _ => False) V (.slice (some ⟨g, 0, none⟩) n c) (((es.map (·.b)).set i y.b).set k x.b)) (M2 : Mod (fun j => j = g) w V) (M7 : Mod (fun j => j = x.b ∨ j = y.b) V Z) (X : Blk Z x.b 59 (x.cells k)) (Y : Blk Z y.b 59 (y.cells i)) (hgT : g ≠ T) :
    Ending.returned (.tuple #[]) = Ending.returned (.tuple #[]) ∧ Pile T F mv Z (swp es i k) ∧ Mod F w Z := by
  have hxm : x ∈ es := by rw [← hx]; exact List.mem_of_getElem? (ent_some hi)
  have hym : y ∈ es := by rw [← hy]; exact List.mem_of_getElem? (ent_some hk)
  obtain ⟨_, _, hv, _⟩ := ho.shape
  simp only [Value.slice.injEq, List.length_map] at hv
  obtain ⟨-, hn, -⟩ := hv
  subst hn
  have hTx : ∀ e ∈ es, T ≠ e.b := by
    intro e he hb
    obtain ⟨j, hj⟩ := List.getElem?_of_mem he
    have hjl := (List.getElem?_eq_some_iff.1 hj).1
    have h2 := ent_some hjl
    rw [hj] at h2
    cases h2
    exact blk_ne hT (h.ents j hjl) (by decide) hb
  refine ⟨rfl, ⟨⟨some ⟨g, 0, none⟩, c, ?_, ?_, ?_⟩, h.ft, ?_, ?_, ?_, ?_⟩, ?_⟩
  · rw [swp_len]
    exact (hT.mod M2 (fun he => hgT he.symm)).mod M7 (fun he => he.elim (hTx x hxm) (hTx y hym))
  · rw [swp_len, map_swp, hx, hy]
    exact O1.mod M7 (fun j hj he => by
      have : g = j := by simpa [Value.ownBlock] using hj
      subst this
      exact he.elim (fun h => heg x hxm h.symm) (fun h => heg y hym h.symm)) (fun _ _ hk _ => hk)
  · intro j hj
    have : g = j := by simpa [Value.ownBlock] using hj
    rw [← this]
    exact hg
  · intro j hj
    rw [swp_len] at hj
    rw [ent_swp hi hk]
    by_cases h1 : j = k
    · subst h1
      rw [if_pos rfl, hx]
      exact X
    · rw [if_neg h1]
      by_cases h2 : j = i
      · subst h2
        rw [if_pos rfl, hy]
        exact Y
      · rw [if_neg h2]
        have b1 := nd_ne h.nd hj hi h2
        have b2 := nd_ne h.nd hj hk h1
        rw [hx] at b1
        rw [hy] at b2
        exact ((h.ents j hj).mod M2 (heg _ (List.mem_of_getElem? (ent_some hj)))).mod M7 (fun he => he.elim b1 b2)
  · intro e he
    exact h.fe e ((swp_perm hi hk).mem_iff.1 he)
  · exact ((swp_perm hi hk).map (·.b)).nodup_iff.2 h.nd
  · rw [swp_len]; exact h.small
  · exact (M2.mono fun j _ hj => by rw [hj]; exact hg).trans (M7.mono fun j _ hj => hj.elim (fun h1 => by rw [h1]; exact h.fe x hxm) (fun h1 => by rw [h1]; exact h.fe y hym))
set_option maxRecDepth 100000 in
set_option maxHeartbeats 3000000 in
theorem swap_any (T : Nat) (F : Nat → Prop) (mv : Value) (es : List En) (i k : Nat) (hi : i < es.length) (hk : k < es.length) (hne : i ≠ k) (w : World) (h : Pile T F mv w es) :
    Calls Try.prog 46 #[.pointer (some ⟨T, 0, none⟩), .int .i64 i, .int .i64 k] w fun e w' => e = .returned (.tuple #[]) ∧ Pile T F mv w' (swp es i k) ∧ Mod F w w' := by
  have HP := Lib.hid h
  obtain ⟨g, c, hb, ho, hfg, hgT, heg, _, _⟩ := h.open (by omega)
  obtain ⟨N, hN⟩ : ∃ N, es.length = N := ⟨_, rfl⟩
  have HN := Lib.hid hN
  obtain ⟨W, hW⟩ : ∃ W, W = w := ⟨_, rfl⟩
  subst hW
  obtain ⟨x, hx⟩ : ∃ x, ent es i = x := ⟨_, rfl⟩
  obtain ⟨y, hy⟩ : ∃ y, ent es k = y := ⟨_, rfl⟩
  have HX := Lib.hid hx
  have HY := Lib.hid hy
  have HO := Lib.hid ho
  have hGL := (ho.row g rfl).2
  have HT := Lib.hid hb
  have HFG := Lib.hid hfg
  have HGT := Lib.hid hgT
  have HEG := Lib.hid heg
  have HEX := Lib.hid (show x.b ≠ g by rw [← hx]; exact heg _ (List.mem_of_getElem? (ent_some hi)))
  have HEY := Lib.hid (show y.b ≠ g by rw [← hy]; exact heg _ (List.mem_of_getElem? (ent_some hk)))
  have HBB := Lib.hid (show x.b ≠ y.b by rw [← hx, ← hy]; exact nd_ne h.nd hi hk hne)
  have X := Lib.hid (show Blk W x.b 59 (x.cells i) by rw [← hx]; exact h.ents i hi)
  have Y := Lib.hid (show Blk W y.b 59 (y.cells k) by rw [← hy]; exact h.ents k hk)
  have hK0 := hb.cell 0
  rw [hN] at hK0 hi hk
  have HI := Lib.hid hi
  have HK := Lib.hid hk
  have HNE := Lib.hid hne
  have i1 : (0 : Int) ≤ (i : Int) := by omega
  have i2 : (i : Int) < (N : Int) := by omega
  have k1 : (0 : Int) ≤ (k : Int) := by omega
  have k2 : (k : Int) < (N : Int) := by omega
  simp at hK0
  clear hb h hN hi hk ho hfg hgT heg hx hy
  go_enter Try.func46, Try.ntmps46
  go_upto_region 1 with fail
  refine wp_region_held_drew (S := fun w' => True) (by kernel_rfl) trivial (fun hHeld => ?_)
  obtain ⟨D, hD⟩ : ∃ D, D = W.drew := ⟨_, rfl⟩
  have ED : Ext W D := by rw [hD]; exact (Ext.refl _).drew
  rw [← hD]
  have HOD := Lib.hid (HO.out.ext ED)
  obtain ⟨ci, fi⟩ := own_ent HOD.out rfl (by rw [HN.out]; exact HI.out)
  obtain ⟨ck, fk⟩ := own_ent HOD.out rfl (by rw [HN.out]; exact HK.out)
  rw [HX.out] at ci
  rw [HY.out] at ck
  clear hD
  (refine wpAnyH_take (i := 0) (v := ?_) rfl (by kernel_rfl) (by kernel_rfl) (by kernel_rfl) (fun _ _ _ h => h) (Or.inl ⟨by rfl, ?_⟩) (by assumption) ?_; rotate_left; (focus (intro w' hSw; go_simp; try with_reducible rfl)); (try simp only [List.getElem_toArray]); (try simp only [List.getElem_cons_succ]); (try simp only [List.getElem_cons_zero]); (try simp only [Act.put]); (try simp only [List.setIfInBounds_toArray]); (try simp only [List.set_cons_succ]); (try simp only [List.set_cons_zero]))
  (refine wpAnyH_take (i := 1) (v := ?_) rfl (by kernel_rfl) (by kernel_rfl) (by kernel_rfl) (fun _ _ _ h => h) (Or.inl ⟨by rfl, ?_⟩) (by assumption) ?_; rotate_left; (focus (intro w' hSw; go_simp; try with_reducible rfl)); (try simp only [List.getElem_toArray]); (try simp only [List.getElem_cons_succ]); (try simp only [List.getElem_cons_zero]); (try simp only [Act.put]); (try simp only [List.setIfInBounds_toArray]); (try simp only [List.set_cons_succ]); (try simp only [List.set_cons_zero]))
  (refine wpAnyH_take (i := 2) (v := ?_) rfl (by kernel_rfl) (by kernel_rfl) (by kernel_rfl) (fun _ _ _ h => h) (Or.inl ⟨by rfl, ?_⟩) (by assumption) ?_; rotate_left; (focus (intro w' hSw; go_simp; try with_reducible rfl)); (try simp only [List.getElem_toArray]); (try simp only [List.getElem_cons_succ]); (try simp only [List.getElem_cons_zero]); (try simp only [Act.put]); (try simp only [List.setIfInBounds_toArray]); (try simp only [List.set_cons_succ]); (try simp only [List.set_cons_zero]))
  (refine wpAnyH_take (i := 3) (v := ?_) rfl (by kernel_rfl) (by kernel_rfl) (by kernel_rfl) (fun _ _ _ h => h) (Or.inl ⟨by rfl, ?_⟩) (by assumption) ?_; rotate_left; (focus (intro w' hSw; go_simp; try with_reducible rfl)); (try simp only [List.getElem_toArray]); (try simp only [List.getElem_cons_succ]); (try simp only [List.getElem_cons_zero]); (try simp only [Act.put]); (try simp only [List.setIfInBounds_toArray]); (try simp only [List.set_cons_succ]); (try simp only [List.set_cons_zero]))
  (refine wpAnyH_take (i := 4) (v := ?_) rfl (by kernel_rfl) (by kernel_rfl) (by kernel_rfl) (fun _ _ _ h => h) (Or.inl ⟨by rfl, ?_⟩) (by assumption) ?_; rotate_left; (focus (intro w' hSw; go_simp; try with_reducible rfl)); (try simp only [List.getElem_toArray]); (try simp only [List.getElem_cons_succ]); (try simp only [List.getElem_cons_zero]); (try simp only [Act.put]); (try simp only [List.setIfInBounds_toArray]); (try simp only [List.set_cons_succ]); (try simp only [List.set_cons_zero]))
  (refine wpAnyH_take (i := 5) (v := ?_) rfl (by kernel_rfl) (by kernel_rfl) (by kernel_rfl) (fun _ _ _ h => h) (Or.inl ⟨by rfl, ?_⟩) (by assumption) ?_; rotate_left; (focus (intro w' hSw; go_simp; try with_reducible rfl)); (try simp only [List.getElem_toArray]); (try simp only [List.getElem_cons_succ]); (try simp only [List.getElem_cons_zero]); (try simp only [Act.put]); (try simp only [List.setIfInBounds_toArray]); (try simp only [List.set_cons_succ]); (try simp only [List.set_cons_zero]))
  (refine wpAnyH_take (i := 6) (v := ?_) rfl (by kernel_rfl) (by kernel_rfl) (by kernel_rfl) (fun _ _ _ h => h) (Or.inl ⟨by rfl, ?_⟩) (by assumption) ?_; rotate_left; (focus (intro w' hSw; go_simp; try with_reducible rfl)); (try simp only [List.getElem_toArray]); (try simp only [List.getElem_cons_succ]); (try simp only [List.getElem_cons_zero]); (try simp only [Act.put]); (try simp only [List.setIfInBounds_toArray]); (try simp only [List.set_cons_succ]); (try simp only [List.set_cons_zero]))
  (refine wpAnyH_take (i := 8) (v := ?_) rfl (by kernel_rfl) (by kernel_rfl) (by kernel_rfl) (fun _ _ _ h => h) (Or.inl ⟨by rfl, ?_⟩) (by assumption) ?_; rotate_left; (focus (intro w' hSw; go_simp; try with_reducible rfl)); (try simp only [List.getElem_toArray]); (try simp only [List.getElem_cons_succ]); (try simp only [List.getElem_cons_zero]); (try simp only [Act.put]); (try simp only [List.setIfInBounds_toArray]); (try simp only [List.set_cons_succ]); (try simp only [List.set_cons_zero]))
  (refine wpAnyH_take (i := 9) (v := ?_) rfl (by kernel_rfl) (by kernel_rfl) (by kernel_rfl) (fun _ _ _ h => h) (Or.inl ⟨by rfl, ?_⟩) (by assumption) ?_; rotate_left; (focus (intro w' hSw; go_simp; try with_reducible rfl)); (try simp only [List.getElem_toArray]); (try simp only [List.getElem_cons_succ]); (try simp only [List.getElem_cons_zero]); (try simp only [Act.put]); (try simp only [List.setIfInBounds_toArray]); (try simp only [List.set_cons_succ]); (try simp only [List.set_cons_zero]))
  (refine wpAnyH_take (i := 10) (v := ?_) rfl (by kernel_rfl) (by kernel_rfl) (by kernel_rfl) (fun _ _ _ h => h) (Or.inl ⟨by rfl, ?_⟩) (by assumption) ?_; rotate_left; (focus (intro w' hSw; go_simp; try with_reducible rfl)); (try simp only [List.getElem_toArray]); (try simp only [List.getElem_cons_succ]); (try simp only [List.getElem_cons_zero]); (try simp only [Act.put]); (try simp only [List.setIfInBounds_toArray]); (try simp only [List.set_cons_succ]); (try simp only [List.set_cons_zero]))
  refine wpAnyH_ready (rs := [7, 11]) (by kernel_rfl) (by simp) ?_
  refine AllReadyH.cons rfl (fun K hK => ?_) (AllReadyH.cons rfl (fun K hK => ?_) AllReadyH.nil)
  · go_simp
    refine hK.out _ _ trivial (fun hHeld => ?_)
    clear hK K
    (try simp only [List.getElem_toArray]); (try simp only [List.getElem_cons_succ]); (try simp only [List.getElem_cons_zero]); (try simp only [Act.put]); (try simp only [List.setIfInBounds_toArray]); (try simp only [List.set_cons_succ]); (try simp only [List.set_cons_zero])
    (refine wpAnyH_ready (rs := [11]) (by kernel_rfl) (by simp) ?_; refine AllReadyH.cons rfl (fun K hK => ?_) AllReadyH.nil; go_simp; refine hK.out _ _ trivial (fun hHeld => ?_); clear hK K; (try simp only [Act.put]); (try simp only [List.getElem_toArray]); (try simp only [List.getElem_cons_succ]); (try simp only [List.getElem_cons_zero]); (try simp only [List.setIfInBounds_toArray]); (try simp only [List.set_cons_succ]); (try simp only [List.set_cons_zero]))
    (refine wpAnyH_take (i := 12) (v := ?_) rfl (by kernel_rfl) (by kernel_rfl) (by kernel_rfl) (fun _ _ _ h => h) (Or.inl ⟨by rfl, ?_⟩) (by assumption) ?_; rotate_left; (focus (intro w' hSw; go_simp; try with_reducible rfl)); (try simp only [List.getElem_toArray]); (try simp only [List.getElem_cons_succ]); (try simp only [List.getElem_cons_zero]); (try simp only [Act.put]); (try simp only [List.setIfInBounds_toArray]); (try simp only [List.set_cons_succ]); (try simp only [List.set_cons_zero]))
    (refine wpAnyH_ready (rs := [13]) (by kernel_rfl) (by simp) ?_; refine AllReadyH.cons rfl (fun K hK => ?_) AllReadyH.nil; go_simp; refine hK.out _ _ trivial (fun hHeld => ?_); clear hK K; (try simp only [Act.put]); (try simp only [List.getElem_toArray]); (try simp only [List.getElem_cons_succ]); (try simp only [List.getElem_cons_zero]); (try simp only [List.setIfInBounds_toArray]); (try simp only [List.set_cons_succ]); (try simp only [List.set_cons_zero]))
    (refine wpAnyH_take (i := 14) (v := ?_) rfl (by kernel_rfl) (by kernel_rfl) (by kernel_rfl) (fun _ _ _ h => h) (Or.inl ⟨by rfl, ?_⟩) (by assumption) ?_; rotate_left; (focus (intro w' hSw; go_simp; try with_reducible rfl)); (try simp only [List.getElem_toArray]); (try simp only [List.getElem_cons_succ]); (try simp only [List.getElem_cons_zero]); (try simp only [Act.put]); (try simp only [List.setIfInBounds_toArray]); (try simp only [List.set_cons_succ]); (try simp only [List.set_cons_zero]))
    (refine wpAnyH_ready (rs := [15]) (by kernel_rfl) (by simp) ?_; refine AllReadyH.cons rfl (fun K hK => ?_) AllReadyH.nil; go_simp; refine hK.out _ _ trivial (fun hHeld => ?_); clear hK K; (try simp only [Act.put]); (try simp only [List.getElem_toArray]); (try simp only [List.getElem_cons_succ]); (try simp only [List.getElem_cons_zero]); (try simp only [List.setIfInBounds_toArray]); (try simp only [List.set_cons_succ]); (try simp only [List.set_cons_zero]))
    refine wpAnyH_done (by kernel_rfl) ?_ _
    have O1 := Lib.hid (own_put2 HOD.out (by rw [HN.out]; exact HI.out) (by rw [HN.out]; exact HK.out) y.b x.b)
    have M2 : Mod (fun j => j = g) W _ := ((Mod.of_ext ED).set1 (.pointer (some ⟨y.b, 0, none⟩)) (o := i)).set1 (.pointer (some ⟨x.b, 0, none⟩)) (o := k)
    clear hHeld ci ck fi fk HOD
    generalize World.setCell (World.setCell D _ _) _ _ = V at *
    have X := Lib.hid (X.out.mod M2 HEX.out)
    have Y := Lib.hid (Y.out.mod M2 HEY.out)
    have GL : g < V.heap.size := Nat.lt_of_lt_of_le hGL M2.size
    have c2i := own_cell2 O1.out (Nat.lt_of_lt_of_eq HI.out HN.out.symm) (Nat.lt_of_lt_of_eq HI.out HN.out.symm) (Nat.lt_of_lt_of_eq HK.out HN.out.symm)
    have c2k := own_cell2 O1.out (Nat.lt_of_lt_of_eq HK.out HN.out.symm) (Nat.lt_of_lt_of_eq HI.out HN.out.symm) (Nat.lt_of_lt_of_eq HK.out HN.out.symm)
    rw [if_neg HNE.out, if_pos rfl] at c2i
    rw [if_pos rfl] at c2k
    have C2I := Lib.hid c2i
    have C2K := Lib.hid c2k
    have M2 := Lib.hid M2
    have HGL := Lib.hid GL
    clear c2i c2k GL hK0
    go_wp2
    refine wp_region_held_drew (S := fun w' => Mod (fun j => j = x.b ∨ j = y.b) V w') (by kernel_rfl) ((Mod.refl _ _).drew) (fun hHeld => ?_)
    (refine wpAnyH_take (i := 0) (v := ?_) rfl (by kernel_rfl) (by kernel_rfl) (by kernel_rfl) (fun _ _ _ h => h) (Or.inl ⟨by rfl, ?_⟩) (by assumption) ?_; rotate_left; (focus (intro w' hSw; go_simp; try with_reducible rfl)); (try simp only [List.getElem_toArray]); (try simp only [List.getElem_cons_succ]); (try simp only [List.getElem_cons_zero]); (try simp only [Act.put]); (try simp only [List.setIfInBounds_toArray]); (try simp only [List.set_cons_succ]); (try simp only [List.set_cons_zero]))
    (refine wpAnyH_take (i := 1) (v := ?_) rfl (by kernel_rfl) (by kernel_rfl) (by kernel_rfl) (fun _ _ _ h => h) (Or.inl ⟨by rfl, ?_⟩) (by assumption) ?_; rotate_left; (focus (intro w' hSw; go_simp; try with_reducible rfl)); (try simp only [List.getElem_toArray]); (try simp only [List.getElem_cons_succ]); (try simp only [List.getElem_cons_zero]); (try simp only [Act.put]); (try simp only [List.setIfInBounds_toArray]); (try simp only [List.set_cons_succ]); (try simp only [List.set_cons_zero]))
    (refine wpAnyH_take (i := 2) (v := ?_) rfl (by kernel_rfl) (by kernel_rfl) (by kernel_rfl) (fun _ _ _ h => h) (Or.inl ⟨by rfl, ?_⟩) (by assumption) ?_; rotate_left; (focus (intro w' hSw; go_simp; try with_reducible rfl)); (try simp only [List.getElem_toArray]); (try simp only [List.getElem_cons_succ]); (try simp only [List.getElem_cons_zero]); (try simp only [Act.put]); (try simp only [List.setIfInBounds_toArray]); (try simp only [List.set_cons_succ]); (try simp only [List.set_cons_zero]))
    (refine wpAnyH_take (i := 3) (v := ?_) rfl (by kernel_rfl) (by kernel_rfl) (by kernel_rfl) (fun _ _ _ h => h) (Or.inl ⟨by rfl, ?_⟩) (by assumption) ?_; rotate_left; (focus (intro w' hSw; have kc := (hSw.cell g i HGL.out (fun h => h.elim (fun h => HEX.out h.symm) (fun h => HEY.out h.symm))).trans C2I.out; go_simp; try with_reducible rfl)); (try simp only [List.getElem_toArray]); (try simp only [List.getElem_cons_succ]); (try simp only [List.getElem_cons_zero]); (try simp only [Act.put]); (try simp only [List.setIfInBounds_toArray]); (try simp only [List.set_cons_succ]); (try simp only [List.set_cons_zero]))
    (refine wpAnyH_take (i := 4) (v := ?_) rfl (by kernel_rfl) (by kernel_rfl) (by kernel_rfl) (fun _ _ _ h => h) (Or.inl ⟨by rfl, ?_⟩) (by assumption) ?_; rotate_left; (focus (intro w' hSw; go_simp; try with_reducible rfl)); (try simp only [List.getElem_toArray]); (try simp only [List.getElem_cons_succ]); (try simp only [List.getElem_cons_zero]); (try simp only [Act.put]); (try simp only [List.setIfInBounds_toArray]); (try simp only [List.set_cons_succ]); (try simp only [List.set_cons_zero]))
    (refine wpAnyH_take (i := 5) (v := ?_) rfl (by kernel_rfl) (by kernel_rfl) (by kernel_rfl) (fun _ _ _ h => h) (Or.inl ⟨by rfl, ?_⟩) (by assumption) ?_; rotate_left; (focus (intro w' hSw; go_simp; try with_reducible rfl)); (try simp only [List.getElem_toArray]); (try simp only [List.getElem_cons_succ]); (try simp only [List.getElem_cons_zero]); (try simp only [Act.put]); (try simp only [List.setIfInBounds_toArray]); (try simp only [List.set_cons_succ]); (try simp only [List.set_cons_zero]))
    (refine wpAnyH_take (i := 6) (v := ?_) rfl (by kernel_rfl) (by kernel_rfl) (by kernel_rfl) (fun _ _ _ h => h) (Or.inl ⟨by rfl, ?_⟩) (by assumption) ?_; rotate_left; (focus (intro w' hSw; go_simp; try with_reducible rfl)); (try simp only [List.getElem_toArray]); (try simp only [List.getElem_cons_succ]); (try simp only [List.getElem_cons_zero]); (try simp only [Act.put]); (try simp only [List.setIfInBounds_toArray]); (try simp only [List.set_cons_succ]); (try simp only [List.set_cons_zero]))
    (refine wpAnyH_take (i := 7) (v := ?_) rfl (by kernel_rfl) (by kernel_rfl) (by kernel_rfl) (fun _ _ _ h => h) (Or.inl ⟨by rfl, ?_⟩) (by assumption) ?_; rotate_left; (focus (intro w' hSw; have kc := (hSw.cell g k HGL.out (fun h => h.elim (fun h => HEX.out h.symm) (fun h => HEY.out h.symm))).trans C2K.out; go_simp; try with_reducible rfl)); (try simp only [List.getElem_toArray]); (try simp only [List.getElem_cons_succ]); (try simp only [List.getElem_cons_zero]); (try simp only [Act.put]); (try simp only [List.setIfInBounds_toArray]); (try simp only [List.set_cons_succ]); (try simp only [List.set_cons_zero]))
    (refine wpAnyH_take (i := 8) (v := ?_) rfl (by kernel_rfl) (by kernel_rfl) (by kernel_rfl) (fun _ _ _ h => h) (Or.inl ⟨by rfl, ?_⟩) (by assumption) ?_; rotate_left; (focus (intro w' hSw; go_simp; try with_reducible rfl)); (try simp only [List.getElem_toArray]); (try simp only [List.getElem_cons_succ]); (try simp only [List.getElem_cons_zero]); (try simp only [Act.put]); (try simp only [List.setIfInBounds_toArray]); (try simp only [List.set_cons_succ]); (try simp only [List.set_cons_zero]))
    (refine wpAnyH_take (i := 9) (v := ?_) rfl (by kernel_rfl) (by kernel_rfl) (by kernel_rfl) (fun _ _ _ h => h) (Or.inl ⟨by rfl, ?_⟩) (by assumption) ?_; rotate_left; (focus (intro w' hSw; go_simp; try with_reducible rfl)); (try simp only [List.getElem_toArray]); (try simp only [List.getElem_cons_succ]); (try simp only [List.getElem_cons_zero]); (try simp only [Act.put]); (try simp only [List.setIfInBounds_toArray]); (try simp only [List.set_cons_succ]); (try simp only [List.set_cons_zero]))
    (refine wpAnyH_take (i := 10) (v := ?_) rfl (by kernel_rfl) (by kernel_rfl) (by kernel_rfl) (fun _ _ _ h => h) (Or.inl ⟨by rfl, ?_⟩) (by assumption) ?_; rotate_left; (focus (intro w' hSw; go_simp; try with_reducible rfl)); (try simp only [List.getElem_toArray]); (try simp only [List.getElem_cons_succ]); (try simp only [List.getElem_cons_zero]); (try simp only [Act.put]); (try simp only [List.setIfInBounds_toArray]); (try simp only [List.set_cons_succ]); (try simp only [List.set_cons_zero]))
    (refine wpAnyH_take (i := 11) (v := ?_) rfl (by kernel_rfl) (by kernel_rfl) (by kernel_rfl) (fun _ _ _ h => h) (Or.inl ⟨by rfl, ?_⟩) (by assumption) ?_; rotate_left; (focus (intro w' hSw; go_simp; try with_reducible rfl)); (try simp only [List.getElem_toArray]); (try simp only [List.getElem_cons_succ]); (try simp only [List.getElem_cons_zero]); (try simp only [Act.put]); (try simp only [List.setIfInBounds_toArray]); (try simp only [List.set_cons_succ]); (try simp only [List.set_cons_zero]))
    obtain ⟨D2, hD⟩ : ∃ D2, D2 = V.drew := ⟨_, rfl⟩
    have ED2 : Ext V D2 := by rw [hD]; exact (Ext.refl _).drew
    have hHeld : Mod (fun j => j = x.b ∨ j = y.b) V D2 := Mod.of_ext ED2
    rw [← hD]
    clear hD
    have X2 := X.out.ext ED2
    have Y2 := Y.out.ext ED2
    have y2 := Y2.cell 2
    have f2 := Y2.frozen 2
    have M4 : Mod (fun j => j = y.b) D2 _ := (Mod.refl _ D2).set1 (.int .i64 (i : Int)) (o := 2)
    have M5 := hHeld.trans (M4.mono (T := fun j => j = x.b ∨ j = y.b) fun _ _ h => .inr h)
    (refine wpAnyH_ready (rs := [12]) (by kernel_rfl) (by simp) ?_; refine AllReadyH.cons rfl (fun K hK => ?_) AllReadyH.nil; go_simp; refine hK.out _ _ M5 (fun hHeld => ?_); clear hK K; (try simp only [Act.put]); (try simp only [List.getElem_toArray]); (try simp only [List.getElem_cons_succ]); (try simp only [List.getElem_cons_zero]); (try simp only [List.setIfInBounds_toArray]); (try simp only [List.set_cons_succ]); (try simp only [List.set_cons_zero]))
    have Y3 : Blk (D2.setCell ⟨y.b, 2, none⟩ (.int .i64 (i : Int))) y.b 59 (y.cells i) := Y2.set_ 2 (.int .i64 (i : Int))
    have X3 := X2.mod M4 HBB.out
    clear y2 f2
    generalize World.setCell D2 _ _ = D3 at *
    have x2 := X3.cell 2
    have g2 := X3.frozen 2
    have M6 : Mod (fun j => j = x.b) D3 _ := (Mod.refl _ D3).set1 (.int .i64 (k : Int)) (o := 2)
    have M7 := M5.trans (M6.mono (T := fun j => j = x.b ∨ j = y.b) fun _ _ h => .inl h)
    (refine wpAnyH_take (i := 13) (v := ?_) rfl (by kernel_rfl) (by kernel_rfl) (by kernel_rfl) (fun _ _ _ h => h) (Or.inl ⟨by rfl, ?_⟩) (by assumption) ?_; rotate_left; (focus (intro w' hSw; go_simp; try with_reducible rfl)); (try simp only [List.getElem_toArray]); (try simp only [List.getElem_cons_succ]); (try simp only [List.getElem_cons_zero]); (try simp only [Act.put]); (try simp only [List.setIfInBounds_toArray]); (try simp only [List.set_cons_succ]); (try simp only [List.set_cons_zero]))
    (refine wpAnyH_take (i := 14) (v := ?_) rfl (by kernel_rfl) (by kernel_rfl) (by kernel_rfl) (fun _ _ _ h => h) (Or.inl ⟨by rfl, ?_⟩) (by assumption) ?_; rotate_left; (focus (intro w' hSw; go_simp; try with_reducible rfl)); (try simp only [List.getElem_toArray]); (try simp only [List.getElem_cons_succ]); (try simp only [List.getElem_cons_zero]); (try simp only [Act.put]); (try simp only [List.setIfInBounds_toArray]); (try simp only [List.set_cons_succ]); (try simp only [List.set_cons_zero]))
    (refine wpAnyH_ready (rs := [15]) (by kernel_rfl) (by simp) ?_; refine AllReadyH.cons rfl (fun K hK => ?_) AllReadyH.nil; go_simp; refine hK.out _ _ M7 (fun hHeld => ?_); clear hK K; (try simp only [Act.put]); (try simp only [List.getElem_toArray]); (try simp only [List.getElem_cons_succ]); (try simp only [List.getElem_cons_zero]); (try simp only [List.setIfInBounds_toArray]); (try simp only [List.set_cons_succ]); (try simp only [List.set_cons_zero]))
    refine wpAnyH_done (by kernel_rfl) ?_ _
    have X4 : Blk (D3.setCell ⟨x.b, 2, none⟩ (.int .i64 (k : Int))) x.b 59 (x.cells k) := X3.set_ 2 (.int .i64 (k : Int))
    have Y4 := Y3.mod M6 HBB.out.symm
    generalize World.setCell D3 _ _ = Z at *
    go_wp2
    go_end0
    exact swap_end HP.out HT.out HO.out HFG.out HEG.out HX.out HY.out (by rw [HN.out]; exact HI.out) (by rw [HN.out]; exact HK.out) HNE.out O1.out M2.out M7 X4 Y4 HGT.out
  · go_simp
    refine hK.out _ _ trivial (fun hHeld => ?_)
    clear hK K
    (try simp only [List.getElem_toArray]); (try simp only [List.getElem_cons_succ]); (try simp only [List.getElem_cons_zero]); (try simp only [Act.put]); (try simp only [List.setIfInBounds_toArray]); (try simp only [List.set_cons_succ]); (try simp only [List.set_cons_zero])
    (refine wpAnyH_ready (rs := [7]) (by kernel_rfl) (by simp) ?_; refine AllReadyH.cons rfl (fun K hK => ?_) AllReadyH.nil; go_simp; refine hK.out _ _ trivial (fun hHeld => ?_); clear hK K; (try simp only [Act.put]); (try simp only [List.getElem_toArray]); (try simp only [List.getElem_cons_succ]); (try simp only [List.getElem_cons_zero]); (try simp only [List.setIfInBounds_toArray]); (try simp only [List.set_cons_succ]); (try simp only [List.set_cons_zero]))
    (refine wpAnyH_take (i := 12) (v := ?_) rfl (by kernel_rfl) (by kernel_rfl) (by kernel_rfl) (fun _ _ _ h => h) (Or.inl ⟨by rfl, ?_⟩) (by assumption) ?_; rotate_left; (focus (intro w' hSw; go_simp; try with_reducible rfl)); (try simp only [List.getElem_toArray]); (try simp only [List.getElem_cons_succ]); (try simp only [List.getElem_cons_zero]); (try simp only [Act.put]); (try simp only [List.setIfInBounds_toArray]); (try simp only [List.set_cons_succ]); (try simp only [List.set_cons_zero]))
    (refine wpAnyH_ready (rs := [13]) (by kernel_rfl) (by simp) ?_; refine AllReadyH.cons rfl (fun K hK => ?_) AllReadyH.nil; go_simp; refine hK.out _ _ trivial (fun hHeld => ?_); clear hK K; (try simp only [Act.put]); (try simp only [List.getElem_toArray]); (try simp only [List.getElem_cons_succ]); (try simp only [List.getElem_cons_zero]); (try simp only [List.setIfInBounds_toArray]); (try simp only [List.set_cons_succ]); (try simp only [List.set_cons_zero]))
    (refine wpAnyH_take (i := 14) (v := ?_) rfl (by kernel_rfl) (by kernel_rfl) (by kernel_rfl) (fun _ _ _ h => h) (Or.inl ⟨by rfl, ?_⟩) (by assumption) ?_; rotate_left; (focus (intro w' hSw; go_simp; try with_reducible rfl)); (try simp only [List.getElem_toArray]); (try simp only [List.getElem_cons_succ]); (try simp only [List.getElem_cons_zero]); (try simp only [Act.put]); (try simp only [List.setIfInBounds_toArray]); (try simp only [List.set_cons_succ]); (try simp only [List.set_cons_zero]))
    (refine wpAnyH_ready (rs := [15]) (by kernel_rfl) (by simp) ?_; refine AllReadyH.cons rfl (fun K hK => ?_) AllReadyH.nil; go_simp; refine hK.out _ _ trivial (fun hHeld => ?_); clear hK K; (try simp only [Act.put]); (try simp only [List.getElem_toArray]); (try simp only [List.getElem_cons_succ]); (try simp only [List.getElem_cons_zero]); (try simp only [List.setIfInBounds_toArray]); (try simp only [List.set_cons_succ]); (try simp only [List.set_cons_zero]))
    refine wpAnyH_done (by kernel_rfl) ?_ _
    have O1 := Lib.hid (own_put2 HOD.out (by rw [HN.out]; exact HI.out) (by rw [HN.out]; exact HK.out) y.b x.b)
    have M2 : Mod (fun j => j = g) W _ := ((Mod.of_ext ED).set1 (.pointer (some ⟨y.b, 0, none⟩)) (o := i)).set1 (.pointer (some ⟨x.b, 0, none⟩)) (o := k)
    clear hHeld ci ck fi fk HOD
    generalize World.setCell (World.setCell D _ _) _ _ = V at *
    have X := Lib.hid (X.out.mod M2 HEX.out)
    have Y := Lib.hid (Y.out.mod M2 HEY.out)
    have GL : g < V.heap.size := Nat.lt_of_lt_of_le hGL M2.size
    have c2i := own_cell2 O1.out (Nat.lt_of_lt_of_eq HI.out HN.out.symm) (Nat.lt_of_lt_of_eq HI.out HN.out.symm) (Nat.lt_of_lt_of_eq HK.out HN.out.symm)
    have c2k := own_cell2 O1.out (Nat.lt_of_lt_of_eq HK.out HN.out.symm) (Nat.lt_of_lt_of_eq HI.out HN.out.symm) (Nat.lt_of_lt_of_eq HK.out HN.out.symm)
    rw [if_neg HNE.out, if_pos rfl] at c2i
    rw [if_pos rfl] at c2k
    have C2I := Lib.hid c2i
    have C2K := Lib.hid c2k
    have M2 := Lib.hid M2
    have HGL := Lib.hid GL
    clear c2i c2k GL hK0
    go_wp2
    refine wp_region_held_drew (S := fun w' => Mod (fun j => j = x.b ∨ j = y.b) V w') (by kernel_rfl) ((Mod.refl _ _).drew) (fun hHeld => ?_)
    (refine wpAnyH_take (i := 0) (v := ?_) rfl (by kernel_rfl) (by kernel_rfl) (by kernel_rfl) (fun _ _ _ h => h) (Or.inl ⟨by rfl, ?_⟩) (by assumption) ?_; rotate_left; (focus (intro w' hSw; go_simp; try with_reducible rfl)); (try simp only [List.getElem_toArray]); (try simp only [List.getElem_cons_succ]); (try simp only [List.getElem_cons_zero]); (try simp only [Act.put]); (try simp only [List.setIfInBounds_toArray]); (try simp only [List.set_cons_succ]); (try simp only [List.set_cons_zero]))
    (refine wpAnyH_take (i := 1) (v := ?_) rfl (by kernel_rfl) (by kernel_rfl) (by kernel_rfl) (fun _ _ _ h => h) (Or.inl ⟨by rfl, ?_⟩) (by assumption) ?_; rotate_left; (focus (intro w' hSw; go_simp; try with_reducible rfl)); (try simp only [List.getElem_toArray]); (try simp only [List.getElem_cons_succ]); (try simp only [List.getElem_cons_zero]); (try simp only [Act.put]); (try simp only [List.setIfInBounds_toArray]); (try simp only [List.set_cons_succ]); (try simp only [List.set_cons_zero]))
    (refine wpAnyH_take (i := 2) (v := ?_) rfl (by kernel_rfl) (by kernel_rfl) (by kernel_rfl) (fun _ _ _ h => h) (Or.inl ⟨by rfl, ?_⟩) (by assumption) ?_; rotate_left; (focus (intro w' hSw; go_simp; try with_reducible rfl)); (try simp only [List.getElem_toArray]); (try simp only [List.getElem_cons_succ]); (try simp only [List.getElem_cons_zero]); (try simp only [Act.put]); (try simp only [List.setIfInBounds_toArray]); (try simp only [List.set_cons_succ]); (try simp only [List.set_cons_zero]))
    (refine wpAnyH_take (i := 3) (v := ?_) rfl (by kernel_rfl) (by kernel_rfl) (by kernel_rfl) (fun _ _ _ h => h) (Or.inl ⟨by rfl, ?_⟩) (by assumption) ?_; rotate_left; (focus (intro w' hSw; have kc := (hSw.cell g i HGL.out (fun h => h.elim (fun h => HEX.out h.symm) (fun h => HEY.out h.symm))).trans C2I.out; go_simp; try with_reducible rfl)); (try simp only [List.getElem_toArray]); (try simp only [List.getElem_cons_succ]); (try simp only [List.getElem_cons_zero]); (try simp only [Act.put]); (try simp only [List.setIfInBounds_toArray]); (try simp only [List.set_cons_succ]); (try simp only [List.set_cons_zero]))
    (refine wpAnyH_take (i := 4) (v := ?_) rfl (by kernel_rfl) (by kernel_rfl) (by kernel_rfl) (fun _ _ _ h => h) (Or.inl ⟨by rfl, ?_⟩) (by assumption) ?_; rotate_left; (focus (intro w' hSw; go_simp; try with_reducible rfl)); (try simp only [List.getElem_toArray]); (try simp only [List.getElem_cons_succ]); (try simp only [List.getElem_cons_zero]); (try simp only [Act.put]); (try simp only [List.setIfInBounds_toArray]); (try simp only [List.set_cons_succ]); (try simp only [List.set_cons_zero]))
    (refine wpAnyH_take (i := 5) (v := ?_) rfl (by kernel_rfl) (by kernel_rfl) (by kernel_rfl) (fun _ _ _ h => h) (Or.inl ⟨by rfl, ?_⟩) (by assumption) ?_; rotate_left; (focus (intro w' hSw; go_simp; try with_reducible rfl)); (try simp only [List.getElem_toArray]); (try simp only [List.getElem_cons_succ]); (try simp only [List.getElem_cons_zero]); (try simp only [Act.put]); (try simp only [List.setIfInBounds_toArray]); (try simp only [List.set_cons_succ]); (try simp only [List.set_cons_zero]))
    (refine wpAnyH_take (i := 6) (v := ?_) rfl (by kernel_rfl) (by kernel_rfl) (by kernel_rfl) (fun _ _ _ h => h) (Or.inl ⟨by rfl, ?_⟩) (by assumption) ?_; rotate_left; (focus (intro w' hSw; go_simp; try with_reducible rfl)); (try simp only [List.getElem_toArray]); (try simp only [List.getElem_cons_succ]); (try simp only [List.getElem_cons_zero]); (try simp only [Act.put]); (try simp only [List.setIfInBounds_toArray]); (try simp only [List.set_cons_succ]); (try simp only [List.set_cons_zero]))
    (refine wpAnyH_take (i := 7) (v := ?_) rfl (by kernel_rfl) (by kernel_rfl) (by kernel_rfl) (fun _ _ _ h => h) (Or.inl ⟨by rfl, ?_⟩) (by assumption) ?_; rotate_left; (focus (intro w' hSw; have kc := (hSw.cell g k HGL.out (fun h => h.elim (fun h => HEX.out h.symm) (fun h => HEY.out h.symm))).trans C2K.out; go_simp; try with_reducible rfl)); (try simp only [List.getElem_toArray]); (try simp only [List.getElem_cons_succ]); (try simp only [List.getElem_cons_zero]); (try simp only [Act.put]); (try simp only [List.setIfInBounds_toArray]); (try simp only [List.set_cons_succ]); (try simp only [List.set_cons_zero]))
    (refine wpAnyH_take (i := 8) (v := ?_) rfl (by kernel_rfl) (by kernel_rfl) (by kernel_rfl) (fun _ _ _ h => h) (Or.inl ⟨by rfl, ?_⟩) (by assumption) ?_; rotate_left; (focus (intro w' hSw; go_simp; try with_reducible rfl)); (try simp only [List.getElem_toArray]); (try simp only [List.getElem_cons_succ]); (try simp only [List.getElem_cons_zero]); (try simp only [Act.put]); (try simp only [List.setIfInBounds_toArray]); (try simp only [List.set_cons_succ]); (try simp only [List.set_cons_zero]))
    (refine wpAnyH_take (i := 9) (v := ?_) rfl (by kernel_rfl) (by kernel_rfl) (by kernel_rfl) (fun _ _ _ h => h) (Or.inl ⟨by rfl, ?_⟩) (by assumption) ?_; rotate_left; (focus (intro w' hSw; go_simp; try with_reducible rfl)); (try simp only [List.getElem_toArray]); (try simp only [List.getElem_cons_succ]); (try simp only [List.getElem_cons_zero]); (try simp only [Act.put]); (try simp only [List.setIfInBounds_toArray]); (try simp only [List.set_cons_succ]); (try simp only [List.set_cons_zero]))
    (refine wpAnyH_take (i := 10) (v := ?_) rfl (by kernel_rfl) (by kernel_rfl) (by kernel_rfl) (fun _ _ _ h => h) (Or.inl ⟨by rfl, ?_⟩) (by assumption) ?_; rotate_left; (focus (intro w' hSw; go_simp; try with_reducible rfl)); (try simp only [List.getElem_toArray]); (try simp only [List.getElem_cons_succ]); (try simp only [List.getElem_cons_zero]); (try simp only [Act.put]); (try simp only [List.setIfInBounds_toArray]); (try simp only [List.set_cons_succ]); (try simp only [List.set_cons_zero]))
    (refine wpAnyH_take (i := 11) (v := ?_) rfl (by kernel_rfl) (by kernel_rfl) (by kernel_rfl) (fun _ _ _ h => h) (Or.inl ⟨by rfl, ?_⟩) (by assumption) ?_; rotate_left; (focus (intro w' hSw; go_simp; try with_reducible rfl)); (try simp only [List.getElem_toArray]); (try simp only [List.getElem_cons_succ]); (try simp only [List.getElem_cons_zero]); (try simp only [Act.put]); (try simp only [List.setIfInBounds_toArray]); (try simp only [List.set_cons_succ]); (try simp only [List.set_cons_zero]))
    obtain ⟨D2, hD⟩ : ∃ D2, D2 = V.drew := ⟨_, rfl⟩
    have ED2 : Ext V D2 := by rw [hD]; exact (Ext.refl _).drew
    have hHeld : Mod (fun j => j = x.b ∨ j = y.b) V D2 := Mod.of_ext ED2
    rw [← hD]
    clear hD
    have X2 := X.out.ext ED2
    have Y2 := Y.out.ext ED2
    have y2 := Y2.cell 2
    have f2 := Y2.frozen 2
    have M4 : Mod (fun j => j = y.b) D2 _ := (Mod.refl _ D2).set1 (.int .i64 (i : Int)) (o := 2)
    have M5 := hHeld.trans (M4.mono (T := fun j => j = x.b ∨ j = y.b) fun _ _ h => .inr h)
    (refine wpAnyH_ready (rs := [12]) (by kernel_rfl) (by simp) ?_; refine AllReadyH.cons rfl (fun K hK => ?_) AllReadyH.nil; go_simp; refine hK.out _ _ M5 (fun hHeld => ?_); clear hK K; (try simp only [Act.put]); (try simp only [List.getElem_toArray]); (try simp only [List.getElem_cons_succ]); (try simp only [List.getElem_cons_zero]); (try simp only [List.setIfInBounds_toArray]); (try simp only [List.set_cons_succ]); (try simp only [List.set_cons_zero]))
    have Y3 : Blk (D2.setCell ⟨y.b, 2, none⟩ (.int .i64 (i : Int))) y.b 59 (y.cells i) := Y2.set_ 2 (.int .i64 (i : Int))
    have X3 := X2.mod M4 HBB.out
    clear y2 f2
    generalize World.setCell D2 _ _ = D3 at *
    have x2 := X3.cell 2
    have g2 := X3.frozen 2
    have M6 : Mod (fun j => j = x.b) D3 _ := (Mod.refl _ D3).set1 (.int .i64 (k : Int)) (o := 2)
    have M7 := M5.trans (M6.mono (T := fun j => j = x.b ∨ j = y.b) fun _ _ h => .inl h)
    (refine wpAnyH_take (i := 13) (v := ?_) rfl (by kernel_rfl) (by kernel_rfl) (by kernel_rfl) (fun _ _ _ h => h) (Or.inl ⟨by rfl, ?_⟩) (by assumption) ?_; rotate_left; (focus (intro w' hSw; go_simp; try with_reducible rfl)); (try simp only [List.getElem_toArray]); (try simp only [List.getElem_cons_succ]); (try simp only [List.getElem_cons_zero]); (try simp only [Act.put]); (try simp only [List.setIfInBounds_toArray]); (try simp only [List.set_cons_succ]); (try simp only [List.set_cons_zero]))
    (refine wpAnyH_take (i := 14) (v := ?_) rfl (by kernel_rfl) (by kernel_rfl) (by kernel_rfl) (fun _ _ _ h => h) (Or.inl ⟨by rfl, ?_⟩) (by assumption) ?_; rotate_left; (focus (intro w' hSw; go_simp; try with_reducible rfl)); (try simp only [List.getElem_toArray]); (try simp only [List.getElem_cons_succ]); (try simp only [List.getElem_cons_zero]); (try simp only [Act.put]); (try simp only [List.setIfInBounds_toArray]); (try simp only [List.set_cons_succ]); (try simp only [List.set_cons_zero]))
    (refine wpAnyH_ready (rs := [15]) (by kernel_rfl) (by simp) ?_; refine AllReadyH.cons rfl (fun K hK => ?_) AllReadyH.nil; go_simp; refine hK.out _ _ M7 (fun hHeld => ?_); clear hK K; (try simp only [Act.put]); (try simp only [List.getElem_toArray]); (try simp only [List.getElem_cons_succ]); (try simp only [List.getElem_cons_zero]); (try simp only [List.setIfInBounds_toArray]); (try simp only [List.set_cons_succ]); (try simp only [List.set_cons_zero]))
    refine wpAnyH_done (by kernel_rfl) ?_ _
    have X4 : Blk (D3.setCell ⟨x.b, 2, none⟩ (.int .i64 (k : Int))) x.b 59 (x.cells k) := X3.set_ 2 (.int .i64 (k : Int))
    have Y4 := Y3.mod M6 HBB.out.symm
    generalize World.setCell D3 _ _ = Z at *
    go_wp2
    go_end0
    exact swap_end HP.out HT.out HO.out HFG.out HEG.out HX.out HY.out (by rw [HN.out]; exact HI.out) (by rw [HN.out]; exact HK.out) HNE.out O1.out M2.out M7 X4 Y4 HGT.out
end Go.Proofs.Ytapajcgfdiamdaa
