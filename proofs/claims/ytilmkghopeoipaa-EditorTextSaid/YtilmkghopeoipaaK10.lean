/- The document's cut of a line, by contract. Conditions: lengths below 10^8. -/
import Derived.Test.YtilmkghopeoipaaJ10
import Derived.Test.YtilmkghopeoipaaAppB
namespace Go.Proofs.Ytilmkghopeoipaa
open Go.RowKit Go.Kb

set_option maxHeartbeats 800000 in
theorem rcut_any (v : Value) (l : List Int) (n : Nat) (w : World) (h : RI .u8 w v l) (hk : n ≤ l.length) (hn : l.length ≤ 100000000) : Calls Try.prog 29 #[v, .int .i64 n] w (PartPost w l (l.length - n)) := by
  obtain ⟨Ad, c, rfl, h1, h2⟩ := h.shape
  obtain ⟨m, hm⟩ : ∃ m, l.length - n = m := ⟨_, rfl⟩
  rw [hm]
  have hw1 : IntKind.i64.wrap ((l.length : Int) - n) = (m : Int) := by rw [show (l.length : Int) - n = (m : Int) by omega]; exact IntWalk.i64_in _ (by omega)
  have hkm : m ≤ l.length := by omega
  have H := Lib.hid h
  have H1 := Lib.hid (h.toA hkm)
  have H2 := Lib.hid (h.fromB hkm)
  clear h
  have e1 : (l.take m).length = m := by rw [List.length_take]; omega
  have e2 : (l.drop m).length = l.length - m := List.length_drop
  have i1 : (0 : Int) ≤ (m : Int) := by omega
  have i2 : (m : Int) ≤ (l.length : Int) := by omega
  have i3 : (m : Int) ≤ (c : Int) := by omega
  have i4 : (l.length : Int) ≤ (c : Int) := by omega
  clear hm
  go_enter Try.func29, Try.ntmps29
  go_wp2_with fail
  refine wp_region_held_drew (S := fun w' => Ext w w') (by kernel_rfl) (by repeat (first | with_reducible exact Ext.refl _ | refine Ext.drewN ?_ _ | refine Ext.drew ?_ | refine Ext.alloc ?_ _ | assumption | (refine Below.trans ?_ (by assumption)) | (refine Ext.trans ?_ (by assumption)) | (refine Below.trans ?_ (Below.mono (by assumption) (by omega))))) (fun hHeld => ?_)
  (refine wpAnyH_take (i := 1) (v := ?_) rfl (by kernel_rfl) (by kernel_rfl) (by kernel_rfl) (fun _ _ _ h => h) (Or.inl ⟨by rfl, ?_⟩) (by assumption) ?_; rotate_left; (focus (intro w' hSw; go_simp; try with_reducible rfl)); (try simp only [List.getElem_toArray]); (try simp only [List.getElem_cons_succ]); (try simp only [List.getElem_cons_zero]); (try simp only [Act.put]); (try simp only [List.setIfInBounds_toArray]); (try simp only [List.set_cons_succ]); (try simp only [List.set_cons_zero]))
  (refine wpAnyH_take (i := 2) (v := ?_) rfl (by kernel_rfl) (by kernel_rfl) (by kernel_rfl) (fun _ _ _ h => h) (Or.inl ⟨by rfl, ?_⟩) (by assumption) ?_; rotate_left; (focus (intro w' hSw; go_simp; try with_reducible rfl)); (try simp only [List.getElem_toArray]); (try simp only [List.getElem_cons_succ]); (try simp only [List.getElem_cons_zero]); (try simp only [Act.put]); (try simp only [List.setIfInBounds_toArray]); (try simp only [List.set_cons_succ]); (try simp only [List.set_cons_zero]))
  (refine wpAnyH_take (i := 3) (v := ?_) rfl (by kernel_rfl) (by kernel_rfl) (by kernel_rfl) (fun _ _ _ h => h) (Or.inl ⟨by rfl, ?_⟩) (by assumption) ?_; rotate_left; (focus (intro w' hSw; go_simp; try with_reducible rfl)); (try simp only [List.getElem_toArray]); (try simp only [List.getElem_cons_succ]); (try simp only [List.getElem_cons_zero]); (try simp only [Act.put]); (try simp only [List.setIfInBounds_toArray]); (try simp only [List.set_cons_succ]); (try simp only [List.set_cons_zero]))
  (refine wpAnyH_take (i := 6) (v := ?_) rfl (by kernel_rfl) (by kernel_rfl) (by kernel_rfl) (fun _ _ _ h => h) (Or.inl ⟨by rfl, ?_⟩) (by assumption) ?_; rotate_left; (focus (intro w' hSw; go_simp; try with_reducible rfl)); (try simp only [List.getElem_toArray]); (try simp only [List.getElem_cons_succ]); (try simp only [List.getElem_cons_zero]); (try simp only [Act.put]); (try simp only [List.setIfInBounds_toArray]); (try simp only [List.set_cons_succ]); (try simp only [List.set_cons_zero]))
  (refine wpAnyH_take (i := 7) (v := ?_) rfl (by kernel_rfl) (by kernel_rfl) (by kernel_rfl) (fun _ _ _ h => h) (Or.inl ⟨by rfl, ?_⟩) (by assumption) ?_; rotate_left; (focus (intro w' hSw; go_simp; try with_reducible rfl)); (try simp only [List.getElem_toArray]); (try simp only [List.getElem_cons_succ]); (try simp only [List.getElem_cons_zero]); (try simp only [Act.put]); (try simp only [List.setIfInBounds_toArray]); (try simp only [List.set_cons_succ]); (try simp only [List.set_cons_zero]))
  (refine wpAnyH_take (i := 8) (v := ?_) rfl (by kernel_rfl) (by kernel_rfl) (by kernel_rfl) (fun _ _ _ h => h) (Or.inl ⟨by rfl, ?_⟩) (by assumption) ?_; rotate_left; (focus (intro w' hSw; go_simp; try with_reducible rfl)); (try simp only [List.getElem_toArray]); (try simp only [List.getElem_cons_succ]); (try simp only [List.getElem_cons_zero]); (try simp only [Act.put]); (try simp only [List.setIfInBounds_toArray]); (try simp only [List.set_cons_succ]); (try simp only [List.set_cons_zero]))
  refine wpAnyH_ready (rs := [0, 5]) (by kernel_rfl) (by simp) ?_
  refine AllReadyH.cons rfl (fun K hK => ?_) (AllReadyH.cons rfl (fun K hK => ?_) AllReadyH.nil)
  · go_simp
    refine hK.out _ _ (by repeat (first | with_reducible exact Ext.refl _ | refine Ext.drewN ?_ _ | refine Ext.drew ?_ | refine Ext.alloc ?_ _ | assumption | (refine Below.trans ?_ (by assumption)) | (refine Ext.trans ?_ (by assumption)) | (refine Below.trans ?_ (Below.mono (by assumption) (by omega))))) (fun hHeld => ?_)
    clear hK K
    (try simp only [List.getElem_toArray]); (try simp only [List.getElem_cons_succ]); (try simp only [List.getElem_cons_zero]); (try simp only [Act.put]); (try simp only [List.setIfInBounds_toArray]); (try simp only [List.set_cons_succ]); (try simp only [List.set_cons_zero])
    refine wpAnyH_ready (rs := [4, 5]) (by kernel_rfl) (by simp) ?_
    refine AllReadyH.cons rfl (fun K hK => ?_) (AllReadyH.cons rfl (fun K hK => ?_) AllReadyH.nil)
    ·
      refine step_appB (e := Ub) (base := w.heap.size) (B := fun _ => False) (A := fun _ => False) rfl (.tmp 11) (.tmp 14) rfl Try.underlying27 info_u8 rfl (OwnS.emptyB Ub _ (Blk.new w.drew _ #[]) (Nat.le_refl _)) rfl (RI.y (RdN.ext H1.out hHeld)) rfl (fun _ _ h => h.elim) (N := m) (by simp only [List.length_nil, e1]; omega) (by simp [maxLen]; omega) (by omega) (Nat.le_of_lt ((Blk.new w.drew _ #[])).lt) ?_
      intro A1 c1 w1 o1 M1 B1 D1
      simp only [List.nil_append] at o1
      have hHo := hHeld
      refine hK.out _ _ (Below.trans hHeld (B1.mono (Nat.le_refl _))) (fun hHeld => ?_)
      clear hK K
      (try simp only [List.getElem_toArray]); (try simp only [List.getElem_cons_succ]); (try simp only [List.getElem_cons_zero]); (try simp only [Act.put]); (try simp only [List.setIfInBounds_toArray]); (try simp only [List.set_cons_succ]); (try simp only [List.set_cons_zero])
      have hs1 := hHeld.size
      (refine wpAnyH_ready (rs := [5]) (by kernel_rfl) (by simp) ?_; refine AllReadyH.cons rfl (fun K hK => ?_) AllReadyH.nil; go_simp; refine hK.out _ _ (by repeat (first | with_reducible exact Ext.refl _ | refine Ext.drewN ?_ _ | refine Ext.drew ?_ | refine Ext.alloc ?_ _ | assumption | (refine Below.trans ?_ (by assumption)) | (refine Ext.trans ?_ (by assumption)) | (refine Below.trans ?_ (Below.mono (by assumption) (by omega))))) (fun hHeld => ?_); clear hK K; (try simp only [Act.put]); (try simp only [List.getElem_toArray]); (try simp only [List.getElem_cons_succ]); (try simp only [List.getElem_cons_zero]); (try simp only [List.setIfInBounds_toArray]); (try simp only [List.set_cons_succ]); (try simp only [List.set_cons_zero]))
      refine wpAnyH_ready (rs := [9]) (by kernel_rfl) (by simp) ?_
      refine AllReadyH.cons rfl (fun K hK => ?_) AllReadyH.nil
      refine step_appB (e := Ub) (base := w1.heap.size) (B := fun _ => False) (A := fun _ => False) rfl (.tmp 16) (.tmp 19) rfl Try.underlying27 info_u8 rfl (OwnS.emptyB Ub _ (Blk.new w1 _ #[]) (Nat.le_refl _)) rfl (RI.y (RdN.ext H2.out hHeld)) rfl (fun _ _ h => h.elim) (N := (l.length - m)) (by simp only [List.length_nil, e2]; omega) (by simp [maxLen]; omega) (by omega) (Nat.le_of_lt ((Blk.new w1 _ #[])).lt) ?_
      intro A2 c2 w2 o2 M2 B2 D2
      simp only [List.nil_append] at o2
      have hHo := hHeld
      refine hK.out _ _ (Below.trans hHeld (B2.mono hs1)) (fun hHeld => ?_)
      clear hK K
      (try simp only [List.getElem_toArray]); (try simp only [List.getElem_cons_succ]); (try simp only [List.getElem_cons_zero]); (try simp only [Act.put]); (try simp only [List.setIfInBounds_toArray]); (try simp only [List.set_cons_succ]); (try simp only [List.set_cons_zero])
      have o1' := (o1.alloc _).mod M2 (fun k hk he => by have := (o1.row k hk).2; simp [Value.ownBlock] at he; omega) (fun _ _ h => h.elim)
      (refine wpAnyH_take (i := 10) (v := ?_) rfl (by kernel_rfl) (by kernel_rfl) (by kernel_rfl) (fun _ _ _ h => h) (Or.inl ⟨by rfl, ?_⟩) (by assumption) ?_; rotate_left; (focus (intro w' hSw; go_simp; try with_reducible rfl)); (try simp only [List.getElem_toArray]); (try simp only [List.getElem_cons_succ]); (try simp only [List.getElem_cons_zero]); (try simp only [Act.put]); (try simp only [List.setIfInBounds_toArray]); (try simp only [List.set_cons_succ]); (try simp only [List.set_cons_zero]))
      (refine wpAnyH_take (i := 11) (v := ?_) rfl (by kernel_rfl) (by kernel_rfl) (by kernel_rfl) (fun _ _ _ h => h) (Or.inl ⟨by rfl, ?_⟩) (by assumption) ?_; rotate_left; (focus (intro w' hSw; go_simp; try with_reducible rfl)); (try simp only [List.getElem_toArray]); (try simp only [List.getElem_cons_succ]); (try simp only [List.getElem_cons_zero]); (try simp only [Act.put]); (try simp only [List.setIfInBounds_toArray]); (try simp only [List.set_cons_succ]); (try simp only [List.set_cons_zero]))
      generalize (if c = m then Ad else Option.map (fun x => x.add m) Ad) = Bd at H2 ⊢
      refine wpAnyH_done (by kernel_rfl) ?_ _
      go_wp2
      refine bodyPost_ret (v := .tuple #[.slice A1 m c1, .slice A2 (l.length - m) c2]) (by simp [results, Try.results29, go_sem]) rfl ?_
      exact ⟨A1, c1, A2, c2, rfl, own_new o1' (by simp), own_new o2 hs1, hHeld⟩
    · go_simp
      refine hK.out _ _ (by repeat (first | with_reducible exact Ext.refl _ | refine Ext.drewN ?_ _ | refine Ext.drew ?_ | refine Ext.alloc ?_ _ | assumption | (refine Below.trans ?_ (by assumption)) | (refine Ext.trans ?_ (by assumption)) | (refine Below.trans ?_ (Below.mono (by assumption) (by omega))))) (fun hHeld => ?_)
      clear hK K
      (try simp only [List.getElem_toArray]); (try simp only [List.getElem_cons_succ]); (try simp only [List.getElem_cons_zero]); (try simp only [Act.put]); (try simp only [List.setIfInBounds_toArray]); (try simp only [List.set_cons_succ]); (try simp only [List.set_cons_zero])
      refine wpAnyH_ready (rs := [4]) (by kernel_rfl) (by simp) ?_
      refine AllReadyH.cons rfl (fun K hK => ?_) AllReadyH.nil
      refine step_appB (e := Ub) (base := w.heap.size) (B := fun _ => False) (A := fun _ => False) rfl (.tmp 11) (.tmp 14) rfl Try.underlying27 info_u8 rfl (OwnS.emptyB Ub _ ((Blk.new w.drew _ #[]).alloc _) (Nat.le_refl _)) rfl (RI.y (RdN.ext H1.out hHeld)) rfl (fun _ _ h => h.elim) (N := m) (by simp only [List.length_nil, e1]; omega) (by simp [maxLen]; omega) (by omega) (Nat.le_of_lt (((Blk.new w.drew _ #[]).alloc _)).lt) ?_
      intro A1 c1 w1 o1 M1 B1 D1
      simp only [List.nil_append] at o1
      have hHo := hHeld
      refine hK.out _ _ (Below.trans hHeld (B1.mono (Nat.le_refl _))) (fun hHeld => ?_)
      clear hK K
      (try simp only [List.getElem_toArray]); (try simp only [List.getElem_cons_succ]); (try simp only [List.getElem_cons_zero]); (try simp only [Act.put]); (try simp only [List.setIfInBounds_toArray]); (try simp only [List.set_cons_succ]); (try simp only [List.set_cons_zero])
      have hB2 := Blk.mod (Blk.at_ (w := w.drew.alloc (.cells #[] 5)) (B := w.heap.size + 1) 5 #[] (by simp)) M1 (by simp [Value.ownBlock])
      refine wpAnyH_ready (rs := [9]) (by kernel_rfl) (by simp) ?_
      refine AllReadyH.cons rfl (fun K hK => ?_) AllReadyH.nil
      refine step_appB (e := Ub) (base := (w.heap.size + 1)) (B := fun _ => False) (A := fun _ => False) rfl (.tmp 16) (.tmp 19) rfl Try.underlying27 info_u8 rfl (OwnS.emptyB Ub _ hB2 (Nat.le_refl _)) rfl (RI.y (RdN.ext H2.out hHeld)) rfl (fun _ _ h => h.elim) (N := (l.length - m)) (by simp only [List.length_nil, e2]; omega) (by simp [maxLen]; omega) (by omega) (Nat.le_of_lt (hB2).lt) ?_
      intro A2 c2 w2 o2 M2 B2 D2
      simp only [List.nil_append] at o2
      have hHo := hHeld
      refine hK.out _ _ (Below.trans hHeld (B2.mono (Nat.le_succ _))) (fun hHeld => ?_)
      clear hK K
      (try simp only [List.getElem_toArray]); (try simp only [List.getElem_cons_succ]); (try simp only [List.getElem_cons_zero]); (try simp only [Act.put]); (try simp only [List.setIfInBounds_toArray]); (try simp only [List.set_cons_succ]); (try simp only [List.set_cons_zero])
      have o1' := o1.mod M2 (fun k hk he => by rw [hk] at D1; simp [Value.ownBlock] at he D1; omega) (fun _ _ h => h.elim)
      (refine wpAnyH_take (i := 10) (v := ?_) rfl (by kernel_rfl) (by kernel_rfl) (by kernel_rfl) (fun _ _ _ h => h) (Or.inl ⟨by rfl, ?_⟩) (by assumption) ?_; rotate_left; (focus (intro w' hSw; go_simp; try with_reducible rfl)); (try simp only [List.getElem_toArray]); (try simp only [List.getElem_cons_succ]); (try simp only [List.getElem_cons_zero]); (try simp only [Act.put]); (try simp only [List.setIfInBounds_toArray]); (try simp only [List.set_cons_succ]); (try simp only [List.set_cons_zero]))
      (refine wpAnyH_take (i := 11) (v := ?_) rfl (by kernel_rfl) (by kernel_rfl) (by kernel_rfl) (fun _ _ _ h => h) (Or.inl ⟨by rfl, ?_⟩) (by assumption) ?_; rotate_left; (focus (intro w' hSw; go_simp; try with_reducible rfl)); (try simp only [List.getElem_toArray]); (try simp only [List.getElem_cons_succ]); (try simp only [List.getElem_cons_zero]); (try simp only [Act.put]); (try simp only [List.setIfInBounds_toArray]); (try simp only [List.set_cons_succ]); (try simp only [List.set_cons_zero]))
      generalize (if c = m then Ad else Option.map (fun x => x.add m) Ad) = Bd at H2 ⊢
      refine wpAnyH_done (by kernel_rfl) ?_ _
      go_wp2
      refine bodyPost_ret (v := .tuple #[.slice A1 m c1, .slice A2 (l.length - m) c2]) (by simp [results, Try.results29, go_sem]) rfl ?_
      exact ⟨A1, c1, A2, c2, rfl, own_new o1' (by simp), own_new o2 (Nat.le_succ _), hHeld⟩
  · go_simp
    refine hK.out _ _ (by repeat (first | with_reducible exact Ext.refl _ | refine Ext.drewN ?_ _ | refine Ext.drew ?_ | refine Ext.alloc ?_ _ | assumption | (refine Below.trans ?_ (by assumption)) | (refine Ext.trans ?_ (by assumption)) | (refine Below.trans ?_ (Below.mono (by assumption) (by omega))))) (fun hHeld => ?_)
    clear hK K
    (try simp only [List.getElem_toArray]); (try simp only [List.getElem_cons_succ]); (try simp only [List.getElem_cons_zero]); (try simp only [Act.put]); (try simp only [List.setIfInBounds_toArray]); (try simp only [List.set_cons_succ]); (try simp only [List.set_cons_zero])
    (refine wpAnyH_ready (rs := [0]) (by kernel_rfl) (by simp) ?_; refine AllReadyH.cons rfl (fun K hK => ?_) AllReadyH.nil; go_simp; refine hK.out _ _ (by repeat (first | with_reducible exact Ext.refl _ | refine Ext.drewN ?_ _ | refine Ext.drew ?_ | refine Ext.alloc ?_ _ | assumption | (refine Below.trans ?_ (by assumption)) | (refine Ext.trans ?_ (by assumption)) | (refine Below.trans ?_ (Below.mono (by assumption) (by omega))))) (fun hHeld => ?_); clear hK K; (try simp only [Act.put]); (try simp only [List.getElem_toArray]); (try simp only [List.getElem_cons_succ]); (try simp only [List.getElem_cons_zero]); (try simp only [List.setIfInBounds_toArray]); (try simp only [List.set_cons_succ]); (try simp only [List.set_cons_zero]))
    refine wpAnyH_ready (rs := [4]) (by kernel_rfl) (by simp) ?_
    refine AllReadyH.cons rfl (fun K hK => ?_) AllReadyH.nil
    refine step_appB (e := Ub) (base := (w.heap.size + 1)) (B := fun _ => False) (A := fun _ => False) rfl (.tmp 11) (.tmp 14) rfl Try.underlying27 info_u8 rfl (OwnS.emptyB Ub _ (Blk.at_ (w := w.drew.alloc (.cells #[] 5)) (B := w.heap.size + 1) 5 #[] (by simp)) (Nat.le_refl _)) rfl (RI.y (RdN.ext H1.out hHeld)) rfl (fun _ _ h => h.elim) (N := m) (by simp only [List.length_nil, e1]; omega) (by simp [maxLen]; omega) (by omega) (Nat.le_of_lt ((Blk.at_ (w := w.drew.alloc (.cells #[] 5)) (B := w.heap.size + 1) 5 #[] (by simp))).lt) ?_
    intro A1 c1 w1 o1 M1 B1 D1
    simp only [List.nil_append] at o1
    have hHo := hHeld
    refine hK.out _ _ (Below.trans hHeld (B1.mono (Nat.le_succ _))) (fun hHeld => ?_)
    clear hK K
    (try simp only [List.getElem_toArray]); (try simp only [List.getElem_cons_succ]); (try simp only [List.getElem_cons_zero]); (try simp only [Act.put]); (try simp only [List.setIfInBounds_toArray]); (try simp only [List.set_cons_succ]); (try simp only [List.set_cons_zero])
    have hB2 := Blk.mod ((Blk.new w.drew 5 #[]).alloc _) M1 (by simp [Value.ownBlock])
    refine wpAnyH_ready (rs := [9]) (by kernel_rfl) (by simp) ?_
    refine AllReadyH.cons rfl (fun K hK => ?_) AllReadyH.nil
    refine step_appB (e := Ub) (base := w.heap.size) (B := fun _ => False) (A := fun _ => False) rfl (.tmp 16) (.tmp 19) rfl Try.underlying27 info_u8 rfl (OwnS.emptyB Ub _ hB2 (Nat.le_refl _)) rfl (RI.y (RdN.ext H2.out hHeld)) rfl (fun _ _ h => h.elim) (N := (l.length - m)) (by simp only [List.length_nil, e2]; omega) (by simp [maxLen]; omega) (by omega) (Nat.le_of_lt (hB2).lt) ?_
    intro A2 c2 w2 o2 M2 B2 D2
    simp only [List.nil_append] at o2
    have hHo := hHeld
    refine hK.out _ _ (Below.trans hHeld (B2.mono (Nat.le_refl _))) (fun hHeld => ?_)
    clear hK K
    (try simp only [List.getElem_toArray]); (try simp only [List.getElem_cons_succ]); (try simp only [List.getElem_cons_zero]); (try simp only [Act.put]); (try simp only [List.setIfInBounds_toArray]); (try simp only [List.set_cons_succ]); (try simp only [List.set_cons_zero])
    have o1' := o1.mod M2 (fun k hk he => by rw [hk] at D1; simp [Value.ownBlock] at he D1; omega) (fun _ _ h => h.elim)
    (refine wpAnyH_take (i := 10) (v := ?_) rfl (by kernel_rfl) (by kernel_rfl) (by kernel_rfl) (fun _ _ _ h => h) (Or.inl ⟨by rfl, ?_⟩) (by assumption) ?_; rotate_left; (focus (intro w' hSw; go_simp; try with_reducible rfl)); (try simp only [List.getElem_toArray]); (try simp only [List.getElem_cons_succ]); (try simp only [List.getElem_cons_zero]); (try simp only [Act.put]); (try simp only [List.setIfInBounds_toArray]); (try simp only [List.set_cons_succ]); (try simp only [List.set_cons_zero]))
    (refine wpAnyH_take (i := 11) (v := ?_) rfl (by kernel_rfl) (by kernel_rfl) (by kernel_rfl) (fun _ _ _ h => h) (Or.inl ⟨by rfl, ?_⟩) (by assumption) ?_; rotate_left; (focus (intro w' hSw; go_simp; try with_reducible rfl)); (try simp only [List.getElem_toArray]); (try simp only [List.getElem_cons_succ]); (try simp only [List.getElem_cons_zero]); (try simp only [Act.put]); (try simp only [List.setIfInBounds_toArray]); (try simp only [List.set_cons_succ]); (try simp only [List.set_cons_zero]))
    generalize (if c = m then Ad else Option.map (fun x => x.add m) Ad) = Bd at H2 ⊢
    refine wpAnyH_done (by kernel_rfl) ?_ _
    go_wp2
    refine bodyPost_ret (v := .tuple #[.slice A1 m c1, .slice A2 (l.length - m) c2]) (by simp [results, Try.results29, go_sem]) rfl ?_
    exact ⟨A1, c1, A2, c2, rfl, own_new o1' (Nat.le_succ _), own_new o2 (Nat.le_refl _), hHeld⟩
end Go.Proofs.Ytilmkghopeoipaa
