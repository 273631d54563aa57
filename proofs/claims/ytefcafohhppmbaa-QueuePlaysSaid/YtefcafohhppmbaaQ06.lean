/- Push of the document's queue, by contract. Conditions: the queue is one; a record is no longer than the reach. -/
import Derived.Test.YtefcafohhppmbaaP06
namespace Go.Proofs.Ytefcafohhppmbaa
open Go.RowKit Go.Kb

theorem room_no {c : Cf} {l : List (List Int)} {b : List Int} (h : (l.length : Int) = c.R ∨ c.B < b.length ∨ c.B < usedL l + b.length) : roomB c l b = false := by
  have := usedL_nn l
  unfold roomB
  rcases h with h | h
  · rw [decide_eq_true h]; rfl
  · rw [decide_eq_true (show c.B - usedL l < b.length by omega)]; simp
theorem room_yes {c : Cf} {l : List (List Int)} {b : List Int} (h1 : ¬ (l.length : Int) = c.R) (h2 : ¬ c.B < usedL l + b.length) : roomB c l b = true := by
  unfold roomB
  rw [decide_eq_false h1, decide_eq_false (show ¬ c.B - usedL l < b.length by omega)]; rfl
theorem rpush_fin {F : Nat → Prop} {c : Cf} {g : Nat} {w w5 w7 : World} {l : List (List Int)} {o' : Bool} {b : List Int} {A5 : Option Addr} {k5 m : Nat} (hF : ∀ k, F k → k < w.heap.size ∧ k ≠ g) (hgl : g < w.heap.size) (hl : (l.length : Int) ≤ c.R) (h1 : ¬ (l.length : Int) = c.R) (h3 : usedL l + b.length ≤ c.B) (hc : ¬ badC c)
    (T5 : TailS Rc 34 (fun k => F k ∨ w.heap.size ≤ k) w5 (.slice A5 (m + 1) k5) (l ++ [b])) (M5 : Mod (fun k => k = g ∨ F k) w w5) (M7 : Mod (fun k => k = g) w5 w7) (B7 : Blk w7 g 45 (rb c (.slice A5 (m + 1) k5) o')) :
    ∃ F', Qr c g F' w7 (l ++ [b]) o' ∧ (∀ k, F' k → F k ∨ w.heap.size ≤ k) ∧ Mod (fun k => k = g ∨ F k) w w7 := by
  have h6 := M7.size
  have h7 := M5.size
  refine ⟨fun k => (F k ∨ w.heap.size ≤ k) ∧ k < w7.heap.size ∧ k ≠ g, ⟨_, B7, ?_, fun k hk => hk.2, ?_, ?_, hc⟩, fun k hk => hk.1, M5.trans (Mod.gl M7)⟩
  · refine T5.keep fun k hk ha => ⟨⟨ha, Nat.lt_of_lt_of_le hk h6, ?_⟩, M7.block k hk ?_⟩
    · rintro rfl
      rcases ha with ha | ha
      · exact (hF k ha).2 rfl
      · omega
    · rintro rfl
      rcases ha with ha | ha
      · exact (hF k ha).2 rfl
      · omega
  · rw [List.length_append]
    simp only [List.length_singleton, Int.natCast_add, Int.cast_ofNat_Int]
    omega
  · rw [usedL_snoc]
    exact h3
set_option maxHeartbeats 3000000 in
set_option maxRecDepth 100000 in
theorem rpush_any {F : Nat → Prop} (c : Cf) (g : Nat) (w : World) (l : List (List Int)) (o : Bool) (v2 : Value) (b : List Int) (h : Qr c g F w l o) (hb : RI .u8 w v2 b) (hn : b.length ≤ 140737488355328) :
    Calls Try.prog 23 #[.pointer (some ⟨g, 0, none⟩), v2] w fun e w' => e = .returned (.bool (roomB c l b)) ∧ ∃ F', Qr c g F' w' (pushL c l b) (pushO c l o b) ∧ (∀ k, F' k → F k ∨ w.heap.size ≤ k) ∧ Mod (fun k => k = g ∨ F k) w w' := by
  have HU0 := Lib.hid h.u
  obtain ⟨v, hB, hT, hF, hl, hu, hc⟩ := h
  obtain ⟨Ad, k0, rfl, hk1, hk2⟩ := hT.shape
  obtain ⟨A2, k2, rfl, hk3, hk4⟩ := RdN.shape hb
  obtain ⟨c0, c1, c2, c3, c4, c5, cf⟩ := rb_cells hB
  have hgl := hB.lt
  have hun := usedL_nn l
  have hBs : c.B ≤ 65536 := by unfold badC at hc; omega
  have hRs : c.R ≤ 4096 := by unfold badC at hc; omega
  have hw2 : IntKind.i64.wrap (usedL l + b.length) = usedL l + b.length := IntWalk.i64_in _ (by omega)
  obtain ⟨u, hu0⟩ : ∃ u, usedL l = u := ⟨_, rfl⟩
  obtain ⟨n, hn0⟩ : ∃ n, b.length = n := ⟨_, rfl⟩
  obtain ⟨m, hm0⟩ : ∃ m, l.length = m := ⟨_, rfl⟩
  have HB := Lib.hid hB
  have HT := Lib.hid hT
  have Hb : Hid (RI .u8 w (.slice A2 n k2) b) := Lib.hid (by rw [← hn0]; exact hb)
  have HC := Lib.hid hc
  have HU := Lib.hid hu0
  have HN := Lib.hid hn0
  have HM := Lib.hid hm0
  simp only [hu0, hn0, hm0] at hw2 c4 hk1 hk3 hun hu hn hl ⊢
  clear hB hT hb hc hu0 hn0 hm0
  have HQ : Hid (Qr c g F w l o) := Lib.hid ⟨_, HB.out, by have := HT.out; rwa [HM.out] at this ⊢, hF, by rw [HM.out]; exact hl, by rw [HU.out]; exact hu, HC.out⟩
  rw [HM.out] at HB HT
  have HF := Lib.hid hF
  by_cases h1 : (m : Int) = c.R
  · have hr : roomB c l b = false := room_no (.inl (by rw [HM.out]; exact h1))
    unfold pushL pushO
    rw [hr]
    clear hr hF
    go_enter Try.func23, Try.ntmps23
    go_wp2
    go_quiet (fail)
    go_wp2
    go_ret
    exact ⟨rfl, F, HQ.out.ext (by repeat (first | with_reducible exact Ext.refl _ | refine Ext.drewN ?_ _ | refine Ext.drew ?_ | refine Ext.alloc ?_ _ | assumption | (refine Below.trans ?_ (by assumption)) | (refine Ext.trans ?_ (by assumption)) | (refine Below.trans ?_ (Below.mono (by assumption) (by omega))))), fun k hk => .inl hk, Mod.of_ext (by repeat (first | with_reducible exact Ext.refl _ | refine Ext.drewN ?_ _ | refine Ext.drew ?_ | refine Ext.alloc ?_ _ | assumption | (refine Below.trans ?_ (by assumption)) | (refine Ext.trans ?_ (by assumption)) | (refine Below.trans ?_ (Below.mono (by assumption) (by omega)))))⟩
  have e1 : ((m : Int) == c.R) = false := by simpa using h1
  by_cases h2 : c.B < n
  · have hr : roomB c l b = false := room_no (.inr (.inl (by rw [HN.out]; exact h2)))
    unfold pushL pushO
    rw [hr]
    clear hr hF
    go_enter Try.func23, Try.ntmps23
    go_wp2
    go_quiet (fail)
    go_wp2
    go_ret
    exact ⟨rfl, F, HQ.out.ext (by repeat (first | with_reducible exact Ext.refl _ | refine Ext.drewN ?_ _ | refine Ext.drew ?_ | refine Ext.alloc ?_ _ | assumption | (refine Below.trans ?_ (by assumption)) | (refine Ext.trans ?_ (by assumption)) | (refine Below.trans ?_ (Below.mono (by assumption) (by omega))))), fun k hk => .inl hk, Mod.of_ext (by repeat (first | with_reducible exact Ext.refl _ | refine Ext.drewN ?_ _ | refine Ext.drew ?_ | refine Ext.alloc ?_ _ | assumption | (refine Below.trans ?_ (by assumption)) | (refine Ext.trans ?_ (by assumption)) | (refine Below.trans ?_ (Below.mono (by assumption) (by omega)))))⟩
  by_cases h3 : c.B < u + n
  · have hr : roomB c l b = false := room_no (.inr (.inr (by rw [HN.out, HU.out]; exact h3)))
    unfold pushL pushO
    rw [hr]
    clear hr hF
    go_enter Try.func23, Try.ntmps23
    go_wp2
    go_quiet ((go_at_call 16; exact Qt.calls rfl (rused_q HU0.out.1 HU0.out.2 HU.out)))
    go_wp2
    go_ret
    exact ⟨rfl, F, HQ.out.ext (by repeat (first | with_reducible exact Ext.refl _ | refine Ext.drewN ?_ _ | refine Ext.drew ?_ | refine Ext.alloc ?_ _ | assumption | (refine Below.trans ?_ (by assumption)) | (refine Ext.trans ?_ (by assumption)) | (refine Below.trans ?_ (Below.mono (by assumption) (by omega))))), fun k hk => .inl hk, Mod.of_ext (by repeat (first | with_reducible exact Ext.refl _ | refine Ext.drewN ?_ _ | refine Ext.drew ?_ | refine Ext.alloc ?_ _ | assumption | (refine Below.trans ?_ (by assumption)) | (refine Ext.trans ?_ (by assumption)) | (refine Below.trans ?_ (Below.mono (by assumption) (by omega)))))⟩
  have hr : roomB c l b = true := room_yes (by rw [HM.out]; exact h1) (by rw [HN.out, HU.out]; exact h3)
  unfold pushL pushO
  rw [hr, if_pos rfl, if_pos rfl]
  clear hr hF
  go_enter Try.func23, Try.ntmps23
  go_wp2
  go_quiet ((go_at_call 16; exact Qt.calls rfl (rused_q HU0.out.1 HU0.out.2 HU.out)))
  go_wp2
  have hown : ∀ k, (Value.slice Ad m k0).ownBlock = some k → F k := TailS.row HT.out
  have hT0 : Hid (TailS Rc 34 (fun k => F k ∨ w.heap.size ≤ k) w (.slice Ad m k0) l) := Lib.hid (HT.out.mono fun k _ hk => .inl hk)
  clear HT
  have hg1 : ∀ w', Ext w w' → w'.cell? ⟨g, 4, none⟩ = some (.slice Ad m k0) := fun w' hE => cell_ext hE c4
  refine wp_region_held_drew (S := fun w' => Mod (fun k => k = g ∨ F k) w w') (by kernel_rfl) (Mod.of_ext (by repeat (first | with_reducible exact Ext.refl _ | refine Ext.drewN ?_ _ | refine Ext.drew ?_ | refine Ext.alloc ?_ _ | assumption | (refine Below.trans ?_ (by assumption)) | (refine Ext.trans ?_ (by assumption)) | (refine Below.trans ?_ (Below.mono (by assumption) (by omega)))))) (fun hHeld => ?_)
  (refine wpAnyH_take (i := 0) (v := ?_) rfl (by kernel_rfl) (by kernel_rfl) (by kernel_rfl) (fun _ _ _ h => h) (Or.inl ⟨by rfl, ?_⟩) (by assumption) ?_; rotate_left; (focus (intro w' hSw; go_simp; try with_reducible rfl)); (try simp only [List.getElem_toArray]); (try simp only [List.getElem_cons_succ]); (try simp only [List.getElem_cons_zero]); (try simp only [Act.put]); (try simp only [List.setIfInBounds_toArray]); (try simp only [List.set_cons_succ]); (try simp only [List.set_cons_zero]))
  (refine wpAnyH_take (i := 1) (v := ?_) rfl (by kernel_rfl) (by kernel_rfl) (by kernel_rfl) (fun _ _ _ h => h) (Or.inl ⟨by rfl, ?_⟩) (by assumption) ?_; rotate_left; (focus (intro w' hSw; go_simp; try with_reducible rfl)); (try simp only [List.getElem_toArray]); (try simp only [List.getElem_cons_succ]); (try simp only [List.getElem_cons_zero]); (try simp only [Act.put]); (try simp only [List.setIfInBounds_toArray]); (try simp only [List.set_cons_succ]); (try simp only [List.set_cons_zero]))
  (refine wpAnyH_take (i := 2) (v := ?_) rfl (by kernel_rfl) (by kernel_rfl) (by kernel_rfl) (fun _ _ _ h => h) (Or.inl ⟨by rfl, ?_⟩) (by assumption) ?_; rotate_left; (focus (intro w' hSw; go_simp; try with_reducible rfl)); (try simp only [List.getElem_toArray]); (try simp only [List.getElem_cons_succ]); (try simp only [List.getElem_cons_zero]); (try simp only [Act.put]); (try simp only [List.setIfInBounds_toArray]); (try simp only [List.set_cons_succ]); (try simp only [List.set_cons_zero]))
  (refine wpAnyH_take (i := 3) (v := ?_) rfl (by kernel_rfl) (by kernel_rfl) (by kernel_rfl) (fun _ _ _ h => h) (Or.inl ⟨by rfl, ?_⟩) (by assumption) ?_; rotate_left; (focus (intro w' hSw; go_simp; try with_reducible rfl)); (try simp only [List.getElem_toArray]); (try simp only [List.getElem_cons_succ]); (try simp only [List.getElem_cons_zero]); (try simp only [Act.put]); (try simp only [List.setIfInBounds_toArray]); (try simp only [List.set_cons_succ]); (try simp only [List.set_cons_zero]))
  (refine wpAnyH_take (i := 6) (v := ?_) rfl (by kernel_rfl) (by kernel_rfl) (by kernel_rfl) (fun _ _ _ h => h) (Or.inl ⟨by rfl, ?_⟩) (by assumption) ?_; rotate_left; (focus (intro w' hSw; go_simp; try with_reducible rfl)); (try simp only [List.getElem_toArray]); (try simp only [List.getElem_cons_succ]); (try simp only [List.getElem_cons_zero]); (try simp only [Act.put]); (try simp only [List.setIfInBounds_toArray]); (try simp only [List.set_cons_succ]); (try simp only [List.set_cons_zero]))
  refine wpAnyH_ready (rs := [4, 5]) (by kernel_rfl) (by simp) ?_
  refine AllReadyH.cons rfl (fun K hK => ?_) (AllReadyH.cons rfl (fun K hK => ?_) AllReadyH.nil)
  · go_simp; refine hK.out _ _ (Mod.of_ext (by repeat (first | with_reducible exact Ext.refl _ | refine Ext.drewN ?_ _ | refine Ext.drew ?_ | refine Ext.alloc ?_ _ | assumption | (refine Below.trans ?_ (by assumption)) | (refine Ext.trans ?_ (by assumption)) | (refine Below.trans ?_ (Below.mono (by assumption) (by omega)))))) (fun hHeld => ?_); clear hK K; (try simp only [Act.put]); (try simp only [List.getElem_toArray]); (try simp only [List.getElem_cons_succ]); (try simp only [List.getElem_cons_zero]); (try simp only [List.setIfInBounds_toArray]); (try simp only [List.set_cons_succ]); (try simp only [List.set_cons_zero])
    (refine wpAnyH_ready (rs := [5]) (by kernel_rfl) (by simp) ?_; refine AllReadyH.cons rfl (fun K hK => ?_) AllReadyH.nil; go_simp; refine hK.out _ _ (Mod.of_ext (by repeat (first | with_reducible exact Ext.refl _ | refine Ext.drewN ?_ _ | refine Ext.drew ?_ | refine Ext.alloc ?_ _ | assumption | (refine Below.trans ?_ (by assumption)) | (refine Ext.trans ?_ (by assumption)) | (refine Below.trans ?_ (Below.mono (by assumption) (by omega)))))) (fun hHeld => ?_); clear hK K; (try simp only [Act.put]); (try simp only [List.getElem_toArray]); (try simp only [List.getElem_cons_succ]); (try simp only [List.getElem_cons_zero]); (try simp only [List.setIfInBounds_toArray]); (try simp only [List.set_cons_succ]); (try simp only [List.set_cons_zero]))
    (refine wpAnyH_ready (rs := [7]) (by kernel_rfl) (by simp) ?_; refine AllReadyH.cons rfl (fun K hK => ?_) AllReadyH.nil)
    refine step_app (e := Ub) (base := w.heap.size) (B := fun _ => False) (A := fun _ => False) rfl (.tmp 41) (.tmp 42) rfl Try.underlying34 info_u8 rfl (OwnS.empty Ub _ (fun _ => False) rfl (by simp)) rfl (RI.y (RdN.ext Hb.out (by repeat (first | with_reducible exact Ext.refl _ | refine Ext.drewN ?_ _ | refine Ext.drew ?_ | refine Ext.alloc ?_ _ | assumption | (refine Below.trans ?_ (by assumption)) | (refine Ext.trans ?_ (by assumption)) | (refine Below.trans ?_ (Below.mono (by assumption) (by omega))))))) rfl (fun _ _ h => h.elim) (N := n) (by rw [HN.out]; simp) (by simp [maxLen]; omega) (by omega) (by simp) ?_
    intro A1 k1 w1 o1 M1 E1
    rw [List.nil_append] at o1
    have hE1 : Ext w w1 := (by repeat (first | with_reducible exact Ext.refl _ | refine Ext.drewN ?_ _ | refine Ext.drew ?_ | refine Ext.alloc ?_ _ | assumption | (refine Below.trans ?_ (by assumption)) | (refine Ext.trans ?_ (by assumption)) | (refine Below.trans ?_ (Below.mono (by assumption) (by omega)))))
    have HO := Lib.hid o1
    clear o1 M1 E1
    refine hK.out _ _ (Mod.of_ext hE1) (fun hHeld => ?_)
    clear hK K
    (try simp only [Act.put]); (try simp only [List.getElem_toArray]); (try simp only [List.getElem_cons_succ]); (try simp only [List.getElem_cons_zero]); (try simp only [List.setIfInBounds_toArray]); (try simp only [List.set_cons_succ]); (try simp only [List.set_cons_zero])
    have d4 := hg1 w1 (by repeat (first | with_reducible exact Ext.refl _ | refine Ext.drewN ?_ _ | refine Ext.drew ?_ | refine Ext.alloc ?_ _ | assumption | (refine Below.trans ?_ (by assumption)) | (refine Ext.trans ?_ (by assumption)) | (refine Below.trans ?_ (Below.mono (by assumption) (by omega)))))
    have d5 := fun o => hg1 (w1.alloc o) (by repeat (first | with_reducible exact Ext.refl _ | refine Ext.drewN ?_ _ | refine Ext.drew ?_ | refine Ext.alloc ?_ _ | assumption | (refine Below.trans ?_ (by assumption)) | (refine Ext.trans ?_ (by assumption)) | (refine Below.trans ?_ (Below.mono (by assumption) (by omega)))))
    (refine wpAnyH_ready (rs := [8]) (by kernel_rfl) (by simp) ?_; refine AllReadyH.cons rfl (fun K hK => ?_) AllReadyH.nil; go_simp; refine hK.out _ _ (Mod.of_ext (by repeat (first | with_reducible exact Ext.refl _ | refine Ext.drewN ?_ _ | refine Ext.drew ?_ | refine Ext.alloc ?_ _ | assumption | (refine Below.trans ?_ (by assumption)) | (refine Ext.trans ?_ (by assumption)) | (refine Below.trans ?_ (Below.mono (by assumption) (by omega)))))) (fun hHeld => ?_); clear hK K; (try simp only [Act.put]); (try simp only [List.getElem_toArray]); (try simp only [List.getElem_cons_succ]); (try simp only [List.getElem_cons_zero]); (try simp only [List.setIfInBounds_toArray]); (try simp only [List.set_cons_succ]); (try simp only [List.set_cons_zero]))
    have hRl : Hid (Rc.rel (fun k => w.heap.size ≤ k) w1 [.slice A1 n k1] b) := Lib.hid ⟨_, rfl, HO.out.rd (fun k hk => Nat.le_trans (by (try simp) <;> omega) hk) (fun k hk => hk.elim)⟩
    (refine wpAnyH_ready (rs := [9]) (by kernel_rfl) (by simp) ?_; refine AllReadyH.cons rfl (fun K hK => ?_) AllReadyH.nil)
    refine step_tail rfl (.tmp 40) (.tmp 44) rfl rfl Try.underlying43 info_rc rfl (hT0.out.ext (by repeat (first | with_reducible exact Ext.refl _ | refine Ext.drewN ?_ _ | refine Ext.drew ?_ | refine Ext.alloc ?_ _ | assumption | (refine Below.trans ?_ (by assumption)) | (refine Ext.trans ?_ (by assumption)) | (refine Below.trans ?_ (Below.mono (by assumption) (by omega)))))) (by simp [Act.eval]) (by simp [Act.eval]) (Blk.at_ _ _ rfl) (Rep.ext hRl.out (by repeat (first | with_reducible exact Ext.refl _ | refine Ext.drewN ?_ _ | refine Ext.drew ?_ | refine Ext.alloc ?_ _ | assumption | (refine Below.trans ?_ (by assumption)) | (refine Ext.trans ?_ (by assumption)) | (refine Below.trans ?_ (Below.mono (by assumption) (by omega)))))) (fun k _ hk => ⟨.inr hk, fun h => by have := (HF.out k (hown k h)).1; omega⟩) (by rw [HM.out]; omega) (by omega) ?_
    intro A5 k5 w5 hT5 hM5
    rw [HM.out] at hT5 ⊢
    have E0 : Ext w (w1.alloc (.cells #[.slice A1 n k1] 34)) := (by repeat (first | with_reducible exact Ext.refl _ | refine Ext.drewN ?_ _ | refine Ext.drew ?_ | refine Ext.alloc ?_ _ | assumption | (refine Below.trans ?_ (by assumption)) | (refine Ext.trans ?_ (by assumption)) | (refine Below.trans ?_ (Below.mono (by assumption) (by omega)))))
    have M5 : Mod (fun k => k = g ∨ F k) w w5 := (Mod.of_ext E0).trans (hM5.mono fun k _ hk => .inr (hown k hk))
    have B5 : Blk w5 g 45 (rb c (.slice Ad m k0) o) := (Blk.ext HB.out E0).mod hM5 fun hk => (HF.out g (hown g hk)).2 rfl
    have T5 : Hid (TailS Rc 34 (fun k => F k ∨ w.heap.size ≤ k) w5 (.slice A5 (m + 1) k5) (l ++ [b])) := Lib.hid (hT5.mono fun k _ hk => by
      rcases hk with hk | hk
      · exact hk
      · exact .inr (Nat.le_trans E0.size hk))
    clear hT5 hM5
    refine hK.out _ _ M5 (fun hHeld => ?_)
    clear hK K
    (try simp only [Act.put]); (try simp only [List.getElem_toArray]); (try simp only [List.getElem_cons_succ]); (try simp only [List.getElem_cons_zero]); (try simp only [List.setIfInBounds_toArray]); (try simp only [List.set_cons_succ]); (try simp only [List.set_cons_zero])
    have c5' := (rb_cells B5).2.2.2.2.1
    have f5 := (rb_cells B5).2.2.2.2.2.2
    have HB5 := Lib.hid B5
    have HM5 := Lib.hid M5
    clear B5 M5
    (refine wpAnyH_take (i := 10) (v := ?_) rfl (by kernel_rfl) (by kernel_rfl) (by kernel_rfl) (fun _ _ _ h => h) (Or.inl ⟨by rfl, ?_⟩) (by assumption) ?_; rotate_left; (focus (intro w' hSw; go_simp; try with_reducible rfl)); (try simp only [List.getElem_toArray]); (try simp only [List.getElem_cons_succ]); (try simp only [List.getElem_cons_zero]); (try simp only [Act.put]); (try simp only [List.setIfInBounds_toArray]); (try simp only [List.set_cons_succ]); (try simp only [List.set_cons_zero]))
    (refine wpAnyH_take (i := 11) (v := ?_) rfl (by kernel_rfl) (by kernel_rfl) (by kernel_rfl) (fun _ _ _ h => h) (Or.inl ⟨by rfl, ?_⟩) (by assumption) ?_; rotate_left; (focus (intro w' hSw; go_simp; try with_reducible rfl)); (try simp only [List.getElem_toArray]); (try simp only [List.getElem_cons_succ]); (try simp only [List.getElem_cons_zero]); (try simp only [Act.put]); (try simp only [List.setIfInBounds_toArray]); (try simp only [List.set_cons_succ]); (try simp only [List.set_cons_zero]))
    (refine wpAnyH_ready (rs := [12]) (by kernel_rfl) (by simp) ?_; refine AllReadyH.cons rfl (fun K hK => ?_) AllReadyH.nil; go_simp; refine hK.out _ _ (HM5.out.trans (Mod.set_ (Mod.refl _ _) (.inr (.inl rfl)) _)) (fun hHeld => ?_); clear hK K; (try simp only [Act.put]); (try simp only [List.getElem_toArray]); (try simp only [List.getElem_cons_succ]); (try simp only [List.getElem_cons_zero]); (try simp only [List.setIfInBounds_toArray]); (try simp only [List.set_cons_succ]); (try simp only [List.set_cons_zero]))
    refine wpAnyH_done (by kernel_rfl) ?_ _
    obtain ⟨w6, hw6⟩ : ∃ w6, w6 = w5.setCell ⟨g, 4, none⟩ (.slice A5 (m + 1) k5) := ⟨_, rfl⟩
    rw [← hw6]
    have M6 : Mod (fun k => k = g) w5 w6 := by rw [hw6]; exact Mod.set1 (Mod.refl _ w5) _
    have B6 : Blk w6 g 45 (rb c (.slice A5 (m + 1) k5) o) := by rw [hw6]; exact rb_list HB5.out
    have T6 : Hid (TailS Rc 34 (fun k => F k ∨ w.heap.size ≤ k) w6 (.slice A5 (m + 1) k5) (l ++ [b])) := Lib.hid (T5.out.mod M6 fun k _ hk => by
      rcases hk with hk | hk
      · exact (HF.out k hk).2
      · omega)
    obtain ⟨-, -, a2, -, a4, a5, af⟩ := rb_cells B6
    have HB6 := Lib.hid B6
    have HM6 := Lib.hid M6
    clear hw6 B6 M6
    have HU6 : Hid (usedL (l ++ [b]) = u + n) := Lib.hid (by rw [usedL_snoc, HU.out, HN.out])
    go_wp2
    go_quiet ((go_at_call 16; exact Qt.calls rfl (rused_q ⟨_, HB6.out, T6.out.rd rfl⟩ (by rw [HU6.out]; omega) HU6.out)))
    have hfin := fun w7 o' => rpush_fin (w7 := w7) (o' := o') HF.out hgl (by rw [HM.out]; exact hl) (by rw [HM.out]; exact h1) (by rw [HU.out, HN.out]; omega) HC.out T5.out HM5.out
    have HFIN := Lib.hid hfin
    clear hfin
    by_cases hH : c.H ≤ u + n
    · go_wp2
      go_ret
      rw [HU.out, HN.out, decide_eq_true hH, Bool.or_true]
      exact ⟨rfl, HFIN.out _ _ (HM6.out.trans (by repeat (first | with_reducible exact Mod.refl _ _ | refine Mod.drew ?_ | refine Mod.drewN ?_ _ | refine Mod.set1 ?_ _))) (rb_over HB6.out)⟩
    · go_wp2
      go_ret
      rw [HU.out, HN.out, decide_eq_false (show ¬ c.H ≤ u + n by omega), Bool.or_false]
      exact ⟨rfl, HFIN.out _ _ (HM6.out.trans (by repeat (first | with_reducible exact Mod.refl _ _ | refine Mod.drew ?_ | refine Mod.drewN ?_ _ | refine Mod.set1 ?_ _))) HB6.out⟩
  · go_simp; refine hK.out _ _ (Mod.of_ext (by repeat (first | with_reducible exact Ext.refl _ | refine Ext.drewN ?_ _ | refine Ext.drew ?_ | refine Ext.alloc ?_ _ | assumption | (refine Below.trans ?_ (by assumption)) | (refine Ext.trans ?_ (by assumption)) | (refine Below.trans ?_ (Below.mono (by assumption) (by omega)))))) (fun hHeld => ?_); clear hK K; (try simp only [Act.put]); (try simp only [List.getElem_toArray]); (try simp only [List.getElem_cons_succ]); (try simp only [List.getElem_cons_zero]); (try simp only [List.setIfInBounds_toArray]); (try simp only [List.set_cons_succ]); (try simp only [List.set_cons_zero])
    refine wpAnyH_ready (rs := [4, 7]) (by kernel_rfl) (by simp) ?_
    refine AllReadyH.cons rfl (fun K hK => ?_) (AllReadyH.cons rfl (fun K hK => ?_) AllReadyH.nil)
    · have d3 := fun n o => hg1 ((w.drewN n).alloc o) (by repeat (first | with_reducible exact Ext.refl _ | refine Ext.drewN ?_ _ | refine Ext.drew ?_ | refine Ext.alloc ?_ _ | assumption | (refine Below.trans ?_ (by assumption)) | (refine Ext.trans ?_ (by assumption)) | (refine Below.trans ?_ (Below.mono (by assumption) (by omega)))))
      go_simp; refine hK.out _ _ (Mod.of_ext (by repeat (first | with_reducible exact Ext.refl _ | refine Ext.drewN ?_ _ | refine Ext.drew ?_ | refine Ext.alloc ?_ _ | assumption | (refine Below.trans ?_ (by assumption)) | (refine Ext.trans ?_ (by assumption)) | (refine Below.trans ?_ (Below.mono (by assumption) (by omega)))))) (fun hHeld => ?_); clear hK K; (try simp only [Act.put]); (try simp only [List.getElem_toArray]); (try simp only [List.getElem_cons_succ]); (try simp only [List.getElem_cons_zero]); (try simp only [List.setIfInBounds_toArray]); (try simp only [List.set_cons_succ]); (try simp only [List.set_cons_zero])
      (refine wpAnyH_ready (rs := [7]) (by kernel_rfl) (by simp) ?_; refine AllReadyH.cons rfl (fun K hK => ?_) AllReadyH.nil)
      refine step_app (e := Ub) (base := w.heap.size) (B := fun _ => False) (A := fun _ => False) rfl (.tmp 41) (.tmp 42) rfl Try.underlying34 info_u8 rfl (OwnS.empty Ub _ (fun _ => False) rfl (by simp)) rfl (RI.y (RdN.ext Hb.out (by repeat (first | with_reducible exact Ext.refl _ | refine Ext.drewN ?_ _ | refine Ext.drew ?_ | refine Ext.alloc ?_ _ | assumption | (refine Below.trans ?_ (by assumption)) | (refine Ext.trans ?_ (by assumption)) | (refine Below.trans ?_ (Below.mono (by assumption) (by omega))))))) rfl (fun _ _ h => h.elim) (N := n) (by rw [HN.out]; simp) (by simp [maxLen]; omega) (by omega) (by simp) ?_
      intro A1 k1 w1 o1 M1 E1
      rw [List.nil_append] at o1
      have hE1 : Ext w w1 := (by repeat (first | with_reducible exact Ext.refl _ | refine Ext.drewN ?_ _ | refine Ext.drew ?_ | refine Ext.alloc ?_ _ | assumption | (refine Below.trans ?_ (by assumption)) | (refine Ext.trans ?_ (by assumption)) | (refine Below.trans ?_ (Below.mono (by assumption) (by omega)))))
      have HO := Lib.hid o1
      clear o1 M1 E1
      refine hK.out _ _ (Mod.of_ext hE1) (fun hHeld => ?_)
      clear hK K
      (try simp only [Act.put]); (try simp only [List.getElem_toArray]); (try simp only [List.getElem_cons_succ]); (try simp only [List.getElem_cons_zero]); (try simp only [List.setIfInBounds_toArray]); (try simp only [List.set_cons_succ]); (try simp only [List.set_cons_zero])
      have d4 := hg1 w1 (by repeat (first | with_reducible exact Ext.refl _ | refine Ext.drewN ?_ _ | refine Ext.drew ?_ | refine Ext.alloc ?_ _ | assumption | (refine Below.trans ?_ (by assumption)) | (refine Ext.trans ?_ (by assumption)) | (refine Below.trans ?_ (Below.mono (by assumption) (by omega)))))
      have d5 := fun o => hg1 (w1.alloc o) (by repeat (first | with_reducible exact Ext.refl _ | refine Ext.drewN ?_ _ | refine Ext.drew ?_ | refine Ext.alloc ?_ _ | assumption | (refine Below.trans ?_ (by assumption)) | (refine Ext.trans ?_ (by assumption)) | (refine Below.trans ?_ (Below.mono (by assumption) (by omega)))))
      (refine wpAnyH_ready (rs := [8]) (by kernel_rfl) (by simp) ?_; refine AllReadyH.cons rfl (fun K hK => ?_) AllReadyH.nil; go_simp; refine hK.out _ _ (Mod.of_ext (by repeat (first | with_reducible exact Ext.refl _ | refine Ext.drewN ?_ _ | refine Ext.drew ?_ | refine Ext.alloc ?_ _ | assumption | (refine Below.trans ?_ (by assumption)) | (refine Ext.trans ?_ (by assumption)) | (refine Below.trans ?_ (Below.mono (by assumption) (by omega)))))) (fun hHeld => ?_); clear hK K; (try simp only [Act.put]); (try simp only [List.getElem_toArray]); (try simp only [List.getElem_cons_succ]); (try simp only [List.getElem_cons_zero]); (try simp only [List.setIfInBounds_toArray]); (try simp only [List.set_cons_succ]); (try simp only [List.set_cons_zero]))
      have hRl : Hid (Rc.rel (fun k => w.heap.size ≤ k) w1 [.slice A1 n k1] b) := Lib.hid ⟨_, rfl, HO.out.rd (fun k hk => Nat.le_trans (by (try simp) <;> omega) hk) (fun k hk => hk.elim)⟩
      (refine wpAnyH_ready (rs := [9]) (by kernel_rfl) (by simp) ?_; refine AllReadyH.cons rfl (fun K hK => ?_) AllReadyH.nil)
      refine step_tail rfl (.tmp 40) (.tmp 44) rfl rfl Try.underlying43 info_rc rfl (hT0.out.ext (by repeat (first | with_reducible exact Ext.refl _ | refine Ext.drewN ?_ _ | refine Ext.drew ?_ | refine Ext.alloc ?_ _ | assumption | (refine Below.trans ?_ (by assumption)) | (refine Ext.trans ?_ (by assumption)) | (refine Below.trans ?_ (Below.mono (by assumption) (by omega)))))) (by simp [Act.eval]) (by simp [Act.eval]) (Blk.at_ _ _ rfl) (Rep.ext hRl.out (by repeat (first | with_reducible exact Ext.refl _ | refine Ext.drewN ?_ _ | refine Ext.drew ?_ | refine Ext.alloc ?_ _ | assumption | (refine Below.trans ?_ (by assumption)) | (refine Ext.trans ?_ (by assumption)) | (refine Below.trans ?_ (Below.mono (by assumption) (by omega)))))) (fun k _ hk => ⟨.inr hk, fun h => by have := (HF.out k (hown k h)).1; omega⟩) (by rw [HM.out]; omega) (by omega) ?_
      intro A5 k5 w5 hT5 hM5
      rw [HM.out] at hT5 ⊢
      have E0 : Ext w (w1.alloc (.cells #[.slice A1 n k1] 34)) := (by repeat (first | with_reducible exact Ext.refl _ | refine Ext.drewN ?_ _ | refine Ext.drew ?_ | refine Ext.alloc ?_ _ | assumption | (refine Below.trans ?_ (by assumption)) | (refine Ext.trans ?_ (by assumption)) | (refine Below.trans ?_ (Below.mono (by assumption) (by omega)))))
      have M5 : Mod (fun k => k = g ∨ F k) w w5 := (Mod.of_ext E0).trans (hM5.mono fun k _ hk => .inr (hown k hk))
      have B5 : Blk w5 g 45 (rb c (.slice Ad m k0) o) := (Blk.ext HB.out E0).mod hM5 fun hk => (HF.out g (hown g hk)).2 rfl
      have T5 : Hid (TailS Rc 34 (fun k => F k ∨ w.heap.size ≤ k) w5 (.slice A5 (m + 1) k5) (l ++ [b])) := Lib.hid (hT5.mono fun k _ hk => by
        rcases hk with hk | hk
        · exact hk
        · exact .inr (Nat.le_trans E0.size hk))
      clear hT5 hM5
      refine hK.out _ _ M5 (fun hHeld => ?_)
      clear hK K
      (try simp only [Act.put]); (try simp only [List.getElem_toArray]); (try simp only [List.getElem_cons_succ]); (try simp only [List.getElem_cons_zero]); (try simp only [List.setIfInBounds_toArray]); (try simp only [List.set_cons_succ]); (try simp only [List.set_cons_zero])
      have c5' := (rb_cells B5).2.2.2.2.1
      have f5 := (rb_cells B5).2.2.2.2.2.2
      have HB5 := Lib.hid B5
      have HM5 := Lib.hid M5
      clear B5 M5
      (refine wpAnyH_take (i := 10) (v := ?_) rfl (by kernel_rfl) (by kernel_rfl) (by kernel_rfl) (fun _ _ _ h => h) (Or.inl ⟨by rfl, ?_⟩) (by assumption) ?_; rotate_left; (focus (intro w' hSw; go_simp; try with_reducible rfl)); (try simp only [List.getElem_toArray]); (try simp only [List.getElem_cons_succ]); (try simp only [List.getElem_cons_zero]); (try simp only [Act.put]); (try simp only [List.setIfInBounds_toArray]); (try simp only [List.set_cons_succ]); (try simp only [List.set_cons_zero]))
      (refine wpAnyH_take (i := 11) (v := ?_) rfl (by kernel_rfl) (by kernel_rfl) (by kernel_rfl) (fun _ _ _ h => h) (Or.inl ⟨by rfl, ?_⟩) (by assumption) ?_; rotate_left; (focus (intro w' hSw; go_simp; try with_reducible rfl)); (try simp only [List.getElem_toArray]); (try simp only [List.getElem_cons_succ]); (try simp only [List.getElem_cons_zero]); (try simp only [Act.put]); (try simp only [List.setIfInBounds_toArray]); (try simp only [List.set_cons_succ]); (try simp only [List.set_cons_zero]))
      (refine wpAnyH_ready (rs := [12]) (by kernel_rfl) (by simp) ?_; refine AllReadyH.cons rfl (fun K hK => ?_) AllReadyH.nil; go_simp; refine hK.out _ _ (HM5.out.trans (Mod.set_ (Mod.refl _ _) (.inr (.inl rfl)) _)) (fun hHeld => ?_); clear hK K; (try simp only [Act.put]); (try simp only [List.getElem_toArray]); (try simp only [List.getElem_cons_succ]); (try simp only [List.getElem_cons_zero]); (try simp only [List.setIfInBounds_toArray]); (try simp only [List.set_cons_succ]); (try simp only [List.set_cons_zero]))
      refine wpAnyH_done (by kernel_rfl) ?_ _
      obtain ⟨w6, hw6⟩ : ∃ w6, w6 = w5.setCell ⟨g, 4, none⟩ (.slice A5 (m + 1) k5) := ⟨_, rfl⟩
      rw [← hw6]
      have M6 : Mod (fun k => k = g) w5 w6 := by rw [hw6]; exact Mod.set1 (Mod.refl _ w5) _
      have B6 : Blk w6 g 45 (rb c (.slice A5 (m + 1) k5) o) := by rw [hw6]; exact rb_list HB5.out
      have T6 : Hid (TailS Rc 34 (fun k => F k ∨ w.heap.size ≤ k) w6 (.slice A5 (m + 1) k5) (l ++ [b])) := Lib.hid (T5.out.mod M6 fun k _ hk => by
        rcases hk with hk | hk
        · exact (HF.out k hk).2
        · omega)
      obtain ⟨-, -, a2, -, a4, a5, af⟩ := rb_cells B6
      have HB6 := Lib.hid B6
      have HM6 := Lib.hid M6
      clear hw6 B6 M6
      have HU6 : Hid (usedL (l ++ [b]) = u + n) := Lib.hid (by rw [usedL_snoc, HU.out, HN.out])
      go_wp2
      go_quiet ((go_at_call 16; exact Qt.calls rfl (rused_q ⟨_, HB6.out, T6.out.rd rfl⟩ (by rw [HU6.out]; omega) HU6.out)))
      have hfin := fun w7 o' => rpush_fin (w7 := w7) (o' := o') HF.out hgl (by rw [HM.out]; exact hl) (by rw [HM.out]; exact h1) (by rw [HU.out, HN.out]; omega) HC.out T5.out HM5.out
      have HFIN := Lib.hid hfin
      clear hfin
      by_cases hH : c.H ≤ u + n
      · go_wp2
        go_ret
        rw [HU.out, HN.out, decide_eq_true hH, Bool.or_true]
        exact ⟨rfl, HFIN.out _ _ (HM6.out.trans (by repeat (first | with_reducible exact Mod.refl _ _ | refine Mod.drew ?_ | refine Mod.drewN ?_ _ | refine Mod.set1 ?_ _))) (rb_over HB6.out)⟩
      · go_wp2
        go_ret
        rw [HU.out, HN.out, decide_eq_false (show ¬ c.H ≤ u + n by omega), Bool.or_false]
        exact ⟨rfl, HFIN.out _ _ (HM6.out.trans (by repeat (first | with_reducible exact Mod.refl _ _ | refine Mod.drew ?_ | refine Mod.drewN ?_ _ | refine Mod.set1 ?_ _))) HB6.out⟩
    ·
      refine step_app (e := Ub) (base := w.heap.size) (B := fun _ => False) (A := fun _ => False) rfl (.tmp 41) (.tmp 42) rfl Try.underlying34 info_u8 rfl (OwnS.empty Ub _ (fun _ => False) rfl (by simp)) rfl (RI.y (RdN.ext Hb.out (by repeat (first | with_reducible exact Ext.refl _ | refine Ext.drewN ?_ _ | refine Ext.drew ?_ | refine Ext.alloc ?_ _ | assumption | (refine Below.trans ?_ (by assumption)) | (refine Ext.trans ?_ (by assumption)) | (refine Below.trans ?_ (Below.mono (by assumption) (by omega))))))) rfl (fun _ _ h => h.elim) (N := n) (by rw [HN.out]; simp) (by simp [maxLen]; omega) (by omega) (by simp) ?_
      intro A1 k1 w1 o1 M1 E1
      rw [List.nil_append] at o1
      have hE1 : Ext w w1 := (by repeat (first | with_reducible exact Ext.refl _ | refine Ext.drewN ?_ _ | refine Ext.drew ?_ | refine Ext.alloc ?_ _ | assumption | (refine Below.trans ?_ (by assumption)) | (refine Ext.trans ?_ (by assumption)) | (refine Below.trans ?_ (Below.mono (by assumption) (by omega)))))
      have HO := Lib.hid o1
      clear o1 M1 E1
      refine hK.out _ _ (Mod.of_ext hE1) (fun hHeld => ?_)
      clear hK K
      (try simp only [Act.put]); (try simp only [List.getElem_toArray]); (try simp only [List.getElem_cons_succ]); (try simp only [List.getElem_cons_zero]); (try simp only [List.setIfInBounds_toArray]); (try simp only [List.set_cons_succ]); (try simp only [List.set_cons_zero])
      have d4 := hg1 w1 (by repeat (first | with_reducible exact Ext.refl _ | refine Ext.drewN ?_ _ | refine Ext.drew ?_ | refine Ext.alloc ?_ _ | assumption | (refine Below.trans ?_ (by assumption)) | (refine Ext.trans ?_ (by assumption)) | (refine Below.trans ?_ (Below.mono (by assumption) (by omega)))))
      have d5 := fun o => hg1 (w1.alloc o) (by repeat (first | with_reducible exact Ext.refl _ | refine Ext.drewN ?_ _ | refine Ext.drew ?_ | refine Ext.alloc ?_ _ | assumption | (refine Below.trans ?_ (by assumption)) | (refine Ext.trans ?_ (by assumption)) | (refine Below.trans ?_ (Below.mono (by assumption) (by omega)))))
      refine wpAnyH_ready (rs := [4, 8]) (by kernel_rfl) (by simp) ?_
      refine AllReadyH.cons rfl (fun K hK => ?_) (AllReadyH.cons rfl (fun K hK => ?_) AllReadyH.nil)
      · go_simp; refine hK.out _ _ (Mod.of_ext (by repeat (first | with_reducible exact Ext.refl _ | refine Ext.drewN ?_ _ | refine Ext.drew ?_ | refine Ext.alloc ?_ _ | assumption | (refine Below.trans ?_ (by assumption)) | (refine Ext.trans ?_ (by assumption)) | (refine Below.trans ?_ (Below.mono (by assumption) (by omega)))))) (fun hHeld => ?_); clear hK K; (try simp only [Act.put]); (try simp only [List.getElem_toArray]); (try simp only [List.getElem_cons_succ]); (try simp only [List.getElem_cons_zero]); (try simp only [List.setIfInBounds_toArray]); (try simp only [List.set_cons_succ]); (try simp only [List.set_cons_zero])
        (refine wpAnyH_ready (rs := [8]) (by kernel_rfl) (by simp) ?_; refine AllReadyH.cons rfl (fun K hK => ?_) AllReadyH.nil; go_simp; refine hK.out _ _ (Mod.of_ext (by repeat (first | with_reducible exact Ext.refl _ | refine Ext.drewN ?_ _ | refine Ext.drew ?_ | refine Ext.alloc ?_ _ | assumption | (refine Below.trans ?_ (by assumption)) | (refine Ext.trans ?_ (by assumption)) | (refine Below.trans ?_ (Below.mono (by assumption) (by omega)))))) (fun hHeld => ?_); clear hK K; (try simp only [Act.put]); (try simp only [List.getElem_toArray]); (try simp only [List.getElem_cons_succ]); (try simp only [List.getElem_cons_zero]); (try simp only [List.setIfInBounds_toArray]); (try simp only [List.set_cons_succ]); (try simp only [List.set_cons_zero]))
        have hRl : Hid (Rc.rel (fun k => w.heap.size ≤ k) w1 [.slice A1 n k1] b) := Lib.hid ⟨_, rfl, HO.out.rd (fun k hk => Nat.le_trans (by (try simp) <;> omega) hk) (fun k hk => hk.elim)⟩
        (refine wpAnyH_ready (rs := [9]) (by kernel_rfl) (by simp) ?_; refine AllReadyH.cons rfl (fun K hK => ?_) AllReadyH.nil)
        refine step_tail rfl (.tmp 40) (.tmp 44) rfl rfl Try.underlying43 info_rc rfl (hT0.out.ext (by repeat (first | with_reducible exact Ext.refl _ | refine Ext.drewN ?_ _ | refine Ext.drew ?_ | refine Ext.alloc ?_ _ | assumption | (refine Below.trans ?_ (by assumption)) | (refine Ext.trans ?_ (by assumption)) | (refine Below.trans ?_ (Below.mono (by assumption) (by omega)))))) (by simp [Act.eval]) (by simp [Act.eval]) (Blk.at_ _ _ rfl) (Rep.ext hRl.out (by repeat (first | with_reducible exact Ext.refl _ | refine Ext.drewN ?_ _ | refine Ext.drew ?_ | refine Ext.alloc ?_ _ | assumption | (refine Below.trans ?_ (by assumption)) | (refine Ext.trans ?_ (by assumption)) | (refine Below.trans ?_ (Below.mono (by assumption) (by omega)))))) (fun k _ hk => ⟨.inr hk, fun h => by have := (HF.out k (hown k h)).1; omega⟩) (by rw [HM.out]; omega) (by omega) ?_
        intro A5 k5 w5 hT5 hM5
        rw [HM.out] at hT5 ⊢
        have E0 : Ext w (w1.alloc (.cells #[.slice A1 n k1] 34)) := (by repeat (first | with_reducible exact Ext.refl _ | refine Ext.drewN ?_ _ | refine Ext.drew ?_ | refine Ext.alloc ?_ _ | assumption | (refine Below.trans ?_ (by assumption)) | (refine Ext.trans ?_ (by assumption)) | (refine Below.trans ?_ (Below.mono (by assumption) (by omega)))))
        have M5 : Mod (fun k => k = g ∨ F k) w w5 := (Mod.of_ext E0).trans (hM5.mono fun k _ hk => .inr (hown k hk))
        have B5 : Blk w5 g 45 (rb c (.slice Ad m k0) o) := (Blk.ext HB.out E0).mod hM5 fun hk => (HF.out g (hown g hk)).2 rfl
        have T5 : Hid (TailS Rc 34 (fun k => F k ∨ w.heap.size ≤ k) w5 (.slice A5 (m + 1) k5) (l ++ [b])) := Lib.hid (hT5.mono fun k _ hk => by
          rcases hk with hk | hk
          · exact hk
          · exact .inr (Nat.le_trans E0.size hk))
        clear hT5 hM5
        refine hK.out _ _ M5 (fun hHeld => ?_)
        clear hK K
        (try simp only [Act.put]); (try simp only [List.getElem_toArray]); (try simp only [List.getElem_cons_succ]); (try simp only [List.getElem_cons_zero]); (try simp only [List.setIfInBounds_toArray]); (try simp only [List.set_cons_succ]); (try simp only [List.set_cons_zero])
        have c5' := (rb_cells B5).2.2.2.2.1
        have f5 := (rb_cells B5).2.2.2.2.2.2
        have HB5 := Lib.hid B5
        have HM5 := Lib.hid M5
        clear B5 M5
        (refine wpAnyH_take (i := 10) (v := ?_) rfl (by kernel_rfl) (by kernel_rfl) (by kernel_rfl) (fun _ _ _ h => h) (Or.inl ⟨by rfl, ?_⟩) (by assumption) ?_; rotate_left; (focus (intro w' hSw; go_simp; try with_reducible rfl)); (try simp only [List.getElem_toArray]); (try simp only [List.getElem_cons_succ]); (try simp only [List.getElem_cons_zero]); (try simp only [Act.put]); (try simp only [List.setIfInBounds_toArray]); (try simp only [List.set_cons_succ]); (try simp only [List.set_cons_zero]))
        (refine wpAnyH_take (i := 11) (v := ?_) rfl (by kernel_rfl) (by kernel_rfl) (by kernel_rfl) (fun _ _ _ h => h) (Or.inl ⟨by rfl, ?_⟩) (by assumption) ?_; rotate_left; (focus (intro w' hSw; go_simp; try with_reducible rfl)); (try simp only [List.getElem_toArray]); (try simp only [List.getElem_cons_succ]); (try simp only [List.getElem_cons_zero]); (try simp only [Act.put]); (try simp only [List.setIfInBounds_toArray]); (try simp only [List.set_cons_succ]); (try simp only [List.set_cons_zero]))
        (refine wpAnyH_ready (rs := [12]) (by kernel_rfl) (by simp) ?_; refine AllReadyH.cons rfl (fun K hK => ?_) AllReadyH.nil; go_simp; refine hK.out _ _ (HM5.out.trans (Mod.set_ (Mod.refl _ _) (.inr (.inl rfl)) _)) (fun hHeld => ?_); clear hK K; (try simp only [Act.put]); (try simp only [List.getElem_toArray]); (try simp only [List.getElem_cons_succ]); (try simp only [List.getElem_cons_zero]); (try simp only [List.setIfInBounds_toArray]); (try simp only [List.set_cons_succ]); (try simp only [List.set_cons_zero]))
        refine wpAnyH_done (by kernel_rfl) ?_ _
        obtain ⟨w6, hw6⟩ : ∃ w6, w6 = w5.setCell ⟨g, 4, none⟩ (.slice A5 (m + 1) k5) := ⟨_, rfl⟩
        rw [← hw6]
        have M6 : Mod (fun k => k = g) w5 w6 := by rw [hw6]; exact Mod.set1 (Mod.refl _ w5) _
        have B6 : Blk w6 g 45 (rb c (.slice A5 (m + 1) k5) o) := by rw [hw6]; exact rb_list HB5.out
        have T6 : Hid (TailS Rc 34 (fun k => F k ∨ w.heap.size ≤ k) w6 (.slice A5 (m + 1) k5) (l ++ [b])) := Lib.hid (T5.out.mod M6 fun k _ hk => by
          rcases hk with hk | hk
          · exact (HF.out k hk).2
          · omega)
        obtain ⟨-, -, a2, -, a4, a5, af⟩ := rb_cells B6
        have HB6 := Lib.hid B6
        have HM6 := Lib.hid M6
        clear hw6 B6 M6
        have HU6 : Hid (usedL (l ++ [b]) = u + n) := Lib.hid (by rw [usedL_snoc, HU.out, HN.out])
        go_wp2
        go_quiet ((go_at_call 16; exact Qt.calls rfl (rused_q ⟨_, HB6.out, T6.out.rd rfl⟩ (by rw [HU6.out]; omega) HU6.out)))
        have hfin := fun w7 o' => rpush_fin (w7 := w7) (o' := o') HF.out hgl (by rw [HM.out]; exact hl) (by rw [HM.out]; exact h1) (by rw [HU.out, HN.out]; omega) HC.out T5.out HM5.out
        have HFIN := Lib.hid hfin
        clear hfin
        by_cases hH : c.H ≤ u + n
        · go_wp2
          go_ret
          rw [HU.out, HN.out, decide_eq_true hH, Bool.or_true]
          exact ⟨rfl, HFIN.out _ _ (HM6.out.trans (by repeat (first | with_reducible exact Mod.refl _ _ | refine Mod.drew ?_ | refine Mod.drewN ?_ _ | refine Mod.set1 ?_ _))) (rb_over HB6.out)⟩
        · go_wp2
          go_ret
          rw [HU.out, HN.out, decide_eq_false (show ¬ c.H ≤ u + n by omega), Bool.or_false]
          exact ⟨rfl, HFIN.out _ _ (HM6.out.trans (by repeat (first | with_reducible exact Mod.refl _ _ | refine Mod.drew ?_ | refine Mod.drewN ?_ _ | refine Mod.set1 ?_ _))) HB6.out⟩
      · go_simp; refine hK.out _ _ (Mod.of_ext (by repeat (first | with_reducible exact Ext.refl _ | refine Ext.drewN ?_ _ | refine Ext.drew ?_ | refine Ext.alloc ?_ _ | assumption | (refine Below.trans ?_ (by assumption)) | (refine Ext.trans ?_ (by assumption)) | (refine Below.trans ?_ (Below.mono (by assumption) (by omega)))))) (fun hHeld => ?_); clear hK K; (try simp only [Act.put]); (try simp only [List.getElem_toArray]); (try simp only [List.getElem_cons_succ]); (try simp only [List.getElem_cons_zero]); (try simp only [List.setIfInBounds_toArray]); (try simp only [List.set_cons_succ]); (try simp only [List.set_cons_zero])
        (refine wpAnyH_ready (rs := [4]) (by kernel_rfl) (by simp) ?_; refine AllReadyH.cons rfl (fun K hK => ?_) AllReadyH.nil; go_simp; refine hK.out _ _ (Mod.of_ext (by repeat (first | with_reducible exact Ext.refl _ | refine Ext.drewN ?_ _ | refine Ext.drew ?_ | refine Ext.alloc ?_ _ | assumption | (refine Below.trans ?_ (by assumption)) | (refine Ext.trans ?_ (by assumption)) | (refine Below.trans ?_ (Below.mono (by assumption) (by omega)))))) (fun hHeld => ?_); clear hK K; (try simp only [Act.put]); (try simp only [List.getElem_toArray]); (try simp only [List.getElem_cons_succ]); (try simp only [List.getElem_cons_zero]); (try simp only [List.setIfInBounds_toArray]); (try simp only [List.set_cons_succ]); (try simp only [List.set_cons_zero]))
        have hRl : Hid (Rc.rel (fun k => w.heap.size ≤ k) w1 [.slice A1 n k1] b) := Lib.hid ⟨_, rfl, HO.out.rd (fun k hk => Nat.le_trans (by (try simp) <;> omega) hk) (fun k hk => hk.elim)⟩
        (refine wpAnyH_ready (rs := [9]) (by kernel_rfl) (by simp) ?_; refine AllReadyH.cons rfl (fun K hK => ?_) AllReadyH.nil)
        refine step_tail rfl (.tmp 40) (.tmp 44) rfl rfl Try.underlying43 info_rc rfl (hT0.out.ext (by repeat (first | with_reducible exact Ext.refl _ | refine Ext.drewN ?_ _ | refine Ext.drew ?_ | refine Ext.alloc ?_ _ | assumption | (refine Below.trans ?_ (by assumption)) | (refine Ext.trans ?_ (by assumption)) | (refine Below.trans ?_ (Below.mono (by assumption) (by omega)))))) (by simp [Act.eval]) (by simp [Act.eval]) (Blk.at_ _ _ rfl) (Rep.ext hRl.out (by repeat (first | with_reducible exact Ext.refl _ | refine Ext.drewN ?_ _ | refine Ext.drew ?_ | refine Ext.alloc ?_ _ | assumption | (refine Below.trans ?_ (by assumption)) | (refine Ext.trans ?_ (by assumption)) | (refine Below.trans ?_ (Below.mono (by assumption) (by omega)))))) (fun k _ hk => ⟨.inr hk, fun h => by have := (HF.out k (hown k h)).1; omega⟩) (by rw [HM.out]; omega) (by omega) ?_
        intro A5 k5 w5 hT5 hM5
        rw [HM.out] at hT5 ⊢
        have E0 : Ext w (w1.alloc (.cells #[.slice A1 n k1] 34)) := (by repeat (first | with_reducible exact Ext.refl _ | refine Ext.drewN ?_ _ | refine Ext.drew ?_ | refine Ext.alloc ?_ _ | assumption | (refine Below.trans ?_ (by assumption)) | (refine Ext.trans ?_ (by assumption)) | (refine Below.trans ?_ (Below.mono (by assumption) (by omega)))))
        have M5 : Mod (fun k => k = g ∨ F k) w w5 := (Mod.of_ext E0).trans (hM5.mono fun k _ hk => .inr (hown k hk))
        have B5 : Blk w5 g 45 (rb c (.slice Ad m k0) o) := (Blk.ext HB.out E0).mod hM5 fun hk => (HF.out g (hown g hk)).2 rfl
        have T5 : Hid (TailS Rc 34 (fun k => F k ∨ w.heap.size ≤ k) w5 (.slice A5 (m + 1) k5) (l ++ [b])) := Lib.hid (hT5.mono fun k _ hk => by
          rcases hk with hk | hk
          · exact hk
          · exact .inr (Nat.le_trans E0.size hk))
        clear hT5 hM5
        refine hK.out _ _ M5 (fun hHeld => ?_)
        clear hK K
        (try simp only [Act.put]); (try simp only [List.getElem_toArray]); (try simp only [List.getElem_cons_succ]); (try simp only [List.getElem_cons_zero]); (try simp only [List.setIfInBounds_toArray]); (try simp only [List.set_cons_succ]); (try simp only [List.set_cons_zero])
        have c5' := (rb_cells B5).2.2.2.2.1
        have f5 := (rb_cells B5).2.2.2.2.2.2
        have HB5 := Lib.hid B5
        have HM5 := Lib.hid M5
        clear B5 M5
        (refine wpAnyH_take (i := 10) (v := ?_) rfl (by kernel_rfl) (by kernel_rfl) (by kernel_rfl) (fun _ _ _ h => h) (Or.inl ⟨by rfl, ?_⟩) (by assumption) ?_; rotate_left; (focus (intro w' hSw; go_simp; try with_reducible rfl)); (try simp only [List.getElem_toArray]); (try simp only [List.getElem_cons_succ]); (try simp only [List.getElem_cons_zero]); (try simp only [Act.put]); (try simp only [List.setIfInBounds_toArray]); (try simp only [List.set_cons_succ]); (try simp only [List.set_cons_zero]))
        (refine wpAnyH_take (i := 11) (v := ?_) rfl (by kernel_rfl) (by kernel_rfl) (by kernel_rfl) (fun _ _ _ h => h) (Or.inl ⟨by rfl, ?_⟩) (by assumption) ?_; rotate_left; (focus (intro w' hSw; go_simp; try with_reducible rfl)); (try simp only [List.getElem_toArray]); (try simp only [List.getElem_cons_succ]); (try simp only [List.getElem_cons_zero]); (try simp only [Act.put]); (try simp only [List.setIfInBounds_toArray]); (try simp only [List.set_cons_succ]); (try simp only [List.set_cons_zero]))
        (refine wpAnyH_ready (rs := [12]) (by kernel_rfl) (by simp) ?_; refine AllReadyH.cons rfl (fun K hK => ?_) AllReadyH.nil; go_simp; refine hK.out _ _ (HM5.out.trans (Mod.set_ (Mod.refl _ _) (.inr (.inl rfl)) _)) (fun hHeld => ?_); clear hK K; (try simp only [Act.put]); (try simp only [List.getElem_toArray]); (try simp only [List.getElem_cons_succ]); (try simp only [List.getElem_cons_zero]); (try simp only [List.setIfInBounds_toArray]); (try simp only [List.set_cons_succ]); (try simp only [List.set_cons_zero]))
        refine wpAnyH_done (by kernel_rfl) ?_ _
        obtain ⟨w6, hw6⟩ : ∃ w6, w6 = w5.setCell ⟨g, 4, none⟩ (.slice A5 (m + 1) k5) := ⟨_, rfl⟩
        rw [← hw6]
        have M6 : Mod (fun k => k = g) w5 w6 := by rw [hw6]; exact Mod.set1 (Mod.refl _ w5) _
        have B6 : Blk w6 g 45 (rb c (.slice A5 (m + 1) k5) o) := by rw [hw6]; exact rb_list HB5.out
        have T6 : Hid (TailS Rc 34 (fun k => F k ∨ w.heap.size ≤ k) w6 (.slice A5 (m + 1) k5) (l ++ [b])) := Lib.hid (T5.out.mod M6 fun k _ hk => by
          rcases hk with hk | hk
          · exact (HF.out k hk).2
          · omega)
        obtain ⟨-, -, a2, -, a4, a5, af⟩ := rb_cells B6
        have HB6 := Lib.hid B6
        have HM6 := Lib.hid M6
        clear hw6 B6 M6
        have HU6 : Hid (usedL (l ++ [b]) = u + n) := Lib.hid (by rw [usedL_snoc, HU.out, HN.out])
        go_wp2
        go_quiet ((go_at_call 16; exact Qt.calls rfl (rused_q ⟨_, HB6.out, T6.out.rd rfl⟩ (by rw [HU6.out]; omega) HU6.out)))
        have hfin := fun w7 o' => rpush_fin (w7 := w7) (o' := o') HF.out hgl (by rw [HM.out]; exact hl) (by rw [HM.out]; exact h1) (by rw [HU.out, HN.out]; omega) HC.out T5.out HM5.out
        have HFIN := Lib.hid hfin
        clear hfin
        by_cases hH : c.H ≤ u + n
        · go_wp2
          go_ret
          rw [HU.out, HN.out, decide_eq_true hH, Bool.or_true]
          exact ⟨rfl, HFIN.out _ _ (HM6.out.trans (by repeat (first | with_reducible exact Mod.refl _ _ | refine Mod.drew ?_ | refine Mod.drewN ?_ _ | refine Mod.set1 ?_ _))) (rb_over HB6.out)⟩
        · go_wp2
          go_ret
          rw [HU.out, HN.out, decide_eq_false (show ¬ c.H ≤ u + n by omega), Bool.or_false]
          exact ⟨rfl, HFIN.out _ _ (HM6.out.trans (by repeat (first | with_reducible exact Mod.refl _ _ | refine Mod.drew ?_ | refine Mod.drewN ?_ _ | refine Mod.set1 ?_ _))) HB6.out⟩
end Go.Proofs.Ytefcafohhppmbaa
