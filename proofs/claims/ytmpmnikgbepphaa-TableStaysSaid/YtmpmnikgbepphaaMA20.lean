/- From: the program's table as the document's; by contract. Condition: few processes. -/
import Derived.Test.YtmpmnikgbepphaaLA20
import Derived.Test.YtmpmnikgbepphaaLate
namespace Go.Proofs.Ytmpmnikgbepphaa
open Go.RowKit Go.Kb

set_option maxRecDepth 100000 in
set_option maxHeartbeats 800000 in
theorem from_any {A : Nat → Prop} (Ad : Option Addr) (c : Nat) (l : List Pr) (nx : Int) (w : World) (h : RdY Rp A w (.slice Ad l.length c) l) (hn : l.length ≤ 100000) :
    Calls Try.prog 14 #[tv Ad l.length c nx] w fun e w' => ∃ A' c', e = .returned (tv A' l.length c' nx) ∧ OwnS Rp 58 w.heap.size (fun _ => False) w' (.slice A' l.length c') l ∧ Ext w w' := by
  have H := Lib.hid (rdy_pr (B := fun _ => False) h)
  obtain ⟨_, _, hv, hc1, _⟩ := h.shape
  simp only [Value.slice.injEq] at hv
  obtain ⟨-, -, rfl⟩ := hv
  obtain ⟨N, hN⟩ : ∃ N, l.length = N := ⟨_, rfl⟩
  rw [hN] at H hn hc1 ⊢
  have HN := Lib.hid hN
  obtain ⟨W, hW⟩ : ∃ W, W = ((w.alloc (.cells #[.slice Ad N c, .int .i64 nx] 29)).alloc (.cells #[.slice none 0 0, .int .i64 0] 31)).alloc (.cells #[.slice none 0 0, .int .i64 nx] 31) := ⟨_, rfl⟩
  have hst := Lib.hid (show Blk W (w.heap.size + 1 + 1) 31 #[.slice none 0 0, .int .i64 nx] by rw [hW]; exact Blk.at_ _ _ (by simp))
  have hres := Lib.hid (show Blk W (w.heap.size + 1) 31 #[.slice none 0 0, .int .i64 0] by rw [hW]; exact (Blk.at_ _ _ (by simp)).alloc _)
  have E0 : Ext w W := by rw [hW]; exact (by repeat (first | with_reducible exact Ext.refl _ | refine Ext.drewN ?_ _ | refine Ext.drew ?_ | refine Ext.alloc ?_ _ | assumption | (refine Below.trans ?_ (by assumption)) | (refine Ext.trans ?_ (by assumption)) | (refine Below.trans ?_ (Below.mono (by assumption) (by omega)))))
  have hsz := Lib.hid (show W.heap.size = w.heap.size + 3 by rw [hW]; simp)
  have HW := Lib.hid hW
  clear h hN hW
  go_enter Try.func14, Try.ntmps14
  go_wp2
  rw [← HW.out]
  go_loopw [12] (fun i wr => ∃ (m c' : Nat) (A' : Option Addr), m ≤ N ∧ i = .int .i64 m ∧ Hid (Blk wr (w.heap.size + 1 + 1) 31 #[.slice A' m c', .int .i64 nx]) ∧ Hid (Blk wr (w.heap.size + 1) 31 #[.slice none 0 0, .int .i64 0]) ∧ Hid (OwnS Rp 58 (w.heap.size + 3) (fun _ => False) wr (.slice A' m c') (l.take m)) ∧ Hid (Ext w wr) ∧ w.heap.size + 3 ≤ wr.heap.size) (fun i _ => N - (intOf i).toNat)
  case atStart => exact ⟨0, 0, none, Nat.zero_le _, rfl, hst, hres, Lib.hid (OwnS.nil _ _ _ _ _), Lib.hid E0, by have := hsz.out; omega⟩
  case round =>
    clear hst hres
    obtain ⟨m, c', A', hm, rfl, hst, hres, O, hE, hws⟩ := hrel
    by_cases hmn : m < N
    · obtain ⟨b, off, p, rfl, hd, hok, hcell⟩ := pr_at (H.out.ext hE.out) hmn
      have HY := Lib.hid (show l.take (m + 1) = l.take m ++ [p] by rw [List.take_add_one, hd.out]; rfl)
      have HZ := Lib.hid (show (l.take m).length = m by rw [List.length_take]; have := HN.out; omega)
      have hp3 := Pr.len hok
      have hp4 := fold_pr hok
      clear hd
      go_wp2_with (first
        | (refine wpList_load_mid rfl 43 _ rfl b (off + m * 43) rfl p.cells _ hcell.out Try.underlying43 rfl (i43' hok) ?_)
        | ((refine wpList_store_A rfl 43 _ _ rfl (wr.heap.size) _ rfl rfl 43 _ (zero_row wr _ rfl) (by rw [List.size_toArray]; exact i43' hok) (Eq.trans (b := 43) (by rfl) (Eq.symm (show (p).cells.toArray.size = 43 from Pr.size hok))) (Pr.one hok) ?_); intro w4 H2 E4; have E4 : Ext wr w4 := E4 wr.heap.size wr ((Ext.refl wr).alloc _) (Nat.le_refl _)))
      have H2 := Lib.hid H2
      have hws4 := E4.size
      have hl4 := H2.out.lt
      have O4 := Lib.hid (O.out.ext E4)
      have hst4 := Lib.hid (hst.out.ext E4)
      have hres4 := Lib.hid (hres.out.ext E4)
      have E04 := Lib.hid (hE.out.trans E4)
      have hrw := Lib.hid O.out.row
      clear E4 O hst hres hE hcell
      have n1 : ∀ k, k < w.heap.size + 3 → ¬ (Value.slice A' m c').ownBlock = some k := fun k hk he => by have := (hrw.out k he).1; omega
      have n2 : ¬ (Value.slice A' m c').ownBlock = some wr.heap.size := fun he => by have := (hrw.out _ he).2; omega
      refine region_till 7 (fun w' => Mod (fun k => (Value.slice A' m c').ownBlock = some k) w4 w') (by kernel_rfl) (Mod.of_ext (Ext.drew (Ext.refl _))) (fun hHeld => ?_)
      (refine till_take (i := 0) (v := ?_) rfl (by kernel_rfl) (by kernel_rfl) (by kernel_rfl) (by kernel_rfl) (fun _ _ _ h => h) (Or.inl ⟨by rfl, ?_⟩) (by assumption) ?_; rotate_left; (focus (intro w' hSw; go_simp; try with_reducible rfl)); (try simp only [List.getElem_toArray]); (try simp only [List.getElem_cons_succ]); (try simp only [List.getElem_cons_zero]); (try simp only [Act.put]); (try simp only [List.setIfInBounds_toArray]); (try simp only [List.set_cons_succ]); (try simp only [List.set_cons_zero]))
      (refine till_take (i := 1) (v := ?_) rfl (by kernel_rfl) (by kernel_rfl) (by kernel_rfl) (by kernel_rfl) (fun _ _ _ h => h) (Or.inl ⟨by rfl, ?_⟩) (by assumption) ?_; rotate_left; (focus (intro w' hSw; have kc := (hst4.out.mod hSw (n1 _ (by omega))).two; go_simp; try with_reducible rfl)); (try simp only [List.getElem_toArray]); (try simp only [List.getElem_cons_succ]); (try simp only [List.getElem_cons_zero]); (try simp only [Act.put]); (try simp only [List.setIfInBounds_toArray]); (try simp only [List.set_cons_succ]); (try simp only [List.set_cons_zero]))
      (refine till_take (i := 2) (v := .agg p.cells.toArray) rfl (by kernel_rfl) (by kernel_rfl) (by kernel_rfl) (by kernel_rfl) (fun _ _ _ h => h) (yieldsIf_load_row (by rfl) 43 _ rfl _ rfl 43 p.cells.toArray _ _ (fun w' hSw => (H2.out.mod hSw n2)) Try.underlying43 rfl (by rw [List.size_toArray]; exact i43' hok)) (by assumption) ?_; (try simp only [Act.put]); (try simp only [List.getElem_toArray]); (try simp only [List.getElem_cons_succ]); (try simp only [List.getElem_cons_zero]); (try simp only [List.setIfInBounds_toArray]); (try simp only [List.set_cons_succ]); (try simp only [List.set_cons_zero]))
      (refine till_ready (rs := [3]) (by kernel_rfl) (by simp) ?_; refine AllTill.cons rfl (fun K hK => ?_) AllTill.nil; go_simp; go_at_call 23; refine (fromproc_any p _ hok).mono ?_; rintro e w5 ⟨rfl, E5⟩; (try dsimp only); refine hK.out _ _ (Mod.of_ext (Ext.trans (Ext.drew (Ext.refl w4)) E5)) (fun hHeld => ?_); clear hK K; (try simp only [Act.put]); (try simp only [List.getElem_toArray]); (try simp only [List.getElem_cons_succ]); (try simp only [List.getElem_cons_zero]); (try simp only [List.setIfInBounds_toArray]); (try simp only [List.set_cons_succ]); (try simp only [List.set_cons_zero]))
      have E45 : Ext w4 w5 := (Ext.drew (Ext.refl w4)).trans E5
      (refine till_ready (rs := [4]) (by kernel_rfl) (by simp) ?_; refine AllTill.cons rfl (fun K hK => ?_) AllTill.nil; go_simp; refine hK.out _ _ (Mod.of_ext (E45.alloc _)) (fun hHeld => ?_); clear hK K; (try simp only [Act.put]); (try simp only [List.getElem_toArray]); (try simp only [List.getElem_cons_succ]); (try simp only [List.getElem_cons_zero]); (try simp only [List.setIfInBounds_toArray]); (try simp only [List.set_cons_succ]); (try simp only [List.set_cons_zero]))
      refine till_ready (rs := [5]) (by kernel_rfl) (by simp) ?_
      refine AllTill.cons rfl (fun K hK => ?_) AllTill.nil
      refine step_app (e := Rp) (base := w.heap.size + 3) (B := fun _ => False) (A := fun _ => False) rfl (.tmp 17) (.tmp 20) rfl Try.underlying22 info_rp rfl (O4.out.ext (E45.alloc _)) rfl (RdY.singleB (cs := p.cells) (rp_rel (fun _ => False) _ hok) (Blk.at_ _ _ rfl)) rfl (fun _ _ h => h.elim) (N := m + 1) (by rw [HZ.out]; rfl) (by simp [maxLen]; omega) (by omega) (by have := E45.size; simp; omega) ?_
      intro A5 c5 w6 o5 M5 D5
      refine hK.out _ _ ((Mod.of_ext (E45.alloc _)).trans M5) (fun hHeld => ?_)
      clear hK K
      (try simp only [List.getElem_toArray]); (try simp only [List.getElem_cons_succ]); (try simp only [List.getElem_cons_zero]); (try simp only [Act.put]); (try simp only [List.setIfInBounds_toArray]); (try simp only [List.set_cons_succ]); (try simp only [List.set_cons_zero])
      (refine till_take (i := 6) (v := ?_) rfl (by kernel_rfl) (by kernel_rfl) (by kernel_rfl) (by kernel_rfl) (fun _ _ _ h => h) (Or.inl ⟨by rfl, ?_⟩) (by assumption) ?_; rotate_left; (focus (intro w' hSw; go_simp; try with_reducible rfl)); (try simp only [List.getElem_toArray]); (try simp only [List.getElem_cons_succ]); (try simp only [List.getElem_cons_zero]); (try simp only [Act.put]); (try simp only [List.setIfInBounds_toArray]); (try simp only [List.set_cons_succ]); (try simp only [List.set_cons_zero]))
      have hs6 := hst4.out.mod hHeld (n1 _ (by omega))
      have hr6 := hres4.out.mod hHeld (n1 _ (by omega))
      have hst2 := hs6.two
      (refine till_ready (rs := [7]) (by kernel_rfl) (by simp) ?_; refine AllTill.last rfl (fun K hK => ?_) AllTill.nil; go_simp; refine hK.out _ _ ?_; clear hK K; (try simp only [Act.put]); (try simp only [List.getElem_toArray]); (try simp only [List.getElem_cons_succ]); (try simp only [List.getElem_cons_zero]); (try simp only [List.setIfInBounds_toArray]); (try simp only [List.set_cons_succ]); (try simp only [List.set_cons_zero]))
      refine till_done (by kernel_rfl) ?_ _
      have E06 : Ext w w6 := Mod.toExt E04.out hHeld (fun k hk => n1 k (by omega))
      have hz6 := E06.size
      have hzz := hHeld.size
      have hrw5 := o5.row
      have M6 : Mod (fun k => k = w.heap.size + 1 + 1) w6 (w6.setCell ⟨w.heap.size + 1 + 1, 0, none⟩ (.slice A5 (m + 1) c5)) := (Mod.refl _ _).set1 _
      have B6 := Lib.hid (hs6.set_ 0 (.slice A5 (m + 1) c5))
      have R6 := Lib.hid (hr6.mod M6 (by show ¬ _ = _; omega))
      have O6 := Lib.hid (o5.mod M6 (fun k hk he => by have := (hrw5 k hk).1; omega) (fun k _ hk he => hk))
      have E6 := Lib.hid (Mod.toExt E06 M6 (by intro k hk he; omega))
      have hz7 := M6.size
      clear M5 D5 M6 hrw5 o5 E06 hr6 hs6
      go_wp2
      go_roundw
      case rel => exact ⟨m + 1, c5, A5, by omega, by go_num, B6, R6, by rw [HY.out]; exact O6, E6, by omega⟩
      case measure => simp [intOf]; omega
    · obtain rfl : m = N := by omega
      have hf : l.take m = l := List.take_of_length_le (by have := HN.out; omega)
      rw [hf] at O
      have hst2 := hst.out.two
      have ks := hres.out.two
      have hrw := O.out.row
      have M6 : Mod (fun k => k = w.heap.size + 1) wr _ := ((Mod.refl _ wr).set1 (.slice A' m c') (o := 0)).set1 (.int .i64 nx) (o := 1)
      obtain ⟨q0, q1, _, _⟩ := (hres.out.put2 (.slice A' m c') (.int .i64 nx)).two
      have hrw := Lib.hid hrw
      clear hf
      go_wp2
      refine bodyPost_ret (v := tv A' m c' nx) (by simp [results, Try.results14, go_sem, q0, q1]) rfl ?_
      exact ⟨A', c', rfl, (O.out.mod M6 (fun k hk he => by have := (hrw.out k hk).1; omega) (fun k _ hk _ => hk)).lower (by omega), Mod.toExt hE.out M6 (by intro k hk he; omega)⟩
end Go.Proofs.Ytmpmnikgbepphaa
