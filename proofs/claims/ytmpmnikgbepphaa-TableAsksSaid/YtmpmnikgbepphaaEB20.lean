/- The document's answer: Set; lists of numbers that are the same; by contract. No condition. -/
import Derived.Test.YtmpmnikgbepphaaDB20
namespace Go.Proofs.Ytmpmnikgbepphaa
open Go.RowKit Go.Kb

def RSetPost (l : List Pr) (nx : Int) (q : Pr) (w : World) (e : Ending) (w' : World) : Prop :=
  Ext w w' ∧ ((rightL l nx = false ∧ e = .returned (tv none 0 0 0)) ∨ (rightL l nx = true ∧ ∃ A' c', e = .returned (tv A' l.length c' nx) ∧ OwnS Rp 58 w.heap.size (fun _ => False) w' (.slice A' l.length c') (changeL (fun _ => q) q.pid l)))
set_option maxRecDepth 100000 in
set_option maxHeartbeats 800000 in
theorem rset_any {A : Nat → Prop} (Ad : Option Addr) (c : Nat) (l : List Pr) (nx : Int) (q : Pr) (w : World) (h : RdY Rp A w (.slice Ad l.length c) l) (hq : q.ok) :
    Calls Try.prog 26 #[tv Ad l.length c nx, .agg q.cells.toArray] w (RSetPost l nx q w) := by
  have H := Lib.hid (rdy_pr (B := fun _ => False) h)
  obtain ⟨W, hW⟩ : ∃ W, W = ((w.alloc (.cells #[.slice Ad l.length c, .int .i64 nx] 31)).alloc (.cells q.cells.toArray 58)).alloc (.cells #[.slice none 0 0, .int .i64 0] 31) := ⟨_, rfl⟩
  have hres := Lib.hid (show Blk W (w.heap.size + 1 + 1) 31 #[.slice none 0 0, .int .i64 0] by rw [hW]; exact Blk.at_ _ _ (by simp))
  have hp := Lib.hid (show Blk W (w.heap.size + 1) 58 q.cells.toArray by rw [hW]; exact (Blk.at_ _ _ (by simp)).alloc _)
  have hbox := Lib.hid (show Blk W w.heap.size 31 #[.slice Ad l.length c, .int .i64 nx] by rw [hW]; exact ((Blk.new w _ _).alloc _).alloc _)
  have E0 : Ext w W := by rw [hW]; exact (by repeat (first | with_reducible exact Ext.refl _ | refine Ext.drewN ?_ _ | refine Ext.drew ?_ | refine Ext.alloc ?_ _ | assumption | (refine Below.trans ?_ (by assumption)) | (refine Ext.trans ?_ (by assumption)) | (refine Below.trans ?_ (Below.mono (by assumption) (by omega)))))
  have hsz := Lib.hid (show W.heap.size = w.heap.size + 3 by rw [hW]; simp)
  have HW := Lib.hid hW
  clear h hW
  go_enter Try.func26, Try.ntmps26
  go_wp2_with fail
  rw [← HW.out]
  refine (rright_any Ad c l nx W (H.out.ext E0)).mono ?_
  rintro e w1 ⟨rfl, E1⟩
  have E01 := E0.trans E1
  have kb := (hbox.out.ext E1).two
  have ks := (hres.out.ext E1).two
  cases hr : rightL l nx
  · have HR := Lib.hid hr
    have hM7 : Mod (fun k => k = w.heap.size + 1 + 1) w1 _ := ((Mod.refl _ w1).set1 (.slice none 0 0) (o := 0)).set1 (.int .i64 0) (o := 1)
    obtain ⟨q0, q1, _, _⟩ := ((hres.out.ext E1).put2 (.slice none 0 0) (.int .i64 0)).two
    clear hr
    go_wp2
    refine bodyPost_ret (v := tv none 0 0 0) (by simp [results, Try.results26, go_sem, q0, q1]) rfl ?_
    exact ⟨Mod.toExt E01 hM7 (by intro k hk he; omega), .inl ⟨HR.out, rfl⟩⟩
  · have HR := Lib.hid hr
    have HL := Lib.hid (right_len hr).1
    have hcp := rcopy_any (A := fun _ => False) Ad c l nx w1 (H.out.ext E01) (by have := HL.out; omega)
    obtain ⟨N, hN⟩ : ∃ N, l.length = N := ⟨_, rfl⟩
    rw [hN] at hcp kb HL H ⊢
    have HCP := Lib.hid hcp
    have HN := Lib.hid hN
    clear hr hcp ks
    go_wp2_with fail
    refine HCP.out.mono ?_
    rintro e w2 ⟨A2, c2, rfl, O2, E2⟩
    have E02 := E01.trans E2
    have EW2 := E1.trans E2
    have hz2 := Lib.hid (show w.heap.size + 3 ≤ w1.heap.size by have := hsz.out; have := E1.size; omega)
    have hrw := Lib.hid O2.row
    have kb := (hbox.out.ext EW2).two
    have MM : Mod (fun k => k = w.heap.size) w2 _ := ((Mod.refl _ w2).set1 (.slice A2 N c2) (o := 0)).set1 (.int .i64 nx) (o := 1)
    rw [HN.out] at hbox
    have B3 := Lib.hid ((hbox.out.ext EW2).put2 (.slice A2 N c2) (.int .i64 nx))
    have P3 := Lib.hid ((hp.out.ext EW2).mod MM (by show ¬ _ = _; omega))
    have S3 := Lib.hid ((hres.out.ext EW2).mod MM (by show ¬ _ = _; omega))
    have O3 := Lib.hid (O2.mod MM (fun k hk he => by have := (hrw.out k hk).1; have := hz2.out; omega) (fun k _ hk he => hk))
    have E03 : Ext w _ := Mod.toExt E02 MM (by intro k hk he; omega)
    have hz3 := Lib.hid (Nat.le_trans E2.size MM.size)
    have k0 := (prAt_blk hq P3.out).c0
    clear MM O2 E2
    go_wp2_with fail
    clear k0 kb
    generalize (w2.setCell _ _).setCell _ _ = W3 at *
    have hpl := place_any (A := fun _ => False) A2 c2 l nx q.pid W3 (by rw [HN.out]; exact rdy_pr O3.out.y)
    rw [HN.out] at hpl
    refine hpl.mono ?_
    clear hpl
    rintro e w4 ⟨rfl, E4⟩
    have E04 := E03.trans E4
    have B4 := Lib.hid (B3.out.ext E4)
    have P4 := Lib.hid (P3.out.ext E4)
    have S4 := Lib.hid (S3.out.ext E4)
    have O4 := Lib.hid (O3.out.ext E4)
    have hz4 : w.heap.size + 3 ≤ w4.heap.size := Nat.le_trans hz2.out (Nat.le_trans hz3.out E4.size)
    rcases idx_lt (f := fun p => p.pid == q.pid) (l := l) with hx | ⟨j, hx, hlt⟩
    · rw [hx]
      have HX := Lib.hid (changeL_none (g := fun _ => q) hx)
      have kb := B4.out.two
      have ks := S4.out.two
      have hM7 : Mod (fun k => k = w.heap.size + 1 + 1) w4 _ := ((Mod.refl _ w4).set1 (.slice A2 N c2) (o := 0)).set1 (.int .i64 nx) (o := 1)
      obtain ⟨q0, q1, _, _⟩ := (S4.out.put2 (.slice A2 N c2) (.int .i64 nx)).two
      have hr4 := Lib.hid O4.out.row
      clear hx
      go_wp2
      refine bodyPost_ret (v := tv A2 N c2 nx) (by simp [results, Try.results26, go_sem, q0, q1]) rfl ?_
      refine ⟨Mod.toExt E04 hM7 (by intro k hk he; omega), .inr ⟨HR.out, A2, c2, by rw [HN.out], ?_⟩⟩
      rw [HN.out, HX.out]
      exact (O4.out.mod hM7 (fun k hk he => by have := (hr4.out k hk).1; have := hz2.out; omega) (fun k _ hk _ => hk)).lower (by have := hz2.out; omega)
    · rw [hx]
      obtain ⟨p, hpj⟩ : ∃ p, l[j]? = some p := ⟨_, List.getElem?_eq_getElem hlt⟩
      have HX := Lib.hid (changeL_some (g := fun _ => q) hx hpj)
      rw [HN.out] at hlt
      obtain ⟨g, rfl, hgb, _⟩ := O4.out.addr (by omega)
      obtain ⟨hpok, hG, hGlt, _, hfr, hcl⟩ := own_atR O4.out hpj
      have hth : w4.there g (j * 43) 43 := fun t ht => ⟨by rw [hcl t _ (List.getElem?_eq_getElem (by rw [Pr.len hpok]; exact ht))]; rfl, hfr _⟩
      have O5 := Lib.hid (own_rowR O4.out hlt hq)
      have M5 : Mod (fun k => k = g) w4 (w4.setCells g (j * 43) q.cells) := Mod.setCells q.cells (j * 43) w4 w4 (Mod.refl _ _)
      have hz22 := hz2.out
      have B5 := Lib.hid (B4.out.mod M5 (by show ¬ _ = _; omega))
      have S5 := Lib.hid (S4.out.mod M5 (by show ¬ _ = _; omega))
      have E05 : Ext w _ := Mod.toExt E04 M5 (by intro k hk he; omega)
      have kb := B4.out.two
      have kb5 := B5.out.two
      have ks := S5.out.two
      have hq3 := Pr.len hq
      have j1 : (0 : Int) ≤ (j : Int) := by omega
      have j2 : (j : Int) < (N : Int) := by omega
      have hM7 : Mod (fun k => k = w.heap.size + 1 + 1) (w4.setCells g (j * 43) q.cells) _ := ((Mod.refl _ _).set1 (.slice (some ⟨g, 0, none⟩) N c2) (o := 0)).set1 (.int .i64 nx) (o := 1)
      obtain ⟨q0, q1, _, _⟩ := (S5.out.put2 (.slice (some ⟨g, 0, none⟩) N c2) (.int .i64 nx)).two
      have hr5 := Lib.hid O5.out.row
      clear hx hpj hcl M5 hz22
      go_wp2_with (first
        | (refine wpList_load_row rfl 58 _ rfl _ rfl 58 _ _ _ P4.out Try.underlying58 rfl (by rw [List.size_toArray]; exact i43r' hq) ?_)
        | (refine wpList_store_mid rfl 58 _ _ rfl g (j * 43) q.cells.toArray rfl rfl (by rw [List.size_toArray, hq3]; exact hth) (by rw [List.size_toArray]; exact i43r' hq) (Pr.one hq) ?_))
      refine bodyPost_ret (v := tv (some ⟨g, 0, none⟩) N c2 nx) (by simp [results, Try.results26, go_sem, q0, q1]) rfl ?_
      refine ⟨Mod.toExt E05 hM7 (by intro k hk he; omega), .inr ⟨HR.out, some ⟨g, 0, none⟩, c2, by rw [HN.out], ?_⟩⟩
      rw [HN.out, HX.out]
      exact (O5.out.mod hM7 (fun k hk he => by have := (hr5.out k hk).1; have := hz2.out; omega) (fun k _ hk _ => hk)).lower (by have := hz2.out; omega)
set_option maxRecDepth 100000 in
set_option maxHeartbeats 800000 in
theorem ints_same {A B : Nat → Prop} (v u : Value) (l : List Int) (w : World) (h : RdY Ib A w v l) (g : RdY Ib B w u l) :
    Calls Try.prog 27 #[v, u] w fun e w' => e = .returned (.bool true) ∧ Ext w w' := by
  obtain ⟨Ad, c, rfl, hc1, hc2⟩ := h.shape
  obtain ⟨Bd, d, rfl, hd1, hd2⟩ := g.shape
  obtain ⟨N, hN⟩ : ∃ N, l.length = N := ⟨_, rfl⟩
  rw [hN] at h g hc1 ⊢
  have H := Lib.hid h
  have G := Lib.hid g
  clear h g hN
  go_enter Try.func27, Try.ntmps27
  go_wp2
  go_loopw [13] (fun i wr => ∃ m : Nat, m ≤ N ∧ i = .int .i64 m ∧ Ext w wr) (fun i _ => N - (intOf i).toNat)
  case atStart => exact ⟨0, Nat.zero_le _, rfl, Ext.refl _⟩
  case round =>
    obtain ⟨m, hm, rfl, hE⟩ := hrel
    by_cases hmn : m < N
    · obtain ⟨b, off, x, y, rfl, hx, hy, hxy⟩ := RdY.at1 (H.out.ext hE) rfl hmn
      obtain ⟨b2, off2, x2, y2, rfl, hx2, hy2, hxy2⟩ := RdY.at1 (G.out.ext hE) rfl hmn
      have hxy : [x] = [Value.int .i64 y] := hxy.out
      have hxy2 : [x2] = [Value.int .i64 y2] := hxy2.out
      cases hxy
      cases hxy2
      obtain rfl : y2 = y := by have := hy.out; rw [hy2.out] at this; exact Option.some.inj this
      have HX := Lib.hid hx
      have HX2 := Lib.hid hx2
      have hm1 : (0 : Int) ≤ (m : Int) := by omega
      have hm2 : (m : Int) < (N : Int) := by omega
      clear hy hy2 hx hx2
      go_wp2
      refine wp_region_held_drew (S := fun w' => Ext wr w') (by kernel_rfl) (Ext.drew (Ext.refl _)) (fun hHeld => ?_)
      (refine wpAnyH_take (i := 0) (v := ?_) rfl (by kernel_rfl) (by kernel_rfl) (by kernel_rfl) (fun _ _ _ h => h) (Or.inl ⟨by rfl, ?_⟩) (by assumption) ?_; rotate_left; (focus (intro w' hSw; go_simp; try with_reducible rfl)); (try simp only [List.getElem_toArray]); (try simp only [List.getElem_cons_succ]); (try simp only [List.getElem_cons_zero]); (try simp only [Act.put]); (try simp only [List.setIfInBounds_toArray]); (try simp only [List.set_cons_succ]); (try simp only [List.set_cons_zero]))
      (refine wpAnyH_take (i := 1) (v := ?_) rfl (by kernel_rfl) (by kernel_rfl) (by kernel_rfl) (fun _ _ _ h => h) (Or.inl ⟨by rfl, ?_⟩) (by assumption) ?_; rotate_left; (focus (intro w' hSw; go_simp; try with_reducible rfl)); (try simp only [List.getElem_toArray]); (try simp only [List.getElem_cons_succ]); (try simp only [List.getElem_cons_zero]); (try simp only [Act.put]); (try simp only [List.setIfInBounds_toArray]); (try simp only [List.set_cons_succ]); (try simp only [List.set_cons_zero]))
      (refine wpAnyH_take (i := 2) (v := ?_) rfl (by kernel_rfl) (by kernel_rfl) (by kernel_rfl) (fun _ _ _ h => h) (Or.inl ⟨by rfl, ?_⟩) (by assumption) ?_; rotate_left; (focus (intro w' hSw; go_simp; try with_reducible rfl)); (try simp only [List.getElem_toArray]); (try simp only [List.getElem_cons_succ]); (try simp only [List.getElem_cons_zero]); (try simp only [Act.put]); (try simp only [List.setIfInBounds_toArray]); (try simp only [List.set_cons_succ]); (try simp only [List.set_cons_zero]))
      (refine wpAnyH_take (i := 3) (v := ?_) rfl (by kernel_rfl) (by kernel_rfl) (by kernel_rfl) (fun _ _ _ h => h) (Or.inl ⟨by rfl, ?_⟩) (by assumption) ?_; rotate_left; (focus (intro w' hSw; have kc := cell_ext hSw HX.out; go_simp; try with_reducible rfl)); (try simp only [List.getElem_toArray]); (try simp only [List.getElem_cons_succ]); (try simp only [List.getElem_cons_zero]); (try simp only [Act.put]); (try simp only [List.setIfInBounds_toArray]); (try simp only [List.set_cons_succ]); (try simp only [List.set_cons_zero]))
      (refine wpAnyH_take (i := 4) (v := ?_) rfl (by kernel_rfl) (by kernel_rfl) (by kernel_rfl) (fun _ _ _ h => h) (Or.inl ⟨by rfl, ?_⟩) (by assumption) ?_; rotate_left; (focus (intro w' hSw; go_simp; try with_reducible rfl)); (try simp only [List.getElem_toArray]); (try simp only [List.getElem_cons_succ]); (try simp only [List.getElem_cons_zero]); (try simp only [Act.put]); (try simp only [List.setIfInBounds_toArray]); (try simp only [List.set_cons_succ]); (try simp only [List.set_cons_zero]))
      (refine wpAnyH_take (i := 5) (v := ?_) rfl (by kernel_rfl) (by kernel_rfl) (by kernel_rfl) (fun _ _ _ h => h) (Or.inl ⟨by rfl, ?_⟩) (by assumption) ?_; rotate_left; (focus (intro w' hSw; go_simp; try with_reducible rfl)); (try simp only [List.getElem_toArray]); (try simp only [List.getElem_cons_succ]); (try simp only [List.getElem_cons_zero]); (try simp only [Act.put]); (try simp only [List.setIfInBounds_toArray]); (try simp only [List.set_cons_succ]); (try simp only [List.set_cons_zero]))
      (refine wpAnyH_take (i := 6) (v := ?_) rfl (by kernel_rfl) (by kernel_rfl) (by kernel_rfl) (fun _ _ _ h => h) (Or.inl ⟨by rfl, ?_⟩) (by assumption) ?_; rotate_left; (focus (intro w' hSw; go_simp; try with_reducible rfl)); (try simp only [List.getElem_toArray]); (try simp only [List.getElem_cons_succ]); (try simp only [List.getElem_cons_zero]); (try simp only [Act.put]); (try simp only [List.setIfInBounds_toArray]); (try simp only [List.set_cons_succ]); (try simp only [List.set_cons_zero]))
      (refine wpAnyH_take (i := 7) (v := ?_) rfl (by kernel_rfl) (by kernel_rfl) (by kernel_rfl) (fun _ _ _ h => h) (Or.inl ⟨by rfl, ?_⟩) (by assumption) ?_; rotate_left; (focus (intro w' hSw; have kc := cell_ext hSw HX2.out; go_simp; try with_reducible rfl)); (try simp only [List.getElem_toArray]); (try simp only [List.getElem_cons_succ]); (try simp only [List.getElem_cons_zero]); (try simp only [Act.put]); (try simp only [List.setIfInBounds_toArray]); (try simp only [List.set_cons_succ]); (try simp only [List.set_cons_zero]))
      (refine wpAnyH_take (i := 8) (v := ?_) rfl (by kernel_rfl) (by kernel_rfl) (by kernel_rfl) (fun _ _ _ h => h) (Or.inl ⟨by rfl, ?_⟩) (by assumption) ?_; rotate_left; (focus (intro w' hSw; go_simp; try with_reducible rfl)); (try simp only [List.getElem_toArray]); (try simp only [List.getElem_cons_succ]); (try simp only [List.getElem_cons_zero]); (try simp only [Act.put]); (try simp only [List.setIfInBounds_toArray]); (try simp only [List.set_cons_succ]); (try simp only [List.set_cons_zero]))
      refine wpAnyH_done (by kernel_rfl) ?_ _
      have E5 : Ext w wr.drew := Ext.drew hE
      go_wp2
      go_roundw
      case rel => exact ⟨m + 1, by omega, by go_num, E5⟩
      case measure => simp [intOf]; omega
    · go_wp2
      go_ret
      exact ⟨rfl, hE⟩
end Go.Proofs.Ytmpmnikgbepphaa
