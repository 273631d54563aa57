/- Whether any process may read, or write, is the document's: walked; the law answers true. Conditions: masks have 64 bits. -/
import Derived.Test.YtcncacllaonplaaDA22
import Derived.Test.YtcncacllaonplaaL22
import Derived.Deep.DeepCutAuto
namespace Go.Proofs.Ytcncacllaonplaa
open Go.RowKit Go.Kb

set_option maxRecDepth 100000 in
set_option maxHeartbeats 30000000 in
theorem jobsAccess_walk {A : Nat → Prop} (Ad : Option Addr) (c : Nat) (l : List Pr) (nx s g0 : Int) (ts : Bool) (pid g : Int) (wr : Bool) (w : World) (h : RdY Rp A w (.slice Ad l.length c) l) (hm : ∀ p ∈ l, Sig.U64 p.mask) (hb : ∀ p ∈ l, Sig.U64 p.pending) (hwf : ∀ p ∈ l, p.wf) :
    Calls Try.prog 4 #[.agg #[.slice Ad l.length c, .int .i64 nx, .int .i64 s, .int .i64 g0, .bool ts, .int .i64 pid, .int .i64 g, .bool wr]] w fun e w' => e = .returned (.bool true) ∧ Ext w w' := by
  have H := Lib.hid (rdy_pr (B := fun _ => False) h)
  have hoks := Lib.hid (RdY.oks h)
  have HM := Lib.hid hm
  have HBP := Lib.hid hb
  obtain ⟨N, hN⟩ : ∃ N, l.length = N := ⟨_, rfl⟩
  have hto := fun w h hn => to_world (A := fun _ => False) Ad c l nx s g0 ts pid g wr w h hn
  rw [hN] at H hto ⊢
  have HTO := Lib.hid hto
  have HN := Lib.hid hN
  have B := Lib.hid (Blk.new w 24 #[.slice Ad N c, .int .i64 nx, .int .i64 s, .int .i64 g0, .bool ts, .int .i64 pid, .int .i64 g, .bool wr])
  have E0 : Ext w (w.alloc (.cells #[.slice Ad N c, .int .i64 nx, .int .i64 s, .int .i64 g0, .bool ts, .int .i64 pid, .int .i64 g, .bool wr] 24)) := (by repeat (first | with_reducible exact Ext.refl _ | refine Ext.drewN ?_ _ | refine Ext.drew ?_ | refine Ext.alloc ?_ _ | assumption | (refine Below.trans ?_ (by assumption)) | (refine Ext.trans ?_ (by assumption)) | (refine Below.trans ?_ (Below.mono (by assumption) (by omega)))))
  have HWF := Lib.hid hwf
  clear h hm hb hN hto hwf
  go_enter Try.func4, Try.ntmps4
  go_wp2_with fail
  refine (alive_any _).mono ?_
  rintro e w1 ⟨rfl, E1⟩
  have B := Lib.hid (B.out.ext E1)
  have E01 := E0.trans E1
  clear E0 E1
  go_wp2_with (refine wpList_load_row rfl 24 _ rfl _ rfl 24 _ _ _ B.out Try.underlying24 rfl i24 ?_)
  refine (great_any Ad N c nx s g0 ts pid g wr _).mono ?_
  rintro e w2 ⟨rfl, E2⟩
  have B := Lib.hid (B.out.ext E2)
  have E02 := E01.trans E2
  clear E01 E2
  by_cases hg : 40 < N
  · have hg2 : decide (40 < N) = true := decide_eq_true hg
    rw [hg2]
    clear hg
    go_wp2
    go_ret
    exact ⟨rfl, E02⟩
  have hg2 : decide (40 < N) = false := decide_eq_false hg
  rw [hg2]
  have HG := Lib.hid hg
  clear hg2 hg
  go_wp2_with (refine wpList_load_row rfl 24 _ rfl _ rfl 24 _ _ _ B.out Try.underlying24 rfl i24 ?_)
  refine (HTO.out _ (H.out.ext E02) (by have := HN.out; have := HG.out; omega)).mono ?_
  rintro e w3 ⟨A3, c3, rfl, O3, E3⟩
  have B := Lib.hid (B.out.ext E3)
  have E03 := E02.trans E3
  have R3 := Lib.hid (rdy_pr (B := fun _ => False) O3.y)
  have H := Lib.hid (H.out.ext E03)
  clear E02 E3 O3 HTO
  obtain ⟨n3, hn3⟩ : ∃ n, w3.heap.size = n := ⟨_, rfl⟩
  obtain ⟨W3, hW3⟩ : ∃ W, W = w3.alloc (.cells #[.slice A3 N c3, .int .i64 nx] 28) := ⟨_, rfl⟩
  have T := Lib.hid (show Blk W3 n3 28 #[.slice A3 N c3, .int .i64 nx] by rw [hW3]; exact Blk.at_ _ _ hn3)
  have EW : Ext w3 W3 := by rw [hW3]; exact (Ext.refl _).alloc _
  have B := Lib.hid (B.out.ext EW)
  have R3 := Lib.hid (R3.out.ext EW)
  have H := Lib.hid (H.out.ext EW)
  have E03 := E03.trans EW
  have HW3 := Lib.hid hW3
  have HN3 := Lib.hid hn3
  clear EW hW3 hn3
  go_upto_region 6 with fail
  rw [HN3.out, ← HW3.out]
  clear HW3 HN3
  obtain ⟨⟨v, x⟩, hac⟩ : ∃ a, accL l nx s g0 ts pid wr = a := ⟨_, rfl⟩
  have hacc := fun w h => access_any (A := fun _ => False) A3 c3 l nx s g0 ts pid wr w h HM.out
  have hracc := fun A5 c5 w h => raccess_any (A := fun _ => False) A5 c5 l nx s g0 ts pid wr w h HM.out
  have hask := fun w h => askT_any (A := fun _ => False) A3 c3 l nx s g0 ts pid wr w h HM.out HBP.out
  have hrask := fun A5 c5 w h => raskT_any (A := fun _ => False) A5 c5 l nx s g0 ts pid wr w h HM.out HBP.out
  have href := fun w h => ref_any (A := fun _ => False) Ad c l nx s g0 ts pid g wr w h (by have := HN.out; have := HG.out; omega)
  rw [HN.out] at hacc hracc hask hrask href
  simp only [hac] at hacc hracc hask hrask
  have HACC := Lib.hid hacc
  have HRACC := Lib.hid hracc
  have HASK := Lib.hid hask
  have HRASK := Lib.hid hrask
  have HREF := Lib.hid href
  clear hacc hracc hask hrask href hac
  refine wp_region_held_drew (S := fun w' => Ext W3 w') (by kernel_rfl) (Ext.drew (Ext.refl _)) (fun hHeld => ?_)
  (refine wpAnyH_take (i := 0) (v := ?_) rfl (by kernel_rfl) (by kernel_rfl) (by kernel_rfl) (fun _ _ _ h => h) (Or.inl ⟨by rfl, ?_⟩) (by assumption) ?_; rotate_left; (focus (intro w' hSw; have kc := (T.out.ext hSw).two; go_simp; try with_reducible rfl)); (try simp only [List.getElem_toArray]); (try simp only [List.getElem_cons_succ]); (try simp only [List.getElem_cons_zero]); (try simp only [Act.put]); (try simp only [List.setIfInBounds_toArray]); (try simp only [List.set_cons_succ]); (try simp only [List.set_cons_zero]))
  (refine wpAnyH_take (i := 1) (v := .agg #[.slice Ad N c, .int .i64 nx, .int .i64 s, .int .i64 g0, .bool ts, .int .i64 pid, .int .i64 g, .bool wr]) rfl (by kernel_rfl) (by kernel_rfl) (by kernel_rfl) (fun _ _ _ h => h) (yieldsIf_load_mid (by rfl) 24 _ rfl _ _ rfl (#[.slice Ad N c, .int .i64 nx, .int .i64 s, .int .i64 g0, .bool ts, .int .i64 pid, .int .i64 g, .bool wr]).toList _ (fun w' hSw => (fun i u hu => by rw [(Blk.ext B.out hSw).cell, Nat.zero_add, ← Array.getElem?_toList]; exact hu)) Try.underlying24 rfl i24) (by assumption) ?_; (try simp only [List.getElem_toArray]); (try simp only [List.getElem_cons_succ]); (try simp only [List.getElem_cons_zero]); (try simp only [Act.put]); (try simp only [List.setIfInBounds_toArray]); (try simp only [List.set_cons_succ]); (try simp only [List.set_cons_zero]))
  (refine wpAnyH_take (i := 3) (v := ?_) rfl (by kernel_rfl) (by kernel_rfl) (by kernel_rfl) (fun _ _ _ h => h) (Or.inl ⟨by rfl, ?_⟩) (by assumption) ?_; rotate_left; (focus (intro w' hSw; go_simp; try with_reducible rfl)); (try simp only [List.getElem_toArray]); (try simp only [List.getElem_cons_succ]); (try simp only [List.getElem_cons_zero]); (try simp only [Act.put]); (try simp only [List.setIfInBounds_toArray]); (try simp only [List.set_cons_succ]); (try simp only [List.set_cons_zero]))
  (refine wpAnyH_take (i := 4) (v := ?_) rfl (by kernel_rfl) (by kernel_rfl) (by kernel_rfl) (fun _ _ _ h => h) (Or.inl ⟨by rfl, ?_⟩) (by assumption) ?_; rotate_left; (focus (intro w' hSw; have kc := (B.out.ext hSw).cell 5; go_simp; try with_reducible rfl)); (try simp only [List.getElem_toArray]); (try simp only [List.getElem_cons_succ]); (try simp only [List.getElem_cons_zero]); (try simp only [Act.put]); (try simp only [List.setIfInBounds_toArray]); (try simp only [List.set_cons_succ]); (try simp only [List.set_cons_zero]))
  (refine wpAnyH_take (i := 5) (v := ?_) rfl (by kernel_rfl) (by kernel_rfl) (by kernel_rfl) (fun _ _ _ h => h) (Or.inl ⟨by rfl, ?_⟩) (by assumption) ?_; rotate_left; (focus (intro w' hSw; go_simp; try with_reducible rfl)); (try simp only [List.getElem_toArray]); (try simp only [List.getElem_cons_succ]); (try simp only [List.getElem_cons_zero]); (try simp only [Act.put]); (try simp only [List.setIfInBounds_toArray]); (try simp only [List.set_cons_succ]); (try simp only [List.set_cons_zero]))
  (refine wpAnyH_take (i := 6) (v := ?_) rfl (by kernel_rfl) (by kernel_rfl) (by kernel_rfl) (fun _ _ _ h => h) (Or.inl ⟨by rfl, ?_⟩) (by assumption) ?_; rotate_left; (focus (intro w' hSw; have kc := (B.out.ext hSw).cell 7; go_simp; try with_reducible rfl)); (try simp only [List.getElem_toArray]); (try simp only [List.getElem_cons_succ]); (try simp only [List.getElem_cons_zero]); (try simp only [Act.put]); (try simp only [List.setIfInBounds_toArray]); (try simp only [List.set_cons_succ]); (try simp only [List.set_cons_zero]))
  (refine wpAnyH_ready (rs := [2]) (by kernel_rfl) (by simp) ?_; refine AllReadyH.cons rfl (fun K hK => ?_) AllReadyH.nil; go_simp; go_at_call 10; refine (tty_any Ad N c nx s g0 ts pid g wr _).mono ?_; rintro e x1 ⟨rfl, F1⟩; (try dsimp only); refine hK.out _ _ ((Ext.refl W3).drew.trans F1) (fun hHeld => ?_); clear hK K; (try simp only [Act.put]); (try simp only [List.getElem_toArray]); (try simp only [List.getElem_cons_succ]); (try simp only [List.getElem_cons_zero]); (try simp only [List.setIfInBounds_toArray]); (try simp only [List.set_cons_succ]); (try simp only [List.set_cons_zero]))
  have EF1 := (Ext.refl W3).drew.trans F1
  (refine wpAnyH_ready (rs := [7]) (by kernel_rfl) (by simp) ?_; refine AllReadyH.cons rfl (fun K hK => ?_) AllReadyH.nil; go_simp; go_at_call 9; refine (HACC.out _ (R3.out.ext EF1)).mono ?_; rintro e w4 ⟨rfl, F2⟩; (try dsimp only); refine hK.out _ _ (EF1.trans F2) (fun hHeld => ?_); clear hK K; (try simp only [Act.put]); (try simp only [List.getElem_toArray]); (try simp only [List.getElem_cons_succ]); (try simp only [List.getElem_cons_zero]); (try simp only [List.setIfInBounds_toArray]); (try simp only [List.set_cons_succ]); (try simp only [List.set_cons_zero]))
  have E34 := EF1.trans F2
  (refine wpAnyH_take (i := 8) (v := ?_) rfl (by kernel_rfl) (by kernel_rfl) (by kernel_rfl) (fun _ _ _ h => h) (Or.inl ⟨by rfl, ?_⟩) (by assumption) ?_; rotate_left; (focus (intro w' hSw; go_simp; try with_reducible rfl)); (try simp only [List.getElem_toArray]); (try simp only [List.getElem_cons_succ]); (try simp only [List.getElem_cons_zero]); (try simp only [Act.put]); (try simp only [List.setIfInBounds_toArray]); (try simp only [List.set_cons_succ]); (try simp only [List.set_cons_zero]))
  (refine wpAnyH_take (i := 9) (v := ?_) rfl (by kernel_rfl) (by kernel_rfl) (by kernel_rfl) (fun _ _ _ h => h) (Or.inl ⟨by rfl, ?_⟩) (by assumption) ?_; rotate_left; (focus (intro w' hSw; go_simp; try with_reducible rfl)); (try simp only [List.getElem_toArray]); (try simp only [List.getElem_cons_succ]); (try simp only [List.getElem_cons_zero]); (try simp only [Act.put]); (try simp only [List.setIfInBounds_toArray]); (try simp only [List.set_cons_succ]); (try simp only [List.set_cons_zero]))
  (refine wpAnyH_take (i := 10) (v := ?_) rfl (by kernel_rfl) (by kernel_rfl) (by kernel_rfl) (fun _ _ _ h => h) (Or.inl ⟨by rfl, ?_⟩) (by assumption) ?_; rotate_left; (focus (intro w' hSw; go_simp; try with_reducible rfl)); (try simp only [List.getElem_toArray]); (try simp only [List.getElem_cons_succ]); (try simp only [List.getElem_cons_zero]); (try simp only [Act.put]); (try simp only [List.setIfInBounds_toArray]); (try simp only [List.set_cons_succ]); (try simp only [List.set_cons_zero]))
  (refine wpAnyH_take (i := 11) (v := ?_) rfl (by kernel_rfl) (by kernel_rfl) (by kernel_rfl) (fun _ _ _ h => h) (Or.inl ⟨by rfl, ?_⟩) (by assumption) ?_; rotate_left; (focus (intro w' hSw; go_simp; try with_reducible rfl)); (try simp only [List.getElem_toArray]); (try simp only [List.getElem_cons_succ]); (try simp only [List.getElem_cons_zero]); (try simp only [Act.put]); (try simp only [List.setIfInBounds_toArray]); (try simp only [List.set_cons_succ]); (try simp only [List.set_cons_zero]))
  (refine wpAnyH_take (i := 12) (v := ?_) rfl (by kernel_rfl) (by kernel_rfl) (by kernel_rfl) (fun _ _ _ h => h) (Or.inl ⟨by rfl, ?_⟩) (by assumption) ?_; rotate_left; (focus (intro w' hSw; go_simp; try with_reducible rfl)); (try simp only [List.getElem_toArray]); (try simp only [List.getElem_cons_succ]); (try simp only [List.getElem_cons_zero]); (try simp only [Act.put]); (try simp only [List.setIfInBounds_toArray]); (try simp only [List.set_cons_succ]); (try simp only [List.set_cons_zero]))
  refine wpAnyH_done (by kernel_rfl) ?_ _
  have E04 := E03.trans E34
  have B := Lib.hid (B.out.ext E34)
  have T := Lib.hid (T.out.ext E34)
  have R4 := Lib.hid (R3.out.ext E34)
  have H := Lib.hid (H.out.ext E34)
  clear EF1 E34 E03 R3 F1 F2 HACC
  obtain ⟨W4, hW4⟩ : ∃ W4, W4 = w4 := ⟨_, rfl⟩
  subst hW4
  go_wp2
  refine wp_region_held_drew (S := fun w' => Ext W4 w') (by kernel_rfl) (Ext.drew (Ext.refl _)) (fun hHeld => ?_)
  (refine wpAnyH_take (i := 0) (v := .agg #[.slice Ad N c, .int .i64 nx, .int .i64 s, .int .i64 g0, .bool ts, .int .i64 pid, .int .i64 g, .bool wr]) rfl (by kernel_rfl) (by kernel_rfl) (by kernel_rfl) (fun _ _ _ h => h) (yieldsIf_load_mid (by rfl) 24 _ rfl _ _ rfl (#[.slice Ad N c, .int .i64 nx, .int .i64 s, .int .i64 g0, .bool ts, .int .i64 pid, .int .i64 g, .bool wr]).toList _ (fun w' hSw => (fun i u hu => by rw [(Blk.ext B.out hSw).cell, Nat.zero_add, ← Array.getElem?_toList]; exact hu)) Try.underlying24 rfl i24) (by assumption) ?_; (try simp only [List.getElem_toArray]); (try simp only [List.getElem_cons_succ]); (try simp only [List.getElem_cons_zero]); (try simp only [Act.put]); (try simp only [List.setIfInBounds_toArray]); (try simp only [List.set_cons_succ]); (try simp only [List.set_cons_zero]))
  (refine wpAnyH_take (i := 2) (v := .agg #[.slice Ad N c, .int .i64 nx, .int .i64 s, .int .i64 g0, .bool ts, .int .i64 pid, .int .i64 g, .bool wr]) rfl (by kernel_rfl) (by kernel_rfl) (by kernel_rfl) (fun _ _ _ h => h) (yieldsIf_load_mid (by rfl) 24 _ rfl _ _ rfl (#[.slice Ad N c, .int .i64 nx, .int .i64 s, .int .i64 g0, .bool ts, .int .i64 pid, .int .i64 g, .bool wr]).toList _ (fun w' hSw => (fun i u hu => by rw [(Blk.ext B.out hSw).cell, Nat.zero_add, ← Array.getElem?_toList]; exact hu)) Try.underlying24 rfl i24) (by assumption) ?_; (try simp only [List.getElem_toArray]); (try simp only [List.getElem_cons_succ]); (try simp only [List.getElem_cons_zero]); (try simp only [Act.put]); (try simp only [List.setIfInBounds_toArray]); (try simp only [List.set_cons_succ]); (try simp only [List.set_cons_zero]))
  (refine wpAnyH_take (i := 4) (v := ?_) rfl (by kernel_rfl) (by kernel_rfl) (by kernel_rfl) (fun _ _ _ h => h) (Or.inl ⟨by rfl, ?_⟩) (by assumption) ?_; rotate_left; (focus (intro w' hSw; go_simp; try with_reducible rfl)); (try simp only [List.getElem_toArray]); (try simp only [List.getElem_cons_succ]); (try simp only [List.getElem_cons_zero]); (try simp only [Act.put]); (try simp only [List.setIfInBounds_toArray]); (try simp only [List.set_cons_succ]); (try simp only [List.set_cons_zero]))
  (refine wpAnyH_take (i := 5) (v := ?_) rfl (by kernel_rfl) (by kernel_rfl) (by kernel_rfl) (fun _ _ _ h => h) (Or.inl ⟨by rfl, ?_⟩) (by assumption) ?_; rotate_left; (focus (intro w' hSw; have kc := (B.out.ext hSw).cell 5; go_simp; try with_reducible rfl)); (try simp only [List.getElem_toArray]); (try simp only [List.getElem_cons_succ]); (try simp only [List.getElem_cons_zero]); (try simp only [Act.put]); (try simp only [List.setIfInBounds_toArray]); (try simp only [List.set_cons_succ]); (try simp only [List.set_cons_zero]))
  (refine wpAnyH_take (i := 6) (v := ?_) rfl (by kernel_rfl) (by kernel_rfl) (by kernel_rfl) (fun _ _ _ h => h) (Or.inl ⟨by rfl, ?_⟩) (by assumption) ?_; rotate_left; (focus (intro w' hSw; go_simp; try with_reducible rfl)); (try simp only [List.getElem_toArray]); (try simp only [List.getElem_cons_succ]); (try simp only [List.getElem_cons_zero]); (try simp only [Act.put]); (try simp only [List.setIfInBounds_toArray]); (try simp only [List.set_cons_succ]); (try simp only [List.set_cons_zero]))
  (refine wpAnyH_take (i := 7) (v := ?_) rfl (by kernel_rfl) (by kernel_rfl) (by kernel_rfl) (fun _ _ _ h => h) (Or.inl ⟨by rfl, ?_⟩) (by assumption) ?_; rotate_left; (focus (intro w' hSw; have kc := (B.out.ext hSw).cell 7; go_simp; try with_reducible rfl)); (try simp only [List.getElem_toArray]); (try simp only [List.getElem_cons_succ]); (try simp only [List.getElem_cons_zero]); (try simp only [Act.put]); (try simp only [List.setIfInBounds_toArray]); (try simp only [List.set_cons_succ]); (try simp only [List.set_cons_zero]))
  (refine wpAnyH_ready (rs := [1]) (by kernel_rfl) (by simp) ?_; refine AllReadyH.cons rfl (fun K hK => ?_) AllReadyH.nil; go_simp; go_at_call 17; refine (HREF.out _ (H.out.ext (Ext.refl W4).drew)).mono ?_; rintro e x1 ⟨A5, c5, rfl, O5, F1⟩; (try dsimp only); refine hK.out _ _ ((Ext.refl W4).drew.trans F1) (fun hHeld => ?_); clear hK K; (try simp only [Act.put]); (try simp only [List.getElem_toArray]); (try simp only [List.getElem_cons_succ]); (try simp only [List.getElem_cons_zero]); (try simp only [List.setIfInBounds_toArray]); (try simp only [List.set_cons_succ]); (try simp only [List.set_cons_zero]))
  have EF1 := (Ext.refl W4).drew.trans F1
  (refine wpAnyH_ready (rs := [3]) (by kernel_rfl) (by simp) ?_; refine AllReadyH.cons rfl (fun K hK => ?_) AllReadyH.nil; go_simp; go_at_call 10; refine (tty_any Ad N c nx s g0 ts pid g wr _).mono ?_; rintro e x2 ⟨rfl, F2⟩; (try dsimp only); refine hK.out _ _ (EF1.trans F2) (fun hHeld => ?_); clear hK K; (try simp only [Act.put]); (try simp only [List.getElem_toArray]); (try simp only [List.getElem_cons_succ]); (try simp only [List.getElem_cons_zero]); (try simp only [List.setIfInBounds_toArray]); (try simp only [List.set_cons_succ]); (try simp only [List.set_cons_zero]))
  have EF2 := EF1.trans F2
  (refine wpAnyH_ready (rs := [8]) (by kernel_rfl) (by simp) ?_; refine AllReadyH.cons rfl (fun K hK => ?_) AllReadyH.nil; go_simp; go_at_call 16; refine (HRACC.out A5 c5 _ (rdy_pr (O5.ext F2).y)).mono ?_; rintro e w5 ⟨rfl, F3⟩; (try dsimp only); refine hK.out _ _ (EF2.trans F3) (fun hHeld => ?_); clear hK K; (try simp only [Act.put]); (try simp only [List.getElem_toArray]); (try simp only [List.getElem_cons_succ]); (try simp only [List.getElem_cons_zero]); (try simp only [List.setIfInBounds_toArray]); (try simp only [List.set_cons_succ]); (try simp only [List.set_cons_zero]))
  have E45 := EF2.trans F3
  (refine wpAnyH_take (i := 9) (v := ?_) rfl (by kernel_rfl) (by kernel_rfl) (by kernel_rfl) (fun _ _ _ h => h) (Or.inl ⟨by rfl, ?_⟩) (by assumption) ?_; rotate_left; (focus (intro w' hSw; go_simp; try with_reducible rfl)); (try simp only [List.getElem_toArray]); (try simp only [List.getElem_cons_succ]); (try simp only [List.getElem_cons_zero]); (try simp only [Act.put]); (try simp only [List.setIfInBounds_toArray]); (try simp only [List.set_cons_succ]); (try simp only [List.set_cons_zero]))
  (refine wpAnyH_take (i := 10) (v := ?_) rfl (by kernel_rfl) (by kernel_rfl) (by kernel_rfl) (fun _ _ _ h => h) (Or.inl ⟨by rfl, ?_⟩) (by assumption) ?_; rotate_left; (focus (intro w' hSw; go_simp; try with_reducible rfl)); (try simp only [List.getElem_toArray]); (try simp only [List.getElem_cons_succ]); (try simp only [List.getElem_cons_zero]); (try simp only [Act.put]); (try simp only [List.setIfInBounds_toArray]); (try simp only [List.set_cons_succ]); (try simp only [List.set_cons_zero]))
  (refine wpAnyH_take (i := 11) (v := ?_) rfl (by kernel_rfl) (by kernel_rfl) (by kernel_rfl) (fun _ _ _ h => h) (Or.inl ⟨by rfl, ?_⟩) (by assumption) ?_; rotate_left; (focus (intro w' hSw; go_simp; try with_reducible rfl)); (try simp only [List.getElem_toArray]); (try simp only [List.getElem_cons_succ]); (try simp only [List.getElem_cons_zero]); (try simp only [Act.put]); (try simp only [List.setIfInBounds_toArray]); (try simp only [List.set_cons_succ]); (try simp only [List.set_cons_zero]))
  (refine wpAnyH_take (i := 12) (v := ?_) rfl (by kernel_rfl) (by kernel_rfl) (by kernel_rfl) (fun _ _ _ h => h) (Or.inl ⟨by rfl, ?_⟩) (by assumption) ?_; rotate_left; (focus (intro w' hSw; go_simp; try with_reducible rfl)); (try simp only [List.getElem_toArray]); (try simp only [List.getElem_cons_succ]); (try simp only [List.getElem_cons_zero]); (try simp only [Act.put]); (try simp only [List.setIfInBounds_toArray]); (try simp only [List.set_cons_succ]); (try simp only [List.set_cons_zero]))
  (refine wpAnyH_take (i := 13) (v := ?_) rfl (by kernel_rfl) (by kernel_rfl) (by kernel_rfl) (fun _ _ _ h => h) (Or.inl ⟨by rfl, ?_⟩) (by assumption) ?_; rotate_left; (focus (intro w' hSw; go_simp; try with_reducible rfl)); (try simp only [List.getElem_toArray]); (try simp only [List.getElem_cons_succ]); (try simp only [List.getElem_cons_zero]); (try simp only [Act.put]); (try simp only [List.setIfInBounds_toArray]); (try simp only [List.set_cons_succ]); (try simp only [List.set_cons_zero]))
  refine wpAnyH_done (by kernel_rfl) ?_ _
  have E05 := E04.trans E45
  have B := Lib.hid (B.out.ext E45)
  have T := Lib.hid (T.out.ext E45)
  have R5 := Lib.hid (R4.out.ext E45)
  have H := Lib.hid (H.out.ext E45)
  clear EF1 EF2 E45 E04 R4 F1 F2 F3 O5 HRACC
  obtain ⟨W5, hW5⟩ : ∃ W5, W5 = w5 := ⟨_, rfl⟩
  subst hW5
  go_wp2
  go_cut [8, 9] (fun s8 s9 wx => ∃ n6 A' c', s8 = .pointer (some ⟨n6, 0, none⟩) ∧ s9 = .int .i64 v ∧ Hid (Blk wx n6 28 #[.slice A' N c', .int .i64 nx]) ∧ Hid (RdY Rp (fun _ => False) wx (.slice A' N c') (askT l nx s g0 ts pid wr)) ∧ Ext W5 wx)
  case first =>
    refine wp_region_held_drew (S := fun w' => Ext W5 w') (by kernel_rfl) (Ext.drew (Ext.refl _)) (fun hHeld => ?_)
    (refine wpAnyH_take (i := 0) (v := ?_) rfl (by kernel_rfl) (by kernel_rfl) (by kernel_rfl) (fun _ _ _ h => h) (Or.inl ⟨by rfl, ?_⟩) (by assumption) ?_; rotate_left; (focus (intro w' hSw; have kc := (T.out.ext hSw).two; go_simp; try with_reducible rfl)); (try simp only [List.getElem_toArray]); (try simp only [List.getElem_cons_succ]); (try simp only [List.getElem_cons_zero]); (try simp only [Act.put]); (try simp only [List.setIfInBounds_toArray]); (try simp only [List.set_cons_succ]); (try simp only [List.set_cons_zero]))
    (refine wpAnyH_take (i := 1) (v := .agg #[.slice Ad N c, .int .i64 nx, .int .i64 s, .int .i64 g0, .bool ts, .int .i64 pid, .int .i64 g, .bool wr]) rfl (by kernel_rfl) (by kernel_rfl) (by kernel_rfl) (fun _ _ _ h => h) (yieldsIf_load_mid (by rfl) 24 _ rfl _ _ rfl (#[.slice Ad N c, .int .i64 nx, .int .i64 s, .int .i64 g0, .bool ts, .int .i64 pid, .int .i64 g, .bool wr]).toList _ (fun w' hSw => (fun i u hu => by rw [(Blk.ext B.out hSw).cell, Nat.zero_add, ← Array.getElem?_toList]; exact hu)) Try.underlying24 rfl i24) (by assumption) ?_; (try simp only [List.getElem_toArray]); (try simp only [List.getElem_cons_succ]); (try simp only [List.getElem_cons_zero]); (try simp only [Act.put]); (try simp only [List.setIfInBounds_toArray]); (try simp only [List.set_cons_succ]); (try simp only [List.set_cons_zero]))
    (refine wpAnyH_take (i := 3) (v := ?_) rfl (by kernel_rfl) (by kernel_rfl) (by kernel_rfl) (fun _ _ _ h => h) (Or.inl ⟨by rfl, ?_⟩) (by assumption) ?_; rotate_left; (focus (intro w' hSw; go_simp; try with_reducible rfl)); (try simp only [List.getElem_toArray]); (try simp only [List.getElem_cons_succ]); (try simp only [List.getElem_cons_zero]); (try simp only [Act.put]); (try simp only [List.setIfInBounds_toArray]); (try simp only [List.set_cons_succ]); (try simp only [List.set_cons_zero]))
    (refine wpAnyH_take (i := 4) (v := ?_) rfl (by kernel_rfl) (by kernel_rfl) (by kernel_rfl) (fun _ _ _ h => h) (Or.inl ⟨by rfl, ?_⟩) (by assumption) ?_; rotate_left; (focus (intro w' hSw; have kc := (B.out.ext hSw).cell 5; go_simp; try with_reducible rfl)); (try simp only [List.getElem_toArray]); (try simp only [List.getElem_cons_succ]); (try simp only [List.getElem_cons_zero]); (try simp only [Act.put]); (try simp only [List.setIfInBounds_toArray]); (try simp only [List.set_cons_succ]); (try simp only [List.set_cons_zero]))
    (refine wpAnyH_take (i := 5) (v := ?_) rfl (by kernel_rfl) (by kernel_rfl) (by kernel_rfl) (fun _ _ _ h => h) (Or.inl ⟨by rfl, ?_⟩) (by assumption) ?_; rotate_left; (focus (intro w' hSw; go_simp; try with_reducible rfl)); (try simp only [List.getElem_toArray]); (try simp only [List.getElem_cons_succ]); (try simp only [List.getElem_cons_zero]); (try simp only [Act.put]); (try simp only [List.setIfInBounds_toArray]); (try simp only [List.set_cons_succ]); (try simp only [List.set_cons_zero]))
    (refine wpAnyH_take (i := 6) (v := ?_) rfl (by kernel_rfl) (by kernel_rfl) (by kernel_rfl) (fun _ _ _ h => h) (Or.inl ⟨by rfl, ?_⟩) (by assumption) ?_; rotate_left; (focus (intro w' hSw; have kc := (B.out.ext hSw).cell 7; go_simp; try with_reducible rfl)); (try simp only [List.getElem_toArray]); (try simp only [List.getElem_cons_succ]); (try simp only [List.getElem_cons_zero]); (try simp only [Act.put]); (try simp only [List.setIfInBounds_toArray]); (try simp only [List.set_cons_succ]); (try simp only [List.set_cons_zero]))
    have EH : Ext W5 W5.drew := Ext.drew (Ext.refl _)
    have HX := Lib.hid (R5.out.ext EH)
    clear hHeld
    generalize W5.drew = w19 at *
    refine wpAnyH_ready (rs := [2, 11]) (by kernel_rfl) (by simp) ?_
    refine (AllReadyH.cons rfl (fun K hK => ?_) (AllReadyH.cons rfl (fun K hK => ?_) AllReadyH.nil))
    ·
      go_simp
      go_at_call 10
      refine (tty_any Ad N c nx s g0 ts pid g wr _).mono ?_
      rintro e w20 ⟨rfl, E3⟩
      (try dsimp only)
      refine hK.out _ _ (EH.trans E3) (fun hHeld => ?_)
      clear hK K hHeld
      (try simp only [List.getElem_toArray]); (try simp only [List.getElem_cons_succ]); (try simp only [List.getElem_cons_zero]); (try simp only [Act.put]); (try simp only [List.setIfInBounds_toArray]); (try simp only [List.set_cons_succ]); (try simp only [List.set_cons_zero])
      have HX := Lib.hid (HX.out.ext E3)
      have EH := EH.trans E3
      clear E3
      refine wpAnyH_ready (rs := [7, 11]) (by kernel_rfl) (by simp) ?_
      refine (AllReadyH.cons rfl (fun K hK => ?_) (AllReadyH.cons rfl (fun K hK => ?_) AllReadyH.nil))
      ·
        go_simp
        go_at_call 18
        refine (HASK.out w20 HX.out).mono ?_
        rintro e w21 ⟨A', c', rfl, T7, E3⟩
        (try dsimp only)
        refine hK.out _ _ (EH.trans E3) (fun hHeld => ?_)
        clear hK K hHeld
        (try simp only [List.getElem_toArray]); (try simp only [List.getElem_cons_succ]); (try simp only [List.getElem_cons_zero]); (try simp only [Act.put]); (try simp only [List.setIfInBounds_toArray]); (try simp only [List.set_cons_succ]); (try simp only [List.set_cons_zero])
        have HX := Lib.hid (HX.out.ext E3)
        have T7 := Lib.hid (T7.lower (Nat.zero_le _))
        have EH := EH.trans E3
        clear E3
        have hHeld : Ext W5 w21 := EH
        (refine wpAnyH_take (i := 8) (v := ?_) rfl (by kernel_rfl) (by kernel_rfl) (by kernel_rfl) (fun _ _ _ h => h) (Or.inl ⟨by rfl, ?_⟩) (by assumption) ?_; rotate_left; (focus (intro w' hSw; go_simp; try with_reducible rfl)); (try simp only [List.getElem_toArray]); (try simp only [List.getElem_cons_succ]); (try simp only [List.getElem_cons_zero]); (try simp only [Act.put]); (try simp only [List.setIfInBounds_toArray]); (try simp only [List.set_cons_succ]); (try simp only [List.set_cons_zero]))
        (refine wpAnyH_take (i := 9) (v := ?_) rfl (by kernel_rfl) (by kernel_rfl) (by kernel_rfl) (fun _ _ _ h => h) (Or.inl ⟨by rfl, ?_⟩) (by assumption) ?_; rotate_left; (focus (intro w' hSw; go_simp; try with_reducible rfl)); (try simp only [List.getElem_toArray]); (try simp only [List.getElem_cons_succ]); (try simp only [List.getElem_cons_zero]); (try simp only [Act.put]); (try simp only [List.setIfInBounds_toArray]); (try simp only [List.set_cons_succ]); (try simp only [List.set_cons_zero]))
        (refine wpAnyH_take (i := 10) (v := ?_) rfl (by kernel_rfl) (by kernel_rfl) (by kernel_rfl) (fun _ _ _ h => h) (Or.inl ⟨by rfl, ?_⟩) (by assumption) ?_; rotate_left; (focus (intro w' hSw; go_simp; try with_reducible rfl)); (try simp only [List.getElem_toArray]); (try simp only [List.getElem_cons_succ]); (try simp only [List.getElem_cons_zero]); (try simp only [Act.put]); (try simp only [List.setIfInBounds_toArray]); (try simp only [List.set_cons_succ]); (try simp only [List.set_cons_zero]))
        clear hHeld
        refine wpAnyH_ready (rs := [11]) (by kernel_rfl) (by simp) ?_
        refine (AllReadyH.cons rfl (fun K hK => ?_) AllReadyH.nil)
        go_simp
        refine hK.out _ _ (EH.alloc _) (fun hHeld => ?_)
        clear hK K hHeld
        (try simp only [List.getElem_toArray]); (try simp only [List.getElem_cons_succ]); (try simp only [List.getElem_cons_zero]); (try simp only [Act.put]); (try simp only [List.setIfInBounds_toArray]); (try simp only [List.set_cons_succ]); (try simp only [List.set_cons_zero])
        have HX := Lib.hid (HX.out.ext ((Ext.refl _).alloc (.cells #[.slice none 0 0, .int .i64 0] 28)))
        have T7 := Lib.hid (T7.out.ext ((Ext.refl _).alloc (.cells #[.slice none 0 0, .int .i64 0] 28)))
        have B6 := Lib.hid (Blk.new w21 28 #[.slice none 0 0, .int .i64 0])
        obtain ⟨n6, hn6⟩ : ∃ n6, w21.heap.size = n6 := ⟨_, rfl⟩
        have hn6W : W5.heap.size ≤ n6 := by rw [← hn6]; exact EH.size
        have EH := EH.alloc (.cells #[.slice none 0 0, .int .i64 0] 28)
        rw [hn6] at B6 ⊢
        clear hn6
        generalize w21.alloc _ = w22 at *
        have LB6 := B6.out.lt
        have hHeld : Ext W5 w22 := EH
        have k6 := B6.out.two
        have D6 := Lib.hid (B6.out.put2 (.slice A' N c') (.int .i64 nx))
        have M6 : Mod (fun k => k = n6) w22 _ := ((Mod.refl _ w22).set1 (.slice A' N c') (o := 0)).set1 (.int .i64 nx) (o := 1)
        have T8 := T7.out.mod M6 B6.out (by decide)
        have EH7 := (EH.setNew (p := ⟨n6, 0, none⟩) hn6W (.slice A' N c')).setNew (p := ⟨n6, 1, none⟩) hn6W (.int .i64 nx)
        have HR := Lib.hid (show RdY Rp (fun _ => False) _ (.slice A' N c') (askT l nx s g0 ts pid wr) by rw [← HN.out]; exact T8.y (A := fun _ => False) (by rw [HN.out]; exact R5.out) EH7)
        (refine wpAnyH_ready (rs := [12]) (by kernel_rfl) (by simp) ?_; refine AllReadyH.cons rfl (fun K hK => ?_) AllReadyH.nil; go_simp; refine hK.out _ _ EH7 (fun hHeld => ?_); clear hK K; (try simp only [Act.put]); (try simp only [List.getElem_toArray]); (try simp only [List.getElem_cons_succ]); (try simp only [List.getElem_cons_zero]); (try simp only [List.setIfInBounds_toArray]); (try simp only [List.set_cons_succ]); (try simp only [List.set_cons_zero]))
        (refine wpAnyH_take (i := 13) (v := ?_) rfl (by kernel_rfl) (by kernel_rfl) (by kernel_rfl) (fun _ _ _ h => h) (Or.inl ⟨by rfl, ?_⟩) (by assumption) ?_; rotate_left; (focus (intro w' hSw; go_simp; try with_reducible rfl)); (try simp only [List.getElem_toArray]); (try simp only [List.getElem_cons_succ]); (try simp only [List.getElem_cons_zero]); (try simp only [Act.put]); (try simp only [List.setIfInBounds_toArray]); (try simp only [List.set_cons_succ]); (try simp only [List.set_cons_zero]))
        refine wpAnyH_done (by kernel_rfl) ?_ _
        go_wp2_with fail
        go_meet
        exact ⟨n6, A', c', rfl, rfl, D6, HR, hHeld⟩
      ·
        go_simp
        refine hK.out _ _ (EH.alloc _) (fun hHeld => ?_)
        clear hK K hHeld
        (try simp only [List.getElem_toArray]); (try simp only [List.getElem_cons_succ]); (try simp only [List.getElem_cons_zero]); (try simp only [Act.put]); (try simp only [List.setIfInBounds_toArray]); (try simp only [List.set_cons_succ]); (try simp only [List.set_cons_zero])
        have HX := Lib.hid (HX.out.ext ((Ext.refl _).alloc (.cells #[.slice none 0 0, .int .i64 0] 28)))
        have B6 := Lib.hid (Blk.new w20 28 #[.slice none 0 0, .int .i64 0])
        obtain ⟨n6, hn6⟩ : ∃ n6, w20.heap.size = n6 := ⟨_, rfl⟩
        have hn6W : W5.heap.size ≤ n6 := by rw [← hn6]; exact EH.size
        have EH := EH.alloc (.cells #[.slice none 0 0, .int .i64 0] 28)
        rw [hn6] at B6 ⊢
        clear hn6
        generalize w20.alloc _ = w21 at *
        have LB6 := B6.out.lt
        refine wpAnyH_ready (rs := [7]) (by kernel_rfl) (by simp) ?_
        refine (AllReadyH.cons rfl (fun K hK => ?_) AllReadyH.nil)
        go_simp
        go_at_call 18
        refine (HASK.out w21 HX.out).mono ?_
        rintro e w22 ⟨A', c', rfl, T7, E3⟩
        (try dsimp only)
        refine hK.out _ _ (EH.trans E3) (fun hHeld => ?_)
        clear hK K hHeld
        (try simp only [List.getElem_toArray]); (try simp only [List.getElem_cons_succ]); (try simp only [List.getElem_cons_zero]); (try simp only [Act.put]); (try simp only [List.setIfInBounds_toArray]); (try simp only [List.set_cons_succ]); (try simp only [List.set_cons_zero])
        have HX := Lib.hid (HX.out.ext E3)
        have B6 := Lib.hid (B6.out.ext E3)
        have T7 := Lib.hid (T7.lower (Nat.zero_le _))
        have EH := EH.trans E3
        have LB6 := B6.out.lt
        clear E3
        have hHeld : Ext W5 w22 := EH
        (refine wpAnyH_take (i := 8) (v := ?_) rfl (by kernel_rfl) (by kernel_rfl) (by kernel_rfl) (fun _ _ _ h => h) (Or.inl ⟨by rfl, ?_⟩) (by assumption) ?_; rotate_left; (focus (intro w' hSw; go_simp; try with_reducible rfl)); (try simp only [List.getElem_toArray]); (try simp only [List.getElem_cons_succ]); (try simp only [List.getElem_cons_zero]); (try simp only [Act.put]); (try simp only [List.setIfInBounds_toArray]); (try simp only [List.set_cons_succ]); (try simp only [List.set_cons_zero]))
        (refine wpAnyH_take (i := 9) (v := ?_) rfl (by kernel_rfl) (by kernel_rfl) (by kernel_rfl) (fun _ _ _ h => h) (Or.inl ⟨by rfl, ?_⟩) (by assumption) ?_; rotate_left; (focus (intro w' hSw; go_simp; try with_reducible rfl)); (try simp only [List.getElem_toArray]); (try simp only [List.getElem_cons_succ]); (try simp only [List.getElem_cons_zero]); (try simp only [Act.put]); (try simp only [List.setIfInBounds_toArray]); (try simp only [List.set_cons_succ]); (try simp only [List.set_cons_zero]))
        (refine wpAnyH_take (i := 10) (v := ?_) rfl (by kernel_rfl) (by kernel_rfl) (by kernel_rfl) (fun _ _ _ h => h) (Or.inl ⟨by rfl, ?_⟩) (by assumption) ?_; rotate_left; (focus (intro w' hSw; go_simp; try with_reducible rfl)); (try simp only [List.getElem_toArray]); (try simp only [List.getElem_cons_succ]); (try simp only [List.getElem_cons_zero]); (try simp only [Act.put]); (try simp only [List.setIfInBounds_toArray]); (try simp only [List.set_cons_succ]); (try simp only [List.set_cons_zero]))
        clear hHeld
        have hHeld : Ext W5 w22 := EH
        have k6 := B6.out.two
        have D6 := Lib.hid (B6.out.put2 (.slice A' N c') (.int .i64 nx))
        have M6 : Mod (fun k => k = n6) w22 _ := ((Mod.refl _ w22).set1 (.slice A' N c') (o := 0)).set1 (.int .i64 nx) (o := 1)
        have T8 := T7.out.mod M6 B6.out (by decide)
        have EH7 := (EH.setNew (p := ⟨n6, 0, none⟩) hn6W (.slice A' N c')).setNew (p := ⟨n6, 1, none⟩) hn6W (.int .i64 nx)
        have HR := Lib.hid (show RdY Rp (fun _ => False) _ (.slice A' N c') (askT l nx s g0 ts pid wr) by rw [← HN.out]; exact T8.y (A := fun _ => False) (by rw [HN.out]; exact R5.out) EH7)
        (refine wpAnyH_ready (rs := [12]) (by kernel_rfl) (by simp) ?_; refine AllReadyH.cons rfl (fun K hK => ?_) AllReadyH.nil; go_simp; refine hK.out _ _ EH7 (fun hHeld => ?_); clear hK K; (try simp only [Act.put]); (try simp only [List.getElem_toArray]); (try simp only [List.getElem_cons_succ]); (try simp only [List.getElem_cons_zero]); (try simp only [List.setIfInBounds_toArray]); (try simp only [List.set_cons_succ]); (try simp only [List.set_cons_zero]))
        (refine wpAnyH_take (i := 13) (v := ?_) rfl (by kernel_rfl) (by kernel_rfl) (by kernel_rfl) (fun _ _ _ h => h) (Or.inl ⟨by rfl, ?_⟩) (by assumption) ?_; rotate_left; (focus (intro w' hSw; go_simp; try with_reducible rfl)); (try simp only [List.getElem_toArray]); (try simp only [List.getElem_cons_succ]); (try simp only [List.getElem_cons_zero]); (try simp only [Act.put]); (try simp only [List.setIfInBounds_toArray]); (try simp only [List.set_cons_succ]); (try simp only [List.set_cons_zero]))
        refine wpAnyH_done (by kernel_rfl) ?_ _
        go_wp2_with fail
        go_meet
        exact ⟨n6, A', c', rfl, rfl, D6, HR, hHeld⟩
    ·
      go_simp
      refine hK.out _ _ (EH.alloc _) (fun hHeld => ?_)
      clear hK K hHeld
      (try simp only [List.getElem_toArray]); (try simp only [List.getElem_cons_succ]); (try simp only [List.getElem_cons_zero]); (try simp only [Act.put]); (try simp only [List.setIfInBounds_toArray]); (try simp only [List.set_cons_succ]); (try simp only [List.set_cons_zero])
      have HX := Lib.hid (HX.out.ext ((Ext.refl _).alloc (.cells #[.slice none 0 0, .int .i64 0] 28)))
      have B6 := Lib.hid (Blk.new w19 28 #[.slice none 0 0, .int .i64 0])
      obtain ⟨n6, hn6⟩ : ∃ n6, w19.heap.size = n6 := ⟨_, rfl⟩
      have hn6W : W5.heap.size ≤ n6 := by rw [← hn6]; exact EH.size
      have EH := EH.alloc (.cells #[.slice none 0 0, .int .i64 0] 28)
      rw [hn6] at B6 ⊢
      clear hn6
      generalize w19.alloc _ = w20 at *
      have LB6 := B6.out.lt
      refine wpAnyH_ready (rs := [2]) (by kernel_rfl) (by simp) ?_
      refine (AllReadyH.cons rfl (fun K hK => ?_) AllReadyH.nil)
      go_simp
      go_at_call 10
      refine (tty_any Ad N c nx s g0 ts pid g wr _).mono ?_
      rintro e w21 ⟨rfl, E3⟩
      (try dsimp only)
      refine hK.out _ _ (EH.trans E3) (fun hHeld => ?_)
      clear hK K hHeld
      (try simp only [List.getElem_toArray]); (try simp only [List.getElem_cons_succ]); (try simp only [List.getElem_cons_zero]); (try simp only [Act.put]); (try simp only [List.setIfInBounds_toArray]); (try simp only [List.set_cons_succ]); (try simp only [List.set_cons_zero])
      have HX := Lib.hid (HX.out.ext E3)
      have B6 := Lib.hid (B6.out.ext E3)
      have EH := EH.trans E3
      have LB6 := B6.out.lt
      clear E3
      refine wpAnyH_ready (rs := [7]) (by kernel_rfl) (by simp) ?_
      refine (AllReadyH.cons rfl (fun K hK => ?_) AllReadyH.nil)
      go_simp
      go_at_call 18
      refine (HASK.out w21 HX.out).mono ?_
      rintro e w22 ⟨A', c', rfl, T7, E3⟩
      (try dsimp only)
      refine hK.out _ _ (EH.trans E3) (fun hHeld => ?_)
      clear hK K hHeld
      (try simp only [List.getElem_toArray]); (try simp only [List.getElem_cons_succ]); (try simp only [List.getElem_cons_zero]); (try simp only [Act.put]); (try simp only [List.setIfInBounds_toArray]); (try simp only [List.set_cons_succ]); (try simp only [List.set_cons_zero])
      have HX := Lib.hid (HX.out.ext E3)
      have B6 := Lib.hid (B6.out.ext E3)
      have T7 := Lib.hid (T7.lower (Nat.zero_le _))
      have EH := EH.trans E3
      have LB6 := B6.out.lt
      clear E3
      have hHeld : Ext W5 w22 := EH
      (refine wpAnyH_take (i := 8) (v := ?_) rfl (by kernel_rfl) (by kernel_rfl) (by kernel_rfl) (fun _ _ _ h => h) (Or.inl ⟨by rfl, ?_⟩) (by assumption) ?_; rotate_left; (focus (intro w' hSw; go_simp; try with_reducible rfl)); (try simp only [List.getElem_toArray]); (try simp only [List.getElem_cons_succ]); (try simp only [List.getElem_cons_zero]); (try simp only [Act.put]); (try simp only [List.setIfInBounds_toArray]); (try simp only [List.set_cons_succ]); (try simp only [List.set_cons_zero]))
      (refine wpAnyH_take (i := 9) (v := ?_) rfl (by kernel_rfl) (by kernel_rfl) (by kernel_rfl) (fun _ _ _ h => h) (Or.inl ⟨by rfl, ?_⟩) (by assumption) ?_; rotate_left; (focus (intro w' hSw; go_simp; try with_reducible rfl)); (try simp only [List.getElem_toArray]); (try simp only [List.getElem_cons_succ]); (try simp only [List.getElem_cons_zero]); (try simp only [Act.put]); (try simp only [List.setIfInBounds_toArray]); (try simp only [List.set_cons_succ]); (try simp only [List.set_cons_zero]))
      (refine wpAnyH_take (i := 10) (v := ?_) rfl (by kernel_rfl) (by kernel_rfl) (by kernel_rfl) (fun _ _ _ h => h) (Or.inl ⟨by rfl, ?_⟩) (by assumption) ?_; rotate_left; (focus (intro w' hSw; go_simp; try with_reducible rfl)); (try simp only [List.getElem_toArray]); (try simp only [List.getElem_cons_succ]); (try simp only [List.getElem_cons_zero]); (try simp only [Act.put]); (try simp only [List.setIfInBounds_toArray]); (try simp only [List.set_cons_succ]); (try simp only [List.set_cons_zero]))
      clear hHeld
      have hHeld : Ext W5 w22 := EH
      have k6 := B6.out.two
      have D6 := Lib.hid (B6.out.put2 (.slice A' N c') (.int .i64 nx))
      have M6 : Mod (fun k => k = n6) w22 _ := ((Mod.refl _ w22).set1 (.slice A' N c') (o := 0)).set1 (.int .i64 nx) (o := 1)
      have T8 := T7.out.mod M6 B6.out (by decide)
      have EH7 := (EH.setNew (p := ⟨n6, 0, none⟩) hn6W (.slice A' N c')).setNew (p := ⟨n6, 1, none⟩) hn6W (.int .i64 nx)
      have HR := Lib.hid (show RdY Rp (fun _ => False) _ (.slice A' N c') (askT l nx s g0 ts pid wr) by rw [← HN.out]; exact T8.y (A := fun _ => False) (by rw [HN.out]; exact R5.out) EH7)
      (refine wpAnyH_ready (rs := [12]) (by kernel_rfl) (by simp) ?_; refine AllReadyH.cons rfl (fun K hK => ?_) AllReadyH.nil; go_simp; refine hK.out _ _ EH7 (fun hHeld => ?_); clear hK K; (try simp only [Act.put]); (try simp only [List.getElem_toArray]); (try simp only [List.getElem_cons_succ]); (try simp only [List.getElem_cons_zero]); (try simp only [List.setIfInBounds_toArray]); (try simp only [List.set_cons_succ]); (try simp only [List.set_cons_zero]))
      (refine wpAnyH_take (i := 13) (v := ?_) rfl (by kernel_rfl) (by kernel_rfl) (by kernel_rfl) (fun _ _ _ h => h) (Or.inl ⟨by rfl, ?_⟩) (by assumption) ?_; rotate_left; (focus (intro w' hSw; go_simp; try with_reducible rfl)); (try simp only [List.getElem_toArray]); (try simp only [List.getElem_cons_succ]); (try simp only [List.getElem_cons_zero]); (try simp only [Act.put]); (try simp only [List.setIfInBounds_toArray]); (try simp only [List.set_cons_succ]); (try simp only [List.set_cons_zero]))
      refine wpAnyH_done (by kernel_rfl) ?_ _
      go_wp2_with fail
      go_meet
      exact ⟨n6, A', c', rfl, rfl, D6, HR, hHeld⟩
  case rest =>
    obtain ⟨n8, A8, c8, rfl, rfl, B8, R8, E56⟩ := hcut
    obtain ⟨W6, hW6⟩ : ∃ W6, W6 = wc := ⟨_, rfl⟩
    subst hW6
    have E06 := E05.trans E56
    have B := Lib.hid (B.out.ext E56)
    have T := Lib.hid (T.out.ext E56)
    have R6 := Lib.hid (R5.out.ext E56)
    have H6 := Lib.hid (H.out.ext E56)
    clear E05 E56 R5 H HASK
    go_wp2
    go_cut [10, 11] (fun s8 s9 wx => ∃ n6 A' c', s8 = .pointer (some ⟨n6, 0, none⟩) ∧ s9 = .int .i64 v ∧ Hid (Blk wx n6 49 #[.slice A' N c', .int .i64 nx]) ∧ Hid (RdY Rp (fun _ => False) wx (.slice A' N c') (askT l nx s g0 ts pid wr)) ∧ Ext W6 wx)
    case first =>
      refine wp_region_held_drew (S := fun w' => Ext W6 w') (by kernel_rfl) (Ext.drew (Ext.refl _)) (fun hHeld => ?_)
      (refine wpAnyH_take (i := 0) (v := .agg #[.slice Ad N c, .int .i64 nx, .int .i64 s, .int .i64 g0, .bool ts, .int .i64 pid, .int .i64 g, .bool wr]) rfl (by kernel_rfl) (by kernel_rfl) (by kernel_rfl) (fun _ _ _ h => h) (yieldsIf_load_mid (by rfl) 24 _ rfl _ _ rfl (#[.slice Ad N c, .int .i64 nx, .int .i64 s, .int .i64 g0, .bool ts, .int .i64 pid, .int .i64 g, .bool wr]).toList _ (fun w' hSw => (fun i u hu => by rw [(Blk.ext B.out hSw).cell, Nat.zero_add, ← Array.getElem?_toList]; exact hu)) Try.underlying24 rfl i24) (by assumption) ?_; (try simp only [List.getElem_toArray]); (try simp only [List.getElem_cons_succ]); (try simp only [List.getElem_cons_zero]); (try simp only [Act.put]); (try simp only [List.setIfInBounds_toArray]); (try simp only [List.set_cons_succ]); (try simp only [List.set_cons_zero]))
      (refine wpAnyH_take (i := 2) (v := .agg #[.slice Ad N c, .int .i64 nx, .int .i64 s, .int .i64 g0, .bool ts, .int .i64 pid, .int .i64 g, .bool wr]) rfl (by kernel_rfl) (by kernel_rfl) (by kernel_rfl) (fun _ _ _ h => h) (yieldsIf_load_mid (by rfl) 24 _ rfl _ _ rfl (#[.slice Ad N c, .int .i64 nx, .int .i64 s, .int .i64 g0, .bool ts, .int .i64 pid, .int .i64 g, .bool wr]).toList _ (fun w' hSw => (fun i u hu => by rw [(Blk.ext B.out hSw).cell, Nat.zero_add, ← Array.getElem?_toList]; exact hu)) Try.underlying24 rfl i24) (by assumption) ?_; (try simp only [List.getElem_toArray]); (try simp only [List.getElem_cons_succ]); (try simp only [List.getElem_cons_zero]); (try simp only [Act.put]); (try simp only [List.setIfInBounds_toArray]); (try simp only [List.set_cons_succ]); (try simp only [List.set_cons_zero]))
      (refine wpAnyH_take (i := 4) (v := ?_) rfl (by kernel_rfl) (by kernel_rfl) (by kernel_rfl) (fun _ _ _ h => h) (Or.inl ⟨by rfl, ?_⟩) (by assumption) ?_; rotate_left; (focus (intro w' hSw; go_simp; try with_reducible rfl)); (try simp only [List.getElem_toArray]); (try simp only [List.getElem_cons_succ]); (try simp only [List.getElem_cons_zero]); (try simp only [Act.put]); (try simp only [List.setIfInBounds_toArray]); (try simp only [List.set_cons_succ]); (try simp only [List.set_cons_zero]))
      (refine wpAnyH_take (i := 5) (v := ?_) rfl (by kernel_rfl) (by kernel_rfl) (by kernel_rfl) (fun _ _ _ h => h) (Or.inl ⟨by rfl, ?_⟩) (by assumption) ?_; rotate_left; (focus (intro w' hSw; have kc := (B.out.ext hSw).cell 5; go_simp; try with_reducible rfl)); (try simp only [List.getElem_toArray]); (try simp only [List.getElem_cons_succ]); (try simp only [List.getElem_cons_zero]); (try simp only [Act.put]); (try simp only [List.setIfInBounds_toArray]); (try simp only [List.set_cons_succ]); (try simp only [List.set_cons_zero]))
      (refine wpAnyH_take (i := 6) (v := ?_) rfl (by kernel_rfl) (by kernel_rfl) (by kernel_rfl) (fun _ _ _ h => h) (Or.inl ⟨by rfl, ?_⟩) (by assumption) ?_; rotate_left; (focus (intro w' hSw; go_simp; try with_reducible rfl)); (try simp only [List.getElem_toArray]); (try simp only [List.getElem_cons_succ]); (try simp only [List.getElem_cons_zero]); (try simp only [Act.put]); (try simp only [List.setIfInBounds_toArray]); (try simp only [List.set_cons_succ]); (try simp only [List.set_cons_zero]))
      (refine wpAnyH_take (i := 7) (v := ?_) rfl (by kernel_rfl) (by kernel_rfl) (by kernel_rfl) (fun _ _ _ h => h) (Or.inl ⟨by rfl, ?_⟩) (by assumption) ?_; rotate_left; (focus (intro w' hSw; have kc := (B.out.ext hSw).cell 7; go_simp; try with_reducible rfl)); (try simp only [List.getElem_toArray]); (try simp only [List.getElem_cons_succ]); (try simp only [List.getElem_cons_zero]); (try simp only [Act.put]); (try simp only [List.setIfInBounds_toArray]); (try simp only [List.set_cons_succ]); (try simp only [List.set_cons_zero]))
      have EH : Ext W6 W6.drew := Ext.drew (Ext.refl _)
      have HX := Lib.hid (H6.out.ext EH)
      clear hHeld
      generalize W6.drew = w19 at *
      refine wpAnyH_ready (rs := [1, 12]) (by kernel_rfl) (by simp) ?_
      refine (AllReadyH.cons rfl (fun K hK => ?_) (AllReadyH.cons rfl (fun K hK => ?_) AllReadyH.nil))
      ·
        go_simp
        go_at_call 17
        refine (HREF.out w19 HX.out).mono ?_
        rintro e w20 ⟨A5, c5, rfl, O5, E3⟩
        (try dsimp only)
        refine hK.out _ _ (EH.trans E3) (fun hHeld => ?_)
        clear hK K hHeld
        (try simp only [List.getElem_toArray]); (try simp only [List.getElem_cons_succ]); (try simp only [List.getElem_cons_zero]); (try simp only [Act.put]); (try simp only [List.setIfInBounds_toArray]); (try simp only [List.set_cons_succ]); (try simp only [List.set_cons_zero])
        have HX := Lib.hid (HX.out.ext E3)
        have O5 := Lib.hid (O5)
        have EH := EH.trans E3
        clear E3
        refine wpAnyH_ready (rs := [3, 12]) (by kernel_rfl) (by simp) ?_
        refine (AllReadyH.cons rfl (fun K hK => ?_) (AllReadyH.cons rfl (fun K hK => ?_) AllReadyH.nil))
        ·
          go_simp
          go_at_call 10
          refine (tty_any Ad N c nx s g0 ts pid g wr _).mono ?_
          rintro e w21 ⟨rfl, E3⟩
          (try dsimp only)
          refine hK.out _ _ (EH.trans E3) (fun hHeld => ?_)
          clear hK K hHeld
          (try simp only [List.getElem_toArray]); (try simp only [List.getElem_cons_succ]); (try simp only [List.getElem_cons_zero]); (try simp only [Act.put]); (try simp only [List.setIfInBounds_toArray]); (try simp only [List.set_cons_succ]); (try simp only [List.set_cons_zero])
          have HX := Lib.hid (HX.out.ext E3)
          have O5 := Lib.hid (O5.out.ext E3)
          have EH := EH.trans E3
          clear E3
          refine wpAnyH_ready (rs := [8, 12]) (by kernel_rfl) (by simp) ?_
          refine (AllReadyH.cons rfl (fun K hK => ?_) (AllReadyH.cons rfl (fun K hK => ?_) AllReadyH.nil))
          ·
            go_simp
            go_at_call 19
            refine (HRASK.out A5 c5 w21 (rdy_pr O5.out.y)).mono ?_
            rintro e w22 ⟨A', c', rfl, T7, E3⟩
            (try dsimp only)
            refine hK.out _ _ (EH.trans E3) (fun hHeld => ?_)
            clear hK K hHeld
            (try simp only [List.getElem_toArray]); (try simp only [List.getElem_cons_succ]); (try simp only [List.getElem_cons_zero]); (try simp only [Act.put]); (try simp only [List.setIfInBounds_toArray]); (try simp only [List.set_cons_succ]); (try simp only [List.set_cons_zero])
            have HX := Lib.hid (HX.out.ext E3)
            have O5 := Lib.hid (O5.out.ext E3)
            have T7 := Lib.hid (T7.lower (Nat.zero_le _))
            have EH := EH.trans E3
            clear E3
            have hHeld : Ext W6 w22 := EH
            (refine wpAnyH_take (i := 9) (v := ?_) rfl (by kernel_rfl) (by kernel_rfl) (by kernel_rfl) (fun _ _ _ h => h) (Or.inl ⟨by rfl, ?_⟩) (by assumption) ?_; rotate_left; (focus (intro w' hSw; go_simp; try with_reducible rfl)); (try simp only [List.getElem_toArray]); (try simp only [List.getElem_cons_succ]); (try simp only [List.getElem_cons_zero]); (try simp only [Act.put]); (try simp only [List.setIfInBounds_toArray]); (try simp only [List.set_cons_succ]); (try simp only [List.set_cons_zero]))
            (refine wpAnyH_take (i := 10) (v := ?_) rfl (by kernel_rfl) (by kernel_rfl) (by kernel_rfl) (fun _ _ _ h => h) (Or.inl ⟨by rfl, ?_⟩) (by assumption) ?_; rotate_left; (focus (intro w' hSw; go_simp; try with_reducible rfl)); (try simp only [List.getElem_toArray]); (try simp only [List.getElem_cons_succ]); (try simp only [List.getElem_cons_zero]); (try simp only [Act.put]); (try simp only [List.setIfInBounds_toArray]); (try simp only [List.set_cons_succ]); (try simp only [List.set_cons_zero]))
            (refine wpAnyH_take (i := 11) (v := ?_) rfl (by kernel_rfl) (by kernel_rfl) (by kernel_rfl) (fun _ _ _ h => h) (Or.inl ⟨by rfl, ?_⟩) (by assumption) ?_; rotate_left; (focus (intro w' hSw; go_simp; try with_reducible rfl)); (try simp only [List.getElem_toArray]); (try simp only [List.getElem_cons_succ]); (try simp only [List.getElem_cons_zero]); (try simp only [Act.put]); (try simp only [List.setIfInBounds_toArray]); (try simp only [List.set_cons_succ]); (try simp only [List.set_cons_zero]))
            clear hHeld
            refine wpAnyH_ready (rs := [12]) (by kernel_rfl) (by simp) ?_
            refine (AllReadyH.cons rfl (fun K hK => ?_) AllReadyH.nil)
            go_simp
            refine hK.out _ _ (EH.alloc _) (fun hHeld => ?_)
            clear hK K hHeld
            (try simp only [List.getElem_toArray]); (try simp only [List.getElem_cons_succ]); (try simp only [List.getElem_cons_zero]); (try simp only [Act.put]); (try simp only [List.setIfInBounds_toArray]); (try simp only [List.set_cons_succ]); (try simp only [List.set_cons_zero])
            have HX := Lib.hid (HX.out.ext ((Ext.refl _).alloc (.cells #[.slice none 0 0, .int .i64 0] 49)))
            have O5 := Lib.hid (O5.out.ext ((Ext.refl _).alloc (.cells #[.slice none 0 0, .int .i64 0] 49)))
            have T7 := Lib.hid (T7.out.ext ((Ext.refl _).alloc (.cells #[.slice none 0 0, .int .i64 0] 49)))
            have B6 := Lib.hid (Blk.new w22 49 #[.slice none 0 0, .int .i64 0])
            obtain ⟨n6, hn6⟩ : ∃ n6, w22.heap.size = n6 := ⟨_, rfl⟩
            have hn6W : W6.heap.size ≤ n6 := by rw [← hn6]; exact EH.size
            have EH := EH.alloc (.cells #[.slice none 0 0, .int .i64 0] 49)
            rw [hn6] at B6 ⊢
            clear hn6
            generalize w22.alloc _ = w23 at *
            have LB6 := B6.out.lt
            have hHeld : Ext W6 w23 := EH
            have k6 := B6.out.two
            have D6 := Lib.hid (B6.out.put2 (.slice A' N c') (.int .i64 nx))
            have M6 : Mod (fun k => k = n6) w23 _ := ((Mod.refl _ w23).set1 (.slice A' N c') (o := 0)).set1 (.int .i64 nx) (o := 1)
            have T8 := T7.out.mod M6 B6.out (by decide)
            have O8 := O5.out.mod M6 (fun k hk he => own_blk_ne O5.out.choose_spec.1 B6.out (by decide) (by rw [← he]; exact hk)) (fun k _ hk _ => hk)
            have EH7 := (EH.setNew (p := ⟨n6, 0, none⟩) hn6W (.slice A' N c')).setNew (p := ⟨n6, 1, none⟩) hn6W (.int .i64 nx)
            have HR := Lib.hid (show RdY Rp (fun _ => False) _ (.slice A' N c') (askT l nx s g0 ts pid wr) by rw [← HN.out]; exact T8.y (A := fun _ => False) (by rw [HN.out]; exact rdy_pr O8.y) (Ext.refl _))
            (refine wpAnyH_ready (rs := [13]) (by kernel_rfl) (by simp) ?_; refine AllReadyH.cons rfl (fun K hK => ?_) AllReadyH.nil; go_simp; refine hK.out _ _ EH7 (fun hHeld => ?_); clear hK K; (try simp only [Act.put]); (try simp only [List.getElem_toArray]); (try simp only [List.getElem_cons_succ]); (try simp only [List.getElem_cons_zero]); (try simp only [List.setIfInBounds_toArray]); (try simp only [List.set_cons_succ]); (try simp only [List.set_cons_zero]))
            (refine wpAnyH_take (i := 14) (v := ?_) rfl (by kernel_rfl) (by kernel_rfl) (by kernel_rfl) (fun _ _ _ h => h) (Or.inl ⟨by rfl, ?_⟩) (by assumption) ?_; rotate_left; (focus (intro w' hSw; go_simp; try with_reducible rfl)); (try simp only [List.getElem_toArray]); (try simp only [List.getElem_cons_succ]); (try simp only [List.getElem_cons_zero]); (try simp only [Act.put]); (try simp only [List.setIfInBounds_toArray]); (try simp only [List.set_cons_succ]); (try simp only [List.set_cons_zero]))
            refine wpAnyH_done (by kernel_rfl) ?_ _
            go_wp2_with fail
            go_meet
            exact ⟨n6, A', c', rfl, rfl, D6, HR, hHeld⟩
          ·
            go_simp
            refine hK.out _ _ (EH.alloc _) (fun hHeld => ?_)
            clear hK K hHeld
            (try simp only [List.getElem_toArray]); (try simp only [List.getElem_cons_succ]); (try simp only [List.getElem_cons_zero]); (try simp only [Act.put]); (try simp only [List.setIfInBounds_toArray]); (try simp only [List.set_cons_succ]); (try simp only [List.set_cons_zero])
            have HX := Lib.hid (HX.out.ext ((Ext.refl _).alloc (.cells #[.slice none 0 0, .int .i64 0] 49)))
            have O5 := Lib.hid (O5.out.ext ((Ext.refl _).alloc (.cells #[.slice none 0 0, .int .i64 0] 49)))
            have B6 := Lib.hid (Blk.new w21 49 #[.slice none 0 0, .int .i64 0])
            obtain ⟨n6, hn6⟩ : ∃ n6, w21.heap.size = n6 := ⟨_, rfl⟩
            have hn6W : W6.heap.size ≤ n6 := by rw [← hn6]; exact EH.size
            have EH := EH.alloc (.cells #[.slice none 0 0, .int .i64 0] 49)
            rw [hn6] at B6 ⊢
            clear hn6
            generalize w21.alloc _ = w22 at *
            have LB6 := B6.out.lt
            refine wpAnyH_ready (rs := [8]) (by kernel_rfl) (by simp) ?_
            refine (AllReadyH.cons rfl (fun K hK => ?_) AllReadyH.nil)
            go_simp
            go_at_call 19
            refine (HRASK.out A5 c5 w22 (rdy_pr O5.out.y)).mono ?_
            rintro e w23 ⟨A', c', rfl, T7, E3⟩
            (try dsimp only)
            refine hK.out _ _ (EH.trans E3) (fun hHeld => ?_)
            clear hK K hHeld
            (try simp only [List.getElem_toArray]); (try simp only [List.getElem_cons_succ]); (try simp only [List.getElem_cons_zero]); (try simp only [Act.put]); (try simp only [List.setIfInBounds_toArray]); (try simp only [List.set_cons_succ]); (try simp only [List.set_cons_zero])
            have HX := Lib.hid (HX.out.ext E3)
            have O5 := Lib.hid (O5.out.ext E3)
            have B6 := Lib.hid (B6.out.ext E3)
            have T7 := Lib.hid (T7.lower (Nat.zero_le _))
            have EH := EH.trans E3
            have LB6 := B6.out.lt
            clear E3
            have hHeld : Ext W6 w23 := EH
            (refine wpAnyH_take (i := 9) (v := ?_) rfl (by kernel_rfl) (by kernel_rfl) (by kernel_rfl) (fun _ _ _ h => h) (Or.inl ⟨by rfl, ?_⟩) (by assumption) ?_; rotate_left; (focus (intro w' hSw; go_simp; try with_reducible rfl)); (try simp only [List.getElem_toArray]); (try simp only [List.getElem_cons_succ]); (try simp only [List.getElem_cons_zero]); (try simp only [Act.put]); (try simp only [List.setIfInBounds_toArray]); (try simp only [List.set_cons_succ]); (try simp only [List.set_cons_zero]))
            (refine wpAnyH_take (i := 10) (v := ?_) rfl (by kernel_rfl) (by kernel_rfl) (by kernel_rfl) (fun _ _ _ h => h) (Or.inl ⟨by rfl, ?_⟩) (by assumption) ?_; rotate_left; (focus (intro w' hSw; go_simp; try with_reducible rfl)); (try simp only [List.getElem_toArray]); (try simp only [List.getElem_cons_succ]); (try simp only [List.getElem_cons_zero]); (try simp only [Act.put]); (try simp only [List.setIfInBounds_toArray]); (try simp only [List.set_cons_succ]); (try simp only [List.set_cons_zero]))
            (refine wpAnyH_take (i := 11) (v := ?_) rfl (by kernel_rfl) (by kernel_rfl) (by kernel_rfl) (fun _ _ _ h => h) (Or.inl ⟨by rfl, ?_⟩) (by assumption) ?_; rotate_left; (focus (intro w' hSw; go_simp; try with_reducible rfl)); (try simp only [List.getElem_toArray]); (try simp only [List.getElem_cons_succ]); (try simp only [List.getElem_cons_zero]); (try simp only [Act.put]); (try simp only [List.setIfInBounds_toArray]); (try simp only [List.set_cons_succ]); (try simp only [List.set_cons_zero]))
            clear hHeld
            have hHeld : Ext W6 w23 := EH
            have k6 := B6.out.two
            have D6 := Lib.hid (B6.out.put2 (.slice A' N c') (.int .i64 nx))
            have M6 : Mod (fun k => k = n6) w23 _ := ((Mod.refl _ w23).set1 (.slice A' N c') (o := 0)).set1 (.int .i64 nx) (o := 1)
            have T8 := T7.out.mod M6 B6.out (by decide)
            have O8 := O5.out.mod M6 (fun k hk he => own_blk_ne O5.out.choose_spec.1 B6.out (by decide) (by rw [← he]; exact hk)) (fun k _ hk _ => hk)
            have EH7 := (EH.setNew (p := ⟨n6, 0, none⟩) hn6W (.slice A' N c')).setNew (p := ⟨n6, 1, none⟩) hn6W (.int .i64 nx)
            have HR := Lib.hid (show RdY Rp (fun _ => False) _ (.slice A' N c') (askT l nx s g0 ts pid wr) by rw [← HN.out]; exact T8.y (A := fun _ => False) (by rw [HN.out]; exact rdy_pr O8.y) (Ext.refl _))
            (refine wpAnyH_ready (rs := [13]) (by kernel_rfl) (by simp) ?_; refine AllReadyH.cons rfl (fun K hK => ?_) AllReadyH.nil; go_simp; refine hK.out _ _ EH7 (fun hHeld => ?_); clear hK K; (try simp only [Act.put]); (try simp only [List.getElem_toArray]); (try simp only [List.getElem_cons_succ]); (try simp only [List.getElem_cons_zero]); (try simp only [List.setIfInBounds_toArray]); (try simp only [List.set_cons_succ]); (try simp only [List.set_cons_zero]))
            (refine wpAnyH_take (i := 14) (v := ?_) rfl (by kernel_rfl) (by kernel_rfl) (by kernel_rfl) (fun _ _ _ h => h) (Or.inl ⟨by rfl, ?_⟩) (by assumption) ?_; rotate_left; (focus (intro w' hSw; go_simp; try with_reducible rfl)); (try simp only [List.getElem_toArray]); (try simp only [List.getElem_cons_succ]); (try simp only [List.getElem_cons_zero]); (try simp only [Act.put]); (try simp only [List.setIfInBounds_toArray]); (try simp only [List.set_cons_succ]); (try simp only [List.set_cons_zero]))
            refine wpAnyH_done (by kernel_rfl) ?_ _
            go_wp2_with fail
            go_meet
            exact ⟨n6, A', c', rfl, rfl, D6, HR, hHeld⟩
        ·
          go_simp
          refine hK.out _ _ (EH.alloc _) (fun hHeld => ?_)
          clear hK K hHeld
          (try simp only [List.getElem_toArray]); (try simp only [List.getElem_cons_succ]); (try simp only [List.getElem_cons_zero]); (try simp only [Act.put]); (try simp only [List.setIfInBounds_toArray]); (try simp only [List.set_cons_succ]); (try simp only [List.set_cons_zero])
          have HX := Lib.hid (HX.out.ext ((Ext.refl _).alloc (.cells #[.slice none 0 0, .int .i64 0] 49)))
          have O5 := Lib.hid (O5.out.ext ((Ext.refl _).alloc (.cells #[.slice none 0 0, .int .i64 0] 49)))
          have B6 := Lib.hid (Blk.new w20 49 #[.slice none 0 0, .int .i64 0])
          obtain ⟨n6, hn6⟩ : ∃ n6, w20.heap.size = n6 := ⟨_, rfl⟩
          have hn6W : W6.heap.size ≤ n6 := by rw [← hn6]; exact EH.size
          have EH := EH.alloc (.cells #[.slice none 0 0, .int .i64 0] 49)
          rw [hn6] at B6 ⊢
          clear hn6
          generalize w20.alloc _ = w21 at *
          have LB6 := B6.out.lt
          refine wpAnyH_ready (rs := [3]) (by kernel_rfl) (by simp) ?_
          refine (AllReadyH.cons rfl (fun K hK => ?_) AllReadyH.nil)
          go_simp
          go_at_call 10
          refine (tty_any Ad N c nx s g0 ts pid g wr _).mono ?_
          rintro e w22 ⟨rfl, E3⟩
          (try dsimp only)
          refine hK.out _ _ (EH.trans E3) (fun hHeld => ?_)
          clear hK K hHeld
          (try simp only [List.getElem_toArray]); (try simp only [List.getElem_cons_succ]); (try simp only [List.getElem_cons_zero]); (try simp only [Act.put]); (try simp only [List.setIfInBounds_toArray]); (try simp only [List.set_cons_succ]); (try simp only [List.set_cons_zero])
          have HX := Lib.hid (HX.out.ext E3)
          have O5 := Lib.hid (O5.out.ext E3)
          have B6 := Lib.hid (B6.out.ext E3)
          have EH := EH.trans E3
          have LB6 := B6.out.lt
          clear E3
          refine wpAnyH_ready (rs := [8]) (by kernel_rfl) (by simp) ?_
          refine (AllReadyH.cons rfl (fun K hK => ?_) AllReadyH.nil)
          go_simp
          go_at_call 19
          refine (HRASK.out A5 c5 w22 (rdy_pr O5.out.y)).mono ?_
          rintro e w23 ⟨A', c', rfl, T7, E3⟩
          (try dsimp only)
          refine hK.out _ _ (EH.trans E3) (fun hHeld => ?_)
          clear hK K hHeld
          (try simp only [List.getElem_toArray]); (try simp only [List.getElem_cons_succ]); (try simp only [List.getElem_cons_zero]); (try simp only [Act.put]); (try simp only [List.setIfInBounds_toArray]); (try simp only [List.set_cons_succ]); (try simp only [List.set_cons_zero])
          have HX := Lib.hid (HX.out.ext E3)
          have O5 := Lib.hid (O5.out.ext E3)
          have B6 := Lib.hid (B6.out.ext E3)
          have T7 := Lib.hid (T7.lower (Nat.zero_le _))
          have EH := EH.trans E3
          have LB6 := B6.out.lt
          clear E3
          have hHeld : Ext W6 w23 := EH
          (refine wpAnyH_take (i := 9) (v := ?_) rfl (by kernel_rfl) (by kernel_rfl) (by kernel_rfl) (fun _ _ _ h => h) (Or.inl ⟨by rfl, ?_⟩) (by assumption) ?_; rotate_left; (focus (intro w' hSw; go_simp; try with_reducible rfl)); (try simp only [List.getElem_toArray]); (try simp only [List.getElem_cons_succ]); (try simp only [List.getElem_cons_zero]); (try simp only [Act.put]); (try simp only [List.setIfInBounds_toArray]); (try simp only [List.set_cons_succ]); (try simp only [List.set_cons_zero]))
          (refine wpAnyH_take (i := 10) (v := ?_) rfl (by kernel_rfl) (by kernel_rfl) (by kernel_rfl) (fun _ _ _ h => h) (Or.inl ⟨by rfl, ?_⟩) (by assumption) ?_; rotate_left; (focus (intro w' hSw; go_simp; try with_reducible rfl)); (try simp only [List.getElem_toArray]); (try simp only [List.getElem_cons_succ]); (try simp only [List.getElem_cons_zero]); (try simp only [Act.put]); (try simp only [List.setIfInBounds_toArray]); (try simp only [List.set_cons_succ]); (try simp only [List.set_cons_zero]))
          (refine wpAnyH_take (i := 11) (v := ?_) rfl (by kernel_rfl) (by kernel_rfl) (by kernel_rfl) (fun _ _ _ h => h) (Or.inl ⟨by rfl, ?_⟩) (by assumption) ?_; rotate_left; (focus (intro w' hSw; go_simp; try with_reducible rfl)); (try simp only [List.getElem_toArray]); (try simp only [List.getElem_cons_succ]); (try simp only [List.getElem_cons_zero]); (try simp only [Act.put]); (try simp only [List.setIfInBounds_toArray]); (try simp only [List.set_cons_succ]); (try simp only [List.set_cons_zero]))
          clear hHeld
          have hHeld : Ext W6 w23 := EH
          have k6 := B6.out.two
          have D6 := Lib.hid (B6.out.put2 (.slice A' N c') (.int .i64 nx))
          have M6 : Mod (fun k => k = n6) w23 _ := ((Mod.refl _ w23).set1 (.slice A' N c') (o := 0)).set1 (.int .i64 nx) (o := 1)
          have T8 := T7.out.mod M6 B6.out (by decide)
          have O8 := O5.out.mod M6 (fun k hk he => own_blk_ne O5.out.choose_spec.1 B6.out (by decide) (by rw [← he]; exact hk)) (fun k _ hk _ => hk)
          have EH7 := (EH.setNew (p := ⟨n6, 0, none⟩) hn6W (.slice A' N c')).setNew (p := ⟨n6, 1, none⟩) hn6W (.int .i64 nx)
          have HR := Lib.hid (show RdY Rp (fun _ => False) _ (.slice A' N c') (askT l nx s g0 ts pid wr) by rw [← HN.out]; exact T8.y (A := fun _ => False) (by rw [HN.out]; exact rdy_pr O8.y) (Ext.refl _))
          (refine wpAnyH_ready (rs := [13]) (by kernel_rfl) (by simp) ?_; refine AllReadyH.cons rfl (fun K hK => ?_) AllReadyH.nil; go_simp; refine hK.out _ _ EH7 (fun hHeld => ?_); clear hK K; (try simp only [Act.put]); (try simp only [List.getElem_toArray]); (try simp only [List.getElem_cons_succ]); (try simp only [List.getElem_cons_zero]); (try simp only [List.setIfInBounds_toArray]); (try simp only [List.set_cons_succ]); (try simp only [List.set_cons_zero]))
          (refine wpAnyH_take (i := 14) (v := ?_) rfl (by kernel_rfl) (by kernel_rfl) (by kernel_rfl) (fun _ _ _ h => h) (Or.inl ⟨by rfl, ?_⟩) (by assumption) ?_; rotate_left; (focus (intro w' hSw; go_simp; try with_reducible rfl)); (try simp only [List.getElem_toArray]); (try simp only [List.getElem_cons_succ]); (try simp only [List.getElem_cons_zero]); (try simp only [Act.put]); (try simp only [List.setIfInBounds_toArray]); (try simp only [List.set_cons_succ]); (try simp only [List.set_cons_zero]))
          refine wpAnyH_done (by kernel_rfl) ?_ _
          go_wp2_with fail
          go_meet
          exact ⟨n6, A', c', rfl, rfl, D6, HR, hHeld⟩
      ·
        go_simp
        refine hK.out _ _ (EH.alloc _) (fun hHeld => ?_)
        clear hK K hHeld
        (try simp only [List.getElem_toArray]); (try simp only [List.getElem_cons_succ]); (try simp only [List.getElem_cons_zero]); (try simp only [Act.put]); (try simp only [List.setIfInBounds_toArray]); (try simp only [List.set_cons_succ]); (try simp only [List.set_cons_zero])
        have HX := Lib.hid (HX.out.ext ((Ext.refl _).alloc (.cells #[.slice none 0 0, .int .i64 0] 49)))
        have B6 := Lib.hid (Blk.new w19 49 #[.slice none 0 0, .int .i64 0])
        obtain ⟨n6, hn6⟩ : ∃ n6, w19.heap.size = n6 := ⟨_, rfl⟩
        have hn6W : W6.heap.size ≤ n6 := by rw [← hn6]; exact EH.size
        have EH := EH.alloc (.cells #[.slice none 0 0, .int .i64 0] 49)
        rw [hn6] at B6 ⊢
        clear hn6
        generalize w19.alloc _ = w20 at *
        have LB6 := B6.out.lt
        refine wpAnyH_ready (rs := [1]) (by kernel_rfl) (by simp) ?_
        refine (AllReadyH.cons rfl (fun K hK => ?_) AllReadyH.nil)
        go_simp
        go_at_call 17
        refine (HREF.out w20 HX.out).mono ?_
        rintro e w21 ⟨A5, c5, rfl, O5, E3⟩
        (try dsimp only)
        refine hK.out _ _ (EH.trans E3) (fun hHeld => ?_)
        clear hK K hHeld
        (try simp only [List.getElem_toArray]); (try simp only [List.getElem_cons_succ]); (try simp only [List.getElem_cons_zero]); (try simp only [Act.put]); (try simp only [List.setIfInBounds_toArray]); (try simp only [List.set_cons_succ]); (try simp only [List.set_cons_zero])
        have HX := Lib.hid (HX.out.ext E3)
        have B6 := Lib.hid (B6.out.ext E3)
        have O5 := Lib.hid (O5)
        have EH := EH.trans E3
        have LB6 := B6.out.lt
        clear E3
        refine wpAnyH_ready (rs := [3]) (by kernel_rfl) (by simp) ?_
        refine (AllReadyH.cons rfl (fun K hK => ?_) AllReadyH.nil)
        go_simp
        go_at_call 10
        refine (tty_any Ad N c nx s g0 ts pid g wr _).mono ?_
        rintro e w22 ⟨rfl, E3⟩
        (try dsimp only)
        refine hK.out _ _ (EH.trans E3) (fun hHeld => ?_)
        clear hK K hHeld
        (try simp only [List.getElem_toArray]); (try simp only [List.getElem_cons_succ]); (try simp only [List.getElem_cons_zero]); (try simp only [Act.put]); (try simp only [List.setIfInBounds_toArray]); (try simp only [List.set_cons_succ]); (try simp only [List.set_cons_zero])
        have HX := Lib.hid (HX.out.ext E3)
        have B6 := Lib.hid (B6.out.ext E3)
        have O5 := Lib.hid (O5.out.ext E3)
        have EH := EH.trans E3
        have LB6 := B6.out.lt
        clear E3
        refine wpAnyH_ready (rs := [8]) (by kernel_rfl) (by simp) ?_
        refine (AllReadyH.cons rfl (fun K hK => ?_) AllReadyH.nil)
        go_simp
        go_at_call 19
        refine (HRASK.out A5 c5 w22 (rdy_pr O5.out.y)).mono ?_
        rintro e w23 ⟨A', c', rfl, T7, E3⟩
        (try dsimp only)
        refine hK.out _ _ (EH.trans E3) (fun hHeld => ?_)
        clear hK K hHeld
        (try simp only [List.getElem_toArray]); (try simp only [List.getElem_cons_succ]); (try simp only [List.getElem_cons_zero]); (try simp only [Act.put]); (try simp only [List.setIfInBounds_toArray]); (try simp only [List.set_cons_succ]); (try simp only [List.set_cons_zero])
        have HX := Lib.hid (HX.out.ext E3)
        have B6 := Lib.hid (B6.out.ext E3)
        have O5 := Lib.hid (O5.out.ext E3)
        have T7 := Lib.hid (T7.lower (Nat.zero_le _))
        have EH := EH.trans E3
        have LB6 := B6.out.lt
        clear E3
        have hHeld : Ext W6 w23 := EH
        (refine wpAnyH_take (i := 9) (v := ?_) rfl (by kernel_rfl) (by kernel_rfl) (by kernel_rfl) (fun _ _ _ h => h) (Or.inl ⟨by rfl, ?_⟩) (by assumption) ?_; rotate_left; (focus (intro w' hSw; go_simp; try with_reducible rfl)); (try simp only [List.getElem_toArray]); (try simp only [List.getElem_cons_succ]); (try simp only [List.getElem_cons_zero]); (try simp only [Act.put]); (try simp only [List.setIfInBounds_toArray]); (try simp only [List.set_cons_succ]); (try simp only [List.set_cons_zero]))
        (refine wpAnyH_take (i := 10) (v := ?_) rfl (by kernel_rfl) (by kernel_rfl) (by kernel_rfl) (fun _ _ _ h => h) (Or.inl ⟨by rfl, ?_⟩) (by assumption) ?_; rotate_left; (focus (intro w' hSw; go_simp; try with_reducible rfl)); (try simp only [List.getElem_toArray]); (try simp only [List.getElem_cons_succ]); (try simp only [List.getElem_cons_zero]); (try simp only [Act.put]); (try simp only [List.setIfInBounds_toArray]); (try simp only [List.set_cons_succ]); (try simp only [List.set_cons_zero]))
        (refine wpAnyH_take (i := 11) (v := ?_) rfl (by kernel_rfl) (by kernel_rfl) (by kernel_rfl) (fun _ _ _ h => h) (Or.inl ⟨by rfl, ?_⟩) (by assumption) ?_; rotate_left; (focus (intro w' hSw; go_simp; try with_reducible rfl)); (try simp only [List.getElem_toArray]); (try simp only [List.getElem_cons_succ]); (try simp only [List.getElem_cons_zero]); (try simp only [Act.put]); (try simp only [List.setIfInBounds_toArray]); (try simp only [List.set_cons_succ]); (try simp only [List.set_cons_zero]))
        clear hHeld
        have hHeld : Ext W6 w23 := EH
        have k6 := B6.out.two
        have D6 := Lib.hid (B6.out.put2 (.slice A' N c') (.int .i64 nx))
        have M6 : Mod (fun k => k = n6) w23 _ := ((Mod.refl _ w23).set1 (.slice A' N c') (o := 0)).set1 (.int .i64 nx) (o := 1)
        have T8 := T7.out.mod M6 B6.out (by decide)
        have O8 := O5.out.mod M6 (fun k hk he => own_blk_ne O5.out.choose_spec.1 B6.out (by decide) (by rw [← he]; exact hk)) (fun k _ hk _ => hk)
        have EH7 := (EH.setNew (p := ⟨n6, 0, none⟩) hn6W (.slice A' N c')).setNew (p := ⟨n6, 1, none⟩) hn6W (.int .i64 nx)
        have HR := Lib.hid (show RdY Rp (fun _ => False) _ (.slice A' N c') (askT l nx s g0 ts pid wr) by rw [← HN.out]; exact T8.y (A := fun _ => False) (by rw [HN.out]; exact rdy_pr O8.y) (Ext.refl _))
        (refine wpAnyH_ready (rs := [13]) (by kernel_rfl) (by simp) ?_; refine AllReadyH.cons rfl (fun K hK => ?_) AllReadyH.nil; go_simp; refine hK.out _ _ EH7 (fun hHeld => ?_); clear hK K; (try simp only [Act.put]); (try simp only [List.getElem_toArray]); (try simp only [List.getElem_cons_succ]); (try simp only [List.getElem_cons_zero]); (try simp only [List.setIfInBounds_toArray]); (try simp only [List.set_cons_succ]); (try simp only [List.set_cons_zero]))
        (refine wpAnyH_take (i := 14) (v := ?_) rfl (by kernel_rfl) (by kernel_rfl) (by kernel_rfl) (fun _ _ _ h => h) (Or.inl ⟨by rfl, ?_⟩) (by assumption) ?_; rotate_left; (focus (intro w' hSw; go_simp; try with_reducible rfl)); (try simp only [List.getElem_toArray]); (try simp only [List.getElem_cons_succ]); (try simp only [List.getElem_cons_zero]); (try simp only [Act.put]); (try simp only [List.setIfInBounds_toArray]); (try simp only [List.set_cons_succ]); (try simp only [List.set_cons_zero]))
        refine wpAnyH_done (by kernel_rfl) ?_ _
        go_wp2_with fail
        go_meet
        exact ⟨n6, A', c', rfl, rfl, D6, HR, hHeld⟩
    case rest =>
      obtain ⟨n10, A10, c10, rfl, rfl, B10, R10, E67⟩ := hcut
      obtain ⟨W7, hW7⟩ : ∃ W7, W7 = wc := ⟨_, rfl⟩
      subst hW7
      have E07 := E06.trans E67
      have B := Lib.hid (B.out.ext E67)
      have T := Lib.hid (T.out.ext E67)
      have B8 := Lib.hid (B8.out.ext E67)
      have R8 := Lib.hid (R8.out.ext E67)
      have R7 := Lib.hid (R6.out.ext E67)
      have H7 := Lib.hid (H6.out.ext E67)
      clear E06 E67 R6 H6 HRASK
      have hs1 := fun w h g => same22_any (A := fun _ => False) (B := fun _ => False) A8 A10 c8 c10 (askT l nx s g0 ts pid wr) nx w h g (askT_wf HWF.out HBP.out) (by rw [askT_len]; have := HN.out; have := HG.out; omega)
      have hs2 := fun A5 c5 w h g => same22_any (A := fun _ => False) (B := fun _ => False) A3 A5 c3 c5 l nx w h g HWF.out (by have := HN.out; have := HG.out; omega)
      rw [askT_len] at hs1
      rw [HN.out] at hs1 hs2
      have HS1 := Lib.hid hs1
      have HS2 := Lib.hid hs2
      clear hs1 hs2
      go_wp2
      refine wp_region_held_drew (S := fun w' => Ext W7 w') (by kernel_rfl) (Ext.drew (Ext.refl _)) (fun hHeld => ?_)
      (refine wpAnyH_take (i := 0) (v := ?_) rfl (by kernel_rfl) (by kernel_rfl) (by kernel_rfl) (fun _ _ _ h => h) (Or.inl ⟨by rfl, ?_⟩) (by assumption) ?_; rotate_left; (focus (intro w' hSw; go_simp; try with_reducible rfl)); (try simp only [List.getElem_toArray]); (try simp only [List.getElem_cons_succ]); (try simp only [List.getElem_cons_zero]); (try simp only [Act.put]); (try simp only [List.setIfInBounds_toArray]); (try simp only [List.set_cons_succ]); (try simp only [List.set_cons_zero]))
      (refine wpAnyH_take (i := 1) (v := ?_) rfl (by kernel_rfl) (by kernel_rfl) (by kernel_rfl) (fun _ _ _ h => h) (Or.inl ⟨by rfl, ?_⟩) (by assumption) ?_; rotate_left; (focus (intro w' hSw; go_simp; try with_reducible rfl)); (try simp only [List.getElem_toArray]); (try simp only [List.getElem_cons_succ]); (try simp only [List.getElem_cons_zero]); (try simp only [Act.put]); (try simp only [List.setIfInBounds_toArray]); (try simp only [List.set_cons_succ]); (try simp only [List.set_cons_zero]))
      (refine wpAnyH_take (i := 2) (v := ?_) rfl (by kernel_rfl) (by kernel_rfl) (by kernel_rfl) (fun _ _ _ h => h) (Or.inl ⟨by rfl, ?_⟩) (by assumption) ?_; rotate_left; (focus (intro w' hSw; go_simp; try with_reducible rfl)); (try simp only [List.getElem_toArray]); (try simp only [List.getElem_cons_succ]); (try simp only [List.getElem_cons_zero]); (try simp only [Act.put]); (try simp only [List.setIfInBounds_toArray]); (try simp only [List.set_cons_succ]); (try simp only [List.set_cons_zero]))
      (refine wpAnyH_take (i := 3) (v := ?_) rfl (by kernel_rfl) (by kernel_rfl) (by kernel_rfl) (fun _ _ _ h => h) (Or.inl ⟨by rfl, ?_⟩) (by assumption) ?_; rotate_left; (focus (intro w' hSw; go_simp; try with_reducible rfl)); (try simp only [List.getElem_toArray]); (try simp only [List.getElem_cons_succ]); (try simp only [List.getElem_cons_zero]); (try simp only [Act.put]); (try simp only [List.setIfInBounds_toArray]); (try simp only [List.set_cons_succ]); (try simp only [List.set_cons_zero]))
      (refine wpAnyH_take (i := 4) (v := ?_) rfl (by kernel_rfl) (by kernel_rfl) (by kernel_rfl) (fun _ _ _ h => h) (Or.inl ⟨by rfl, ?_⟩) (by assumption) ?_; rotate_left; (focus (intro w' hSw; go_simp; try with_reducible rfl)); (try simp only [List.getElem_toArray]); (try simp only [List.getElem_cons_succ]); (try simp only [List.getElem_cons_zero]); (try simp only [Act.put]); (try simp only [List.setIfInBounds_toArray]); (try simp only [List.set_cons_succ]); (try simp only [List.set_cons_zero]))
      (refine wpAnyH_take (i := 5) (v := ?_) rfl (by kernel_rfl) (by kernel_rfl) (by kernel_rfl) (fun _ _ _ h => h) (Or.inl ⟨by rfl, ?_⟩) (by assumption) ?_; rotate_left; (focus (intro w' hSw; go_simp; try with_reducible rfl)); (try simp only [List.getElem_toArray]); (try simp only [List.getElem_cons_succ]); (try simp only [List.getElem_cons_zero]); (try simp only [Act.put]); (try simp only [List.setIfInBounds_toArray]); (try simp only [List.set_cons_succ]); (try simp only [List.set_cons_zero]))
      (refine wpAnyH_take (i := 6) (v := ?_) rfl (by kernel_rfl) (by kernel_rfl) (by kernel_rfl) (fun _ _ _ h => h) (Or.inl ⟨by rfl, ?_⟩) (by assumption) ?_; rotate_left; (focus (intro w' hSw; go_simp; try with_reducible rfl)); (try simp only [List.getElem_toArray]); (try simp only [List.getElem_cons_succ]); (try simp only [List.getElem_cons_zero]); (try simp only [Act.put]); (try simp only [List.setIfInBounds_toArray]); (try simp only [List.set_cons_succ]); (try simp only [List.set_cons_zero]))
      (refine wpAnyH_take (i := 7) (v := ?_) rfl (by kernel_rfl) (by kernel_rfl) (by kernel_rfl) (fun _ _ _ h => h) (Or.inl ⟨by rfl, ?_⟩) (by assumption) ?_; rotate_left; (focus (intro w' hSw; go_simp; try with_reducible rfl)); (try simp only [List.getElem_toArray]); (try simp only [List.getElem_cons_succ]); (try simp only [List.getElem_cons_zero]); (try simp only [Act.put]); (try simp only [List.setIfInBounds_toArray]); (try simp only [List.set_cons_succ]); (try simp only [List.set_cons_zero]))
      (refine wpAnyH_take (i := 8) (v := ?_) rfl (by kernel_rfl) (by kernel_rfl) (by kernel_rfl) (fun _ _ _ h => h) (Or.inl ⟨by rfl, ?_⟩) (by assumption) ?_; rotate_left; (focus (intro w' hSw; go_simp; try with_reducible rfl)); (try simp only [List.getElem_toArray]); (try simp only [List.getElem_cons_succ]); (try simp only [List.getElem_cons_zero]); (try simp only [Act.put]); (try simp only [List.setIfInBounds_toArray]); (try simp only [List.set_cons_succ]); (try simp only [List.set_cons_zero]))
      (refine wpAnyH_take (i := 9) (v := ?_) rfl (by kernel_rfl) (by kernel_rfl) (by kernel_rfl) (fun _ _ _ h => h) (Or.inl ⟨by rfl, ?_⟩) (by assumption) ?_; rotate_left; (focus (intro w' hSw; go_simp; try with_reducible rfl)); (try simp only [List.getElem_toArray]); (try simp only [List.getElem_cons_succ]); (try simp only [List.getElem_cons_zero]); (try simp only [Act.put]); (try simp only [List.setIfInBounds_toArray]); (try simp only [List.set_cons_succ]); (try simp only [List.set_cons_zero]))
      (refine wpAnyH_take (i := 10) (v := ?_) rfl (by kernel_rfl) (by kernel_rfl) (by kernel_rfl) (fun _ _ _ h => h) (Or.inl ⟨by rfl, ?_⟩) (by assumption) ?_; rotate_left; (focus (intro w' hSw; go_simp; try with_reducible rfl)); (try simp only [List.getElem_toArray]); (try simp only [List.getElem_cons_succ]); (try simp only [List.getElem_cons_zero]); (try simp only [Act.put]); (try simp only [List.setIfInBounds_toArray]); (try simp only [List.set_cons_succ]); (try simp only [List.set_cons_zero]))
      (refine wpAnyH_take (i := 11) (v := ?_) rfl (by kernel_rfl) (by kernel_rfl) (by kernel_rfl) (fun _ _ _ h => h) (Or.inl ⟨by rfl, ?_⟩) (by assumption) ?_; rotate_left; (focus (intro w' hSw; go_simp; try with_reducible rfl)); (try simp only [List.getElem_toArray]); (try simp only [List.getElem_cons_succ]); (try simp only [List.getElem_cons_zero]); (try simp only [Act.put]); (try simp only [List.setIfInBounds_toArray]); (try simp only [List.set_cons_succ]); (try simp only [List.set_cons_zero]))
      (refine wpAnyH_take (i := 12) (v := ?_) rfl (by kernel_rfl) (by kernel_rfl) (by kernel_rfl) (fun _ _ _ h => h) (Or.inl ⟨by rfl, ?_⟩) (by assumption) ?_; rotate_left; (focus (intro w' hSw; go_simp; try with_reducible rfl)); (try simp only [List.getElem_toArray]); (try simp only [List.getElem_cons_succ]); (try simp only [List.getElem_cons_zero]); (try simp only [Act.put]); (try simp only [List.setIfInBounds_toArray]); (try simp only [List.set_cons_succ]); (try simp only [List.set_cons_zero]))
      (refine wpAnyH_take (i := 13) (v := ?_) rfl (by kernel_rfl) (by kernel_rfl) (by kernel_rfl) (fun _ _ _ h => h) (Or.inl ⟨by rfl, ?_⟩) (by assumption) ?_; rotate_left; (focus (intro w' hSw; go_simp; try with_reducible rfl)); (try simp only [List.getElem_toArray]); (try simp only [List.getElem_cons_succ]); (try simp only [List.getElem_cons_zero]); (try simp only [Act.put]); (try simp only [List.setIfInBounds_toArray]); (try simp only [List.set_cons_succ]); (try simp only [List.set_cons_zero]))
      (refine wpAnyH_take (i := 14) (v := ?_) rfl (by kernel_rfl) (by kernel_rfl) (by kernel_rfl) (fun _ _ _ h => h) (Or.inl ⟨by rfl, ?_⟩) (by assumption) ?_; rotate_left; (focus (intro w' hSw; go_simp; try with_reducible rfl)); (try simp only [List.getElem_toArray]); (try simp only [List.getElem_cons_succ]); (try simp only [List.getElem_cons_zero]); (try simp only [Act.put]); (try simp only [List.setIfInBounds_toArray]); (try simp only [List.set_cons_succ]); (try simp only [List.set_cons_zero]))
      (refine wpAnyH_take (i := 15) (v := ?_) rfl (by kernel_rfl) (by kernel_rfl) (by kernel_rfl) (fun _ _ _ h => h) (Or.inl ⟨by rfl, ?_⟩) (by assumption) ?_; rotate_left; (focus (intro w' hSw; go_simp; try with_reducible rfl)); (try simp only [List.getElem_toArray]); (try simp only [List.getElem_cons_succ]); (try simp only [List.getElem_cons_zero]); (try simp only [Act.put]); (try simp only [List.setIfInBounds_toArray]); (try simp only [List.set_cons_succ]); (try simp only [List.set_cons_zero]))
      (refine wpAnyH_take (i := 16) (v := ?_) rfl (by kernel_rfl) (by kernel_rfl) (by kernel_rfl) (fun _ _ _ h => h) (Or.inl ⟨by rfl, ?_⟩) (by assumption) ?_; rotate_left; (focus (intro w' hSw; go_simp; try with_reducible rfl)); (try simp only [List.getElem_toArray]); (try simp only [List.getElem_cons_succ]); (try simp only [List.getElem_cons_zero]); (try simp only [Act.put]); (try simp only [List.setIfInBounds_toArray]); (try simp only [List.set_cons_succ]); (try simp only [List.set_cons_zero]))
      (refine wpAnyH_take (i := 17) (v := ?_) rfl (by kernel_rfl) (by kernel_rfl) (by kernel_rfl) (fun _ _ _ h => h) (Or.inl ⟨by rfl, ?_⟩) (by assumption) ?_; rotate_left; (focus (intro w' hSw; go_simp; try with_reducible rfl)); (try simp only [List.getElem_toArray]); (try simp only [List.getElem_cons_succ]); (try simp only [List.getElem_cons_zero]); (try simp only [Act.put]); (try simp only [List.setIfInBounds_toArray]); (try simp only [List.set_cons_succ]); (try simp only [List.set_cons_zero]))
      (refine wpAnyH_take (i := 18) (v := ?_) rfl (by kernel_rfl) (by kernel_rfl) (by kernel_rfl) (fun _ _ _ h => h) (Or.inl ⟨by rfl, ?_⟩) (by assumption) ?_; rotate_left; (focus (intro w' hSw; go_simp; try with_reducible rfl)); (try simp only [List.getElem_toArray]); (try simp only [List.getElem_cons_succ]); (try simp only [List.getElem_cons_zero]); (try simp only [Act.put]); (try simp only [List.setIfInBounds_toArray]); (try simp only [List.set_cons_succ]); (try simp only [List.set_cons_zero]))
      (refine wpAnyH_take (i := 19) (v := ?_) rfl (by kernel_rfl) (by kernel_rfl) (by kernel_rfl) (fun _ _ _ h => h) (Or.inl ⟨by rfl, ?_⟩) (by assumption) ?_; rotate_left; (focus (intro w' hSw; have kc := (B8.out.ext hSw).two; go_simp; try with_reducible rfl)); (try simp only [List.getElem_toArray]); (try simp only [List.getElem_cons_succ]); (try simp only [List.getElem_cons_zero]); (try simp only [Act.put]); (try simp only [List.setIfInBounds_toArray]); (try simp only [List.set_cons_succ]); (try simp only [List.set_cons_zero]))
      (refine wpAnyH_take (i := 20) (v := ?_) rfl (by kernel_rfl) (by kernel_rfl) (by kernel_rfl) (fun _ _ _ h => h) (Or.inl ⟨by rfl, ?_⟩) (by assumption) ?_; rotate_left; (focus (intro w' hSw; have kc := (B10.out.ext hSw).two; go_simp; try with_reducible rfl)); (try simp only [List.getElem_toArray]); (try simp only [List.getElem_cons_succ]); (try simp only [List.getElem_cons_zero]); (try simp only [Act.put]); (try simp only [List.setIfInBounds_toArray]); (try simp only [List.set_cons_succ]); (try simp only [List.set_cons_zero]))
      (refine wpAnyH_ready (rs := [21]) (by kernel_rfl) (by simp) ?_; refine AllReadyH.cons rfl (fun K hK => ?_) AllReadyH.nil; go_simp; go_at_call 20; refine (HS1.out _ (R8.out.ext (Ext.refl W7).drew) (R10.out.ext (Ext.refl W7).drew)).mono ?_; rintro e x1 ⟨rfl, F1⟩; (try dsimp only); refine hK.out _ _ ((Ext.refl W7).drew.trans F1) (fun hHeld => ?_); clear hK K; (try simp only [Act.put]); (try simp only [List.getElem_toArray]); (try simp only [List.getElem_cons_succ]); (try simp only [List.getElem_cons_zero]); (try simp only [List.setIfInBounds_toArray]); (try simp only [List.set_cons_succ]); (try simp only [List.set_cons_zero]))
      have EF1 := (Ext.refl W7).drew.trans F1
      (refine wpAnyH_take (i := 22) (v := ?_) rfl (by kernel_rfl) (by kernel_rfl) (by kernel_rfl) (fun _ _ _ h => h) (Or.inl ⟨by rfl, ?_⟩) (by assumption) ?_; rotate_left; (focus (intro w' hSw; go_simp; try with_reducible rfl)); (try simp only [List.getElem_toArray]); (try simp only [List.getElem_cons_succ]); (try simp only [List.getElem_cons_zero]); (try simp only [Act.put]); (try simp only [List.setIfInBounds_toArray]); (try simp only [List.set_cons_succ]); (try simp only [List.set_cons_zero]))
      (refine wpAnyH_take (i := 23) (v := ?_) rfl (by kernel_rfl) (by kernel_rfl) (by kernel_rfl) (fun _ _ _ h => h) (Or.inl ⟨by rfl, ?_⟩) (by assumption) ?_; rotate_left; (focus (intro w' hSw; go_simp; try with_reducible rfl)); (try simp only [List.getElem_toArray]); (try simp only [List.getElem_cons_succ]); (try simp only [List.getElem_cons_zero]); (try simp only [Act.put]); (try simp only [List.setIfInBounds_toArray]); (try simp only [List.set_cons_succ]); (try simp only [List.set_cons_zero]))
      (refine wpAnyH_take (i := 24) (v := ?_) rfl (by kernel_rfl) (by kernel_rfl) (by kernel_rfl) (fun _ _ _ h => h) (Or.inl ⟨by rfl, ?_⟩) (by assumption) ?_; rotate_left; (focus (intro w' hSw; have kc := (T.out.ext hSw).two; go_simp; try with_reducible rfl)); (try simp only [List.getElem_toArray]); (try simp only [List.getElem_cons_succ]); (try simp only [List.getElem_cons_zero]); (try simp only [Act.put]); (try simp only [List.setIfInBounds_toArray]); (try simp only [List.set_cons_succ]); (try simp only [List.set_cons_zero]))
      (refine wpAnyH_take (i := 25) (v := .agg #[.slice Ad N c, .int .i64 nx, .int .i64 s, .int .i64 g0, .bool ts, .int .i64 pid, .int .i64 g, .bool wr]) rfl (by kernel_rfl) (by kernel_rfl) (by kernel_rfl) (fun _ _ _ h => h) (yieldsIf_load_mid (by rfl) 24 _ rfl _ _ rfl (#[.slice Ad N c, .int .i64 nx, .int .i64 s, .int .i64 g0, .bool ts, .int .i64 pid, .int .i64 g, .bool wr]).toList _ (fun w' hSw => (fun i u hu => by rw [(Blk.ext B.out hSw).cell, Nat.zero_add, ← Array.getElem?_toList]; exact hu)) Try.underlying24 rfl i24) (by assumption) ?_; (try simp only [List.getElem_toArray]); (try simp only [List.getElem_cons_succ]); (try simp only [List.getElem_cons_zero]); (try simp only [Act.put]); (try simp only [List.setIfInBounds_toArray]); (try simp only [List.set_cons_succ]); (try simp only [List.set_cons_zero]))
      (refine wpAnyH_ready (rs := [26]) (by kernel_rfl) (by simp) ?_; refine AllReadyH.cons rfl (fun K hK => ?_) AllReadyH.nil; go_simp; go_at_call 17; refine (HREF.out _ (H7.out.ext EF1)).mono ?_; rintro e x2 ⟨A5, c5, rfl, O5, F2⟩; (try dsimp only); refine hK.out _ _ (EF1.trans F2) (fun hHeld => ?_); clear hK K; (try simp only [Act.put]); (try simp only [List.getElem_toArray]); (try simp only [List.getElem_cons_succ]); (try simp only [List.getElem_cons_zero]); (try simp only [List.setIfInBounds_toArray]); (try simp only [List.set_cons_succ]); (try simp only [List.set_cons_zero]))
      have EF2 := EF1.trans F2
      (refine wpAnyH_ready (rs := [27]) (by kernel_rfl) (by simp) ?_; refine AllReadyH.cons rfl (fun K hK => ?_) AllReadyH.nil; go_simp; go_at_call 20; refine (HS2.out A5 c5 _ (R7.out.ext EF2) (rdy_pr O5.y)).mono ?_; rintro e x3 ⟨rfl, F3⟩; (try dsimp only); refine hK.out _ _ (EF2.trans F3) (fun hHeld => ?_); clear hK K; (try simp only [Act.put]); (try simp only [List.getElem_toArray]); (try simp only [List.getElem_cons_succ]); (try simp only [List.getElem_cons_zero]); (try simp only [List.setIfInBounds_toArray]); (try simp only [List.set_cons_succ]); (try simp only [List.set_cons_zero]))
      (refine wpAnyH_take (i := 28) (v := ?_) rfl (by kernel_rfl) (by kernel_rfl) (by kernel_rfl) (fun _ _ _ h => h) (Or.inl ⟨by rfl, ?_⟩) (by assumption) ?_; rotate_left; (focus (intro w' hSw; go_simp; try with_reducible rfl)); (try simp only [List.getElem_toArray]); (try simp only [List.getElem_cons_succ]); (try simp only [List.getElem_cons_zero]); (try simp only [Act.put]); (try simp only [List.setIfInBounds_toArray]); (try simp only [List.set_cons_succ]); (try simp only [List.set_cons_zero]))
      (refine wpAnyH_take (i := 29) (v := ?_) rfl (by kernel_rfl) (by kernel_rfl) (by kernel_rfl) (fun _ _ _ h => h) (Or.inl ⟨by rfl, ?_⟩) (by assumption) ?_; rotate_left; (focus (intro w' hSw; go_simp; try with_reducible rfl)); (try simp only [List.getElem_toArray]); (try simp only [List.getElem_cons_succ]); (try simp only [List.getElem_cons_zero]); (try simp only [Act.put]); (try simp only [List.setIfInBounds_toArray]); (try simp only [List.set_cons_succ]); (try simp only [List.set_cons_zero]))
      refine wpAnyH_done (by kernel_rfl) ?_ _
      clear HS1 HS2
      go_wp2
      go_ret
      exact ⟨rfl, E07.trans (EF2.trans F3)⟩
end Go.Proofs.Ytcncacllaonplaa
