/- Set, by contract. No condition. -/
import Derived.Test.YtmpmnikgbepphaaZ20
namespace Go.Proofs.Ytmpmnikgbepphaa
open Go.RowKit Go.Kb

def SetPost (l : List Pr) (nx : Int) (q : Pr) (w : World) (e : Ending) (w' : World) : Prop :=
  Ext w w' ∧ ((rightL l nx = false ∧ e = .returned (tv none 0 0 0)) ∨ (rightL l nx = true ∧ ∃ A' c', e = .returned (tv A' l.length c' nx) ∧ OwnS Rp 43 w.heap.size (fun _ => False) w' (.slice A' l.length c') (changeL (fun _ => q) q.pid l)))
set_option maxRecDepth 100000 in
set_option maxHeartbeats 800000 in
theorem set_any {A : Nat → Prop} (Ad : Option Addr) (c : Nat) (l : List Pr) (nx : Int) (q : Pr) (w : World) (h : RdY Rp A w (.slice Ad l.length c) l) (hq : q.ok) :
    Calls Try.prog 25 #[tv Ad l.length c nx, .agg q.cells.toArray] w (SetPost l nx q w) := by
  have H := Lib.hid (rdy_pr (B := fun _ => False) h)
  obtain ⟨W, hW⟩ : ∃ W, W = ((w.alloc (.cells #[.slice Ad l.length c, .int .i64 nx] 29)).alloc (.cells q.cells.toArray 43)).alloc (.cells #[.slice none 0 0, .int .i64 0] 29) := ⟨_, rfl⟩
  have hres := Lib.hid (show Blk W (w.heap.size + 1 + 1) 29 #[.slice none 0 0, .int .i64 0] by rw [hW]; exact Blk.at_ _ _ (by simp))
  have hp := Lib.hid (show Blk W (w.heap.size + 1) 43 q.cells.toArray by rw [hW]; exact (Blk.at_ _ _ (by simp)).alloc _)
  have hbox := Lib.hid (show Blk W w.heap.size 29 #[.slice Ad l.length c, .int .i64 nx] by rw [hW]; exact ((Blk.new w _ _).alloc _).alloc _)
  have E0 : Ext w W := by rw [hW]; exact (by repeat (first | with_reducible exact Ext.refl _ | refine Ext.drewN ?_ _ | refine Ext.drew ?_ | refine Ext.alloc ?_ _ | assumption | (refine Below.trans ?_ (by assumption)) | (refine Ext.trans ?_ (by assumption)) | (refine Below.trans ?_ (Below.mono (by assumption) (by omega)))))
  have hsz := Lib.hid (show W.heap.size = w.heap.size + 3 by rw [hW]; simp)
  have HW := Lib.hid hW
  clear h hW
  go_enter Try.func25, Try.ntmps25
  go_wp2_with fail
  rw [← HW.out]
  refine (right_any Ad c l nx _ (H.out.ext E0)).mono ?_
  rintro e w1 ⟨rfl, E1⟩
  have E01 : Ext w w1 := E0.trans E1
  have kb := (hbox.out.ext E1).two
  have ks := (hres.out.ext E1).two
  have kp := (prAt_blk hq (hp.out.ext E1)).c0
  cases hr : rightL l nx
  · have HR := Lib.hid hr
    clear hr
    have hM7 : Mod (fun k => k = w.heap.size + 1 + 1) w1 _ := ((Mod.refl _ w1).set1 (.slice none 0 0) (o := 0)).set1 (.int .i64 0) (o := 1)
    obtain ⟨q0, q1, _, _⟩ := ((hres.out.ext E1).put2 (.slice none 0 0) (.int .i64 0)).two
    go_wp2
    refine bodyPost_ret (v := tv none 0 0 0) (by simp [results, Try.results25, go_sem, q0, q1]) rfl ?_
    exact ⟨Mod.toExt E01 hM7 (by intro k hk he; omega), .inl ⟨HR.out, rfl⟩⟩
  · have HR := Lib.hid hr
    have hl := (right_len hr).1
    clear hr
    go_wp2_with fail
    refine (change_any Ad c l nx q.pid w1 (H.out.ext E01) (by omega) (turns_set w1 hq (hp.out.ext E1))).mono ?_
    rintro e w2 ⟨A2, c2, rfl, O2, E2⟩
    have S2 := hres.out.ext (E1.trans E2)
    have ks := S2.two
    have hz := hsz.out
    have hz1 := E1.size
    have hr2 := Lib.hid O2.row
    have hM7 : Mod (fun k => k = w.heap.size + 1 + 1) w2 _ := ((Mod.refl _ w2).set1 (.slice A2 l.length c2) (o := 0)).set1 (.int .i64 nx) (o := 1)
    obtain ⟨q0, q1, _, _⟩ := (S2.put2 (.slice A2 l.length c2) (.int .i64 nx)).two
    have HZ := Lib.hid (show w.heap.size + 3 ≤ w1.heap.size by omega)
    clear hz hz1
    go_wp2
    refine bodyPost_ret (v := tv A2 l.length c2 nx) (by simp [results, Try.results25, go_sem, q0, q1]) rfl ?_
    have hz := HZ.out
    exact ⟨Mod.toExt (E01.trans E2) hM7 (by intro k hk he; omega), .inr ⟨HR.out, A2, c2, rfl, (O2.mod hM7 (fun k hk he => by have := (hr2.out k hk).1; omega) (fun k _ hk _ => hk)).lower (by omega)⟩⟩
end Go.Proofs.Ytmpmnikgbepphaa
