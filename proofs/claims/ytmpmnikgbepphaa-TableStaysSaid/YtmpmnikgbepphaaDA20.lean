/- SetSession, by contract. No condition. -/
import Derived.Test.YtmpmnikgbepphaaCA20
namespace Go.Proofs.Ytmpmnikgbepphaa
open Go.RowKit Go.Kb

def SessPost (l : List Pr) (nx pid : Int) (Ad : Option Addr) (c : Nat) (w : World) (e : Ending) (w' : World) : Prop :=
  Ext w w' ∧ ((askL l nx [pid] ≠ 0 ∧ e = .returned (.tuple #[tv Ad l.length c nx, .int .i64 (askL l nx [pid])])) ∨
   (askL l nx [pid] = 0 ∧ 0 < (memL l nx pid).length ∧ e = .returned (.tuple #[tv Ad l.length c nx, .int .i64 12])) ∨
   (askL l nx [pid] = 0 ∧ (memL l nx pid).length = 0 ∧ ∃ A' c', e = .returned (.tuple #[tv A' l.length c' nx, .int .i64 0]) ∧ OwnS Rp 43 w.heap.size (fun _ => False) w' (.slice A' l.length c') (changeL (fun p => { p with group := pid, session := pid }) pid l)))
set_option maxRecDepth 100000 in
set_option maxHeartbeats 800000 in
theorem session_any {A : Nat → Prop} (Ad : Option Addr) (c : Nat) (l : List Pr) (nx pid : Int) (w : World) (h : RdY Rp A w (.slice Ad l.length c) l) :
    Calls Try.prog 58 #[tv Ad l.length c nx, .int .i64 pid] w (SessPost l nx pid Ad c w) := by
  have H := Lib.hid (rdy_pr (B := fun _ => False) h)
  obtain ⟨W, hW⟩ : ∃ W, W = ((w.alloc (.cells #[.slice Ad l.length c, .int .i64 nx] 29)).alloc (.cells #[.int .i64 pid] 3)).alloc (.cells #[.slice none 0 0, .int .i64 0] 29) := ⟨_, rfl⟩
  have hres := Lib.hid (show Blk W (w.heap.size + 1 + 1) 29 #[.slice none 0 0, .int .i64 0] by rw [hW]; exact Blk.at_ _ _ (by simp))
  have hst := Lib.hid (show Blk W (w.heap.size + 1) 3 #[.int .i64 pid] by rw [hW]; exact (Blk.at_ _ _ (by simp)).alloc _)
  have hbox := Lib.hid (show Blk W w.heap.size 29 #[.slice Ad l.length c, .int .i64 nx] by rw [hW]; exact ((Blk.new w _ _).alloc _).alloc _)
  have E0 : Ext w W := by rw [hW]; exact (by repeat (first | with_reducible exact Ext.refl _ | refine Ext.drewN ?_ _ | refine Ext.drew ?_ | refine Ext.alloc ?_ _ | assumption | (refine Below.trans ?_ (by assumption)) | (refine Ext.trans ?_ (by assumption)) | (refine Below.trans ?_ (Below.mono (by assumption) (by omega)))))
  have hsz := Lib.hid (show W.heap.size = w.heap.size + 3 by rw [hW]; simp)
  have HW := Lib.hid hW
  obtain ⟨e0, he0⟩ : ∃ e0, askL l nx [pid] = e0 := ⟨_, rfl⟩
  have HE := Lib.hid he0
  clear h hW he0
  go_enter Try.func58, Try.ntmps58
  go_wp2_with fail
  rw [← HW.out]
  refine (ask_any (B := fun _ => True) Ad _ c _ l nx [pid] _ (H.out.ext (E0.alloc _)) (RdY.singleB (e := Ib) (cs := [.int .i64 pid]) rfl (Blk.at_ _ _ (by first | rfl | (rw [HW.out]; simp))))).mono ?_
  rintro e w1 ⟨rfl, E1⟩
  rw [HE.out]
  have EW1 : Ext W w1 := Ext.trans ((Ext.refl W).alloc _) E1
  have E01 : Ext w w1 := E0.trans EW1
  clear E1
  have kb := (hbox.out.ext EW1).two
  have ks := (hres.out.ext EW1).two
  have kp := (hst.out.ext EW1).cell0
  by_cases hz : e0 = 0
  · subst hz
    obtain ⟨hr, _⟩ := askL_live HE.out
    have hl := (right_len hr).1
    clear hr ks
    go_wp2_with fail
    refine (members_any Ad c l nx pid w1 (H.out.ext E01)).mono ?_
    rintro e w2 ⟨A2, c2, rfl, _, E2⟩
    have EW2 := EW1.trans E2
    have E02 := E01.trans E2
    obtain ⟨n, hn⟩ : ∃ n, (memL l nx pid).length = n := ⟨_, rfl⟩
    rw [hn]
    have HN := Lib.hid hn
    have kb := (hbox.out.ext EW2).two
    have kp := (hst.out.ext EW2).cell0
    clear hn
    by_cases hp : 0 < n
    · have hp2 : (0 : Int) < (n : Int) := by omega
      have ks := (hres.out.ext EW2).two
      have hM7 : Mod (fun k => k = w.heap.size + 1 + 1) w2 _ := ((Mod.refl _ w2).set1 (.slice Ad l.length c) (o := 0)).set1 (.int .i64 nx) (o := 1)
      obtain ⟨q0, q1, _, _⟩ := ((hres.out.ext EW2).put2 (.slice Ad l.length c) (.int .i64 nx)).two
      go_wp2
      refine bodyPost_ret (v := .tuple #[tv Ad l.length c nx, .int .i64 12]) (by simp [results, Try.results58, go_sem, q0, q1]) rfl ?_
      exact ⟨Mod.toExt E02 hM7 (by intro k hk he; omega), .inr (.inl ⟨HE.out, by rw [HN.out]; exact hp, rfl⟩)⟩
    · obtain rfl : n = 0 := by omega
      clear hp
      go_wp2_with fail
      refine (change_any Ad c l nx pid w2 (H.out.ext E02) (by omega) (turns_session w2 (hst.out.ext EW2))).mono ?_
      rintro e w3 ⟨A3, c3, rfl, O3, E3⟩
      have S3 := hres.out.ext (EW2.trans E3)
      have ks := S3.two
      have hz1 := EW2.size
      have hr3 := Lib.hid O3.row
      have hM7 : Mod (fun k => k = w.heap.size + 1 + 1) w3 _ := ((Mod.refl _ w3).set1 (.slice A3 l.length c3) (o := 0)).set1 (.int .i64 nx) (o := 1)
      obtain ⟨q0, q1, _, _⟩ := (S3.put2 (.slice A3 l.length c3) (.int .i64 nx)).two
      have HZ := Lib.hid (show w.heap.size + 3 ≤ w2.heap.size by have := hsz.out; omega)
      clear hz1
      go_wp2
      refine bodyPost_ret (v := .tuple #[tv A3 l.length c3 nx, .int .i64 0]) (by simp [results, Try.results58, go_sem, q0, q1]) rfl ?_
      have hz := HZ.out
      exact ⟨Mod.toExt (E02.trans E3) hM7 (by intro k hk he; omega), .inr (.inr ⟨HE.out, HN.out, A3, c3, rfl, (O3.mod hM7 (fun k hk he => by have := (hr3.out k hk).1; omega) (fun k _ hk _ => hk)).lower (by omega)⟩)⟩
  · have hz2 : (e0 != 0) = true := by simpa using hz
    have hM7 : Mod (fun k => k = w.heap.size + 1 + 1) w1 _ := ((Mod.refl _ w1).set1 (.slice Ad l.length c) (o := 0)).set1 (.int .i64 nx) (o := 1)
    obtain ⟨q0, q1, _, _⟩ := ((hres.out.ext EW1).put2 (.slice Ad l.length c) (.int .i64 nx)).two
    go_wp2
    refine bodyPost_ret (v := .tuple #[tv Ad l.length c nx, .int .i64 e0]) (by simp [results, Try.results58, go_sem, q0, q1]) rfl ?_
    exact ⟨Mod.toExt E01 hM7 (by intro k hk he; omega), .inl ⟨by rw [HE.out]; exact hz, by rw [HE.out]⟩⟩
end Go.Proofs.Ytmpmnikgbepphaa
