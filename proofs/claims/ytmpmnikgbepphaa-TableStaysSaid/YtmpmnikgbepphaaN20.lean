/- A table with a process changed by a function value, by contract. Condition: few processes. -/
import Derived.Test.YtmpmnikgbepphaaM20
namespace Go.Proofs.Ytmpmnikgbepphaa
open Go.RowKit Go.Kb

/-- the first process of a number, changed -/
def changeL (g : Pr → Pr) (pid : Int) (l : List Pr) : List Pr :=
  match l.findIdx? (fun p => p.pid == pid) with
  | none => l
  | some j => match l[j]? with
    | none => l
    | some p => l.set j (g p)
theorem changeL_none {g : Pr → Pr} {pid : Int} {l : List Pr} (h : idxL (fun p => p.pid == pid) l = -1) : changeL g pid l = l := by
  unfold changeL
  unfold idxL at h
  split at h
  · omega
  · rename_i hn; rw [hn]
theorem changeL_some {g : Pr → Pr} {pid : Int} {l : List Pr} {j : Nat} {p : Pr} (h : idxL (fun p => p.pid == pid) l = j) (hp : l[j]? = some p) : changeL g pid l = l.set j (g p) := by
  unfold changeL
  unfold idxL at h
  split at h
  · rename_i i hi
    obtain rfl : i = j := by omega
    simp only [hi, hp]
  · omega
theorem changeL_len {g : Pr → Pr} {pid : Int} {l : List Pr} : (changeL g pid l).length = l.length := by
  unfold changeL
  split
  · rfl
  · split <;> simp
set_option maxRecDepth 100000 in
set_option maxHeartbeats 800000 in
theorem change_any {A : Nat → Prop} {k : Nat} {bs fs : Array Value} {g : Pr → Pr} (Ad : Option Addr) (c : Nat) (l : List Pr) (nx pid : Int) (w : World) (h : RdY Rp A w (.slice Ad l.length c) l) (hn : l.length ≤ 100000) (hf : Turns k bs fs g w) :
    Calls Try.prog 42 #[tv Ad l.length c nx, .int .i64 pid, .func (.func k) bs fs] w fun e w' => ∃ A' c', e = .returned (tv A' l.length c' nx) ∧ OwnS Rp 43 w.heap.size (fun _ => False) w' (.slice A' l.length c') (changeL g pid l) ∧ Ext w w' := by
  have H := Lib.hid (rdy_pr (B := fun _ => False) h)
  have HF := Lib.hid hf
  obtain ⟨W, hW⟩ : ∃ W, W = (w.alloc (.cells #[.slice Ad l.length c, .int .i64 nx] 29)).alloc (.cells #[.slice none 0 0, .int .i64 0] 29) := ⟨_, rfl⟩
  have hres := Lib.hid (show Blk W (w.heap.size + 1) 29 #[.slice none 0 0, .int .i64 0] by rw [hW]; exact Blk.at_ _ _ (by simp))
  have hbox := Lib.hid (show Blk W w.heap.size 29 #[.slice Ad l.length c, .int .i64 nx] by rw [hW]; exact (Blk.new w _ _).alloc _)
  have E0 : Ext w W := by rw [hW]; exact (by repeat (first | with_reducible exact Ext.refl _ | refine Ext.drewN ?_ _ | refine Ext.drew ?_ | refine Ext.alloc ?_ _ | assumption | (refine Below.trans ?_ (by assumption)) | (refine Ext.trans ?_ (by assumption)) | (refine Below.trans ?_ (Below.mono (by assumption) (by omega)))))
  have hsz := Lib.hid (show W.heap.size = w.heap.size + 2 by rw [hW]; simp)
  have HW := Lib.hid hW
  clear h hf hW
  go_enter Try.func42, Try.ntmps42
  go_wp2_with fail
  rw [← HW.out]
  refine (twin_any Ad c l nx _ (H.out.ext E0) (by omega)).mono ?_
  rintro e w1 ⟨A2, c2, rfl, o2, E1⟩
  have hr2 := o2.row
  have hz := hsz.out
  have kb := (hbox.out.ext E1).two
  have hMz : Mod (fun k => k = w.heap.size) w1 _ := ((Mod.refl _ w1).set1 (.slice A2 l.length c2) (o := 0)).set1 (.int .i64 nx) (o := 1)
  have BW := Lib.hid ((hbox.out.ext E1).put2 (.slice A2 l.length c2) (.int .i64 nx))
  have hs1 := Lib.hid ((hres.out.ext E1).mod hMz (by show ¬ _ = _; omega))
  have O1 := Lib.hid (o2.mod hMz (fun k hk he => by have := (hr2 k hk).1; omega) (fun k _ hk he => hk))
  have E01 : Ext w _ := Mod.toExt (E0.trans E1) hMz (by intro k hk he; omega)
  clear hMz o2 hr2 hz
  go_wp2
  clear kb
  generalize (w1.setCell _ _).setCell _ _ = W1 at *
  refine wp_region_held_drew (S := fun w' => Ext W1 w') (by kernel_rfl) (Ext.drew (Ext.refl _)) (fun hHeld => ?_)
  (refine wpAnyH_take (i := 0) (v := ?_) rfl (by kernel_rfl) (by kernel_rfl) (by kernel_rfl) (fun _ _ _ h => h) (Or.inl ⟨by rfl, ?_⟩) (by assumption) ?_; rotate_left; (focus (intro w' hSw; have kc := (BW.out.ext hSw).two; go_simp; try with_reducible rfl)); (try simp only [List.getElem_toArray]); (try simp only [List.getElem_cons_succ]); (try simp only [List.getElem_cons_zero]); (try simp only [Act.put]); (try simp only [List.setIfInBounds_toArray]); (try simp only [List.set_cons_succ]); (try simp only [List.set_cons_zero]))
  (refine wpAnyH_take (i := 1) (v := ?_) rfl (by kernel_rfl) (by kernel_rfl) (by kernel_rfl) (fun _ _ _ h => h) (Or.inl ⟨by rfl, ?_⟩) (by assumption) ?_; rotate_left; (focus (intro w' hSw; go_simp; try with_reducible rfl)); (try simp only [List.getElem_toArray]); (try simp only [List.getElem_cons_succ]); (try simp only [List.getElem_cons_zero]); (try simp only [Act.put]); (try simp only [List.setIfInBounds_toArray]); (try simp only [List.set_cons_succ]); (try simp only [List.set_cons_zero]))
  (refine wpAnyH_ready (rs := [2]) (by kernel_rfl) (by simp) ?_; refine AllReadyH.cons rfl (fun K hK => ?_) AllReadyH.nil; go_simp; go_at_call 41; refine (is_any pid _).mono ?_; rintro e w2 ⟨n2, rfl, F2, E2⟩; (try dsimp only); refine hK.out _ _ (by repeat (first | with_reducible exact Ext.refl _ | refine Ext.drewN ?_ _ | refine Ext.drew ?_ | refine Ext.alloc ?_ _ | assumption | (refine Below.trans ?_ (by assumption)) | (refine Ext.trans ?_ (by assumption)) | (refine Below.trans ?_ (Below.mono (by assumption) (by omega))))) (fun hHeld => ?_); clear hK K; (try simp only [Act.put]); (try simp only [List.getElem_toArray]); (try simp only [List.getElem_cons_succ]); (try simp only [List.getElem_cons_zero]); (try simp only [List.setIfInBounds_toArray]); (try simp only [List.set_cons_succ]); (try simp only [List.set_cons_zero]))
  have E12 : Ext W1 w2 := by assumption
  have hfind := find_any A2 c2 l nx w2 (RdY.ext (rdy_pr (B := fun _ => False) O1.out.y) E12) F2
  (refine wpAnyH_ready (rs := [3]) (by kernel_rfl) (by simp) ?_; refine AllReadyH.cons rfl (fun K hK => ?_) AllReadyH.nil; go_simp; go_at_call 37; refine (hfind).mono ?_; rintro e w4 ⟨E4, (⟨hx, m0, rfl, hm0, hz⟩ | ⟨j, b, off, hx, hlt, rfl, rfl⟩)⟩; all_goals ((try dsimp only); refine hK.out _ _ (by repeat (first | with_reducible exact Ext.refl _ | refine Ext.drewN ?_ _ | refine Ext.drew ?_ | refine Ext.alloc ?_ _ | assumption | (refine Below.trans ?_ (by assumption)) | (refine Ext.trans ?_ (by assumption)) | (refine Below.trans ?_ (Below.mono (by assumption) (by omega))))) (fun hHeld => ?_); clear hK K; (try simp only [Act.put]); (try simp only [List.getElem_toArray]); (try simp only [List.getElem_cons_succ]); (try simp only [List.getElem_cons_zero]); (try simp only [List.setIfInBounds_toArray]); (try simp only [List.set_cons_succ]); (try simp only [List.set_cons_zero])))
  all_goals
    (refine wpAnyH_take (i := 4) (v := ?_) rfl (by kernel_rfl) (by kernel_rfl) (by kernel_rfl) (fun _ _ _ h => h) (Or.inl ⟨by rfl, ?_⟩) (by assumption) ?_; rotate_left; (focus (intro w' hSw; go_simp; try with_reducible rfl)); (try simp only [List.getElem_toArray]); (try simp only [List.getElem_cons_succ]); (try simp only [List.getElem_cons_zero]); (try simp only [Act.put]); (try simp only [List.setIfInBounds_toArray]); (try simp only [List.set_cons_succ]); (try simp only [List.set_cons_zero]))
    (refine wpAnyH_take (i := 5) (v := ?_) rfl (by kernel_rfl) (by kernel_rfl) (by kernel_rfl) (fun _ _ _ h => h) (Or.inl ⟨by rfl, ?_⟩) (by assumption) ?_; rotate_left; (focus (intro w' hSw; go_simp; try with_reducible rfl)); (try simp only [List.getElem_toArray]); (try simp only [List.getElem_cons_succ]); (try simp only [List.getElem_cons_zero]); (try simp only [Act.put]); (try simp only [List.setIfInBounds_toArray]); (try simp only [List.set_cons_succ]); (try simp only [List.set_cons_zero]))
    (refine wpAnyH_take (i := 6) (v := ?_) rfl (by kernel_rfl) (by kernel_rfl) (by kernel_rfl) (fun _ _ _ h => h) (Or.inl ⟨by rfl, ?_⟩) (by assumption) ?_; rotate_left; (focus (intro w' hSw; go_simp; try with_reducible rfl)); (try simp only [List.getElem_toArray]); (try simp only [List.getElem_cons_succ]); (try simp only [List.getElem_cons_zero]); (try simp only [Act.put]); (try simp only [List.setIfInBounds_toArray]); (try simp only [List.set_cons_succ]); (try simp only [List.set_cons_zero]))
    (refine wpAnyH_take (i := 7) (v := ?_) rfl (by kernel_rfl) (by kernel_rfl) (by kernel_rfl) (fun _ _ _ h => h) (Or.inl ⟨by rfl, ?_⟩) (by assumption) ?_; rotate_left; (focus (intro w' hSw; go_simp; try with_reducible rfl)); (try simp only [List.getElem_toArray]); (try simp only [List.getElem_cons_succ]); (try simp only [List.getElem_cons_zero]); (try simp only [Act.put]); (try simp only [List.setIfInBounds_toArray]); (try simp only [List.set_cons_succ]); (try simp only [List.set_cons_zero]))
    (refine wpAnyH_take (i := 8) (v := ?_) rfl (by kernel_rfl) (by kernel_rfl) (by kernel_rfl) (fun _ _ _ h => h) (Or.inl ⟨by rfl, ?_⟩) (by assumption) ?_; rotate_left; (focus (intro w' hSw; go_simp; try with_reducible rfl)); (try simp only [List.getElem_toArray]); (try simp only [List.getElem_cons_succ]); (try simp only [List.getElem_cons_zero]); (try simp only [Act.put]); (try simp only [List.setIfInBounds_toArray]); (try simp only [List.set_cons_succ]); (try simp only [List.set_cons_zero]))
    refine wpAnyH_done (by kernel_rfl) ?_ _
    have E14 : Ext W1 w4 := E12.trans E4
    have E04 : Ext w w4 := E01.trans E14
    have hz := hsz.out
    have O4 := Lib.hid (O1.out.ext E14)
    have B4 := Lib.hid (BW.out.ext E14)
    have S4 := Lib.hid (hs1.out.ext E14)
    clear O1 BW hs1 F2 hfind
  · have HX := Lib.hid (changeL_none (g := g) hx)
    clear hx hz
    have kb := B4.out.two
    have ks := S4.out.two
    have hM7 : Mod (fun k => k = w.heap.size + 1) w4 _ := ((Mod.refl _ w4).set1 (.slice A2 l.length c2) (o := 0)).set1 (.int .i64 nx) (o := 1)
    obtain ⟨q0, q1, _, _⟩ := (S4.out.put2 (.slice A2 l.length c2) (.int .i64 nx)).two
    go_wp2
    refine bodyPost_ret (v := tv A2 l.length c2 nx) (by simp [results, Try.results42, go_sem, q0, q1]) rfl ?_
    have hr := O4.out.row
    have hz := hsz.out
    refine ⟨A2, c2, rfl, ?_, Mod.toExt E04 hM7 (by intro k hk he; omega)⟩
    rw [HX.out]
    exact (O4.out.mod hM7 (fun k hk he => by have := (hr k hk).1; omega) (fun k _ hk _ => hk)).lower (by omega)
  · obtain ⟨p, hp⟩ : ∃ p, l[j]? = some p := ⟨_, List.getElem?_eq_getElem hlt⟩
    have HX := Lib.hid (changeL_some (g := g) hx hp)
    obtain ⟨b', hb', hbase, _⟩ := O4.out.addr (by omega)
    simp only [Option.some.injEq, Addr.mk.injEq, and_true] at hb'
    obtain ⟨rfl, rfl⟩ := hb'
    have HK := HF.out.1
    have HA := Lib.hid (HF.out.2 b W.heap.size l.length c2 j l p w4 E04 (by omega) O4.out hp)
    clear hx hp hz
    go_wp2_with fail
    refine HA.out.mono ?_
    rintro e w5 ⟨rfl, O5, M5⟩
    have hz := hsz.out
    have hr := O5.row
    have B5 := Lib.hid (B4.out.mod M5 (by show ¬ _ = _; omega))
    have S5 := Lib.hid (S4.out.mod M5 (by show ¬ _ = _; omega))
    have E05 : Ext w w5 := Mod.toExt E04 M5 (by intro k hk he; omega)
    have O5 := Lib.hid O5
    have kb := B5.out.two
    have ks := S5.out.two
    have hM7 : Mod (fun k => k = w.heap.size + 1) w5 _ := ((Mod.refl _ w5).set1 (.slice (some ⟨b, 0, none⟩) l.length c2) (o := 0)).set1 (.int .i64 nx) (o := 1)
    obtain ⟨q0, q1, _, _⟩ := (S5.out.put2 (.slice (some ⟨b, 0, none⟩) l.length c2) (.int .i64 nx)).two
    clear hz hr
    go_wp2
    refine bodyPost_ret (v := tv (some ⟨b, 0, none⟩) l.length c2 nx) (by simp [results, Try.results42, go_sem, q0, q1]) rfl ?_
    have hr := O5.out.row
    have hz := hsz.out
    refine ⟨_, c2, rfl, ?_, Mod.toExt E05 hM7 (by intro k hk he; omega)⟩
    rw [HX.out]
    exact (O5.out.mod hM7 (fun k hk he => by have := (hr k hk).1; omega) (fun k _ hk _ => hk)).lower (by omega)
end Go.Proofs.Ytmpmnikgbepphaa
