/- One process more, by contract. Condition: few processes. -/
import Derived.Test.YtmpmnikgbepphaaH20
import Derived.Test.YtmpmnikgbepphaaLate
namespace Go.Proofs.Ytmpmnikgbepphaa
open Go.RowKit Go.Kb

theorem fold_zip : ∀ (cs pre post : List Value), post.length = cs.length → List.foldl (fun (a : Array Value) (x : Value × Nat) => a.setIfInBounds x.snd x.fst) (pre ++ post).toArray (cs.zipIdx pre.length) = (pre ++ cs).toArray
  | [], pre, post, h => by
    have : post = [] := List.eq_nil_of_length_eq_zero h
    rw [this]; rfl
  | c :: cs, pre, [], h => by simp at h
  | c :: cs, pre, d :: post, h => by
    have ih := fold_zip cs (pre ++ [c]) post (by simpa using h)
    rw [List.zipIdx_cons, List.foldl_cons]
    have e : ((pre ++ d :: post).toArray.setIfInBounds pre.length c) = (pre ++ [c] ++ post).toArray := by simp
    simp only [e]
    rw [show pre.length + 1 = (pre ++ [c]).length by simp, ih]
    simp
/-- a process put together from a process's cells -/
theorem fold_pr {q : Pr} (h : q.ok) : List.foldl (fun (a : Array Value) (x : Value × Nat) => a.setIfInBounds x.snd x.fst) #[.int .i64 0, .int .i64 0, .int .i64 0, .int .i64 0, .int .i64 0, .int .i64 0, .int .i64 0, .int .u64 0, .int .u64 0, .int .i64 0, .int .i64 0, .int .i64 0, .int .i64 0, .int .i64 0, .int .i64 0, .int .i64 0, .int .i64 0, .int .i64 0, .int .i64 0, .int .i64 0, .int .i64 0, .int .i64 0, .int .i64 0, .int .i64 0, .int .i64 0, .int .i64 0, .int .i64 0, .int .i64 0, .int .i64 0, .int .i64 0, .int .i64 0, .int .i64 0, .int .i64 0, .int .i64 0, .int .i64 0, .int .i64 0, .int .i64 0, .int .i64 0, .int .i64 0, .int .i64 0, .int .i64 0, .int .i64 0, .bool false] q.cells.zipIdx = q.cells.toArray := by
  have := fold_zip q.cells [] [.int .i64 0, .int .i64 0, .int .i64 0, .int .i64 0, .int .i64 0, .int .i64 0, .int .i64 0, .int .u64 0, .int .u64 0, .int .i64 0, .int .i64 0, .int .i64 0, .int .i64 0, .int .i64 0, .int .i64 0, .int .i64 0, .int .i64 0, .int .i64 0, .int .i64 0, .int .i64 0, .int .i64 0, .int .i64 0, .int .i64 0, .int .i64 0, .int .i64 0, .int .i64 0, .int .i64 0, .int .i64 0, .int .i64 0, .int .i64 0, .int .i64 0, .int .i64 0, .int .i64 0, .int .i64 0, .int .i64 0, .int .i64 0, .int .i64 0, .int .i64 0, .int .i64 0, .int .i64 0, .int .i64 0, .int .i64 0, .bool false] (by rw [Pr.len h]; rfl)
  exact this
theorem rp_rel (A : Nat → Prop) (w : World) {q : Pr} (h : q.ok) : Rp.rel A w q.cells q := ⟨rfl, h⟩
/-- a new process's number and state -/
def Pr.newAs (p : Pr) (nx : Int) : Pr := { p with pid := nx, state := 1 }
theorem Pr.newAs_ok {p : Pr} {nx : Int} (h : p.ok) : (p.newAs nx).ok := h
theorem newAs_cells (p : Pr) (nx : Int) : (p.cells.set 0 (.int .i64 nx)).set 4 (.int .i64 1) = (p.newAs nx).cells := by
  simp [Pr.cells, Pr.newAs]
/-- the number behind a number -/
def nextNo (nx : Int) : Int := IntKind.i64.wrap (nx + 1)
def MorePost (l : List Pr) (nx : Int) (p : Pr) (Ad : Option Addr) (c : Nat) (w : World) (e : Ending) (w' : World) : Prop :=
  Ext w w' ∧ ((l.length = 32 ∧ e = .returned (.tuple #[tv Ad l.length c nx, .int .i64 0, .int .i64 10])) ∨
    (l.length ≠ 32 ∧ ∃ A' c', e = .returned (.tuple #[tv A' (l.length + 1) c' (nextNo nx), .int .i64 nx, .int .i64 0]) ∧
      OwnS Rp 43 w.heap.size (fun _ => False) w' (.slice A' (l.length + 1) c') (l ++ [p.newAs nx])))
set_option maxRecDepth 100000 in
set_option maxHeartbeats 800000 in
theorem more_any {A : Nat → Prop} (Ad : Option Addr) (c : Nat) (l : List Pr) (nx : Int) (p : Pr) (w : World) (h : RdY Rp A w (.slice Ad l.length c) l) (hn : l.length ≤ 100000) (hok : p.ok) :
    Calls Try.prog 45 #[tv Ad l.length c nx, .agg p.cells.toArray] w (MorePost l nx p Ad c w) := by
  have H := Lib.hid (rdy_pr (B := fun _ => False) h)
  clear h
  by_cases hl : l.length = 32
  · have hl2 : ((l.length : Int) = 32) := by omega
    have k4 := (prAt_blk hok (Blk.new w 43 p.arr)).c0
    go_enter Try.func45, Try.ntmps45
    go_wp2
    refine bodyPost_ret (v := .tuple #[tv Ad 32 c nx, .int .i64 0, .int .i64 10]) (by simp [results, Try.results45, go_sem]) rfl ?_
    exact ⟨(by repeat (first | with_reducible exact Ext.refl _ | refine Ext.drewN ?_ _ | refine Ext.drew ?_ | refine Ext.alloc ?_ _ | assumption | (refine Below.trans ?_ (by assumption)) | (refine Ext.trans ?_ (by assumption)) | (refine Below.trans ?_ (Below.mono (by assumption) (by omega))))), .inl ⟨hl, by rw [hl]⟩⟩
  · have hl2 : ((l.length : Int) = 32) = False := by simp; omega
    have k4 : (w.alloc (.cells #[.slice Ad l.length c, .int .i64 nx] 29)).heap.size = w.heap.size + 1 := by simp
    have c0 := (pr_new (w.alloc (.cells #[.slice Ad l.length c, .int .i64 nx] 29)) 43 hok).c0
    have c4 := (pr_new (w.alloc (.cells #[.slice Ad l.length c, .int .i64 nx] 29)) 43 hok).c4
    go_enter Try.func45, Try.ntmps45
    go_wp2
    rw [newAs_cells]
    clear c0 c4 k4
    obtain ⟨q, hq⟩ : ∃ q, q = p.newAs nx := ⟨_, rfl⟩
    have hqk : q.ok := by rw [hq]; exact hok
    have HQ := Lib.hid hq
    have hq3 := Pr.len hqk
    have hq4 := fold_pr hqk
    have hq0 := Lib.hid (show q.pid = nx by rw [hq]; rfl)
    rw [← hq]
    clear hq
    have hbox := Lib.hid (Blk.new w 29 #[.slice Ad l.length c, .int .i64 nx])
    have hp := Lib.hid (Blk.at_ (w := w.alloc (.cells #[.slice Ad l.length c, .int .i64 nx] 29)) (B := w.heap.size + 1) 43 q.cells.toArray (by simp))
    have hres := Lib.hid (Blk.at_ (w := (w.alloc (.cells #[.slice Ad l.length c, .int .i64 nx] 29)).alloc (.cells q.cells.toArray 43)) (B := w.heap.size + 1 + 1) 29 #[.slice none 0 0, .int .i64 0] (by simp))
    obtain ⟨W, hW⟩ : ∃ W, W = ((w.alloc (.cells #[.slice Ad l.length c, .int .i64 nx] 29)).alloc (.cells q.cells.toArray 43)).alloc (.cells #[.slice none 0 0, .int .i64 0] 29) := ⟨_, rfl⟩
    have E0 : Ext w W := by rw [hW]; exact (by repeat (first | with_reducible exact Ext.refl _ | refine Ext.drewN ?_ _ | refine Ext.drew ?_ | refine Ext.alloc ?_ _ | assumption | (refine Below.trans ?_ (by assumption)) | (refine Ext.trans ?_ (by assumption)) | (refine Below.trans ?_ (Below.mono (by assumption) (by omega)))))
    have hbox := Lib.hid ((hbox.out.alloc (.cells q.cells.toArray 43)).alloc (.cells #[.slice none 0 0, .int .i64 0] 29))
    have hp := Lib.hid (hp.out.alloc (.cells #[.slice none 0 0, .int .i64 0] 29))
    have hsz := Lib.hid (show W.heap.size = w.heap.size + 3 by rw [hW]; simp)
    rw [← hW] at hbox hres hp ⊢
    clear hW
    refine region_till 10 (fun w' => Ext W w') (by kernel_rfl) (Ext.drew (Ext.refl _)) (fun hHeld => ?_)
    (refine till_take (i := 0) (v := ?_) rfl (by kernel_rfl) (by kernel_rfl) (by kernel_rfl) (by kernel_rfl) (fun _ _ _ h => h) (Or.inl ⟨by rfl, ?_⟩) (by assumption) ?_; rotate_left; (focus (intro w' hSw; go_simp; try with_reducible rfl)); (try simp only [List.getElem_toArray]); (try simp only [List.getElem_cons_succ]); (try simp only [List.getElem_cons_zero]); (try simp only [Act.put]); (try simp only [List.setIfInBounds_toArray]); (try simp only [List.set_cons_succ]); (try simp only [List.set_cons_zero]))
    (refine till_take (i := 1) (v := ?_) rfl (by kernel_rfl) (by kernel_rfl) (by kernel_rfl) (by kernel_rfl) (fun _ _ _ h => h) (Or.inl ⟨by rfl, ?_⟩) (by assumption) ?_; rotate_left; (focus (intro w' hSw; have kc := (hbox.out.ext hSw).two; go_simp; try with_reducible rfl)); (try simp only [List.getElem_toArray]); (try simp only [List.getElem_cons_succ]); (try simp only [List.getElem_cons_zero]); (try simp only [Act.put]); (try simp only [List.setIfInBounds_toArray]); (try simp only [List.set_cons_succ]); (try simp only [List.set_cons_zero]))
    (refine till_take (i := 3) (v := .agg q.cells.toArray) rfl (by kernel_rfl) (by kernel_rfl) (by kernel_rfl) (by kernel_rfl) (fun _ _ _ h => h) (yieldsIf_load_row (by rfl) 43 _ rfl _ rfl 43 q.cells.toArray _ _ (fun w' hSw => (Blk.ext hp.out hSw)) Try.underlying43 rfl (by rw [List.size_toArray]; exact i43' hqk)) (by assumption) ?_; (try simp only [Act.put]); (try simp only [List.getElem_toArray]); (try simp only [List.getElem_cons_succ]); (try simp only [List.getElem_cons_zero]); (try simp only [List.setIfInBounds_toArray]); (try simp only [List.set_cons_succ]); (try simp only [List.set_cons_zero]))
    (refine till_take (i := 6) (v := ?_) rfl (by kernel_rfl) (by kernel_rfl) (by kernel_rfl) (by kernel_rfl) (fun _ _ _ h => h) (Or.inl ⟨by rfl, ?_⟩) (by assumption) ?_; rotate_left; (focus (intro w' hSw; go_simp; try with_reducible rfl)); (try simp only [List.getElem_toArray]); (try simp only [List.getElem_cons_succ]); (try simp only [List.getElem_cons_zero]); (try simp only [Act.put]); (try simp only [List.setIfInBounds_toArray]); (try simp only [List.set_cons_succ]); (try simp only [List.set_cons_zero]))
    (refine till_take (i := 7) (v := ?_) rfl (by kernel_rfl) (by kernel_rfl) (by kernel_rfl) (by kernel_rfl) (fun _ _ _ h => h) (Or.inl ⟨by rfl, ?_⟩) (by assumption) ?_; rotate_left; (focus (intro w' hSw; have kc := (hbox.out.ext hSw).two; go_simp; try with_reducible rfl)); (try simp only [List.getElem_toArray]); (try simp only [List.getElem_cons_succ]); (try simp only [List.getElem_cons_zero]); (try simp only [Act.put]); (try simp only [List.setIfInBounds_toArray]); (try simp only [List.set_cons_succ]); (try simp only [List.set_cons_zero]))
    (refine till_take (i := 8) (v := ?_) rfl (by kernel_rfl) (by kernel_rfl) (by kernel_rfl) (by kernel_rfl) (fun _ _ _ h => h) (Or.inl ⟨by rfl, ?_⟩) (by assumption) ?_; rotate_left; (focus (intro w' hSw; go_simp; try with_reducible rfl)); (try simp only [List.getElem_toArray]); (try simp only [List.getElem_cons_succ]); (try simp only [List.getElem_cons_zero]); (try simp only [Act.put]); (try simp only [List.setIfInBounds_toArray]); (try simp only [List.set_cons_succ]); (try simp only [List.set_cons_zero]))
    refine till_ready (rs := [2, 4]) (by kernel_rfl) (by simp) ?_
    refine AllTill.cons rfl (fun K hK => ?_) (AllTill.cons rfl (fun K hK => ?_) AllTill.nil)
    · go_simp
      go_at_call 40
      refine (clone_pr (A := fun _ => False) _ l _ (H.out.ext (by repeat (first | with_reducible exact Ext.refl _ | refine Ext.drewN ?_ _ | refine Ext.drew ?_ | refine Ext.alloc ?_ _ | assumption | (refine Below.trans ?_ (by assumption)) | (refine Ext.trans ?_ (by assumption)) | (refine Below.trans ?_ (Below.mono (by assumption) (by omega)))))) (by omega)).mono ?_
      rintro e w2 ⟨A2, c2, rfl, o2, E2⟩
      have O2 := Lib.hid ((o2.mono (B := fun _ => False) fun k _ hk => hk.1).lower (base' := W.heap.size) (by simp))
      have hs2 := E2.size; simp at hs2
      (try dsimp only); refine hK.out _ _ (by repeat (first | with_reducible exact Ext.refl _ | refine Ext.drewN ?_ _ | refine Ext.drew ?_ | refine Ext.alloc ?_ _ | assumption | (refine Below.trans ?_ (by assumption)) | (refine Ext.trans ?_ (by assumption)) | (refine Below.trans ?_ (Below.mono (by assumption) (by omega))))) (fun hHeld => ?_); clear hK K; (try simp only [List.getElem_toArray]); (try simp only [List.getElem_cons_succ]); (try simp only [List.getElem_cons_zero]); (try simp only [Act.put]); (try simp only [List.setIfInBounds_toArray]); (try simp only [List.set_cons_succ]); (try simp only [List.set_cons_zero])
      (refine till_ready (rs := [4]) (by kernel_rfl) (by simp) ?_; refine AllTill.cons rfl (fun K hK => ?_) AllTill.nil; go_simp; refine hK.out _ _ (by repeat (first | with_reducible exact Ext.refl _ | refine Ext.drewN ?_ _ | refine Ext.drew ?_ | refine Ext.alloc ?_ _ | assumption | (refine Below.trans ?_ (by assumption)) | (refine Ext.trans ?_ (by assumption)) | (refine Below.trans ?_ (Below.mono (by assumption) (by omega))))) (fun hHeld => ?_); clear hK K; (try simp only [Act.put]); (try simp only [List.getElem_toArray]); (try simp only [List.getElem_cons_succ]); (try simp only [List.getElem_cons_zero]); (try simp only [List.setIfInBounds_toArray]); (try simp only [List.set_cons_succ]); (try simp only [List.set_cons_zero]))
      refine till_ready (rs := [5]) (by kernel_rfl) (by simp) ?_
      refine AllTill.cons rfl (fun K hK => ?_) AllTill.nil
      refine step_app (e := Rp) (base := W.heap.size) (B := fun _ => False) (A := fun _ => False) rfl (.tmp 18) (.tmp 20) rfl Try.underlying27 info_pr rfl (O2.out.ext (by repeat (first | with_reducible exact Ext.refl _ | refine Ext.drewN ?_ _ | refine Ext.drew ?_ | refine Ext.alloc ?_ _ | assumption | (refine Below.trans ?_ (by assumption)) | (refine Ext.trans ?_ (by assumption)) | (refine Below.trans ?_ (Below.mono (by assumption) (by omega)))))) rfl (RdY.singleB (cs := q.cells) (rp_rel (fun _ => False) _ hqk) (Blk.at_ _ _ rfl)) rfl (fun _ _ h => h.elim) (N := l.length + 1) rfl (by simp [maxLen]; omega) (by omega) (by first | omega | (simp; omega)) ?_
      intro A5 c5 w5 o5 M5 B5
      refine hK.out _ _ (Below.trans hHeld (B5.mono (by simp))) (fun hHeld => ?_)
      clear hK K
      (try simp only [List.getElem_toArray]); (try simp only [List.getElem_cons_succ]); (try simp only [List.getElem_cons_zero]); (try simp only [Act.put]); (try simp only [List.setIfInBounds_toArray]); (try simp only [List.set_cons_succ]); (try simp only [List.set_cons_zero])
      have O5 := Lib.hid o5
      clear M5 B5 o5
      (refine till_take (i := 9) (v := ?_) rfl (by kernel_rfl) (by kernel_rfl) (by kernel_rfl) (by kernel_rfl) (fun _ _ _ h => h) (Or.inl ⟨by rfl, ?_⟩) (by assumption) ?_; rotate_left; (focus (intro w' hSw; go_simp; try with_reducible rfl)); (try simp only [List.getElem_toArray]); (try simp only [List.getElem_cons_succ]); (try simp only [List.getElem_cons_zero]); (try simp only [Act.put]); (try simp only [List.setIfInBounds_toArray]); (try simp only [List.set_cons_succ]); (try simp only [List.set_cons_zero]))
      have kb := (hbox.out.ext hHeld).two
      (refine till_ready (rs := [10]) (by kernel_rfl) (by simp) ?_; refine AllTill.last rfl (fun K hK => ?_) AllTill.nil; go_simp; refine hK.out _ _ ?_; clear hK K; (try simp only [Act.put]); (try simp only [List.getElem_toArray]); (try simp only [List.getElem_cons_succ]); (try simp only [List.getElem_cons_zero]); (try simp only [List.setIfInBounds_toArray]); (try simp only [List.set_cons_succ]); (try simp only [List.set_cons_zero]))
      refine till_done (by kernel_rfl) ?_ _
      have hz := hsz.out
      have hb5 := hHeld.size
      have hr5 := O5.out.row
      have hMz : Mod (fun k => k = w.heap.size) w5 _ := ((Mod.refl _ w5).set1 (.slice A5 (l.length + 1) c5) (o := 0)).set1 (.int .i64 (IntKind.i64.wrap (nx + 1))) (o := 1)
      have BW := Lib.hid ((hbox.out.ext hHeld).put2 (.slice A5 (l.length + 1) c5) (.int .i64 (IntKind.i64.wrap (nx + 1))))
      have hp6 := Lib.hid ((hp.out.ext hHeld).mod hMz (by show ¬ _ = _; omega))
      have hs6 := Lib.hid ((hres.out.ext hHeld).mod hMz (by show ¬ _ = _; omega))
      have O6 := Lib.hid ((O5.out.mod hMz (fun k hk he => by have := (hr5 k hk).1; omega) (fun k _ hk he => hk)))
      have hr6 := O6.out.row
      have E6 : Ext w _ := Mod.toExt (E0.trans hHeld) hMz (by intro k hk he; omega)
      clear hMz kb
      generalize (w5.setCell _ _).setCell _ _ = W1 at *
      go_wp2
      refine wp_region_held_drew (S := fun w' => Mod (fun k => k = w.heap.size + 1 + 1) W1 w') (by kernel_rfl) (Mod.of_ext (Ext.drew (Ext.refl _))) (fun hHeld => ?_)
      have Ed : Ext W1 W1.drew := Ext.drew (Ext.refl _)
      generalize W1.drew = W2 at *
      (refine wpAnyH_take (i := 0) (v := ?_) rfl (by kernel_rfl) (by kernel_rfl) (by kernel_rfl) (fun _ _ _ h => h) (Or.inl ⟨by rfl, ?_⟩) (by assumption) ?_; rotate_left; (focus (intro w' hSw; have kc := (BW.out.mod hSw (by omega)).two; go_simp; try with_reducible rfl)); (try simp only [List.getElem_toArray]); (try simp only [List.getElem_cons_succ]); (try simp only [List.getElem_cons_zero]); (try simp only [Act.put]); (try simp only [List.setIfInBounds_toArray]); (try simp only [List.set_cons_succ]); (try simp only [List.set_cons_zero]))
      (refine wpAnyH_take (i := 1) (v := ?_) rfl (by kernel_rfl) (by kernel_rfl) (by kernel_rfl) (fun _ _ _ h => h) (Or.inl ⟨by rfl, ?_⟩) (by assumption) ?_; rotate_left; (focus (intro w' hSw; go_simp; try with_reducible rfl)); (try simp only [List.getElem_toArray]); (try simp only [List.getElem_cons_succ]); (try simp only [List.getElem_cons_zero]); (try simp only [Act.put]); (try simp only [List.setIfInBounds_toArray]); (try simp only [List.set_cons_succ]); (try simp only [List.set_cons_zero]))
      (refine wpAnyH_take (i := 2) (v := ?_) rfl (by kernel_rfl) (by kernel_rfl) (by kernel_rfl) (fun _ _ _ h => h) (Or.inl ⟨by rfl, ?_⟩) (by assumption) ?_; rotate_left; (focus (intro w' hSw; have kc := (prAt_blk hqk (hp6.out.mod hSw (by omega))).c0; go_simp; try with_reducible rfl)); (try simp only [List.getElem_toArray]); (try simp only [List.getElem_cons_succ]); (try simp only [List.getElem_cons_zero]); (try simp only [Act.put]); (try simp only [List.setIfInBounds_toArray]); (try simp only [List.set_cons_succ]); (try simp only [List.set_cons_zero]))
      have hr7 := hs6.out.ext Ed
      have ks := hr7.two
      (refine wpAnyH_ready (rs := [3]) (by kernel_rfl) (by simp) ?_; refine AllReadyH.cons rfl (fun K hK => ?_) AllReadyH.nil; go_simp; refine hK.out _ _ (((Mod.of_ext Ed).set1 _).set1 _) (fun hHeld => ?_); clear hK K; (try simp only [Act.put]); (try simp only [List.getElem_toArray]); (try simp only [List.getElem_cons_succ]); (try simp only [List.getElem_cons_zero]); (try simp only [List.setIfInBounds_toArray]); (try simp only [List.set_cons_succ]); (try simp only [List.set_cons_zero]))
      (refine wpAnyH_take (i := 4) (v := ?_) rfl (by kernel_rfl) (by kernel_rfl) (by kernel_rfl) (fun _ _ _ h => h) (Or.inl ⟨by rfl, ?_⟩) (by assumption) ?_; rotate_left; (focus (intro w' hSw; go_simp; try with_reducible rfl)); (try simp only [List.getElem_toArray]); (try simp only [List.getElem_cons_succ]); (try simp only [List.getElem_cons_zero]); (try simp only [Act.put]); (try simp only [List.setIfInBounds_toArray]); (try simp only [List.set_cons_succ]); (try simp only [List.set_cons_zero]))
      (refine wpAnyH_take (i := 5) (v := ?_) rfl (by kernel_rfl) (by kernel_rfl) (by kernel_rfl) (fun _ _ _ h => h) (Or.inl ⟨by rfl, ?_⟩) (by assumption) ?_; rotate_left; (focus (intro w' hSw; go_simp; try with_reducible rfl)); (try simp only [List.getElem_toArray]); (try simp only [List.getElem_cons_succ]); (try simp only [List.getElem_cons_zero]); (try simp only [Act.put]); (try simp only [List.setIfInBounds_toArray]); (try simp only [List.set_cons_succ]); (try simp only [List.set_cons_zero]))
      refine wpAnyH_done (by kernel_rfl) ?_ _
      have hM7 : Mod (fun k => k = w.heap.size + 1 + 1) W1 _ := ((Mod.of_ext Ed).set1 (.slice A5 (l.length + 1) c5) (o := 0)).set1 (.int .i64 (IntKind.i64.wrap (nx + 1))) (o := 1)
      obtain ⟨q0, q1, _, _⟩ := (hr7.put2 (.slice A5 (l.length + 1) c5) (.int .i64 (IntKind.i64.wrap (nx + 1)))).two
      have hz6 := E6.size
      clear ks
      go_wp2
      refine bodyPost_ret (v := .tuple #[tv A5 (l.length + 1) c5 (IntKind.i64.wrap (nx + 1)), .int .i64 q.pid, .int .i64 0]) (by simp [results, Try.results45, go_sem, q0, q1]) rfl ?_
      exact ⟨Mod.toExt E6 hM7 (by intro k hk he; omega), .inr ⟨hl, A5, c5, by rw [hq0.out]; rfl, by rw [← HQ.out]; exact ((O6.out.mod hM7 (fun k hk he => by have := (hr6 k hk).1; omega) (fun k _ hk he => hk)).lower (by omega))⟩⟩
    · go_simp; refine hK.out _ _ (by repeat (first | with_reducible exact Ext.refl _ | refine Ext.drewN ?_ _ | refine Ext.drew ?_ | refine Ext.alloc ?_ _ | assumption | (refine Below.trans ?_ (by assumption)) | (refine Ext.trans ?_ (by assumption)) | (refine Below.trans ?_ (Below.mono (by assumption) (by omega))))) (fun hHeld => ?_); clear hK K; (try simp only [List.getElem_toArray]); (try simp only [List.getElem_cons_succ]); (try simp only [List.getElem_cons_zero]); (try simp only [Act.put]); (try simp only [List.setIfInBounds_toArray]); (try simp only [List.set_cons_succ]); (try simp only [List.set_cons_zero])
      (refine till_ready (rs := [2]) (by kernel_rfl) (by simp) ?_; refine AllTill.cons rfl (fun K hK => ?_) AllTill.nil)
      go_simp
      go_at_call 40
      refine (clone_pr (A := fun _ => False) _ l _ (H.out.ext (by repeat (first | with_reducible exact Ext.refl _ | refine Ext.drewN ?_ _ | refine Ext.drew ?_ | refine Ext.alloc ?_ _ | assumption | (refine Below.trans ?_ (by assumption)) | (refine Ext.trans ?_ (by assumption)) | (refine Below.trans ?_ (Below.mono (by assumption) (by omega)))))) (by omega)).mono ?_
      rintro e w2 ⟨A2, c2, rfl, o2, E2⟩
      have O2 := Lib.hid ((o2.mono (B := fun _ => False) fun k _ hk => hk.1).lower (base' := W.heap.size) (by simp))
      have hs2 := E2.size; simp at hs2
      (try dsimp only); refine hK.out _ _ (by repeat (first | with_reducible exact Ext.refl _ | refine Ext.drewN ?_ _ | refine Ext.drew ?_ | refine Ext.alloc ?_ _ | assumption | (refine Below.trans ?_ (by assumption)) | (refine Ext.trans ?_ (by assumption)) | (refine Below.trans ?_ (Below.mono (by assumption) (by omega))))) (fun hHeld => ?_); clear hK K; (try simp only [List.getElem_toArray]); (try simp only [List.getElem_cons_succ]); (try simp only [List.getElem_cons_zero]); (try simp only [Act.put]); (try simp only [List.setIfInBounds_toArray]); (try simp only [List.set_cons_succ]); (try simp only [List.set_cons_zero])
      refine till_ready (rs := [5]) (by kernel_rfl) (by simp) ?_
      refine AllTill.cons rfl (fun K hK => ?_) AllTill.nil
      refine step_app (e := Rp) (base := W.heap.size) (B := fun _ => False) (A := fun _ => False) rfl (.tmp 18) (.tmp 20) rfl Try.underlying27 info_pr rfl (O2.out.ext (by repeat (first | with_reducible exact Ext.refl _ | refine Ext.drewN ?_ _ | refine Ext.drew ?_ | refine Ext.alloc ?_ _ | assumption | (refine Below.trans ?_ (by assumption)) | (refine Ext.trans ?_ (by assumption)) | (refine Below.trans ?_ (Below.mono (by assumption) (by omega)))))) rfl (RdY.singleB (cs := q.cells) (rp_rel (fun _ => False) _ hqk) (Blk.ext (Blk.drew (Blk.at_ _ _ rfl)) E2)) rfl (fun _ _ h => h.elim) (N := l.length + 1) rfl (by simp [maxLen]; omega) (by omega) (by first | omega | (simp; omega)) ?_
      intro A5 c5 w5 o5 M5 B5
      refine hK.out _ _ (Below.trans hHeld (B5.mono (by simp))) (fun hHeld => ?_)
      clear hK K
      (try simp only [List.getElem_toArray]); (try simp only [List.getElem_cons_succ]); (try simp only [List.getElem_cons_zero]); (try simp only [Act.put]); (try simp only [List.setIfInBounds_toArray]); (try simp only [List.set_cons_succ]); (try simp only [List.set_cons_zero])
      have O5 := Lib.hid o5
      clear M5 B5 o5
      (refine till_take (i := 9) (v := ?_) rfl (by kernel_rfl) (by kernel_rfl) (by kernel_rfl) (by kernel_rfl) (fun _ _ _ h => h) (Or.inl ⟨by rfl, ?_⟩) (by assumption) ?_; rotate_left; (focus (intro w' hSw; go_simp; try with_reducible rfl)); (try simp only [List.getElem_toArray]); (try simp only [List.getElem_cons_succ]); (try simp only [List.getElem_cons_zero]); (try simp only [Act.put]); (try simp only [List.setIfInBounds_toArray]); (try simp only [List.set_cons_succ]); (try simp only [List.set_cons_zero]))
      have kb := (hbox.out.ext hHeld).two
      (refine till_ready (rs := [10]) (by kernel_rfl) (by simp) ?_; refine AllTill.last rfl (fun K hK => ?_) AllTill.nil; go_simp; refine hK.out _ _ ?_; clear hK K; (try simp only [Act.put]); (try simp only [List.getElem_toArray]); (try simp only [List.getElem_cons_succ]); (try simp only [List.getElem_cons_zero]); (try simp only [List.setIfInBounds_toArray]); (try simp only [List.set_cons_succ]); (try simp only [List.set_cons_zero]))
      refine till_done (by kernel_rfl) ?_ _
      have hz := hsz.out
      have hb5 := hHeld.size
      have hr5 := O5.out.row
      have hMz : Mod (fun k => k = w.heap.size) w5 _ := ((Mod.refl _ w5).set1 (.slice A5 (l.length + 1) c5) (o := 0)).set1 (.int .i64 (IntKind.i64.wrap (nx + 1))) (o := 1)
      have BW := Lib.hid ((hbox.out.ext hHeld).put2 (.slice A5 (l.length + 1) c5) (.int .i64 (IntKind.i64.wrap (nx + 1))))
      have hp6 := Lib.hid ((hp.out.ext hHeld).mod hMz (by show ¬ _ = _; omega))
      have hs6 := Lib.hid ((hres.out.ext hHeld).mod hMz (by show ¬ _ = _; omega))
      have O6 := Lib.hid ((O5.out.mod hMz (fun k hk he => by have := (hr5 k hk).1; omega) (fun k _ hk he => hk)))
      have hr6 := O6.out.row
      have E6 : Ext w _ := Mod.toExt (E0.trans hHeld) hMz (by intro k hk he; omega)
      clear hMz kb
      generalize (w5.setCell _ _).setCell _ _ = W1 at *
      go_wp2
      refine wp_region_held_drew (S := fun w' => Mod (fun k => k = w.heap.size + 1 + 1) W1 w') (by kernel_rfl) (Mod.of_ext (Ext.drew (Ext.refl _))) (fun hHeld => ?_)
      have Ed : Ext W1 W1.drew := Ext.drew (Ext.refl _)
      generalize W1.drew = W2 at *
      (refine wpAnyH_take (i := 0) (v := ?_) rfl (by kernel_rfl) (by kernel_rfl) (by kernel_rfl) (fun _ _ _ h => h) (Or.inl ⟨by rfl, ?_⟩) (by assumption) ?_; rotate_left; (focus (intro w' hSw; have kc := (BW.out.mod hSw (by omega)).two; go_simp; try with_reducible rfl)); (try simp only [List.getElem_toArray]); (try simp only [List.getElem_cons_succ]); (try simp only [List.getElem_cons_zero]); (try simp only [Act.put]); (try simp only [List.setIfInBounds_toArray]); (try simp only [List.set_cons_succ]); (try simp only [List.set_cons_zero]))
      (refine wpAnyH_take (i := 1) (v := ?_) rfl (by kernel_rfl) (by kernel_rfl) (by kernel_rfl) (fun _ _ _ h => h) (Or.inl ⟨by rfl, ?_⟩) (by assumption) ?_; rotate_left; (focus (intro w' hSw; go_simp; try with_reducible rfl)); (try simp only [List.getElem_toArray]); (try simp only [List.getElem_cons_succ]); (try simp only [List.getElem_cons_zero]); (try simp only [Act.put]); (try simp only [List.setIfInBounds_toArray]); (try simp only [List.set_cons_succ]); (try simp only [List.set_cons_zero]))
      (refine wpAnyH_take (i := 2) (v := ?_) rfl (by kernel_rfl) (by kernel_rfl) (by kernel_rfl) (fun _ _ _ h => h) (Or.inl ⟨by rfl, ?_⟩) (by assumption) ?_; rotate_left; (focus (intro w' hSw; have kc := (prAt_blk hqk (hp6.out.mod hSw (by omega))).c0; go_simp; try with_reducible rfl)); (try simp only [List.getElem_toArray]); (try simp only [List.getElem_cons_succ]); (try simp only [List.getElem_cons_zero]); (try simp only [Act.put]); (try simp only [List.setIfInBounds_toArray]); (try simp only [List.set_cons_succ]); (try simp only [List.set_cons_zero]))
      have hr7 := hs6.out.ext Ed
      have ks := hr7.two
      (refine wpAnyH_ready (rs := [3]) (by kernel_rfl) (by simp) ?_; refine AllReadyH.cons rfl (fun K hK => ?_) AllReadyH.nil; go_simp; refine hK.out _ _ (((Mod.of_ext Ed).set1 _).set1 _) (fun hHeld => ?_); clear hK K; (try simp only [Act.put]); (try simp only [List.getElem_toArray]); (try simp only [List.getElem_cons_succ]); (try simp only [List.getElem_cons_zero]); (try simp only [List.setIfInBounds_toArray]); (try simp only [List.set_cons_succ]); (try simp only [List.set_cons_zero]))
      (refine wpAnyH_take (i := 4) (v := ?_) rfl (by kernel_rfl) (by kernel_rfl) (by kernel_rfl) (fun _ _ _ h => h) (Or.inl ⟨by rfl, ?_⟩) (by assumption) ?_; rotate_left; (focus (intro w' hSw; go_simp; try with_reducible rfl)); (try simp only [List.getElem_toArray]); (try simp only [List.getElem_cons_succ]); (try simp only [List.getElem_cons_zero]); (try simp only [Act.put]); (try simp only [List.setIfInBounds_toArray]); (try simp only [List.set_cons_succ]); (try simp only [List.set_cons_zero]))
      (refine wpAnyH_take (i := 5) (v := ?_) rfl (by kernel_rfl) (by kernel_rfl) (by kernel_rfl) (fun _ _ _ h => h) (Or.inl ⟨by rfl, ?_⟩) (by assumption) ?_; rotate_left; (focus (intro w' hSw; go_simp; try with_reducible rfl)); (try simp only [List.getElem_toArray]); (try simp only [List.getElem_cons_succ]); (try simp only [List.getElem_cons_zero]); (try simp only [Act.put]); (try simp only [List.setIfInBounds_toArray]); (try simp only [List.set_cons_succ]); (try simp only [List.set_cons_zero]))
      refine wpAnyH_done (by kernel_rfl) ?_ _
      have hM7 : Mod (fun k => k = w.heap.size + 1 + 1) W1 _ := ((Mod.of_ext Ed).set1 (.slice A5 (l.length + 1) c5) (o := 0)).set1 (.int .i64 (IntKind.i64.wrap (nx + 1))) (o := 1)
      obtain ⟨q0, q1, _, _⟩ := (hr7.put2 (.slice A5 (l.length + 1) c5) (.int .i64 (IntKind.i64.wrap (nx + 1)))).two
      have hz6 := E6.size
      clear ks
      go_wp2
      refine bodyPost_ret (v := .tuple #[tv A5 (l.length + 1) c5 (IntKind.i64.wrap (nx + 1)), .int .i64 q.pid, .int .i64 0]) (by simp [results, Try.results45, go_sem, q0, q1]) rfl ?_
      exact ⟨Mod.toExt E6 hM7 (by intro k hk he; omega), .inr ⟨hl, A5, c5, by rw [hq0.out]; rfl, by rw [← HQ.out]; exact ((O6.out.mod hM7 (fun k hk he => by have := (hr6 k hk).1; omega) (fun k _ hk he => hk)).lower (by omega))⟩⟩
end Go.Proofs.Ytmpmnikgbepphaa
