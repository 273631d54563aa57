/- request: what puts its fields, by contract. Conditions: the fields are there. -/
import Derived.Test.YtldijmappinngaaGreatDoorPG04
namespace Go.Proofs.YtldijmappinngaaGreatDoor
open Go.RowKit Go.Kb
set_option maxRecDepth 100000

/-- what a putter leaves -/
def PuP (g : Nat) (A : Nat → Prop) (r : Rq) (w : World) (e : Ending) (w' : World) : Prop :=
  e = .returned (.tuple #[]) ∧ ∃ v, Blk w' g 92 (rqA r v) ∧ RdS Ub8 A w' v r.mo ∧ Mod (fun k => k = g) w w'
theorem fds_some {A : Nat → Prop} {w : World} {Ad : Option Addr} {n c : Nat} {fs : List Fd} (h : RdS FdR A w (.slice Ad n c) fs) (hn : 0 < n) : ∃ b off, Ad = some ⟨b, off, none⟩ ∧ A b := by
  obtain ⟨b, off, At, ct, f, rfl, -⟩ := fd_at h.1 hn
  obtain ⟨_, _, hv, _⟩ := h.1.shape
  simp only [Value.slice.injEq] at hv
  exact ⟨b, off, rfl, h.2 (by omega) b rfl⟩
theorem fds_at {A : Nat → Prop} {w : World} {b off n c j : Nat} {fs : List Fd} {f : Fd} (h : RdS FdR A w (.slice (some ⟨b, off, none⟩) n c) fs) (hf : fs[j]? = some f) :
    j < n ∧ ∃ At ct, w.cell? ⟨b, off + j * 4 + 1, none⟩ = some (.int .u32 f.n) ∧ w.cell? ⟨b, off + j * 4 + 2, none⟩ = some (.slice At f.t.length ct) ∧ Hid (RdS Ub8 A w (.slice At f.t.length ct) f.t) := by
  obtain ⟨_, _, hv, _⟩ := h.1.shape
  simp only [Value.slice.injEq] at hv
  have hj : j < n := by have := (List.getElem?_eq_some_iff.1 hf).1; omega
  obtain ⟨b', off', At, ct, f', he, c0, c1, c2, c3, hd, ht⟩ := fd_at h.1 hj
  simp only [Option.some.injEq, Addr.mk.injEq, and_true] at he
  obtain ⟨rfl, rfl⟩ := he
  have hff : f' = f := by
    have h9 := hd.out
    rw [hf] at h9
    simpa using h9.symm
  subst hff
  exact ⟨hj, At, ct, c1, c2, ht⟩
set_option maxHeartbeats 800000 in
theorem qputNone (g : Nat) (r : Rq) (v vl : Value) (A : Nat → Prop) (w : World) (h : Blk w g 92 (rqA r v)) (hv : RdS Ub8 A w v r.mo) : Calls Tryz.prog 51 #[.pointer (some ⟨g, 0, none⟩), vl] w (PuP g A r w) := by
  go_enter Tryz.func51, Tryz.ntmps51
  go_wp2
  go_end0
  exact ⟨rfl, v, h, hv, Mod.refl _ _⟩
set_option maxHeartbeats 800000 in
theorem qputText (g : Nat) (r : Rq) (v : Value) (Ad : Option Addr) (n c : Nat) (fs : List Fd) (f : Fd) (A : Nat → Prop) (w : World) (h : Blk w g 92 (rqA r v)) (hv : RdS Ub8 A w v r.mo) (hl : RdS FdR A w (.slice Ad n c) fs) (hf : fs[0]? = some f) (hn : 0 < n) (hA : ∀ k, A k → k ≠ g ∧ k < w.heap.size) :
    Calls Tryz.prog 54 #[.pointer (some ⟨g, 0, none⟩), .slice Ad n c] w (PuP g A { r with tx := strOfNums f.t } w) := by
  obtain ⟨b, off, rfl, -⟩ := fds_some hl hn
  obtain ⟨-, At, ct, k1, k2, ht⟩ := fds_at hl hf
  simp only [Nat.zero_mul, Nat.add_zero] at k1 k2
  have hcv : (convert 25 9 (.slice At f.t.length ct)).run Tryz.prog w = _ := RI.str Tryz.underlying25 Tryz.underlying5 Tryz.underlying9 (RdS.ri ht.out)
  obtain ⟨Av, cv, rfl, -, -⟩ := hv.shape
  have kg := (rqC h).k1
  have fg := h.frozen 1
  have HB := Lib.hid h
  have HV := Lib.hid hv
  have hn0 : (0 : Int) < (n : Int) := by omega
  clear h hv hl ht
  go_enter Tryz.func54, Tryz.ntmps54
  go_wp2
  go_end0
  have M1 : Mod (fun k => k = g) w (w.setCell ⟨g, 1, none⟩ (.string (strOfNums f.t))) := (Mod.refl _ _).set1 _
  exact ⟨rfl, _, by simpa using HB.out.set_ 1 (.string (strOfNums f.t)), HV.out.mod M1 (fun k _ hk he => (hA k hk).1 he), M1⟩
set_option maxHeartbeats 800000 in
theorem qputOn (g : Nat) (r : Rq) (v : Value) (Ad : Option Addr) (n c : Nat) (fs : List Fd) (f : Fd) (A : Nat → Prop) (w : World) (h : Blk w g 92 (rqA r v)) (hv : RdS Ub8 A w v r.mo) (hl : RdS FdR A w (.slice Ad n c) fs) (hf : fs[0]? = some f) (hn : 0 < n) (hA : ∀ k, A k → k ≠ g ∧ k < w.heap.size) :
    Calls Tryz.prog 60 #[.pointer (some ⟨g, 0, none⟩), .slice Ad n c] w (PuP g A { r with on := (f.n == 1) } w) := by
  obtain ⟨b, off, rfl, -⟩ := fds_some hl hn
  obtain ⟨-, At, ct, k1, k2, ht⟩ := fds_at hl hf
  simp only [Nat.zero_mul, Nat.add_zero] at k1 k2
  obtain ⟨Av, cv, rfl, -, -⟩ := hv.shape
  have kg := (rqC h).k9
  have fg := h.frozen 9
  have HB := Lib.hid h
  have HV := Lib.hid hv
  have hn0 : (0 : Int) < (n : Int) := by omega
  clear h hv hl ht
  go_enter Tryz.func60, Tryz.ntmps60
  go_wp2
  go_end0
  have M1 : Mod (fun k => k = g) w (w.setCell ⟨g, 9, none⟩ (.bool (f.n == 1))) := (Mod.refl _ _).set1 _
  exact ⟨rfl, _, by simpa using HB.out.set_ 9 (.bool (f.n == 1)), HV.out.mod M1 (fun k _ hk he => (hA k hk).1 he), M1⟩
set_option maxHeartbeats 800000 in
theorem qputCode (g : Nat) (r : Rq) (v : Value) (Ad : Option Addr) (n c : Nat) (fs : List Fd) (f : Fd) (A : Nat → Prop) (w : World) (h : Blk w g 92 (rqA r v)) (hv : RdS Ub8 A w v r.mo) (hl : RdS FdR A w (.slice Ad n c) fs) (hf : fs[0]? = some f) (hn : 0 < n) (hA : ∀ k, A k → k ≠ g ∧ k < w.heap.size) :
    Calls Tryz.prog 62 #[.pointer (some ⟨g, 0, none⟩), .slice Ad n c] w (PuP g A { r with co := f.n } w) := by
  obtain ⟨b, off, rfl, -⟩ := fds_some hl hn
  obtain ⟨-, At, ct, k1, k2, ht⟩ := fds_at hl hf
  simp only [Nat.zero_mul, Nat.add_zero] at k1 k2
  obtain ⟨Av, cv, rfl, -, -⟩ := hv.shape
  have kg := (rqC h).k10
  have fg := h.frozen 10
  have HB := Lib.hid h
  have HV := Lib.hid hv
  have hn0 : (0 : Int) < (n : Int) := by omega
  clear h hv hl ht
  go_enter Tryz.func62, Tryz.ntmps62
  go_wp2
  go_end0
  have M1 : Mod (fun k => k = g) w (w.setCell ⟨g, 10, none⟩ (.int .u32 f.n)) := (Mod.refl _ _).set1 _
  exact ⟨rfl, _, by simpa using HB.out.set_ 10 (.int .u32 f.n), HV.out.mod M1 (fun k _ hk he => (hA k hk).1 he), M1⟩
set_option maxHeartbeats 4000000 in
theorem qputEnv (g : Nat) (r : Rq) (v : Value) (Ad : Option Addr) (n c : Nat) (fs : List Fd) (f f2 : Fd) (A : Nat → Prop) (w : World) (h : Blk w g 92 (rqA r v)) (hv : RdS Ub8 A w v r.mo) (hl : RdS FdR A w (.slice Ad n c) fs) (hf : fs[0]? = some f) (hf2 : fs[1]? = some f2) (hn : 0 < n) (hA : ∀ k, A k → k ≠ g ∧ k < w.heap.size) :
    Calls Tryz.prog 48 #[.pointer (some ⟨g, 0, none⟩), .slice Ad n c] w (PuP g A { r with tx := strOfNums f.t, vl := strOfNums f2.t } w) := by
  obtain ⟨b, off, rfl, hb⟩ := fds_some hl hn
  obtain ⟨-, At, ct, k1, k2, ht⟩ := fds_at hl hf
  obtain ⟨hn1, Au, cu, m1, m2, hu⟩ := fds_at hl hf2
  simp only [Nat.zero_mul, Nat.add_zero, Nat.one_mul] at k1 k2 m1 m2
  obtain ⟨Av, cv, rfl, -, -⟩ := hv.shape
  have HB := Lib.hid h
  have HV := Lib.hid hv
  have hn0 : (0 : Int) < (n : Int) := by omega
  have hi1 : (1 : Int) < (n : Int) := by omega
  have hi2 : 1 < n := by omega
  have hbg : ¬ b = g := (hA b hb).1
  have hbw : b < w.heap.size := (hA b hb).2
  clear h hv hl
  go_enter Tryz.func48, Tryz.ntmps48
  refine wp_region_held_drew (S := fun w' => Mod (fun k => k = g) w w') (by kernel_rfl) (Mod.of_ext (Ext.drew (Ext.refl _))) (fun hHeld => ?_)
  obtain ⟨D, hD⟩ : ∃ D, D = w.drew := ⟨_, rfl⟩
  have ED : Ext w D := by rw [hD]; exact (Ext.refl _).drew
  rw [← hD] at hHeld ⊢
  clear hD
  (refine wpAnyH_take (i := 0) (v := ?_) rfl (by kernel_rfl) (by kernel_rfl) (by kernel_rfl) (fun _ _ _ h => h) (Or.inl ⟨by rfl, ?_⟩) (by assumption) ?_; rotate_left; (focus (intro w' hSw; go_simp; try with_reducible rfl)); (try simp only [List.getElem_toArray]); (try simp only [List.getElem_cons_succ]); (try simp only [List.getElem_cons_zero]); (try simp only [Act.put]); (try simp only [List.setIfInBounds_toArray]); (try simp only [List.set_cons_succ]); (try simp only [List.set_cons_zero]))
  (refine wpAnyH_take (i := 1) (v := ?_) rfl (by kernel_rfl) (by kernel_rfl) (by kernel_rfl) (fun _ _ _ h => h) (Or.inl ⟨by rfl, ?_⟩) (by assumption) ?_; rotate_left; (focus (intro w' hSw; go_simp; try with_reducible rfl)); (try simp only [List.getElem_toArray]); (try simp only [List.getElem_cons_succ]); (try simp only [List.getElem_cons_zero]); (try simp only [Act.put]); (try simp only [List.setIfInBounds_toArray]); (try simp only [List.set_cons_succ]); (try simp only [List.set_cons_zero]))
  (refine wpAnyH_take (i := 2) (v := ?_) rfl (by kernel_rfl) (by kernel_rfl) (by kernel_rfl) (fun _ _ _ h => h) (Or.inl ⟨by rfl, ?_⟩) (by assumption) ?_; rotate_left; (focus (intro w' hSw; go_simp; try with_reducible rfl)); (try simp only [List.getElem_toArray]); (try simp only [List.getElem_cons_succ]); (try simp only [List.getElem_cons_zero]); (try simp only [Act.put]); (try simp only [List.setIfInBounds_toArray]); (try simp only [List.set_cons_succ]); (try simp only [List.set_cons_zero]))
  (refine wpAnyH_take (i := 3) (v := ?_) rfl (by kernel_rfl) (by kernel_rfl) (by kernel_rfl) (fun _ _ _ h => h) (Or.inl ⟨by rfl, ?_⟩) (by assumption) ?_; rotate_left; (focus (intro w' hSw; go_simp; try with_reducible rfl)); (try simp only [List.getElem_toArray]); (try simp only [List.getElem_cons_succ]); (try simp only [List.getElem_cons_zero]); (try simp only [Act.put]); (try simp only [List.setIfInBounds_toArray]); (try simp only [List.set_cons_succ]); (try simp only [List.set_cons_zero]))
  (refine wpAnyH_take (i := 4) (v := ?_) rfl (by kernel_rfl) (by kernel_rfl) (by kernel_rfl) (fun _ _ _ h => h) (Or.inl ⟨by rfl, ?_⟩) (by assumption) ?_; rotate_left; (focus (intro w' hSw; go_simp; try with_reducible rfl)); (try simp only [List.getElem_toArray]); (try simp only [List.getElem_cons_succ]); (try simp only [List.getElem_cons_zero]); (try simp only [Act.put]); (try simp only [List.setIfInBounds_toArray]); (try simp only [List.set_cons_succ]); (try simp only [List.set_cons_zero]))
  (refine wpAnyH_take (i := 5) (v := ?_) rfl (by kernel_rfl) (by kernel_rfl) (by kernel_rfl) (fun _ _ _ h => h) (Or.inl ⟨by rfl, ?_⟩) (by assumption) ?_; rotate_left; (focus (intro w' hSw; have kc := (hSw.cell b (off + 2) hbw hbg).trans k2; go_simp; try with_reducible rfl)); (try simp only [List.getElem_toArray]); (try simp only [List.getElem_cons_succ]); (try simp only [List.getElem_cons_zero]); (try simp only [Act.put]); (try simp only [List.setIfInBounds_toArray]); (try simp only [List.set_cons_succ]); (try simp only [List.set_cons_zero]))
  (refine wpAnyH_take (i := 6) (v := ?_) rfl (by kernel_rfl) (by kernel_rfl) (by kernel_rfl) (fun _ _ _ h => h) (Or.inl ⟨by rfl, ?_⟩) (by assumption) ?_; rotate_left; (focus (intro w' hSw; have hcv := RI.str (P := Tryz.prog) Tryz.underlying25 Tryz.underlying5 Tryz.underlying9 (RdS.ri (ht.out.mod hSw (fun k _ hk he => (hA k hk).1 he))); go_simp; try with_reducible rfl)); (try simp only [List.getElem_toArray]); (try simp only [List.getElem_cons_succ]); (try simp only [List.getElem_cons_zero]); (try simp only [Act.put]); (try simp only [List.setIfInBounds_toArray]); (try simp only [List.set_cons_succ]); (try simp only [List.set_cons_zero]))
  (refine wpAnyH_take (i := 7) (v := ?_) rfl (by kernel_rfl) (by kernel_rfl) (by kernel_rfl) (fun _ _ _ h => h) (Or.inl ⟨by rfl, ?_⟩) (by assumption) ?_; rotate_left; (focus (intro w' hSw; go_simp; try with_reducible rfl)); (try simp only [List.getElem_toArray]); (try simp only [List.getElem_cons_succ]); (try simp only [List.getElem_cons_zero]); (try simp only [Act.put]); (try simp only [List.setIfInBounds_toArray]); (try simp only [List.set_cons_succ]); (try simp only [List.set_cons_zero]))
  (refine wpAnyH_take (i := 8) (v := ?_) rfl (by kernel_rfl) (by kernel_rfl) (by kernel_rfl) (fun _ _ _ h => h) (Or.inl ⟨by rfl, ?_⟩) (by assumption) ?_; rotate_left; (focus (intro w' hSw; go_simp; try with_reducible rfl)); (try simp only [List.getElem_toArray]); (try simp only [List.getElem_cons_succ]); (try simp only [List.getElem_cons_zero]); (try simp only [Act.put]); (try simp only [List.setIfInBounds_toArray]); (try simp only [List.set_cons_succ]); (try simp only [List.set_cons_zero]))
  (refine wpAnyH_take (i := 9) (v := ?_) rfl (by kernel_rfl) (by kernel_rfl) (by kernel_rfl) (fun _ _ _ h => h) (Or.inl ⟨by rfl, ?_⟩) (by assumption) ?_; rotate_left; (focus (intro w' hSw; go_simp; try with_reducible rfl)); (try simp only [List.getElem_toArray]); (try simp only [List.getElem_cons_succ]); (try simp only [List.getElem_cons_zero]); (try simp only [Act.put]); (try simp only [List.setIfInBounds_toArray]); (try simp only [List.set_cons_succ]); (try simp only [List.set_cons_zero]))
  (refine wpAnyH_take (i := 10) (v := ?_) rfl (by kernel_rfl) (by kernel_rfl) (by kernel_rfl) (fun _ _ _ h => h) (Or.inl ⟨by rfl, ?_⟩) (by assumption) ?_; rotate_left; (focus (intro w' hSw; have kc := (hSw.cell b (off + 4 + 2) hbw hbg).trans m2; go_simp; try with_reducible rfl)); (try simp only [List.getElem_toArray]); (try simp only [List.getElem_cons_succ]); (try simp only [List.getElem_cons_zero]); (try simp only [Act.put]); (try simp only [List.setIfInBounds_toArray]); (try simp only [List.set_cons_succ]); (try simp only [List.set_cons_zero]))
  (refine wpAnyH_take (i := 11) (v := ?_) rfl (by kernel_rfl) (by kernel_rfl) (by kernel_rfl) (fun _ _ _ h => h) (Or.inl ⟨by rfl, ?_⟩) (by assumption) ?_; rotate_left; (focus (intro w' hSw; have hcv := RI.str (P := Tryz.prog) Tryz.underlying25 Tryz.underlying5 Tryz.underlying9 (RdS.ri (hu.out.mod hSw (fun k _ hk he => (hA k hk).1 he))); go_simp; try with_reducible rfl)); (try simp only [List.getElem_toArray]); (try simp only [List.getElem_cons_succ]); (try simp only [List.getElem_cons_zero]); (try simp only [Act.put]); (try simp only [List.setIfInBounds_toArray]); (try simp only [List.set_cons_succ]); (try simp only [List.set_cons_zero]))
  (refine wpAnyH_take (i := 12) (v := ?_) rfl (by kernel_rfl) (by kernel_rfl) (by kernel_rfl) (fun _ _ _ h => h) (Or.inl ⟨by rfl, ?_⟩) (by assumption) ?_; rotate_left; (focus (intro w' hSw; go_simp; try with_reducible rfl)); (try simp only [List.getElem_toArray]); (try simp only [List.getElem_cons_succ]); (try simp only [List.getElem_cons_zero]); (try simp only [Act.put]); (try simp only [List.setIfInBounds_toArray]); (try simp only [List.set_cons_succ]); (try simp only [List.set_cons_zero]))
  (refine wpAnyH_take (i := 13) (v := ?_) rfl (by kernel_rfl) (by kernel_rfl) (by kernel_rfl) (fun _ _ _ h => h) (Or.inl ⟨by rfl, ?_⟩) (by assumption) ?_; rotate_left; (focus (intro w' hSw; go_simp; try with_reducible rfl)); (try simp only [List.getElem_toArray]); (try simp only [List.getElem_cons_succ]); (try simp only [List.getElem_cons_zero]); (try simp only [Act.put]); (try simp only [List.setIfInBounds_toArray]); (try simp only [List.set_cons_succ]); (try simp only [List.set_cons_zero]))
  (refine wpAnyH_take (i := 14) (v := ?_) rfl (by kernel_rfl) (by kernel_rfl) (by kernel_rfl) (fun _ _ _ h => h) (Or.inl ⟨by rfl, ?_⟩) (by assumption) ?_; rotate_left; (focus (intro w' hSw; go_simp; try with_reducible rfl)); (try simp only [List.getElem_toArray]); (try simp only [List.getElem_cons_succ]); (try simp only [List.getElem_cons_zero]); (try simp only [Act.put]); (try simp only [List.setIfInBounds_toArray]); (try simp only [List.set_cons_succ]); (try simp only [List.set_cons_zero]))
  have BD := HB.out.ext ED
  have g1 := BD.cell 1
  have f1 := BD.frozen 1
  have g2 := BD.cell 2
  have f2' := BD.frozen 2
  simp only [List.getElem?_toArray, List.getElem?_cons_succ, List.getElem?_cons_zero] at g1 g2
  (refine wpAnyH_ready (rs := [15]) (by kernel_rfl) (by simp) ?_; refine AllReadyH.cons rfl (fun K hK => ?_) AllReadyH.nil; go_simp; refine hK.out _ _ ((Mod.of_ext (S := fun k => k = g) ED).set1 (o := 1) (.string (strOfNums f.t))) (fun hHeld => ?_); clear hK K; (try simp only [Act.put]); (try simp only [List.getElem_toArray]); (try simp only [List.getElem_cons_succ]); (try simp only [List.getElem_cons_zero]); (try simp only [List.setIfInBounds_toArray]); (try simp only [List.set_cons_succ]); (try simp only [List.set_cons_zero]))
  (refine wpAnyH_take (i := 16) (v := ?_) rfl (by kernel_rfl) (by kernel_rfl) (by kernel_rfl) (fun _ _ _ h => h) (Or.inl ⟨by rfl, ?_⟩) (by assumption) ?_; rotate_left; (focus (intro w' hSw; go_simp; try with_reducible rfl)); (try simp only [List.getElem_toArray]); (try simp only [List.getElem_cons_succ]); (try simp only [List.getElem_cons_zero]); (try simp only [Act.put]); (try simp only [List.setIfInBounds_toArray]); (try simp only [List.set_cons_succ]); (try simp only [List.set_cons_zero]))
  (refine wpAnyH_take (i := 17) (v := ?_) rfl (by kernel_rfl) (by kernel_rfl) (by kernel_rfl) (fun _ _ _ h => h) (Or.inl ⟨by rfl, ?_⟩) (by assumption) ?_; rotate_left; (focus (intro w' hSw; go_simp; try with_reducible rfl)); (try simp only [List.getElem_toArray]); (try simp only [List.getElem_cons_succ]); (try simp only [List.getElem_cons_zero]); (try simp only [Act.put]); (try simp only [List.setIfInBounds_toArray]); (try simp only [List.set_cons_succ]); (try simp only [List.set_cons_zero]))
  (refine wpAnyH_take (i := 18) (v := ?_) rfl (by kernel_rfl) (by kernel_rfl) (by kernel_rfl) (fun _ _ _ h => h) (Or.inl ⟨by rfl, ?_⟩) (by assumption) ?_; rotate_left; (focus (intro w' hSw; go_simp; try with_reducible rfl)); (try simp only [List.getElem_toArray]); (try simp only [List.getElem_cons_succ]); (try simp only [List.getElem_cons_zero]); (try simp only [Act.put]); (try simp only [List.setIfInBounds_toArray]); (try simp only [List.set_cons_succ]); (try simp only [List.set_cons_zero]))
  (refine wpAnyH_ready (rs := [19]) (by kernel_rfl) (by simp) ?_; refine AllReadyH.cons rfl (fun K hK => ?_) AllReadyH.nil; go_simp; refine hK.out _ _ (((Mod.of_ext (S := fun k => k = g) ED).set1 (o := 1) (.string (strOfNums f.t))).set1 (o := 2) (.string (strOfNums f2.t))) (fun hHeld => ?_); clear hK K; (try simp only [Act.put]); (try simp only [List.getElem_toArray]); (try simp only [List.getElem_cons_succ]); (try simp only [List.getElem_cons_zero]); (try simp only [List.setIfInBounds_toArray]); (try simp only [List.set_cons_succ]); (try simp only [List.set_cons_zero]))
  refine wpAnyH_done (by kernel_rfl) ?_ _
  go_end0
  exact ⟨rfl, _, by simpa using (BD.set_ 1 (.string (strOfNums f.t))).set_ 2 (.string (strOfNums f2.t)), HV.out.mod hHeld (fun k _ hk he => (hA k hk).1 he), hHeld⟩
end Go.Proofs.YtldijmappinngaaGreatDoor
