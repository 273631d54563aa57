/- Whether a setting may be, by contract. Condition: the setting is one. -/
import Derived.Test.YtpngnmokagbekaaK08
namespace Go.Proofs.Ytpngnmokagbekaa
open Go.RowKit Go.Shelf Go.Kb
attribute [local go_sem] Oper.semAt_some

theorem toS_val {l : List Int} (h : ∀ x ∈ l, flagL x = true) : (toS l).map (·.1) = l := by
  induction l with
  | nil => rfl
  | cons x l ih =>
    have hx := h x (by simp)
    rw [show x :: l = [x] ++ l from rfl, toS_app, toS_one hx, List.map_append, ih fun y hy => h y (by simp [hy])]
    rfl
/-- the flags off that have come -/
def offS (f : Int) (l : List OpF) : Int := offF f (l.map (·.1))
theorem offS_snoc (f : Int) (l : List OpF) (x : OpF) : offS f (l ++ [x]) = fset (offS f l) x.1 false := by
  unfold offS
  rw [List.map_append, List.map_cons, List.map_nil, offF_snoc]
theorem offS_bd : ∀ (l : List OpF) {f : Int} (_ : 0 ≤ f ∧ f < 18446744073709551616), 0 ≤ offS f l ∧ offS f l < 18446744073709551616
  | [], _, hf => hf
  | x :: l, _, hf => offS_bd l (fset_bd false hf (flag_bd x.2))
theorem offS_all (t : Tm) : offS t.f (toS flagsAll) = (offT 64 t).f := by
  unfold offS
  rw [toS_val flagsAll_flag, offT_all]
theorem flags_stops (n : Nat) (hn : 1 ≤ n) (w : World) : SeqStopsK Fence.wide n Try.prog 38 #[] (fun x : OpF => #[.int .i64 x.1]) KpF (fun xs => xs = toS flagsAll) (fun _ => True) 36 w :=
  fun l J Jx W _ hJ _ hY h0 => flags_in n hn l J Jx W hJ hY h0
theorem ko_ext {W W' : World} (h : Ext W W') : KeepsOthers W W' := ⟨h.size, fun _ _ hk _ => (h.block _ (Array.getElem?_eq_some_iff.1 hk).1).trans hk⟩
theorem kp_ext {W W' : World} (h : Ext W W') : KpF W W' := ⟨h.size, fun _ _ _ hg => (h.block _ (Array.getElem?_eq_some_iff.1 hg).1).trans hg⟩
theorem kp_set {W W' : World} (h : KpF W W') {g : Nat} {t : TypeId} {cs : Array Value} (hb : Blk W' g t cs) (ht : t ≠ 67) (i : Nat) (u : Value) : KpF W (W'.setCell ⟨g, i, none⟩ u) := by
  refine ⟨by simpa [World.setCell] using h.1, fun k ds fr hk => ?_⟩
  have h2 := h.2 k ds fr hk
  refine (Below.heap_setCell W' ⟨g, i, none⟩ u k ?_).trans h2
  rintro rfl
  unfold Blk at hb
  rw [hb] at h2
  simp at h2
  exact ht h2.2.1
set_option maxRecDepth 100000 in
set_option maxHeartbeats 800000 in
theorem right_any (t : Tm) (w : World) (ht : t.Ok) : Calls Try.prog 21 #[.agg t.arr] w fun e w' => e = .returned (.bool (rightL t)) ∧ Ext w w' := by
  have hf : rightL t = decide ((offT 64 t).f = 0 ∧ t.c.getD 0 0 = 0 ∧ 0 ≤ t.m ∧ t.m ≤ 255 ∧ 0 ≤ t.t ∧ t.t ≤ 255) := rfl
  obtain ⟨z, hz0⟩ : ∃ z, rightL t = z := ⟨_, rfl⟩; rw [hz0]; have HZ := Lib.hid (hz0.symm.trans hf); clear hz0 hf
  have hn := t.size ht
  have a0 := Tm.at_ ht (k := 0) (by decide)
  have a22 := Tm.at22 ht
  have a23 := Tm.at23 ht
  have a19 := Tm.at19 ht
  have hall := offS_all t
  have hfb := ht.f
  generalize hcs : t.arr = cs at *
  have c0 := (Blk.new w 27 cs).cell 19
  rw [a19] at c0
  clear hcs
  generalize t.f = f at *
  refine (callsIn_wide (n := 5)).1 ?_
  refine callsIn_of_wp_marks Try.func21 rfl trivial ?_ rfl
  simp only [Try.ntmps21, List.size_toArray, List.length_cons, List.length_nil, Nat.reduceAdd, Nat.reduceSub, Array.replicate_succ, Array.replicate_zero, List.push_toArray, List.append_toArray, List.nil_append, List.cons_append]
  gi_wp2_with (refine ⟨trivial, ?_⟩; gi_at_call 34; refine (callsIn_wide.2 (flags_any _)).mono ?_; rintro e w1 ⟨rfl, rfl⟩)
  obtain ⟨W0, hW0⟩ : ∃ W0, (w.alloc (.cells cs 27)).alloc (.cells #[.int .u64 f] 24) = W0 := ⟨_, rfl⟩
  have hs0 : W0.heap.size = w.heap.size + 2 := by rw [← hW0]; simp
  have hE0 : Below w.heap.size w W0 := by rw [← hW0]; exact (by repeat (first | with_reducible exact Ext.refl _ | refine Ext.drewN ?_ _ | refine Ext.drew ?_ | refine Ext.alloc ?_ _ | assumption | (refine Below.trans ?_ (by assumption)) | (refine Ext.trans ?_ (by assumption)) | (refine Below.trans ?_ (Below.mono (by assumption) (by omega)))))
  have hT0 : Blk W0 w.heap.size 27 cs := by rw [← hW0]; exact (Blk.new w _ cs).alloc _
  have hR0 : Blk W0 (w.heap.size + 1) 24 #[.int .u64 f] := by rw [← hW0]; exact Blk.at_ _ _ (by simp)
  rw [hW0]
  refine wpIn_rangeFunc_ownF rfl (by omega) (gf := 38) (lb := #[]) rfl trivial (enters_of Try.func38 (by kernel_rfl) rfl)
    (flags_stops 4 (by omega) W0) KpF.t (fun W l o o' _ h ho _ => KpF.b W l o o' h ho) (Below.refl _ _) (fun _ => rfl)
    (fun pre W => (Blk W (w.heap.size + 1) 24 #[.int .u64 (offS f pre)] ∧ Blk W w.heap.size 27 cs) ∧ Below w.heap.size w W)
    (fun _ _ _ => False)
    (OwnFrom.and (fun s A B row hs hg hr => ⟨hs.1.grown hg (fun e => by have := (hr _ e.symm).1; omega), hs.2.grown hg (fun e => by have := (hr _ e.symm).1; omega)⟩) (ownFrom_below (Nat.le_refl _) (by omega)))
    (fun _ _ _ _ _ hs _ _ => hs)
    ⟨⟨hR0, hT0⟩, hE0⟩ ?a1 ?assign ?body ?done ?stop
  case assign =>
    intro l x W K hK
    gi_wp2
    exact hK
  case stop =>
    rintro D c pre W hD _ h _
    exact h.elim
  case body =>
    rintro l pre x W ⟨⟨hR, hT⟩, hB⟩ _
    have hfl := x.2
    have hb := flag_bd hfl
    have hv : bits .andNot .u64 (offS f pre) (pw x.1) = offS f (pre ++ [x]) := by rw [andNot_pw (offS_bd pre hfb) hb, offS_snoc]; rfl
    generalize hF2 : offS f (pre ++ [x]) = f2 at *
    generalize offS f pre = f1 at *
    obtain ⟨x, hx⟩ := x
    dsimp only at *
    have hc := hR.cell0
    have hz := hR.frozen 0
    have hd : 1 ≤ 5 - 1 - 1 := by omega
    have hmx : Try.prog.follows .mixedOrders = true := by kernel_rfl
    gi_wp2
    gi_region_with_o (refine ⟨trivial, ?_⟩; gi_at_call 31; refine (CallsIn.inRound l (callsIn_wide.2 (bit_any x _ hb))).mono ?_; rintro e w1 ⟨rfl, E1⟩; have E1 : Ext W w1 := Ext.trans (Ext.drew (Ext.refl W)) E1; have hc1 := cell_ext E1 hc; have hz1 := (hR.ext E1).frozen 0)
    all_goals exact ⟨(ko_ext E1).trans (KeepsOthers.setCell _ _ _), kp_set (kp_ext E1) (hR.ext E1) (by decide) _ _, ⟨by rw [hF2]; exact (hR.ext E1).set_ 0 (.int .u64 f2), (hT.ext E1).far (by simp) _⟩, Ext.setNew (Ext.trans hB E1) (by simp) _⟩
  case done =>
    rintro D ys W hD rfl ⟨⟨hR, hT⟩, hB⟩ hK
    rw [hall] at hR
    have c19 := hR.cell0
    have c0' := hT.cell 0
    have c22 := hT.cell 22
    have c23 := hT.cell 23
    rw [a0] at c0'
    rw [a22] at c22
    rw [a23] at c23
    have hEnd : Ext w (W.putObj D (.deferred none)) := hB.trans (belowK_b (w := w) (Nat.le_refl _) W D _ _ (by omega) hK rfl rfl)
    clear a0 a22 a23 a19 hT hR hT0 hR0 c0 hall hW0
    generalize (offT 64 t).f = g at *
    generalize t.c.getD 0 0 = x0 at *
    generalize t.m = m at *
    generalize t.t = tt at *
    by_cases b1 : g = 0
    · subst b1
      by_cases b2 : x0 = 0
      · subst b2
        by_cases b3 : 0 ≤ m
        · by_cases b4 : m ≤ 255
          · by_cases b5 : 0 ≤ tt
            · by_cases b6 : tt ≤ 255
              · replace HZ : Hid (z = true) := Lib.hid (by rw [HZ.out]; exact decide_eq_true ⟨rfl, rfl, b3, b4, b5, b6⟩)
                gi_wp2
                refine ⟨by simp, .inl ⟨_, _, rfl, run_takeDeferred hK, ?_⟩⟩
                exact ⟨_, results_tmp rfl _ _ _, by rw [HZ.out]; rfl, hEnd⟩
              ·
                replace HZ : Hid (z = false) := Lib.hid (by rw [HZ.out]; exact decide_eq_false (fun h => b6 h.2.2.2.2.2))
                gi_wp2
                refine ⟨by simp, .inl ⟨_, _, rfl, run_takeDeferred hK, ?_⟩⟩
                exact ⟨_, results_tmp rfl _ _ _, by rw [HZ.out]; rfl, hEnd⟩
            ·
              replace HZ : Hid (z = false) := Lib.hid (by rw [HZ.out]; exact decide_eq_false (fun h => b5 h.2.2.2.2.1))
              gi_wp2
              refine ⟨by simp, .inl ⟨_, _, rfl, run_takeDeferred hK, ?_⟩⟩
              exact ⟨_, results_tmp rfl _ _ _, by rw [HZ.out]; rfl, hEnd⟩
          ·
            replace HZ : Hid (z = false) := Lib.hid (by rw [HZ.out]; exact decide_eq_false (fun h => b4 h.2.2.2.1))
            gi_wp2
            refine ⟨by simp, .inl ⟨_, _, rfl, run_takeDeferred hK, ?_⟩⟩
            exact ⟨_, results_tmp rfl _ _ _, by rw [HZ.out]; rfl, hEnd⟩
        ·
          replace HZ : Hid (z = false) := Lib.hid (by rw [HZ.out]; exact decide_eq_false (fun h => b3 h.2.2.1))
          gi_wp2
          refine ⟨by simp, .inl ⟨_, _, rfl, run_takeDeferred hK, ?_⟩⟩
          exact ⟨_, results_tmp rfl _ _ _, by rw [HZ.out]; rfl, hEnd⟩
      · have b2' : (x0 == 0) = false := by simpa using b2
        replace HZ : Hid (z = false) := Lib.hid (by rw [HZ.out]; exact decide_eq_false (fun h => b2 h.2.1))
        gi_wp2
        refine ⟨by simp, .inl ⟨_, _, rfl, run_takeDeferred hK, ?_⟩⟩
        exact ⟨_, results_tmp rfl _ _ _, by rw [HZ.out]; rfl, hEnd⟩
    · have b1' : (g == 0) = false := by simpa using b1
      replace HZ : Hid (z = false) := Lib.hid (by rw [HZ.out]; exact decide_eq_false (fun h => b1 h.1))
      gi_wp2
      refine ⟨by simp, .inl ⟨_, _, rfl, run_takeDeferred hK, ?_⟩⟩
      exact ⟨_, results_tmp rfl _ _ _, by rw [HZ.out]; rfl, hEnd⟩
end Go.Proofs.Ytpngnmokagbekaa
