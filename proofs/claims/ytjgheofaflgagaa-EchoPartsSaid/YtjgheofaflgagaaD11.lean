/- What takes characters off the screen, by contract. Conditions: the setting is one, bytes are bytes, lengths below 10^5. -/
import Derived.Test.YtjgheofaflgagaaC11
namespace Go.Proofs.Ytjgheofaflgagaa
open Go.RowKit Go.Kb

/-- how many columns are gone -/
def goneN (e u : Bool) (col : Int) (rest gone : List Int) : Nat := (colsL e u (colsL e u col rest) gone - colsL e u col rest).toNat
def rgoneN (e u : Bool) (col : Int) (rest gone : List Int) : Nat := (colsL e u col (rest ++ gone) - colsL e u col rest).toNat
theorem goneN_eq {e u : Bool} {col : Int} {rest gone : List Int} (h : colL col + 8 * rest.length ≤ 65535) : rgoneN e u col rest gone = goneN e u col rest gone := by
  unfold goneN rgoneN
  rw [colsL_append _ _ _ _ _ h]
/-- bytes that may be read; nil, or a row of their own with no room behind them -/
def TPost (w : World) (N : Nat) (e : Ending) (w' : World) : Prop :=
  ∃ A n, 3 * N = n ∧ e = .returned (.slice A n n) ∧ RI .u8 w' (.slice A n n) (rep3 N) ∧ (N = 0 → A = none) ∧ Ext w w'
theorem TPost.any {w w' : World} {N : Nat} {e : Ending} (h : TPost w N e w') : RPost w (rep3 N) e w' := by
  obtain ⟨A, n, h1, h2, h3, _, h4⟩ := h
  exact ⟨A, n, n, by rw [rep3_len, h1], h2, h3, h4⟩
set_option maxHeartbeats 800000 in
theorem rub_any (t : Tm) (col : Int) (v1 v2 : Value) (rest gone : List Int) (w : World) (ht : t.Ok) (hl1 : RI .u8 w v1 rest) (hB1 : Bs rest) (hl2 : RI .u8 w v2 gone) (hB2 : Bs gone) :
    Calls Try.prog 15 #[.agg t.arr, .int .i64 col, v1, v2] w (TPost w (goneN (hasL t 60) (hasL t 42) col rest gone)) := by
  have kc := fun (u : World) (C : Array Value) (n c : Nat) => Lib.run_convert_bytes_const (P := Try.prog) u 27 5 C n c Try.underlying27 Try.underlying5
  have hn := t.size ht
  have hC1 := fun v w' hr => cols_any t col v rest w' ht hr hB1
  have hC2 := fun col v w' hr => cols_any t col v gone w' ht hr hB2
  have hbd1 := colsL_any (hasL t 60) (hasL t 42) col rest
  have hg : goneN (hasL t 60) (hasL t 42) col rest gone = (colsL (hasL t 60) (hasL t 42) (colsL (hasL t 60) (hasL t 42) col rest) gone - colsL (hasL t 60) (hasL t 42) col rest).toNat := rfl
  generalize colsL (hasL t 60) (hasL t 42) col rest = f at hg hC1 hbd1
  have hbd2 := colsL_any (hasL t 60) (hasL t 42) f gone
  have hC2 := fun v w' hr => hC2 f v w' hr
  generalize colsL (hasL t 60) (hasL t 42) f gone = g at hg hC2 hbd2
  obtain ⟨z, hz0⟩ : ∃ z, goneN (hasL t 60) (hasL t 42) col rest gone = z := ⟨_, rfl⟩; rw [hz0]; have HZ := Lib.hid (hz0.symm.trans hg); clear hz0 hg
  generalize t.arr = cs at *
  clear ht hB1 hB2
  obtain ⟨Ad1, c1, rfl, h11, h12⟩ := hl1.shape
  obtain ⟨Ad2, c2, rfl, h21, h22⟩ := hl2.shape
  have H1 := Lib.hid hl1
  have H2 := Lib.hid hl2
  have HC1 := Lib.hid hC1
  have HC2 := Lib.hid hC2
  clear hl1 hl2 hC1 hC2
  obtain ⟨f0, f1⟩ := hbd1
  obtain ⟨g0, g1⟩ := hbd2
  have hi : (Try.prog.info? 26).map (·.size) = some cs.size := by rw [hn]; kernel_rfl
  have hT := Lib.hid (Blk.new w 26 cs)
  go_enter Try.func15, Try.ntmps15
  go_wp2_with ((refine wpList_load_row rfl 26 _ rfl _ rfl 26 _ _ _ (Blk.ext hT.out (by repeat (first | with_reducible exact Ext.refl _ | refine Ext.drewN ?_ _ | refine Ext.drew ?_ | refine Ext.alloc ?_ _ | assumption | (refine Below.trans ?_ (by assumption)) | (refine Ext.trans ?_ (by assumption)) | (refine Below.trans ?_ (Below.mono (by assumption) (by omega)))))) Try.underlying26 rfl hi ?_))
  (with_reducible refine (HC1.out _ _ (RdN.ext H1.out (by repeat (first | with_reducible exact Ext.refl _ | refine Ext.drewN ?_ _ | refine Ext.drew ?_ | refine Ext.alloc ?_ _ | assumption | (refine Below.trans ?_ (by assumption)) | (refine Ext.trans ?_ (by assumption)) | (refine Below.trans ?_ (Below.mono (by assumption) (by omega))))))).mono ?_); rintro e w2 ⟨rfl, E2⟩
  go_wp2_with ((refine wpList_load_row rfl 26 _ rfl _ rfl 26 _ _ _ (Blk.ext hT.out (by repeat (first | with_reducible exact Ext.refl _ | refine Ext.drewN ?_ _ | refine Ext.drew ?_ | refine Ext.alloc ?_ _ | assumption | (refine Below.trans ?_ (by assumption)) | (refine Ext.trans ?_ (by assumption)) | (refine Below.trans ?_ (Below.mono (by assumption) (by omega)))))) Try.underlying26 rfl hi ?_))
  (with_reducible refine (HC2.out _ _ (RdN.ext H2.out (by repeat (first | with_reducible exact Ext.refl _ | refine Ext.drewN ?_ _ | refine Ext.drew ?_ | refine Ext.alloc ?_ _ | assumption | (refine Below.trans ?_ (by assumption)) | (refine Ext.trans ?_ (by assumption)) | (refine Below.trans ?_ (Below.mono (by assumption) (by omega))))))).mono ?_); rintro e w3 ⟨rfl, E3⟩
  have hw : IntKind.i64.wrap (g - f) = g - f := IntWalk.i64_in _ (by omega)
  by_cases hle : g - f ≤ 0
  · have HZ0 : Hid (z = 0) := Lib.hid (by rw [HZ.out]; omega)
    go_wp2
    go_ret
    exact ⟨none, 0, by rw [HZ0.out], rfl, by rw [HZ0.out]; exact RdN.nil _ _, fun _ => rfl, (by repeat (first | with_reducible exact Ext.refl _ | refine Ext.drewN ?_ _ | refine Ext.drew ?_ | refine Ext.alloc ?_ _ | assumption | (refine Below.trans ?_ (by assumption)) | (refine Ext.trans ?_ (by assumption)) | (refine Below.trans ?_ (Below.mono (by assumption) (by omega)))))⟩
  · obtain ⟨N, hN⟩ : ∃ N : Nat, g - f = (N : Int) := ⟨(g - f).toNat, by omega⟩
    have HN0 : Hid (z = N) := Lib.hid (by rw [HZ.out, hN]; simp)
    have hN1 : 1 ≤ N := by omega
    have hN2 : N ≤ 1000000 := by omega
    clear hle
    go_wp2_with fail
    refine (repeat_any _ N _ (RI.lit .u8 [8, 32, 8] _ (by simp) (by simp)) hN1 hN2).mono ?_
    rintro e w4 ⟨g4, T, rfl, hT4, hR, hg4, E4⟩
    have HR := Lib.hid hR
    have HT4 := Lib.hid hT4
    clear hR hT4
    go_wp2
    go_ret
    exact ⟨_, T, by rw [HN0.out]; exact HT4.out, rfl, by rw [HN0.out]; exact HR.out, fun h => by rw [HN0.out] at h; omega, (by repeat (first | with_reducible exact Ext.refl _ | refine Ext.drewN ?_ _ | refine Ext.drew ?_ | refine Ext.alloc ?_ _ | assumption | (refine Below.trans ?_ (by assumption)) | (refine Ext.trans ?_ (by assumption)) | (refine Below.trans ?_ (Below.mono (by assumption) (by omega)))))⟩
set_option maxHeartbeats 800000 in
theorem rrub_any (t : Tm) (col : Int) (v1 v2 : Value) (rest gone : List Int) (w : World) (ht : t.Ok) (hl1 : RI .u8 w v1 rest) (hB1 : Bs rest) (hl2 : RI .u8 w v2 gone) (hB2 : Bs gone) (hlen : rest.length + gone.length ≤ 100000) :
    Calls Try.prog 16 #[.agg t.arr, .int .i64 col, v1, v2] w (OPost w (rep3 (rgoneN (hasL t 60) (hasL t 42) col rest gone))) := by
  have hn := t.size ht
  have hBB : Bs (rest ++ gone) := fun x hx => by
    rcases List.mem_append.1 hx with h | h
    · exact hB1 x h
    · exact hB2 x h
  have hC1 := fun v w' hr => rcols_any t col v rest w' ht hr hB1
  have hC2 := fun v w' hr => rcols_any t col v (rest ++ gone) w' ht hr hBB
  have hbd1 := colsL_any (hasL t 60) (hasL t 42) col rest
  have hbd2 := colsL_any (hasL t 60) (hasL t 42) col (rest ++ gone)
  have hg : rgoneN (hasL t 60) (hasL t 42) col rest gone = (colsL (hasL t 60) (hasL t 42) col (rest ++ gone) - colsL (hasL t 60) (hasL t 42) col rest).toNat := rfl
  generalize colsL (hasL t 60) (hasL t 42) col rest = f at hg hC1 hbd1
  generalize colsL (hasL t 60) (hasL t 42) col (rest ++ gone) = g at hg hC2 hbd2
  obtain ⟨z, hz0⟩ : ∃ z, rgoneN (hasL t 60) (hasL t 42) col rest gone = z := ⟨_, rfl⟩; rw [hz0]; have HZ := Lib.hid (hz0.symm.trans hg); clear hz0 hg
  generalize t.arr = cs at *
  clear ht hB1 hB2 hBB
  obtain ⟨Ad1, c1, rfl, h11, h12⟩ := hl1.shape
  obtain ⟨Ad2, c2, rfl, h21, h22⟩ := hl2.shape
  have H1 := Lib.hid hl1
  have H2 := Lib.hid hl2
  have HC1 := Lib.hid hC1
  have HC2 := Lib.hid hC2
  clear hl1 hl2 hC1 hC2
  obtain ⟨f0, f1⟩ := hbd1
  obtain ⟨g0, g1⟩ := hbd2
  have hi : (Try.prog.info? 26).map (·.size) = some cs.size := by rw [hn]; kernel_rfl
  have hT := Lib.hid (Blk.new w 26 cs)
  have hw : IntKind.i64.wrap (g - f) = g - f := IntWalk.i64_in _ (by omega)
  have hzN : z ≤ 65543 := by rw [HZ.out]; omega
  have hz1 : ∀ k : Nat, (k < z ↔ (k : Int) < g - f) := fun k => by rw [HZ.out]; omega
  have HZ1 := Lib.hid hz1
  clear hz1
  go_enter Try.func16, Try.ntmps16
  go_wp2
  refine wp_region_held_drew (S := fun w' => Ext (w.alloc (.cells cs 26)) w') (by kernel_rfl) (by repeat (first | with_reducible exact Ext.refl _ | refine Ext.drewN ?_ _ | refine Ext.drew ?_ | refine Ext.alloc ?_ _ | assumption | (refine Below.trans ?_ (by assumption)) | (refine Ext.trans ?_ (by assumption)) | (refine Below.trans ?_ (Below.mono (by assumption) (by omega))))) (fun hHeld => ?_)
  (refine wpAnyH_take (i := 0) (v := .agg cs) rfl (by kernel_rfl) (by kernel_rfl) (by kernel_rfl) (fun _ _ _ h => h) (yieldsIf_load_row (by rfl) 26 _ rfl _ rfl 26 cs _ _ (fun w' hw' => Blk.ext hT.out hw') Try.underlying26 rfl hi) (by assumption) ?_; (try simp only [Act.put]); (try simp only [List.getElem_toArray]); (try simp only [List.getElem_cons_succ]); (try simp only [List.getElem_cons_zero]); (try simp only [List.setIfInBounds_toArray]); (try simp only [List.set_cons_succ]); (try simp only [List.set_cons_zero]))
  (refine wpAnyH_take (i := 1) (v := ?_) rfl (by kernel_rfl) (by kernel_rfl) (by kernel_rfl) (fun _ _ _ h => h) (Or.inl ⟨by rfl, ?_⟩) (by assumption) ?_; rotate_left; (focus (intro w' hSw; go_simp; try with_reducible rfl)); (try simp only [List.getElem_toArray]); (try simp only [List.getElem_cons_succ]); (try simp only [List.getElem_cons_zero]); (try simp only [Act.put]); (try simp only [List.setIfInBounds_toArray]); (try simp only [List.set_cons_succ]); (try simp only [List.set_cons_zero]))
  (refine wpAnyH_take (i := 3) (v := ?_) rfl (by kernel_rfl) (by kernel_rfl) (by kernel_rfl) (fun _ _ _ h => h) (Or.inl ⟨by rfl, ?_⟩) (by assumption) ?_; rotate_left; (focus (intro w' hSw; go_simp; try with_reducible rfl)); (try simp only [List.getElem_toArray]); (try simp only [List.getElem_cons_succ]); (try simp only [List.getElem_cons_zero]); (try simp only [Act.put]); (try simp only [List.setIfInBounds_toArray]); (try simp only [List.set_cons_succ]); (try simp only [List.set_cons_zero]))
  (refine wpAnyH_take (i := 5) (v := ?_) rfl (by kernel_rfl) (by kernel_rfl) (by kernel_rfl) (fun _ _ _ h => h) (Or.inl ⟨by rfl, ?_⟩) (by assumption) ?_; rotate_left; (focus (intro w' hSw; go_simp; try with_reducible rfl)); (try simp only [List.getElem_toArray]); (try simp only [List.getElem_cons_succ]); (try simp only [List.getElem_cons_zero]); (try simp only [Act.put]); (try simp only [List.setIfInBounds_toArray]); (try simp only [List.set_cons_succ]); (try simp only [List.set_cons_zero]))
  (refine wpAnyH_take (i := 8) (v := .agg cs) rfl (by kernel_rfl) (by kernel_rfl) (by kernel_rfl) (fun _ _ _ h => h) (yieldsIf_load_row (by rfl) 26 _ rfl _ rfl 26 cs _ _ (fun w' hw' => Blk.ext hT.out hw') Try.underlying26 rfl hi) (by assumption) ?_; (try simp only [Act.put]); (try simp only [List.getElem_toArray]); (try simp only [List.getElem_cons_succ]); (try simp only [List.getElem_cons_zero]); (try simp only [List.setIfInBounds_toArray]); (try simp only [List.set_cons_succ]); (try simp only [List.set_cons_zero]))
  (refine wpAnyH_take (i := 9) (v := ?_) rfl (by kernel_rfl) (by kernel_rfl) (by kernel_rfl) (fun _ _ _ h => h) (Or.inl ⟨by rfl, ?_⟩) (by assumption) ?_; rotate_left; (focus (intro w' hSw; go_simp; try with_reducible rfl)); (try simp only [List.getElem_toArray]); (try simp only [List.getElem_cons_succ]); (try simp only [List.getElem_cons_zero]); (try simp only [Act.put]); (try simp only [List.setIfInBounds_toArray]); (try simp only [List.set_cons_succ]); (try simp only [List.set_cons_zero]))
  (refine wpAnyH_take (i := 10) (v := ?_) rfl (by kernel_rfl) (by kernel_rfl) (by kernel_rfl) (fun _ _ _ h => h) (Or.inl ⟨by rfl, ?_⟩) (by assumption) ?_; rotate_left; (focus (intro w' hSw; go_simp; try with_reducible rfl)); (try simp only [List.getElem_toArray]); (try simp only [List.getElem_cons_succ]); (try simp only [List.getElem_cons_zero]); (try simp only [Act.put]); (try simp only [List.setIfInBounds_toArray]); (try simp only [List.set_cons_succ]); (try simp only [List.set_cons_zero]))
  (refine wpAnyH_ready (rs := [2]) (by kernel_rfl) (by simp) ?_; refine AllReadyH.cons rfl (fun K hK => ?_) AllReadyH.nil; go_simp; refine hK.out _ _ (by repeat (first | with_reducible exact Ext.refl _ | refine Ext.drewN ?_ _ | refine Ext.drew ?_ | refine Ext.alloc ?_ _ | assumption | (refine Below.trans ?_ (by assumption)) | (refine Ext.trans ?_ (by assumption)) | (refine Below.trans ?_ (Below.mono (by assumption) (by omega))))) (fun hHeld => ?_); clear hK K; (try simp only [Act.put]); (try simp only [List.getElem_toArray]); (try simp only [List.getElem_cons_succ]); (try simp only [List.getElem_cons_zero]); (try simp only [List.setIfInBounds_toArray]); (try simp only [List.set_cons_succ]); (try simp only [List.set_cons_zero]))
  refine wpAnyH_ready (rs := [4]) (by kernel_rfl) (by simp) ?_
  refine AllReadyH.cons rfl (fun K hK => ?_) AllReadyH.nil
  refine step_app (e := Ub) (base := w.heap.size + 1) (B := fun _ => False) (A := fun _ => False) rfl (.tmp 14) (.tmp 15) rfl Try.underlying27 info_u8 rfl (OwnS.emptyB Ub _ (by repeat (first | ((with_reducible refine Blk.at_ _ _ ?_); simp; done) | with_reducible refine Blk.drew ?_ | with_reducible refine Blk.alloc ?_ _ | refine Blk.ext ?_ (by assumption))) (Nat.le_refl _)) rfl (RI.y (RdN.ext H1.out (by repeat (first | with_reducible exact Ext.refl _ | refine Ext.drewN ?_ _ | refine Ext.drew ?_ | refine Ext.alloc ?_ _ | assumption | (refine Below.trans ?_ (by assumption)) | (refine Ext.trans ?_ (by assumption)) | (refine Below.trans ?_ (Below.mono (by assumption) (by omega))))))) rfl (fun _ _ h => h.elim) (N := rest.length) (by simp) (by simp [maxLen]; omega) (by omega) (by simp) ?_
  intro A5 c5 w5 o5 M5 B5
  simp only [List.nil_append] at o5
  refine hK.out _ _ (Below.trans hHeld (B5.mono (by simp))) (fun hHeld => ?_)
  clear hK K
  (try simp only [List.getElem_toArray]); (try simp only [List.getElem_cons_succ]); (try simp only [List.getElem_cons_zero]); (try simp only [Act.put]); (try simp only [List.setIfInBounds_toArray]); (try simp only [List.set_cons_succ]); (try simp only [List.set_cons_zero])
  have O5 := Lib.hid o5
  have hs5 : w.heap.size + 1 ≤ w5.heap.size := by have := hHeld.size; simp at this; omega
  clear o5
  refine wpAnyH_ready (rs := [6]) (by kernel_rfl) (by simp) ?_
  refine AllReadyH.cons rfl (fun K hK => ?_) AllReadyH.nil
  refine step_app (e := Ub) (base := w.heap.size + 1) (B := fun _ => False) (A := fun _ => False) rfl (.tmp 16) (.tmp 17) rfl Try.underlying27 info_u8 rfl O5.out rfl (RI.y (RdN.ext H2.out (Ext.trans ((Ext.refl w).alloc _) hHeld))) rfl (fun _ _ h => h.elim) (N := rest.length + gone.length) rfl (by simp [maxLen]; omega) (by omega) hs5 ?_
  intro A6 c6 w6 o6 M6 B6
  refine hK.out _ _ (Below.trans hHeld (B6.mono (by simp))) (fun hHeld => ?_)
  clear hK K
  (try simp only [List.getElem_toArray]); (try simp only [List.getElem_cons_succ]); (try simp only [List.getElem_cons_zero]); (try simp only [Act.put]); (try simp only [List.setIfInBounds_toArray]); (try simp only [List.set_cons_succ]); (try simp only [List.set_cons_zero])
  have O6 := Lib.hid o6.rdT.ri
  clear o6
  (refine wpAnyH_ready (rs := [7]) (by kernel_rfl) (by simp) ?_; refine AllReadyH.cons rfl (fun K hK => ?_) AllReadyH.nil; go_simp; go_at_call 13; refine (HC2.out _ _ O6.out).mono ?_; rintro e w7 ⟨rfl, E7⟩; (try dsimp only); refine hK.out _ _ (by repeat (first | with_reducible exact Ext.refl _ | refine Ext.drewN ?_ _ | refine Ext.drew ?_ | refine Ext.alloc ?_ _ | assumption | (refine Below.trans ?_ (by assumption)) | (refine Ext.trans ?_ (by assumption)) | (refine Below.trans ?_ (Below.mono (by assumption) (by omega))))) (fun hHeld => ?_); clear hK K; (try simp only [Act.put]); (try simp only [List.getElem_toArray]); (try simp only [List.getElem_cons_succ]); (try simp only [List.getElem_cons_zero]); (try simp only [List.setIfInBounds_toArray]); (try simp only [List.set_cons_succ]); (try simp only [List.set_cons_zero]))
  (refine wpAnyH_ready (rs := [11]) (by kernel_rfl) (by simp) ?_; refine AllReadyH.cons rfl (fun K hK => ?_) AllReadyH.nil; go_simp; go_at_call 13; refine (HC1.out _ _ (RdN.ext H1.out (Ext.trans ((Ext.refl w).alloc _) hHeld))).mono ?_; rintro e w8 ⟨rfl, E8⟩; (try dsimp only); refine hK.out _ _ (by repeat (first | with_reducible exact Ext.refl _ | refine Ext.drewN ?_ _ | refine Ext.drew ?_ | refine Ext.alloc ?_ _ | assumption | (refine Below.trans ?_ (by assumption)) | (refine Ext.trans ?_ (by assumption)) | (refine Below.trans ?_ (Below.mono (by assumption) (by omega))))) (fun hHeld => ?_); clear hK K; (try simp only [Act.put]); (try simp only [List.getElem_toArray]); (try simp only [List.getElem_cons_succ]); (try simp only [List.getElem_cons_zero]); (try simp only [List.setIfInBounds_toArray]); (try simp only [List.set_cons_succ]); (try simp only [List.set_cons_zero]))
  (refine wpAnyH_take (i := 12) (v := ?_) rfl (by kernel_rfl) (by kernel_rfl) (by kernel_rfl) (fun _ _ _ h => h) (Or.inl ⟨by rfl, ?_⟩) (by assumption) ?_; rotate_left; (focus (intro w' hSw; go_simp; try with_reducible rfl)); (try simp only [List.getElem_toArray]); (try simp only [List.getElem_cons_succ]); (try simp only [List.getElem_cons_zero]); (try simp only [Act.put]); (try simp only [List.setIfInBounds_toArray]); (try simp only [List.set_cons_succ]); (try simp only [List.set_cons_zero]))
  (refine wpAnyH_take (i := 13) (v := ?_) rfl (by kernel_rfl) (by kernel_rfl) (by kernel_rfl) (fun _ _ _ h => h) (Or.inl ⟨by rfl, ?_⟩) (by assumption) ?_; rotate_left; (focus (intro w' hSw; go_simp; try with_reducible rfl)); (try simp only [List.getElem_toArray]); (try simp only [List.getElem_cons_succ]); (try simp only [List.getElem_cons_zero]); (try simp only [Act.put]); (try simp only [List.setIfInBounds_toArray]); (try simp only [List.set_cons_succ]); (try simp only [List.set_cons_zero]))
  refine wpAnyH_done (by kernel_rfl) ?_ _
  have E08 : Ext (w.alloc (.cells cs 26)) w8 := hHeld
  clear O5 O6 B5 B6 M5 M6 E7 E8
  go_wp2
  go_loopw [9, 11] (fun o i wr => ∃ (k n c : Nat) (A : Option Addr), k ≤ z ∧ i = .int .i64 k ∧ o = .slice A n c ∧ Hid ((rep3 k).length = n) ∧ Hid (OwnS Ub 5 (w.heap.size + 1) (fun _ => False) wr (.slice A n c) (rep3 k)) ∧ Ext (w.alloc (.cells cs 26)) wr) (fun _ i _ => z - (intOf i).toNat)
  case atStart => exact ⟨0, 0, 0, none, Nat.zero_le _, rfl, rfl, Lib.hid rfl, Lib.hid (OwnS.nil _ _ _ _ _), E08⟩
  case round =>
    clear E08
    obtain ⟨k, n, c', A, hk, rfl, rfl, HN, HO, hE⟩ := hrel
    have hnn : 3 * k = n := by rw [← HN.out, rep3_len]
    have HNN := Lib.hid hnn
    have hn3 : n ≤ 300000 := by omega
    have hsz := hE.size
    simp at hsz
    clear hnn
    by_cases hlt : k < z
    · have hd := (HZ1.out k).1 hlt
      have HS := Lib.hid (rep3_succ k)
      go_wp2_with (at_builtin; refine wpList_app (e := Ub) (base := w.heap.size + 1) (B := fun _ => False) (A := fun _ => False) rfl (.tmp 30) (.tmp 31) rfl Try.underlying27 info_u8 rfl (HO.out.alloc _) rfl (RI.y (RI.lit .u8 [8, 32, 8] _ rfl (by simp))) rfl (fun _ _ h => h.elim) (N := n + 3) (by rw [HN.out]; rfl) (by simp [maxLen]; omega) (by omega) (by simp; omega) ?_; intro A5 c5 w5 o5 M5 B5)
      go_roundw
      case rel => exact ⟨k + 1, n + 3, c5, A5, by omega, by go_num, rfl, Lib.hid (by rw [rep3_len]; have := HNN.out; omega), Lib.hid (by rw [HS.out]; exact o5), Below.trans (hE.alloc _) (B5.mono (by simp))⟩
      case measure => simp [intOf]; omega
    · obtain rfl : k = z := by omega
      have hd : ¬ (k : Int) < g - f := fun h => hlt ((HZ1.out k).2 h)
      go_wp2
      go_ret
      exact ⟨A, n, c', HN.out, rfl, HO.out.lower (by simp), Ext.trans ((Ext.refl w).alloc _) hE⟩
end Go.Proofs.Ytjgheofaflgagaa
