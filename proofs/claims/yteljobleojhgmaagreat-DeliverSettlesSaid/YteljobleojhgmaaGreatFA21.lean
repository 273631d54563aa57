/- The document's examples of delivery, walked: they answer true. No condition. -/
import Derived.Test.YteljobleojhgmaaGreatEA21
import Derived.Test.YteljobleojhgmaaGreatGG21
namespace Go.Proofs.YteljobleojhgmaaGreat
open Go.RowKit Go.Kb

/-- the table in its box, between two calls -/
structure AlW (w W : World) (n1 : Nat) (A : Option Addr) (N c : Nat) (nx : Int) (l : List Pr) : Prop where
  box : Blk W n1 29 #[.slice A N c, .int .i64 nx]
  own : OwnS Rp 42 w.heap.size (fun _ => False) W (.slice A N c) l
  ext : Ext w W
  new : w.heap.size ≤ n1
section
variable {w W w' : World} {n1 N c N2 c2 base : Nat} {A A2 : Option Addr} {nx nx2 : Int} {l l2 : List Pr}
theorem AlW.up (h : AlW w W n1 A N c nx l) (E : Ext W w') : AlW w w' n1 A N c nx l := ⟨h.box.ext E, h.own.ext E, h.ext.trans E, h.new⟩
theorem AlW.put (h : AlW w W n1 A N c nx l) (E : Ext W w') (O : OwnS Rp 42 base (fun _ => False) w' (.slice A2 N2 c2) l2) (hb : w.heap.size ≤ base) :
    AlW w ((w'.setCell ⟨n1, 0, none⟩ (.slice A2 N2 c2)).setCell ⟨n1, 1, none⟩ (.int .i64 nx2)) n1 A2 N2 c2 nx2 l2 := by
  have B := h.box.ext E
  have M : Mod (fun k => k = n1) w' _ := ((Mod.refl _ w').set1 (.slice A2 N2 c2) (o := 0)).set1 (.int .i64 nx2) (o := 1)
  exact ⟨B.put2 _ _, (O.mod M (fun j hj he => own_blk_ne O.choose_spec.1 B (by decide) (by rw [← he]; exact hj)) (fun _ _ hk _ => hk)).lower hb, Mod.toExt (h.ext.trans E) M (by intro k hk he; have := h.new; omega), h.new⟩
theorem far2 {k : Nat} {t : TypeId} {cs : Array Value} (B : Blk W k t cs) (hk : k ≠ n1) (E : Ext W w') (x y : Value) : Blk ((w'.setCell ⟨n1, 0, none⟩ x).setCell ⟨n1, 1, none⟩ y) k t cs :=
  (B.ext E).mod (((Mod.refl (fun k => k = n1) w').set1 x (o := 0)).set1 y (o := 1)) hk
theorem own_tabN {b : Nat} (T : TabN 42 A c l base w' A2 c2 l2) (O : OwnS Rp 42 b (fun _ => False) w (.slice A l.length c) l) (E : Ext w w') (hb : b ≤ base) : OwnS Rp 42 b (fun _ => False) w' (.slice A2 l2.length c2) l2 := by
  rcases T with ⟨rfl, rfl, rfl⟩ | T
  · exact O.ext E
  · exact T.lower hb
end
theorem al_send1 {b : Nat} (Ad : Option Addr) (c : Nat) (w : World) (O : OwnS Rp 42 b (fun _ => False) w (.slice Ad 2 c) [aP1, aP3]) (hb : b ≤ w.heap.size) :
    Calls Tryz.prog 17 #[tv Ad 2 c 3, .int .i64 2, .int .i64 20] w fun e w' => ∃ A' c', e = .returned (.tuple #[tv A' 2 c' 3, .int .i64 0]) ∧ OwnS Rp 42 b (fun _ => False) w' (.slice A' 2 c') [aP1, aP4] ∧ Ext w w' := by
  refine (sent_to (A := fun _ => False) Ad c [aP1, aP3] 3 2 20 w (rdy_pr (B := fun _ => False) O.y) al20).mono ?_
  rintro e w1 ⟨A', c', rfl, T, E⟩
  rw [al6] at T ⊢
  exact ⟨A', c', rfl, own_tabN (tabN_of T rfl) O E hb, E⟩
theorem al_send2 {b : Nat} (Ad : Option Addr) (c : Nat) (w : World) (O : OwnS Rp 42 b (fun _ => False) w (.slice Ad 2 c) [aP1, aP4]) (hb : b ≤ w.heap.size) :
    Calls Tryz.prog 17 #[tv Ad 2 c 3, .int .i64 2, .int .i64 18] w fun e w' => ∃ A' c', e = .returned (.tuple #[tv A' 2 c' 3, .int .i64 0]) ∧ OwnS Rp 42 b (fun _ => False) w' (.slice A' 2 c') [aP1, aP5] ∧ Ext w w' := by
  refine (sent_to (A := fun _ => False) Ad c [aP1, aP4] 3 2 18 w (rdy_pr (B := fun _ => False) O.y) al21).mono ?_
  rintro e w1 ⟨A', c', rfl, T, E⟩
  rw [al7] at T ⊢
  exact ⟨A', c', rfl, own_tabN (tabN_of T rfl) O E hb, E⟩
theorem al_sett1 {b : Nat} (Ad : Option Addr) (c : Nat) (w : World) (O : OwnS Rp 42 b (fun _ => False) w (.slice Ad 2 c) [aP1, aP4]) (hb : b ≤ w.heap.size) :
    Calls Tryz.prog 6 #[tv Ad 2 c 3] w fun e w' => ∃ A' c', e = .returned (tv A' 2 c' 3) ∧ OwnS Rp 42 b (fun _ => False) w' (.slice A' 2 c') [aP1, aP6] ∧ Ext w w' := by
  refine (settle_any (A := fun _ => False) Ad c [aP1, aP4] 3 w (rdy_pr (B := fun _ => False) O.y) (by decide) al22).mono ?_
  rintro e w1 ⟨l', A', c', hs, rfl, T, E⟩
  obtain rfl := alS1 hs
  exact ⟨A', c', rfl, own_tabN T O E hb, E⟩
theorem al_fin {b : Nat} (Ad : Option Addr) (c : Nat) (w : World) (O : OwnS Rp 42 b (fun _ => False) w (.slice Ad 2 c) [aP1, aP6]) (hb : b ≤ w.heap.size) :
    Calls Tryz.prog 19 #[tv Ad 2 c 3, .int .i64 1, .int .i64 0] w fun e w' => ∃ A' c', e = .returned (.tuple #[tv A' 1 c' 3, .int .i64 0]) ∧ OwnS Rp 42 b (fun _ => False) w' (.slice A' 1 c') [aP7] ∧ Ext w w' := by
  refine (finish_any (A := fun _ => False) Ad c [aP1, aP6] 3 1 0 w (rdy_pr (B := fun _ => False) O.y) al23).mono ?_
  rintro e w1 ⟨A', c', rfl, T, E⟩
  rw [al11] at T ⊢
  exact ⟨A', c', rfl, own_tabN T O E hb, E⟩
theorem al_sett2 {b : Nat} (Ad : Option Addr) (c : Nat) (w : World) (O : OwnS Rp 42 b (fun _ => False) w (.slice Ad 1 c) [aP7]) (hb : b ≤ w.heap.size) :
    Calls Tryz.prog 6 #[tv Ad 1 c 3] w fun e w' => ∃ A' c', e = .returned (tv A' 0 c' 3) ∧ OwnS Rp 42 b (fun _ => False) w' (.slice A' 0 c') [] ∧ Ext w w' := by
  refine (settle_any (A := fun _ => False) Ad c [aP7] 3 w (rdy_pr (B := fun _ => False) O.y) (by decide) al24).mono ?_
  rintro e w1 ⟨l', A', c', hs, rfl, T, E⟩
  obtain rfl := alS2 hs
  exact ⟨A', c', rfl, own_tabN T O E hb, E⟩
theorem al_get {b : Nat} (Ad : Option Addr) (n c : Nat) (l : List Pr) (p : Pr) (hn : l.length = n) (hg : getL l 3 2 = (p, true)) (w : World) (O : OwnS Rp 42 b (fun _ => False) w (.slice Ad n c) l) :
    Calls Tryz.prog 18 #[tv Ad n c 3, .int .i64 2] w fun e w' => e = .returned (.tuple #[.agg p.cells.toArray, .bool true]) ∧ Ext w w' := by
  subst hn
  have h := get_any (A := fun _ => False) Ad c l 3 2 w (rdy_pr (B := fun _ => False) O.y)
  rw [hg] at h
  exact h
theorem al_group {b : Nat} (Ad : Option Addr) (c : Nat) (w : World) (O : OwnS Rp 42 b (fun _ => False) w (.slice Ad 2 c) [aP1, aP2]) (hb : b ≤ w.heap.size) :
    Calls Tryz.prog 16 #[tv Ad 2 c 3, .int .i64 1, .int .i64 2, .int .i64 2] w fun e w' => ∃ A' c', e = .returned (.tuple #[tv A' 2 c' 3, .int .i64 0]) ∧ OwnS Rp 42 b (fun _ => False) w' (.slice A' 2 c') [aP1, aP3] ∧ Ext w w' := by
  refine (group_any (A := fun _ => False) Ad c [aP1, aP2] 3 1 2 2 w (rdy_pr (B := fun _ => False) O.y)).mono ?_
  have al5 : goodG [aP1, aP2] 3 1 2 2 := ⟨by kernel_rfl, aP1, aP2, by kernel_rfl, by kernel_rfl, .inr (by kernel_rfl), by kernel_rfl, by decide +kernel, rfl⟩
  rintro e w1 ⟨E, (⟨_, _, _, h⟩ | ⟨_, _, _, _, _, _, A', c', rfl, O3⟩)⟩
  · exact absurd al5 h
  rw [al4] at O3
  exact ⟨A', c', rfl, O3.lower hb, E⟩
theorem al_spawn (w : World) : Calls Tryz.prog 14 #[tv none 0 0 1, .int .i64 0] w fun e w' => ∃ A' c', e = .returned (.tuple #[tv A' 1 c' 2, .int .i64 1, .int .i64 0]) ∧ OwnS Rp 42 w.heap.size (fun _ => False) w' (.slice A' 1 c') [aP1] ∧ Ext w w' := by
  refine (spawn_any (A := fun _ => False) none 0 [] 1 0 w (RdS.nil _ _ _).y).mono ?_
  rintro e w1 (⟨h, _⟩ | ⟨_, E1, (⟨h, _⟩ | ⟨_, A1, c1, rfl, O1⟩)⟩)
  · rw [al1] at h; cases h
  · cases h
  simp only [List.length_nil, Nat.zero_add, al14] at O1 ⊢
  exact ⟨A1, c1, rfl, O1, E1⟩
theorem al_fork {b : Nat} (Ad : Option Addr) (c : Nat) (w : World) (O : OwnS Rp 42 b (fun _ => False) w (.slice Ad 1 c) [aP1]) (hb : b ≤ w.heap.size) :
    Calls Tryz.prog 15 #[tv Ad 1 c 2, .int .i64 1, .int .i64 0] w fun e w' => ∃ A' c', e = .returned (.tuple #[tv A' 2 c' 3, .int .i64 2, .int .i64 0]) ∧ OwnS Rp 42 b (fun _ => False) w' (.slice A' 2 c') [aP1, aP2] ∧ Ext w w' := by
  refine (fork_any (A := fun _ => False) Ad c [aP1] 2 1 0 w (rdy_pr (B := fun _ => False) O.y)).mono ?_
  rintro e w2 (⟨h, _⟩ | ⟨_, E2, (⟨h, _⟩ | ⟨_, A2, c2, rfl, O2⟩)⟩)
  · rw [al2] at h; exact absurd rfl h
  · cases h
  rw [al3] at O2
  simp only [List.length_cons, List.length_nil, Nat.zero_add, Nat.reduceAdd, al15] at O2 ⊢
  exact ⟨A2, c2, rfl, O2.lower hb, E2⟩
end Go.Proofs.YteljobleojhgmaaGreat
