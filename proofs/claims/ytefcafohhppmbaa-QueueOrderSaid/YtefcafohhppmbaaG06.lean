/- The document's examples answer true; what a queue tells of itself. No condition. -/
import Derived.Test.YtefcafohhppmbaaF06
namespace Go.Proofs.Ytefcafohhppmbaa
open Go.RowKit Go.Kb

theorem Qm.new {c : Cf} {g : Nat} {w : World} (h : Blk w g 54 (qb c (.slice none 0 0) 0 false)) (hc : ¬ badC c) : Qm c g (fun _ => False) w [] false :=
  ⟨_, h, TailS.nil _ _ _ _, fun _ h => h.elim, by unfold badC at hc; simp; omega, by unfold badC at hc; simp [usedL]; omega, hc⟩
theorem Qm.lt_g {c : Cf} {g : Nat} {F : Nat → Prop} {w : World} {l : List (List Int)} {o : Bool} (h : Qm c g F w l o) : g < w.heap.size := by
  obtain ⟨_, h, _⟩ := h
  exact h.lt
theorem over_q {c : Cf} {g : Nat} {F : Nat → Prop} {w : World} {l : List (List Int)} {o : Bool} (h : Qm c g F w l o) :
    Calls Try.prog 17 #[.pointer (some ⟨g, 0, none⟩)] w fun e w' => e = .returned (.bool o) ∧ Ext w w' := by
  obtain ⟨v, hB, _⟩ := h
  exact over_any _ hB
theorem used_q {c : Cf} {g : Nat} {F : Nat → Prop} {w : World} {l : List (List Int)} {o : Bool} (h : Qm c g F w l o) :
    Calls Try.prog 15 #[.pointer (some ⟨g, 0, none⟩)] w fun e w' => e = .returned (.int .i64 (usedL l)) ∧ Ext w w' := by
  obtain ⟨v, hB, _⟩ := h
  exact used_any _ hB
theorem count_q {c : Cf} {g : Nat} {F : Nat → Prop} {w : World} {l : List (List Int)} {o : Bool} (h : Qm c g F w l o) :
    Calls Try.prog 14 #[.pointer (some ⟨g, 0, none⟩)] w fun e w' => e = .returned (.int .i64 l.length) ∧ Ext w w' := by
  obtain ⟨v, hB, hT, _⟩ := h
  obtain ⟨Ad, k, rfl, _⟩ := hT.shape
  exact count_any _ hB
set_option maxHeartbeats 400000 in
theorem push_nil (A : Option Addr) (n k : Nat) (w : World) : Calls Try.prog 22 #[.pointer none, .slice A n k] w fun e w' => e = .returned (.bool false) ∧ Ext w w' := by
  go_enter Try.func22, Try.ntmps22
  go_wp2
  go_region
  all_goals
    go_wp2
    go_ret
    exact ⟨rfl, (by repeat (first | with_reducible exact Ext.refl _ | refine Ext.drewN ?_ _ | refine Ext.drew ?_ | refine Ext.alloc ?_ _ | assumption | (refine Below.trans ?_ (by assumption)) | (refine Ext.trans ?_ (by assumption)) | (refine Below.trans ?_ (Below.mono (by assumption) (by omega)))))⟩
/-- a queue whose blocks are all newer than a world -/
theorem new_ext {g : Nat} {F : Nat → Prop} {w a b : World} (hE : Ext w a) (hM : Mod (fun k => k = g ∨ F k) a b) (hg : w.heap.size ≤ g) (hF : ∀ k, F k → w.heap.size ≤ k) : Ext w b :=
  Mod.toExt hE hM fun k hk hs => by
    rcases hs with rfl | hs
    · omega
    · have := hF k hs; omega
abbrev c0 : Cf := ⟨8, 3, 6, 2⟩
theorem ex1 : Hid (roomB c0 [] [97, 98, 99, 100] = true ∧ pushL c0 [] [97, 98, 99, 100] = [[97, 98, 99, 100]] ∧ pushO c0 [] false [97, 98, 99, 100] = false) := Lib.hid (by decide +kernel)
theorem ex2 : Hid (roomB c0 [[97, 98, 99, 100]] [101, 102, 103] = true ∧ pushL c0 [[97, 98, 99, 100]] [101, 102, 103] = [[97, 98, 99, 100], [101, 102, 103]] ∧ pushO c0 [[97, 98, 99, 100]] false [101, 102, 103] = true) := Lib.hid (by decide +kernel)
theorem ex3 : Hid (roomB c0 [[97, 98, 99, 100], [101, 102, 103]] [104, 105] = false ∧ pushL c0 [[97, 98, 99, 100], [101, 102, 103]] [104, 105] = [[97, 98, 99, 100], [101, 102, 103]] ∧ pushO c0 [[97, 98, 99, 100], [101, 102, 103]] true [104, 105] = true) := Lib.hid (by decide +kernel)
theorem ex4 : Hid (popO c0 [[97, 98, 99, 100], [101, 102, 103]] true = true ∧ popO c0 [[101, 102, 103]] true = false) := Lib.hid (by decide +kernel)
set_option maxHeartbeats 3000000 in
set_option maxRecDepth 100000 in
theorem alive_any (w : World) : Calls Try.prog 7 #[] w fun e w' => e = .returned (.bool true) ∧ Ext w w' := by
  have kc := fun (u : World) (C : Array Value) (n c : Nat) => Lib.run_convert_bytes_const (P := Try.prog) u 34 5 C n c Try.underlying34 Try.underlying5
  go_enter Try.func7, Try.ntmps7
  go_wp2_with fail
  refine (new_any 8 3 6 2 _).mono ?_
  rintro e w1 (⟨hb, g, hg, rfl, hB, E1⟩ | ⟨hb, _⟩)
  rotate_left
  · exact absurd hb (by unfold badC; simp)
  have Q1 := Lib.hid (Qm.new hB hb)
  clear hB hb
  have G1 : Hid (∀ k, (fun _ : Nat => False) k → w.heap.size ≤ k) := Lib.hid fun _ h => h.elim
  go_wp2_with fail
  refine (push_any c0 g _ _ _ _ [97, 98, 99, 100] (Q1.out.ext (by repeat (first | with_reducible exact Ext.refl _ | refine Ext.drewN ?_ _ | refine Ext.drew ?_ | refine Ext.alloc ?_ _ | assumption | (refine Below.trans ?_ (by assumption)) | (refine Ext.trans ?_ (by assumption)) | (refine Below.trans ?_ (Below.mono (by assumption) (by omega)))))) (RI.lit .u8 [97, 98, 99, 100] _ rfl (by simp)) (by simp)).mono ?_
  rintro e w2 ⟨rfl, F2, Q2, N2, M2⟩
  rw [ex1.out.1]
  rw [ex1.out.2.1, ex1.out.2.2] at Q2
  have G2 : Hid (∀ k, F2 k → w.heap.size ≤ k) := Lib.hid fun k hk => (N2 k hk).elim (fun h => G1.out k h) fun h => Nat.le_trans (Below.size (show Ext w _ from (by repeat (first | with_reducible exact Ext.refl _ | refine Ext.drewN ?_ _ | refine Ext.drew ?_ | refine Ext.alloc ?_ _ | assumption | (refine Below.trans ?_ (by assumption)) | (refine Ext.trans ?_ (by assumption)) | (refine Below.trans ?_ (Below.mono (by assumption) (by omega))))))) h
  have E2 : Ext w w2 := new_ext (by repeat (first | with_reducible exact Ext.refl _ | refine Ext.drewN ?_ _ | refine Ext.drew ?_ | refine Ext.alloc ?_ _ | assumption | (refine Below.trans ?_ (by assumption)) | (refine Ext.trans ?_ (by assumption)) | (refine Below.trans ?_ (Below.mono (by assumption) (by omega))))) M2 hg G1.out
  have Q2 := Lib.hid Q2
  clear M2 N2
  go_wp2_with fail
  refine (over_q (Q2.out.ext (by repeat (first | with_reducible exact Ext.refl _ | refine Ext.drewN ?_ _ | refine Ext.drew ?_ | refine Ext.alloc ?_ _ | assumption | (refine Below.trans ?_ (by assumption)) | (refine Ext.trans ?_ (by assumption)) | (refine Below.trans ?_ (Below.mono (by assumption) (by omega))))))).mono ?_
  rintro e w3 ⟨rfl, E3⟩
  go_wp2_with fail
  refine (push_any c0 g _ _ _ _ [101, 102, 103] (Q2.out.ext (by repeat (first | with_reducible exact Ext.refl _ | refine Ext.drewN ?_ _ | refine Ext.drew ?_ | refine Ext.alloc ?_ _ | assumption | (refine Below.trans ?_ (by assumption)) | (refine Ext.trans ?_ (by assumption)) | (refine Below.trans ?_ (Below.mono (by assumption) (by omega)))))) (RI.lit .u8 [101, 102, 103] _ rfl (by simp)) (by simp)).mono ?_
  rintro e w4 ⟨rfl, F4, Q4, N4, M4⟩
  rw [ex2.out.1]
  rw [ex2.out.2.1, ex2.out.2.2] at Q4
  have G4 : Hid (∀ k, F4 k → w.heap.size ≤ k) := Lib.hid fun k hk => (N4 k hk).elim (fun h => G2.out k h) fun h => Nat.le_trans (Below.size (show Ext w _ from (by repeat (first | with_reducible exact Ext.refl _ | refine Ext.drewN ?_ _ | refine Ext.drew ?_ | refine Ext.alloc ?_ _ | assumption | (refine Below.trans ?_ (by assumption)) | (refine Ext.trans ?_ (by assumption)) | (refine Below.trans ?_ (Below.mono (by assumption) (by omega))))))) h
  have E4 : Ext w w4 := new_ext (by repeat (first | with_reducible exact Ext.refl _ | refine Ext.drewN ?_ _ | refine Ext.drew ?_ | refine Ext.alloc ?_ _ | assumption | (refine Below.trans ?_ (by assumption)) | (refine Ext.trans ?_ (by assumption)) | (refine Below.trans ?_ (Below.mono (by assumption) (by omega))))) M4 hg G2.out
  have Q4 := Lib.hid Q4
  clear M4 N4
  go_wp2_with fail
  refine (over_q (Q4.out.ext (by repeat (first | with_reducible exact Ext.refl _ | refine Ext.drewN ?_ _ | refine Ext.drew ?_ | refine Ext.alloc ?_ _ | assumption | (refine Below.trans ?_ (by assumption)) | (refine Ext.trans ?_ (by assumption)) | (refine Below.trans ?_ (Below.mono (by assumption) (by omega))))))).mono ?_
  rintro e w5 ⟨rfl, E5⟩
  go_wp2_with fail
  refine (push_any c0 g _ _ _ _ [104, 105] (Q4.out.ext (by repeat (first | with_reducible exact Ext.refl _ | refine Ext.drewN ?_ _ | refine Ext.drew ?_ | refine Ext.alloc ?_ _ | assumption | (refine Below.trans ?_ (by assumption)) | (refine Ext.trans ?_ (by assumption)) | (refine Below.trans ?_ (Below.mono (by assumption) (by omega)))))) (RI.lit .u8 [104, 105] _ rfl (by simp)) (by simp)).mono ?_
  rintro e w6 ⟨rfl, F6, Q6, N6, M6⟩
  rw [ex3.out.1]
  rw [ex3.out.2.1, ex3.out.2.2] at Q6
  have G6 : Hid (∀ k, F6 k → w.heap.size ≤ k) := Lib.hid fun k hk => (N6 k hk).elim (fun h => G4.out k h) fun h => Nat.le_trans (Below.size (show Ext w _ from (by repeat (first | with_reducible exact Ext.refl _ | refine Ext.drewN ?_ _ | refine Ext.drew ?_ | refine Ext.alloc ?_ _ | assumption | (refine Below.trans ?_ (by assumption)) | (refine Ext.trans ?_ (by assumption)) | (refine Below.trans ?_ (Below.mono (by assumption) (by omega))))))) h
  have E6 : Ext w w6 := new_ext (by repeat (first | with_reducible exact Ext.refl _ | refine Ext.drewN ?_ _ | refine Ext.drew ?_ | refine Ext.alloc ?_ _ | assumption | (refine Below.trans ?_ (by assumption)) | (refine Ext.trans ?_ (by assumption)) | (refine Below.trans ?_ (Below.mono (by assumption) (by omega))))) M6 hg G4.out
  have Q6 := Lib.hid Q6
  clear M6 N6
  go_wp2_with fail
  refine (pop_any c0 g _ _ _ Q6.out).mono ?_
  rintro e w7 ⟨⟨A7, k7, rfl, O7⟩, Q7, M7⟩
  rw [ex4.out.1] at Q7
  have e7 : frL [[97, 98, 99, 100], [101, 102, 103]] = [97, 98, 99, 100] := rfl
  rw [e7] at O7 ⊢
  simp only [List.length_cons, List.length_nil, Nat.zero_add, Nat.reduceAdd] at O7 ⊢
  have E7 : Ext w w7 := new_ext (by repeat (first | with_reducible exact Ext.refl _ | refine Ext.drewN ?_ _ | refine Ext.drew ?_ | refine Ext.alloc ?_ _ | assumption | (refine Below.trans ?_ (by assumption)) | (refine Ext.trans ?_ (by assumption)) | (refine Below.trans ?_ (Below.mono (by assumption) (by omega))))) M7 hg G6.out
  have O7 := Lib.hid O7
  have Q7 := Lib.hid Q7
  have L6 := Lib.hid Q6.out.lt
  have l6 := Q6.out.lt_g
  clear M7 e7
  go_wp2_with fail
  refine (over_q (Q7.out.ext (by repeat (first | with_reducible exact Ext.refl _ | refine Ext.drewN ?_ _ | refine Ext.drew ?_ | refine Ext.alloc ?_ _ | assumption | (refine Below.trans ?_ (by assumption)) | (refine Ext.trans ?_ (by assumption)) | (refine Below.trans ?_ (Below.mono (by assumption) (by omega))))))).mono ?_
  rintro e w8 ⟨rfl, E8⟩
  go_wp2_with fail
  refine (pop_any c0 g _ _ _ (Q7.out.ext (by repeat (first | with_reducible exact Ext.refl _ | refine Ext.drewN ?_ _ | refine Ext.drew ?_ | refine Ext.alloc ?_ _ | assumption | (refine Below.trans ?_ (by assumption)) | (refine Ext.trans ?_ (by assumption)) | (refine Below.trans ?_ (Below.mono (by assumption) (by omega))))))).mono ?_
  rintro e w9 ⟨⟨A9, k9, rfl, O9⟩, Q9, M9⟩
  have e9 : popO c0 [[97, 98, 99, 100], [101, 102, 103]].tail true = false := ex4.out.2
  rw [e9] at Q9
  have e9' : frL [[97, 98, 99, 100], [101, 102, 103]].tail = [101, 102, 103] := rfl
  rw [e9'] at O9 ⊢
  simp only [List.length_cons, List.length_nil, Nat.zero_add, Nat.reduceAdd] at O9 ⊢
  have E9 : Ext w w9 := new_ext (by repeat (first | with_reducible exact Ext.refl _ | refine Ext.drewN ?_ _ | refine Ext.drew ?_ | refine Ext.alloc ?_ _ | assumption | (refine Below.trans ?_ (by assumption)) | (refine Ext.trans ?_ (by assumption)) | (refine Below.trans ?_ (Below.mono (by assumption) (by omega))))) M9 hg G6.out
  have Q9 := Lib.hid Q9
  have r7 := O7.out.row
  have S7 := Lib.hid ((O7.out.ext E8).mod M9 (fun k hk hs => by
    have h1 := (r7 k hk).1
    rcases hs with rfl | hs
    · omega
    · have := L6.out k hs; omega) fun _ _ h => h.elim).rdT.ri
  have S9 := Lib.hid O9.rdT.ri
  clear M9 e9 e9' O9 r7
  have s1 : (convert 34 9 (.slice A7 4 k7)).run Try.prog w9 = .ok (.string { data := #[97, 98, 99, 100] }) w9 := RI.str (l := [97, 98, 99, 100]) Try.underlying34 Try.underlying5 Try.underlying9 S7.out
  have s2 : (convert 34 9 (.slice A9 3 k9)).run Try.prog w9 = .ok (.string { data := #[101, 102, 103] }) w9 := RI.str (l := [101, 102, 103]) Try.underlying34 Try.underlying5 Try.underlying9 S9.out
  go_wp2_with fail
  refine (over_q (Q9.out.ext (by repeat (first | with_reducible exact Ext.refl _ | refine Ext.drewN ?_ _ | refine Ext.drew ?_ | refine Ext.alloc ?_ _ | assumption | (refine Below.trans ?_ (by assumption)) | (refine Ext.trans ?_ (by assumption)) | (refine Below.trans ?_ (Below.mono (by assumption) (by omega))))))).mono ?_
  rintro e wa ⟨rfl, Ea⟩
  go_wp2_with fail
  refine (count_nil _).mono ?_
  rintro e wb ⟨rfl, Eb⟩
  go_wp2_with fail
  refine (push_nil _ _ _ _).mono ?_
  rintro e wc ⟨rfl, Ec⟩
  go_wp2
  go_ret
  exact ⟨rfl, (by repeat (first | with_reducible exact Ext.refl _ | refine Ext.drewN ?_ _ | refine Ext.drew ?_ | refine Ext.alloc ?_ _ | assumption | (refine Below.trans ?_ (by assumption)) | (refine Ext.trans ?_ (by assumption)) | (refine Below.trans ?_ (Below.mono (by assumption) (by omega)))))⟩
end Go.Proofs.Ytefcafohhppmbaa
