/- The marks of a queue: plain lemmas. No condition. -/
import Derived.Test.YtefcafohhppmbaaG06
namespace Go.Proofs.Ytefcafohhppmbaa
open Go.RowKit Go.Kb

theorem used_l {c : Cf} {g : Nat} {F : Nat → Prop} {w : World} {l : List (List Int)} {o : Bool} {u : Int} (h : Qm c g F w l o) (hu : usedL l = u) :
    Calls Try.prog 15 #[.pointer (some ⟨g, 0, none⟩)] w fun e w' => e = .returned (.int .i64 u) ∧ Ext w w' := by
  subst hu; exact used_q h
theorem count_l {c : Cf} {g : Nat} {F : Nat → Prop} {w : World} {l : List (List Int)} {o : Bool} {u : Int} (h : Qm c g F w l o) (hu : (l.length : Int) = u) :
    Calls Try.prog 14 #[.pointer (some ⟨g, 0, none⟩)] w fun e w' => e = .returned (.int .i64 u) ∧ Ext w w' := by
  subst hu; exact count_q h
/-- the marks are as they should be -/
def Inv (c : Cf) (l : List (List Int)) (o : Bool) : Prop := (c.H ≤ usedL l → o = true) ∧ (usedL l ≤ c.L → o = false)
theorem inv_step {c : Cf} {l : List (List Int)} {o : Bool} (hc : ¬ badC c) (h : Inv c l o) (x : Opn) : Inv c (doL c l x) (doO c l o x) ∧ (c.L < usedL (doL c l x) → usedL (doL c l x) < c.H → doO c l o x = o) := by
  unfold badC at hc
  obtain ⟨h1, h2⟩ := h
  unfold doL doO Inv
  by_cases k1 : x.1 = 1
  · simp only [if_pos k1]
    unfold pushL pushO
    cases roomB c l x.2
    · exact ⟨⟨h1, h2⟩, fun _ _ => rfl⟩
    · simp only [if_true, usedL_snoc]
      have := usedL_nn l
      refine ⟨⟨fun h => by simp [h], fun h => ?_⟩, fun h3 h4 => ?_⟩
      · rw [h2 (by omega), decide_eq_false (by omega)]; rfl
      · rw [decide_eq_false (by omega)]; simp
  · simp only [if_neg k1]
    by_cases k2 : x.1 = 2
    · simp only [if_pos k2]
      rcases l with _ | ⟨b, r⟩
      · exact ⟨⟨h1, h2⟩, fun _ _ => rfl⟩
      · have e1 : popO c (b :: r) o = o.and (decide (c.L < usedL r)) := rfl
        have e2 : (b :: r).tail = r := rfl
        rw [usedL_cons] at h1 h2
        rw [e1, e2]
        refine ⟨⟨fun h => ?_, fun h => ?_⟩, fun h3 h4 => ?_⟩
        · rw [h1 (by omega), decide_eq_true (show c.L < usedL r by omega)]; rfl
        · rw [decide_eq_false (by omega)]; simp
        · rw [decide_eq_true h3]; simp
    · simp only [if_neg k2]
      exact ⟨⟨h1, h2⟩, by intros; trivial⟩
theorem one_step {c : Cf} {l : List (List Int)} {o : Bool} {i : Int} (x : List Int) (h : i = 1) :
    (doK c l (i, x) = true ∧ usedL (doL c l (i, x)) = usedL l + x.length ∧ ((doL c l (i, x)).length : Int) = (l.length : Int) + 1) ∨ (doK c l (i, x) = false ∧ doL c l (i, x) = l ∧ doO c l o (i, x) = o) := by
  subst h
  unfold doK doL doO
  simp only [if_true]
  unfold pushL pushO
  cases roomB c l x
  · exact .inr ⟨rfl, rfl, rfl⟩
  · exact .inl ⟨rfl, by simp only [if_true, usedL_snoc], by simp⟩
theorem classes {c : Cf} {l : List (List Int)} {o o' : Bool} (hc : ¬ badC c) (h : Inv c l o') (hm : c.L < usedL l → usedL l < c.H → o' = o) :
    (c.H ≤ usedL l ∧ c.L < usedL l ∧ (usedL l == 0) = false ∧ o' = true) ∨ (c.L < usedL l ∧ usedL l < c.H ∧ (usedL l == 0) = false ∧ o' = o) ∨ (usedL l ≤ c.L ∧ usedL l < c.H ∧ (usedL l == 0) = false ∧ o' = false) ∨ (usedL l ≤ c.L ∧ usedL l < c.H ∧ (usedL l == 0) = true ∧ o' = false) := by
  unfold badC at hc
  by_cases h1 : c.H ≤ usedL l
  · exact .inl ⟨h1, by omega, by simp; omega, h.1 h1⟩
  · by_cases h2 : c.L < usedL l
    · exact .inr (.inl ⟨h2, by omega, by simp; omega, hm h2 (by omega)⟩)
    · by_cases h3 : usedL l = 0
      · exact .inr (.inr (.inr ⟨by omega, by omega, by simp [h3], h.2 (by omega)⟩))
      · exact .inr (.inr (.inl ⟨by omega, by omega, by simp [h3], h.2 (by omega)⟩))
end Go.Proofs.Ytefcafohhppmbaa
