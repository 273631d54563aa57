/- Queues side by side: a step on one of them leaves the others, by contract. Conditions: they are queues; a record is no longer than the reach. -/
import Derived.Test.YtefcafohhppmbaaG06
namespace Go.Proofs.Ytefcafohhppmbaa
open Go.RowKit Go.Kb

/-- a queue whose blocks all lie in Z -/
def Qz (c : Cf) (g : Nat) (Z : Nat → Prop) (w : World) (l : List (List Int)) (o : Bool) : Prop :=
  ∃ F, Qm c g F w l o ∧ Z g ∧ (∀ k, F k → Z k) ∧ ∀ k, Z k → k < w.heap.size
theorem Qz.mod {c : Cf} {g : Nat} {Z S : Nat → Prop} {w w' : World} {l : List (List Int)} {o : Bool} (h : Qz c g Z w l o) (hM : Mod S w w') (hd : ∀ k, Z k → ¬ S k) : Qz c g Z w' l o := by
  obtain ⟨F, hQ, hg, hF, hz⟩ := h
  exact ⟨F, hQ.mod hM (hd g hg) fun k hk => hd k (hF k hk), hg, hF, fun k hk => Nat.lt_of_lt_of_le (hz k hk) hM.size⟩
/-- queues side by side, so many: their blocks lie from base on, apart, and none in R -/
def Qs {I : Type} (c : Cf) (base : Nat) (R : Nat → Prop) (G : I → Nat) (w : World) (S : I → List (List Int) × Bool) : Prop :=
  ∃ Z : I → Nat → Prop, (∀ i, Qz c (G i) (Z i) w (S i).1 (S i).2) ∧ (∀ i j k, i ≠ j → Z i k → ¬ Z j k) ∧ ∀ i k, Z i k → base ≤ k ∧ ¬ R k
section
variable {I : Type} {c : Cf} {base : Nat} {R : Nat → Prop} {G : I → Nat} {w w' : World} {S : I → List (List Int) × Bool}
theorem Qs.ext (h : Qs c base R G w S) (hE : Ext w w') : Qs c base R G w' S := by
  obtain ⟨Z, h1, h2⟩ := h
  exact ⟨Z, fun i => (h1 i).mod (S := fun _ => False) (Mod.of_ext hE) fun _ _ h => h, h2⟩
theorem Qs.one (h : Qs c base R G w S) (i : I) : ∃ F, Qm c (G i) F w (S i).1 (S i).2 := by
  obtain ⟨Z, h1, _⟩ := h
  obtain ⟨F, hQ, _⟩ := h1 i
  exact ⟨F, hQ⟩
theorem Qs.none (h : Qs c base R G w S) : Qs c base (fun _ => False) G w S := by
  obtain ⟨Z, h1, h2, h3⟩ := h
  exact ⟨Z, h1, h2, fun i k hk => ⟨(h3 i k hk).1, fun h => h⟩⟩
theorem Qs.fresh {R' : Nat → Prop} (h : Qs c base R G w S) (hR : ∀ k, R' k → w.heap.size ≤ k) : Qs c base R' G w S := by
  obtain ⟨Z, h1, h2, h3⟩ := h
  refine ⟨Z, h1, h2, fun i k hk => ⟨(h3 i k hk).1, fun h => ?_⟩⟩
  obtain ⟨_, _, _, _, hz⟩ := h1 i
  have := hz k hk
  have := hR k h
  omega
/-- one changes -/
def setQ [DecidableEq I] (S : I → List (List Int) × Bool) (i : I) (x : List (List Int) × Bool) : I → List (List Int) × Bool := fun j => if j = i then x else S j
set_option maxHeartbeats 800000 in
theorem do_s [DecidableEq I] (i : I) (v2 : Value) (x : Opn) (h : Qs c base R G w S) (hb : RI .u8 w v2 x.2) (hn : x.2.length ≤ 140737488355328) (hB : base ≤ w.heap.size) (hR : ∀ j, R j → j < w.heap.size) :
    Calls Try.prog 11 #[.pointer (some ⟨G i, 0, none⟩), .agg #[.int .i64 x.1, v2]] w fun e w' => ∃ Ad k, e = .returned (.tuple #[.slice Ad (doB (S i).1 x).length k, .bool (doK c (S i).1 x)]) ∧
      OwnS Ub 5 w.heap.size (fun _ => False) w' (.slice Ad (doB (S i).1 x).length k) (doB (S i).1 x) ∧
      Qs c base (fun j => R j ∨ (Value.slice Ad (doB (S i).1 x).length k).ownBlock = some j) G w' (setQ S i (doL c (S i).1 x, doO c (S i).1 (S i).2 x)) ∧ Mod (fun j => base ≤ j ∧ ¬ R j) w w' := by
  obtain ⟨Z, h1, h2, h3⟩ := h
  obtain ⟨F, hQ, hg, hF, hz⟩ := h1 i
  refine (do_any c (G i) w _ _ v2 x hQ hb hn).mono ?_
  rintro e w' ⟨Ad, k, F', he, hown, hsep, hQ', hF', hM⟩
  have hrow := hown.row
  refine ⟨Ad, k, he, hown, ⟨fun j m => if j = i then (m = G i ∨ F' m) else Z j m, fun j => ?_, fun a b m hab ha hb => ?_, fun j m hm => ?_⟩, hM.mono fun m _ hm => ?_⟩
  · by_cases hj : j = i
    · subst hj
      simp only [setQ, if_true]
      obtain ⟨_, hBk, hT, h5, h6⟩ := id hQ'
      exact ⟨F', hQ', .inl rfl, fun m hm => .inr hm, fun m hm => by
        rcases hm with rfl | hm
        · exact hBk.lt
        · exact (h5 m hm).1⟩
    · simp only [setQ, if_neg hj]
      refine (h1 j).mod hM fun m hm hs => ?_
      rcases hs with rfl | hs
      · exact h2 j i _ hj hm hg
      · exact h2 j i _ hj hm (hF _ hs)
  · have key : ∀ j, j ≠ i → Z j m → ¬ (m = G i ∨ F' m) := by
      intro j hj hm hs
      obtain ⟨_, _, _, _, hzj⟩ := h1 j
      rcases hs with rfl | hs
      · exact h2 j i _ hj hm hg
      · rcases hF' m hs with h4 | h4
        · exact h2 j i _ hj hm (hF _ h4)
        · have := hzj m hm; omega
    by_cases ha1 : a = i
    · subst ha1
      simp only [if_true, if_neg (Ne.symm hab)] at ha hb
      exact key b (Ne.symm hab) hb ha
    · simp only [if_neg ha1] at ha
      by_cases hb1 : b = i
      · subst hb1
        simp only [if_true] at hb
        exact key a ha1 ha hb
      · simp only [if_neg hb1] at hb
        exact h2 a b m hab ha hb
  · by_cases hj : j = i
    · subst hj
      simp only [if_true] at hm
      rcases hm with rfl | hm
      · exact ⟨(h3 j _ hg).1, fun h => h.elim (h3 j _ hg).2 fun h => by have := (hrow _ h).1; have := hz _ hg; omega⟩
      · rcases hF' m hm with h4 | h4
        · exact ⟨(h3 j _ (hF m h4)).1, fun h => h.elim (h3 j _ (hF m h4)).2 fun h => hsep m h hm⟩
        · exact ⟨by omega, fun h => h.elim (fun h => by have := hR m h; omega) fun h => hsep m h hm⟩
    · simp only [if_neg hj] at hm
      obtain ⟨_, _, _, _, hzj⟩ := h1 j
      exact ⟨(h3 j m hm).1, fun h => h.elim (h3 j m hm).2 fun h => by have := (hrow _ h).1; have := hzj m hm; omega⟩
  · rcases hm with rfl | hm
    · exact h3 i _ hg
    · exact h3 i _ (hF m hm)
end
end Go.Proofs.Ytefcafohhppmbaa
