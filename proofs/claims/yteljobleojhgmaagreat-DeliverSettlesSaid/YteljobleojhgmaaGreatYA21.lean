/- The groups of a table, rising: by insertion, and by sorting: the same row. No program in sight. -/
import Derived.Test.YteljobleojhgmaaGreatU21
namespace Go.Proofs.YteljobleojhgmaaGreat
open Go.RowKit Go.Kb

/-- a number put into a rising row -/
def insG : List Int → Int → List Int
  | [], g => [g]
  | x :: r, g => if x < g then x :: insG r g else if x = g then x :: r else g :: x :: r
theorem insG_mem {g y : Int} : ∀ {gs : List Int}, y ∈ insG gs g ↔ y = g ∨ y ∈ gs
  | [] => by simp [insG]
  | x :: r => by
    unfold insG
    split
    · rw [List.mem_cons, insG_mem, List.mem_cons]
      constructor
      · rintro (h | h | h)
        · exact .inr (.inl h)
        · exact .inl h
        · exact .inr (.inr h)
      · rintro (h | h | h)
        · exact .inr (.inl h)
        · exact .inl h
        · exact .inr (.inr h)
    · split
      · rename_i h
        subst h
        simp
      · simp
theorem insG_rise {g : Int} : ∀ {gs : List Int}, gs.Pairwise (· < ·) → (insG gs g).Pairwise (· < ·)
  | [], _ => by simp [insG]
  | x :: r, h => by
    rw [List.pairwise_cons] at h
    unfold insG
    split
    · rename_i hx
      rw [List.pairwise_cons]
      refine ⟨fun y hy => ?_, insG_rise h.2⟩
      rcases insG_mem.1 hy with rfl | hy
      · exact hx
      · exact h.1 y hy
    · split
      · rw [List.pairwise_cons]; exact h
      · rename_i h1 h2
        rw [List.pairwise_cons, List.pairwise_cons]
        refine ⟨fun y hy => ?_, h⟩
        rcases List.mem_cons.1 hy with rfl | hy
        · omega
        · have := h.1 y hy; omega
theorem insG_at {g : Int} : ∀ {gs : List Int} {m : Nat}, (∀ x ∈ gs.take m, x < g) → (∀ x, gs[m]? = some x → ¬ x < g) → m ≤ gs.length →
    insG gs g = if gs[m]? = some g then gs else gs.take m ++ [g] ++ gs.drop m
  | [], m, _, _, h3 => by
    obtain rfl : m = 0 := by simpa using h3
    simp [insG]
  | x :: r, 0, _, h2, _ => by
    have := h2 x rfl
    unfold insG
    rw [if_neg this]
    by_cases e : x = g
    · subst e; simp
    · simp [e]
  | x :: r, m + 1, h1, h2, h3 => by
    have hx : x < g := h1 x (by simp)
    have ih := insG_at (g := g) (gs := r) (m := m) (fun y hy => h1 y (by simp [hy])) (fun y hy => h2 y (by simpa using hy)) (by simpa using h3)
    unfold insG
    rw [if_pos hx, ih]
    simp only [List.getElem?_cons_succ]
    split <;> simp
/-- two rising rows of the same members are one -/
theorem rise_eq : ∀ {a b : List Int}, a.Pairwise (· < ·) → b.Pairwise (· < ·) → (∀ y, y ∈ a ↔ y ∈ b) → a = b
  | [], [], _, _, _ => rfl
  | [], y :: b, _, _, h => by have := (h y).2 (by simp); cases this
  | x :: a, [], _, _, h => by have := (h x).1 (by simp); cases this
  | x :: a, y :: b, ha, hb, h => by
    rw [List.pairwise_cons] at ha hb
    have e : x = y := by
      rcases List.mem_cons.1 ((h x).1 (by simp)) with h1 | h1
      · exact h1
      · rcases List.mem_cons.1 ((h y).2 (by simp)) with h2 | h2
        · exact h2.symm
        · have := hb.1 x h1; have := ha.1 y h2; omega
    subst e
    rw [rise_eq ha.2 hb.2 fun z => ?_]
    constructor
    · intro hz
      rcases List.mem_cons.1 ((h z).1 (List.mem_cons_of_mem _ hz)) with h1 | h1
      · subst h1; have := ha.1 z hz; omega
      · exact h1
    · intro hz
      rcases List.mem_cons.1 ((h z).2 (List.mem_cons_of_mem _ hz)) with h1 | h1
      · subst h1; have := hb.1 z hz; omega
      · exact h1
theorem compact_rise (zs : List Int) (hs : zs.Pairwise (· ≤ ·)) : ∀ m, m ≤ zs.length →
    (Lib.compactUpTo zs.toArray m).Pairwise (· < ·) ∧ (∀ y, y ∈ Lib.compactUpTo zs.toArray m ↔ y ∈ zs.take m) := by
  have hget : ∀ j, j < zs.length → zs[j]? = some zs.toArray[j]! := fun j hj => by simp [hj]
  have hle : ∀ i j, i ≤ j → j < zs.length → zs.toArray[i]! ≤ zs.toArray[j]! := fun i j hij hj => by
    rcases Nat.lt_or_ge i j with h | h
    · have h1 := List.pairwise_iff_getElem.1 hs i j (by omega) hj h
      simpa [hj, show i < zs.length by omega] using h1
    · obtain rfl : i = j := by omega
      exact Int.le_refl _
  intro m
  induction m with
  | zero => intro _; simp [Lib.compactUpTo]
  | succ m ih =>
    intro hm
    obtain ⟨h1, h2⟩ := ih (by omega)
    rw [Lib.compactUpTo_succ, List.take_add_one, hget m (by omega)]
    by_cases hk : Lib.keeps zs.toArray m = true
    · rw [if_pos hk]
      refine ⟨List.pairwise_append.2 ⟨h1, by simp, fun x hx y hy => ?_⟩, fun y => ?_⟩
      · obtain rfl : y = zs.toArray[m]! := by simpa using hy
        have hx := (h2 x).1 hx
        obtain ⟨i, hi, rfl⟩ := List.mem_iff_getElem.1 hx
        have hi2 : i < m := by simpa using (show i < m from by simp at hi; omega)
        have e1 : (zs.take m)[i] = zs.toArray[i]! := by simp [show i < zs.length by omega]
        rw [e1]
        have a1 := hle i (m - 1) (by omega) (by omega)
        have a2 := hle (m - 1) m (by omega) (by omega)
        have a3 : zs.toArray[m]! ≠ zs.toArray[m - 1]! := by
          unfold Lib.keeps at hk
          rcases of_decide_eq_true hk with h | h
          · omega
          · exact h
        omega
      · rw [List.mem_append, List.mem_append, h2]
        simp
    · rw [if_neg hk, List.append_nil]
      refine ⟨h1, fun y => ?_⟩
      rw [h2, List.mem_append]
      refine ⟨.inl, ?_⟩
      rintro (h | h)
      · exact h
      · obtain rfl : y = zs.toArray[m]! := by simpa using h
        have a3 : ¬ (m = 0 ∨ zs.toArray[m]! ≠ zs.toArray[m - 1]!) := fun hh => hk (decide_eq_true hh)
        have e : zs.toArray[m]! = zs.toArray[m - 1]! := Classical.byContradiction fun hh => a3 (.inr hh)
        have hm0 : m ≠ 0 := fun hh => a3 (.inl hh)
        rw [e]
        exact List.mem_iff_getElem.2 ⟨m - 1, by simp; omega, by simp [show m - 1 < zs.length by omega]⟩
theorem groupsL_rise (l : List Pr) : (groupsL l).Pairwise (· < ·) ∧ ∀ y, y ∈ groupsL l ↔ y ∈ l.map (·.group) := by
  obtain ⟨h1, h2⟩ := compact_rise (sortL (l.map (·.group))) (by
    have := List.pairwise_mergeSort (le := fun x y : Int => decide (x ≤ y)) (fun a b c h1 h2 => by simp at *; omega) (fun a b => by simp; omega) (l.map (·.group))
    exact this.imp fun h => by simpa using h) _ (Nat.le_refl _)
  refine ⟨h1, fun y => (h2 y).trans ?_⟩
  rw [List.take_length]
  exact (List.mergeSort_perm _ _).mem_iff
/-- the groups of the first ones, each put in -/
def gsN (l : List Pr) (m : Nat) : List Int := (l.take m).foldl (fun gs p => insG gs p.group) []
theorem gsN_succ {l : List Pr} {m : Nat} {p : Pr} (h : l[m]? = some p) : gsN l (m + 1) = insG (gsN l m) p.group := by
  unfold gsN
  rw [List.take_add_one, h, List.foldl_append]
  rfl
theorem gs_fold : ∀ (l : List Pr) (gs : List Int), gs.Pairwise (· < ·) → (l.foldl (fun gs p => insG gs p.group) gs).Pairwise (· < ·) ∧ ∀ y, y ∈ l.foldl (fun gs p => insG gs p.group) gs ↔ y ∈ gs ∨ y ∈ l.map (·.group)
  | [], gs, h => by simp [h]
  | p :: r, gs, h => by
    obtain ⟨h1, h2⟩ := gs_fold r (insG gs p.group) (insG_rise h)
    refine ⟨h1, fun y => ?_⟩
    rw [List.foldl_cons, h2, insG_mem, List.map_cons, List.mem_cons]
    constructor
    · rintro ((h | h) | h)
      · exact .inr (.inl h)
      · exact .inl h
      · exact .inr (.inr h)
    · rintro (h | h | h)
      · exact .inl (.inr h)
      · exact .inl (.inl h)
      · exact .inr h
theorem gsN_end {l : List Pr} {m : Nat} (h : l.length ≤ m) : gsN l m = groupsL l := by
  unfold gsN
  rw [List.take_of_length_le h]
  obtain ⟨h1, h2⟩ := gs_fold l [] List.Pairwise.nil
  obtain ⟨g1, g2⟩ := groupsL_rise l
  exact rise_eq h1 g1 fun y => by rw [h2, g2]; simp
theorem insG_len {g : Int} : ∀ {gs : List Int}, (insG gs g).length ≤ gs.length + 1
  | [] => by simp [insG]
  | x :: r => by
    have := insG_len (g := g) (gs := r)
    unfold insG
    split
    · simp; omega
    · split <;> simp
theorem gsN_len {l : List Pr} : ∀ {m : Nat}, (gsN l m).length ≤ m
  | 0 => by simp [gsN]
  | m + 1 => by
    rcases h : l[m]? with _ | p
    · have h1 : l.length ≤ m := by simpa using h
      have : gsN l (m + 1) = gsN l m := by unfold gsN; rw [List.take_of_length_le h1, List.take_of_length_le (by omega)]
      rw [this]
      have := gsN_len (l := l) (m := m)
      omega
    · rw [gsN_succ h]
      have := gsN_len (l := l) (m := m)
      have := insG_len (g := p.group) (gs := gsN l m)
      omega
/-- of a group that is orphaned one halts: looked up through its members -/
def haltN (u : List Pr) (nx : Int) (ms : List Int) : Bool := ms.any fun k => (getL u nx k).1.state == 2
end Go.Proofs.YteljobleojhgmaaGreat
