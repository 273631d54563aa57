/- Written by chain.py of P12. No condition. -/
import Derived.Test.YtfnicinnjkbedaaGreatDoorME17
namespace Go.Proofs.YtfnicinnjkbedaaGreatDoor
open Go.RowKit Go.Kb
set_option maxRecDepth 100000

theorem Bs.take {l : List Int} (h : Bs l) (k : Nat) : Bs (l.take k) := fun x hx => h x (List.mem_of_mem_take hx)
theorem Bs.drop {l : List Int} (h : Bs l) (k : Nat) : Bs (l.drop k) := fun x hx => h x (List.mem_of_mem_drop hx)
def colL (col : Int) : Int := if col < 0 ∨ 65535 < col then 0 else col
theorem colL_bd (col : Int) : 0 ≤ colL col ∧ colL col ≤ 65535 := by unfold colL; split <;> omega
theorem colL_id {col : Int} (h : 0 ≤ col ∧ col ≤ 65535) : colL col = col := by unfold colL; rw [if_neg (by omega)]
/-- the column behind a byte -/
def movedL (u : Bool) (col c : Int) : Int :=
  if c = 9 then colL ((col / 8 + 1) * 8) else if c = 8 then max 0 (col - 1) else if c = 13 then 0 else if c < 32 ∨ c = 127 then col else if u = true ∧ 128 ≤ c ∧ c ≤ 191 then col else colL (col + 1)
theorem movedL_bd {u : Bool} {col c : Int} (h : 0 ≤ col ∧ col ≤ 65535) : 0 ≤ movedL u col c ∧ movedL u col c ≤ 65535 := by
  have h1 := colL_bd ((col / 8 + 1) * 8)
  have h2 := colL_bd (col + 1)
  unfold movedL
  repeat' split
  all_goals omega
/-- the flags that are asked -/
structure Pf where
  post : Bool
  nocr : Bool
  crnl : Bool
  nlcr : Bool
  lret : Bool
  luc : Bool
  u : Bool
def pfL (t : Tm) : Pf := ⟨hasL t 70, hasL t 74, hasL t 73, hasL t 72, hasL t 75, hasL t 71, hasL t 42⟩
/-- what goes out of a byte, and the column -/
def byteL (p : Pf) (col c : Int) : List Int × Int :=
  if p.post = false then ([c], movedL p.u col c)
  else if c = 13 then
    (if p.nocr = true ∧ col = 0 then ([], 0) else if p.crnl = false then ([13], 0) else if p.lret = true then ([10], 0) else ([10], col))
  else if c = 10 then
    (if p.nlcr = true then ([13, 10], 0) else if p.lret = true then ([10], 0) else ([10], col))
  else if 97 ≤ c ∧ c ≤ 122 ∧ p.luc = true then ([c - 32], movedL p.u col (c - 32)) else ([c], movedL p.u col c)
theorem byteL_bd {p : Pf} {col c : Int} (h : 0 ≤ col ∧ col ≤ 65535) : 0 ≤ (byteL p col c).2 ∧ (byteL p col c).2 ≤ 65535 := by
  have h1 := movedL_bd (u := p.u) (c := c) h
  have h2 := movedL_bd (u := p.u) (c := c - 32) h
  unfold byteL
  repeat' split
  all_goals first | exact h1 | exact h2 | exact ⟨by decide, by decide⟩ | exact h
theorem byteL_len {p : Pf} {col c : Int} : (byteL p col c).1.length ≤ 2 := by
  unfold byteL
  repeat' split
  all_goals simp
theorem byteL_bs {p : Pf} {col c : Int} (h : 0 ≤ c ∧ c ≤ 255) : Bs (byteL p col c).1 := by
  unfold byteL Bs
  repeat' split
  all_goals simp
  all_goals omega
def stepL (p : Pf) (s : List Int × Int) (c : Int) : List Int × Int := (s.1 ++ (byteL p s.2 c).1, (byteL p s.2 c).2)
def bytesL (p : Pf) (col : Int) (l : List Int) : List Int × Int := l.foldl (stepL p) ([], colL col)
theorem bytesL_nil (p : Pf) (col : Int) : bytesL p col [] = ([], colL col) := rfl
theorem bytesL_snoc (p : Pf) (col : Int) (l : List Int) (c : Int) : bytesL p col (l ++ [c]) = ((bytesL p col l).1 ++ (byteL p (bytesL p col l).2 c).1, (byteL p (bytesL p col l).2 c).2) := by
  simp [bytesL, List.foldl_append, stepL]
theorem bytesL_succ {p : Pf} {col : Int} {l : List Int} {k : Nat} {c : Int} (h : l[k]? = some c) : bytesL p col (l.take (k + 1)) = ((bytesL p col (l.take k)).1 ++ (byteL p (bytesL p col (l.take k)).2 c).1, (byteL p (bytesL p col (l.take k)).2 c).2) := by
  rw [take_succ_of h, bytesL_snoc]
theorem snoc_ind {P : List Int → Prop} (h0 : P []) (h1 : ∀ l c, P l → P (l ++ [c])) (l : List Int) : P l := by
  have : ∀ n, n ≤ l.length → P (l.take n) := by
    intro n
    induction n with
    | zero => intro _; simpa using h0
    | succ n ih =>
      intro hn
      rw [take_succ_of (List.getElem?_eq_getElem (by omega : n < l.length))]
      exact h1 _ _ (ih (by omega))
  have h := this l.length (Nat.le_refl _)
  rwa [List.take_length] at h
theorem bytesL_bd (p : Pf) (col : Int) (l : List Int) : 0 ≤ (bytesL p col l).2 ∧ (bytesL p col l).2 ≤ 65535 := by
  induction l using snoc_ind with
  | h0 => exact colL_bd col
  | h1 l c ih => rw [bytesL_snoc]; exact byteL_bd ih
theorem bytesL_len (p : Pf) (col : Int) (l : List Int) : (bytesL p col l).1.length ≤ 2 * l.length := by
  induction l using snoc_ind with
  | h0 => simp [bytesL]
  | h1 l c ih =>
    rw [bytesL_snoc]
    have := byteL_len (p := p) (col := (bytesL p col l).2) (c := c)
    simp only [List.length_append, List.length_cons, List.length_nil]
    omega
theorem bytesL_bs (p : Pf) (col : Int) (l : List Int) (h : Bs l) : Bs (bytesL p col l).1 := by
  induction l using snoc_ind with
  | h0 => simp [bytesL, Bs]
  | h1 l c ih =>
    rw [bytesL_snoc]
    intro x hx
    rcases List.mem_append.1 hx with hx | hx
    · exact ih (fun y hy => h y (List.mem_append_left _ hy)) x hx
    · exact byteL_bs (h c (by simp)) x hx
theorem bytesL_append (p : Pf) (col : Int) (a b : List Int) : bytesL p col (a ++ b) = ((bytesL p col a).1 ++ (bytesL p (bytesL p col a).2 b).1, (bytesL p (bytesL p col a).2 b).2) := by
  induction b using snoc_ind with
  | h0 => rw [List.append_nil, bytesL_nil, colL_id (bytesL_bd p col a)]; simp
  | h1 b c ih => rw [← List.append_assoc, bytesL_snoc, ih, bytesL_snoc, List.append_assoc]
theorem bytesL_mono (p : Pf) (col : Int) (l : List Int) {m n : Nat} (h : m ≤ n) : (bytesL p col (l.take m)).1.length ≤ (bytesL p col (l.take n)).1.length := by
  have e : l.take n = l.take m ++ (l.take n).drop m := by
    have : (l.take n).take m = l.take m := by rw [List.take_take, Nat.min_eq_left h]
    rw [← this, List.take_append_drop]
  rw [e, bytesL_append]
  simp
theorem bytesL_one (p : Pf) (col c : Int) : bytesL p col [c] = byteL p (colL col) c := by
  have := bytesL_snoc p col [] c
  rw [List.nil_append, bytesL_nil] at this
  rw [this]
  simp
theorem bytesL_plain (p : Pf) (hp : p.post = false) (col : Int) (l : List Int) : (bytesL p col l).1 = l := by
  induction l using snoc_ind with
  | h0 => rfl
  | h1 l c ih =>
    rw [bytesL_snoc, ih]
    simp [byteL, hp]
/-- so many fit -/
structure FitIs (p : Pf) (col : Int) (l : List Int) (room : Int) (k : Nat) : Prop where
  le : k ≤ l.length
  fit : k = 0 ∨ ((bytesL p col (l.take k)).1.length : Int) ≤ room
  more : k = l.length ∨ room < ((bytesL p col (l.take (k + 1))).1.length : Int)
theorem FitIs.uniq {p : Pf} {col : Int} {l : List Int} {room : Int} {k m : Nat} (h : FitIs p col l room k) (g : FitIs p col l room m) : k = m := by
  have key : ∀ {k m : Nat}, FitIs p col l room k → FitIs p col l room m → ¬ k < m := by
    intro k m h g hlt
    have h1 := h.more
    have h2 := g.fit
    have h3 := g.le
    have h4 := bytesL_mono p col l (show k + 1 ≤ m by omega)
    omega
  have h1 := key h g
  have h2 := key g h
  omega
/-- no byte 10 without a 13 ahead of it -/
def Crs (l : List Int) : Prop := ∀ i : Nat, l[i]? = some 10 → 0 < i ∧ l[i - 1]? = some 13
theorem Crs.app {a b : List Int} (h : Crs a) (g : Crs b) : Crs (a ++ b) := by
  intro i hi
  rcases Nat.lt_or_ge i a.length with hlt | hge
  · rw [List.getElem?_append_left hlt] at hi
    obtain ⟨h1, h2⟩ := h i hi
    exact ⟨h1, by rw [List.getElem?_append_left (by omega)]; exact h2⟩
  · rw [List.getElem?_append_right hge] at hi
    obtain ⟨h1, h2⟩ := g _ hi
    refine ⟨by omega, ?_⟩
    rw [List.getElem?_append_right (by omega)]
    have : i - 1 - a.length = i - a.length - 1 := by omega
    rw [this]; exact h2
theorem Crs.one {c : Int} (h : c ≠ 10) : Crs [c] := by
  intro i hi
  rcases i with _ | i
  · simp at hi; exact absurd hi h
  · simp at hi
theorem Crs.two : Crs [13, 10] := by
  intro i hi
  rcases i with _ | _ | i
  · simp at hi
  · simp
  · simp at hi
theorem byteL_crs {p : Pf} {col c : Int} (h1 : p.post = true) (h2 : p.nlcr = true) (h3 : p.crnl = false) : Crs (byteL p col c).1 := by
  unfold byteL
  simp only [h1, h2, h3, Bool.true_eq_false, if_false, if_true]
  by_cases hc : c = 13
  · rw [if_pos hc]
    split
    · intro i hi; simp at hi
    · exact Crs.one (by decide)
  · rw [if_neg hc]
    by_cases hc : c = 10
    · rw [if_pos hc]; exact Crs.two
    · rw [if_neg hc]
      split
      · exact Crs.one (by omega)
      · exact Crs.one hc
theorem bytesL_crs {p : Pf} (h1 : p.post = true) (h2 : p.nlcr = true) (h3 : p.crnl = false) (col : Int) (l : List Int) : Crs (bytesL p col l).1 := by
  induction l using snoc_ind with
  | h0 => intro i hi; simp [bytesL] at hi
  | h1 l c ih => rw [bytesL_snoc]; exact ih.app (byteL_crs h1 h2 h3)
end Go.Proofs.YtfnicinnjkbedaaGreatDoor
