/- How bytes are shown, as lists: plain lemmas. No condition. -/
import Derived.Test.YtjgheofaflgagaaA11
import Derived.Test.YtjgheofaflgagaaMoS
namespace Go.Proofs.Ytjgheofaflgagaa
open Go.RowKit Go.Kb

theorem Bs.take {l : List Int} (h : Bs l) (k : Nat) : Bs (l.take k) := fun x hx => h x (List.mem_of_mem_take hx)
theorem Bs.drop {l : List Int} (h : Bs l) (k : Nat) : Bs (l.drop k) := fun x hx => h x (List.mem_of_mem_drop hx)
theorem Bs.one {c : Int} (h : 0 ≤ c ∧ c ≤ 255) : Bs [c] := fun x hx => by
  rw [List.mem_singleton.1 hx]; exact h
def colL (col : Int) : Int := if col < 0 ∨ 65535 < col then 0 else col
theorem colL_bd (col : Int) : 0 ≤ colL col ∧ colL col ≤ 65535 := by unfold colL; split <;> omega
theorem colL_id {col : Int} (h : 0 ≤ col ∧ col ≤ 65535) : colL col = col := by unfold colL; rw [if_neg (by omega)]
/-- is a byte one without a sign? -/
def quietL (c : Int) : Bool := decide (c < 32 ∨ c = 127)
/-- is it shown by two? ('e': ECHOCTL) -/
def hatL (e : Bool) (c : Int) : Bool := quietL c && c != 9 && c != 10 && e
theorem hatL_eq (e : Bool) (c : Int) : hatL e c = if (c < 32 ∨ c = 127) ∧ c ≠ 9 ∧ c ≠ 10 ∧ e = true then true else false := by
  unfold hatL quietL
  rw [Bool.eq_iff_iff]
  simp only [Bool.and_eq_true, decide_eq_true_eq, bne_iff_ne]
  split <;> simp_all
def showL (e : Bool) (c : Int) : List Int := if hatL e c = true then [94, if c = 127 then 63 else c + 64] else [c]
/-- the column behind a byte ('u': IUTF8) -/
def moveL (e u : Bool) (col c : Int) : Int :=
  if c = 9 then (col / 8 + 1) * 8 else if hatL e c = true then col + 2 else if c < 32 ∨ c = 127 then col else if u = true ∧ 128 ≤ c ∧ c ≤ 191 then col else col + 1
def stepL (e u : Bool) (col c : Int) : Int := moveL e u (colL col) c
def colsL (e u : Bool) (col : Int) (l : List Int) : Int := l.foldl (stepL e u) (colL col)
def lineL (e : Bool) (l : List Int) : List Int := l.flatMap (showL e)
theorem moveL_bd {e u : Bool} {col c : Int} : col ≤ moveL e u col c ∧ moveL e u col c ≤ col + 8 := by
  unfold moveL
  repeat' split
  all_goals omega
theorem stepL_bd {e u : Bool} {col c : Int} : 0 ≤ stepL e u col c ∧ stepL e u col c ≤ colL col + 8 := by
  have h1 := moveL_bd (e := e) (u := u) (col := colL col) (c := c)
  have h2 := colL_bd col
  unfold stepL
  omega
theorem colsL_nil (e u : Bool) (col : Int) : colsL e u col [] = colL col := rfl
theorem colsL_snoc (e u : Bool) (col : Int) (l : List Int) (c : Int) : colsL e u col (l ++ [c]) = stepL e u (colsL e u col l) c := by
  simp [colsL, List.foldl_append]
theorem colsL_succ {e u : Bool} {col : Int} {l : List Int} {k : Nat} {c : Int} (h : l[k]? = some c) : colsL e u col (l.take (k + 1)) = stepL e u (colsL e u col (l.take k)) c := by
  rw [take_succ_of h, colsL_snoc]
theorem snoc_ind {P : List Int → Prop} (h0 : P []) (h1 : ∀ l c, P l → P (l ++ [c])) (l : List Int) : P l := by
  have : ∀ n, n ≤ l.length → P (l.take n) := by
    intro n
    induction n with
    | zero => intro _; simpa using h0
    | succ n ih =>
      intro hn
      rw [take_succ_of (List.getElem?_eq_getElem (by omega : n < l.length))]
      exact h1 _ _ (ih (by omega))
  have h := this l.length (Nat.le_refl _)
  rwa [List.take_length] at h
/-- where nothing gets near the bound -/
theorem colsL_bd (e u : Bool) (col : Int) (l : List Int) (hn : colL col + 8 * l.length ≤ 65535) : colL col ≤ colsL e u col l ∧ colsL e u col l ≤ colL col + 8 * l.length := by
  induction l using snoc_ind with
  | h0 => rw [colsL_nil]; simp
  | h1 l c ih =>
    have hb := colL_bd col
    rw [List.length_append, List.length_cons, List.length_nil] at hn ⊢
    have ih' := ih (by omega)
    rw [colsL_snoc]
    have h1 := moveL_bd (e := e) (u := u) (col := colsL e u col l) (c := c)
    unfold stepL
    rw [colL_id (col := colsL e u col l) (by omega)]
    omega
theorem colsL_any (e u : Bool) (col : Int) (l : List Int) : 0 ≤ colsL e u col l ∧ colsL e u col l ≤ 65543 := by
  induction l using snoc_ind with
  | h0 => have := colL_bd col; rw [colsL_nil]; omega
  | h1 l c ih =>
    rw [colsL_snoc]
    have h := stepL_bd (e := e) (u := u) (col := colsL e u col l) (c := c)
    have h2 := colL_bd (colsL e u col l)
    omega
theorem colsL_append (e u : Bool) (col : Int) (a b : List Int) (hn : colL col + 8 * a.length ≤ 65535) : colsL e u col (a ++ b) = colsL e u (colsL e u col a) b := by
  have h := colsL_bd e u col a hn
  have hb := colL_bd col
  unfold colsL at h ⊢
  rw [List.foldl_append, colL_id (col := List.foldl (stepL e u) (colL col) a) (by omega)]
theorem lineL_nil (e : Bool) : lineL e [] = [] := rfl
theorem lineL_succ {e : Bool} {l : List Int} {k : Nat} {c : Int} (h : l[k]? = some c) : lineL e (l.take (k + 1)) = lineL e (l.take k) ++ showL e c := by
  rw [take_succ_of h]
  simp [lineL]
theorem showL_len (e : Bool) (c : Int) : (showL e c).length ≤ 2 := by
  unfold showL; split <;> simp
theorem lineL_len (e : Bool) (l : List Int) : (lineL e l).length ≤ 2 * l.length := by
  induction l with
  | nil => simp [lineL]
  | cons c l ih =>
    have := showL_len e c
    have e1 : lineL e (c :: l) = showL e c ++ lineL e l := by simp [lineL]
    rw [e1, List.length_append, List.length_cons]; omega
theorem lineL_off (l : List Int) : lineL false l = l := by
  induction l with
  | nil => rfl
  | cons c l ih =>
    have e1 : lineL false (c :: l) = showL false c ++ lineL false l := by simp [lineL]
    rw [e1, ih]
    simp [showL, hatL]
theorem lineL_on {l : List Int} (hB : Bs l) {x : Int} (hx : x ∈ lineL true l) : ¬ (x < 32 ∧ x ≠ 9 ∧ x ≠ 10) ∧ x ≠ 127 := by
  simp only [lineL, List.mem_flatMap] at hx
  obtain ⟨c, hc, hx⟩ := hx
  have hb := hB c hc
  unfold showL at hx
  by_cases h : hatL true c = true
  · rw [if_pos h] at hx
    simp [hatL, quietL] at h
    simp only [List.mem_cons, List.not_mem_nil, or_false] at hx
    rcases hx with rfl | hx
    · omega
    · split at hx <;> omega
  · rw [if_neg h] at hx
    simp [hatL, quietL] at h
    simp only [List.mem_cons, List.not_mem_nil, or_false] at hx
    subst hx
    omega
theorem rep3_add (m n : Nat) : rep3 (m + n) = rep3 m ++ rep3 n := by
  induction m with
  | zero => simp [rep3]
  | succ m ih =>
    have e1 : rep3 (m + 1 + n) = [8, 32, 8] ++ rep3 (m + n) := by rw [show m + 1 + n = (m + n) + 1 by omega]; simp [rep3, List.replicate_succ]
    have e2 : rep3 (m + 1) = [8, 32, 8] ++ rep3 m := by simp [rep3, List.replicate_succ]
    rw [e1, e2, ih, List.append_assoc]
theorem rep3_succ (n : Nat) : rep3 (n + 1) = rep3 n ++ [8, 32, 8] := by
  rw [rep3_add]; rfl
end Go.Proofs.Ytjgheofaflgagaa
