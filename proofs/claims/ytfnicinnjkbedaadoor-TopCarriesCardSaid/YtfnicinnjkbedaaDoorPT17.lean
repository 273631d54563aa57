/- What is written in pieces and taken in pieces, plainly: behind 2000 rounds all has gone out, as it was made at once. No program in sight. -/
import Derived.Test.YtfnicinnjkbedaaDoorMP17
namespace Go.Proofs.YtfnicinnjkbedaaDoor
open Go.RowKit Go.Kb

/-- behind i rounds: what is left to write, what waits, the column, what was taken -/
structure CarI (p : Pf) (b : List Int) (i : Nat) (rest wait : List Int) (col : Int) (out : List Int) : Prop where
  all : (bytesL p 0 b).1 = out ++ wait ++ (bytesL p col rest).1
  col : 0 ≤ col ∧ col ≤ 65535
  phi : 2 * rest.length + wait.length ≤ 2000 - i
  bs : Bs rest
  bw : Bs wait
  bo : Bs out
  len : out.length + wait.length ≤ 2000
theorem CarI.start {p : Pf} {b : List Int} (hl : b.length ≤ 1000) (hb : Bs b) : CarI p b 0 b [] 0 [] :=
  ⟨by simp, by omega, (by simp; omega), hb, (fun x hx => by cases hx), (fun x hx => by cases hx), by simp⟩
/-- all of a piece fits -/
theorem CarI.fit {p : Pf} {b rest wait out : List Int} {i : Nat} {col : Int} (h : CarI p b i rest wait col out) (n : Nat) (k : Nat) (hf : FitIs p col (rest.take n) (4096 - wait.length) k) : k = (rest.take n).length := by
  refine hf.uniq ⟨Nat.le_refl _, .inr ?_, .inl rfl⟩
  rw [List.take_length]
  have h1 := bytesL_len p col (rest.take n)
  have h2 := h.phi
  rw [List.length_take] at h1
  omega
/-- a piece is written -/
theorem CarI.write {p : Pf} {b rest wait out : List Int} {i : Nat} {col : Int} (h : CarI p b i rest wait col out) (n : Nat) (hn : 0 < n) (hr : rest ≠ []) :
    (bytesL p 0 b).1 = out ++ (wait ++ (bytesL p col (rest.take n)).1) ++ (bytesL p (bytesL p col (rest.take n)).2 (rest.drop n)).1 ∧
    2 * (rest.drop n).length + (wait ++ (bytesL p col (rest.take n)).1).length ≤ 2000 - i ∧
    ((wait ++ (bytesL p col (rest.take n)).1) = [] → 2 * (rest.drop n).length + 2 ≤ 2000 - i) := by
  have h1 := bytesL_len p col (rest.take n)
  have h2 := h.phi
  have h3 : 0 < rest.length := List.length_pos_iff.2 hr
  have h4 := bytesL_append p col (rest.take n) (rest.drop n)
  rw [List.take_append_drop] at h4
  rw [List.length_take] at h1
  refine ⟨by rw [h.all, h4]; simp [List.append_assoc], ?_, fun _ => ?_⟩
  · rw [List.length_append, List.length_drop]
    omega
  · rw [List.length_drop]
    omega
/-- some is taken -/
theorem car_take {p : Pf} {b rest wait out : List Int} {i : Nat} {col : Int} (hall : (bytesL p 0 b).1 = out ++ wait ++ (bytesL p col rest).1) (hc : 0 ≤ col ∧ col ≤ 65535) (hp : 2 * rest.length + wait.length ≤ 2000 - i)
    (he : wait = [] → 2 * rest.length ≤ 2000 - (i + 1)) (hbs : Bs rest) (hbw : Bs wait) (hbo : Bs out) (hb : b.length ≤ 1000) (m : Nat) (hm : 0 < m) : CarI p b (i + 1) rest (wait.drop m) col (out ++ wait.take m) := by
  have hl := bytesL_len p 0 b
  rw [hall] at hl
  simp only [List.length_append] at hl
  refine ⟨by rw [hall, List.append_assoc out (wait.take m) (wait.drop m), List.take_append_drop], hc, ?_, hbs, fun x hx => hbw x (List.mem_of_mem_drop hx), ?_, ?_⟩
  · rw [List.length_drop]
    by_cases hw : wait = []
    · have := he hw
      subst hw
      simp
      omega
    · have : 0 < wait.length := List.length_pos_iff.2 hw
      omega
  · intro x hx
    rcases List.mem_append.1 hx with h | h
    · exact hbo x h
    · exact hbw x (List.mem_of_mem_take h)
  · rw [List.length_append, List.length_drop, List.length_take]
    omega
theorem CarI.done {p : Pf} {b rest wait out : List Int} {i : Nat} {col : Int} (h : CarI p b i rest wait col out) (hi : 2000 ≤ i) : rest = [] ∧ out = (bytesL p 0 b).1 := by
  have h1 := h.phi
  have h2 : rest = [] := List.length_eq_zero_iff.1 (by omega)
  have h3 : wait = [] := List.length_eq_zero_iff.1 (by omega)
  refine ⟨h2, ?_⟩
  rw [h.all, h2, h3, bytesL_nil]
  simp
end Go.Proofs.YtfnicinnjkbedaaDoor
