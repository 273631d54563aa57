/- Processes deleted by a test, in place (slices.DeleteFunc), plain part: the list and the cleared tail. No condition. -/
import Derived.Test.YtmpmnikgbepphaaV20
namespace Go.Proofs.Ytmpmnikgbepphaa
open Go.RowKit Go.Kb

/-- those that stay, of the first m -/
def keepN (f : Pr → Bool) (l : List Pr) (m : Nat) : List Pr := (l.take m).filter fun p => !f p
def midN (f : Pr → Bool) (l : List Pr) (m : Nat) : List Pr := keepN f l m ++ l.drop (keepN f l m).length
theorem keepN_le {f : Pr → Bool} {l : List Pr} {m : Nat} (h : m ≤ l.length) : (keepN f l m).length ≤ m :=
  Nat.le_trans (List.length_filter_le _ _) (by simp; omega)
theorem midN_len {f : Pr → Bool} {l : List Pr} {m : Nat} (h : m ≤ l.length) : (midN f l m).length = l.length := by
  have := keepN_le (f := f) h
  simp [midN]; omega
theorem keepN_drop {f : Pr → Bool} {l : List Pr} {m : Nat} {p : Pr} (hp : l[m]? = some p) (hf : f p = true) : keepN f l (m + 1) = keepN f l m := by
  unfold keepN
  rw [List.take_add_one, hp, List.filter_append]
  simp [hf]
theorem keepN_put {f : Pr → Bool} {l : List Pr} {m : Nat} {p : Pr} (hp : l[m]? = some p) (hf : f p = false) : keepN f l (m + 1) = keepN f l m ++ [p] := by
  unfold keepN
  rw [List.take_add_one, hp, List.filter_append]
  simp [hf]
theorem midN_at {f : Pr → Bool} {l : List Pr} {m : Nat} {p : Pr} (hp : l[m]? = some p) : (midN f l m)[m]? = some p := by
  have hlt := (List.getElem?_eq_some_iff.1 hp).1
  have := keepN_le (f := f) (Nat.le_of_lt hlt)
  unfold midN
  rw [List.getElem?_append_right this, List.getElem?_drop, Nat.add_sub_cancel' this]
  exact hp
theorem midN_put {f : Pr → Bool} {l : List Pr} {m : Nat} {p : Pr} (hp : l[m]? = some p) (hf : f p = false) : (midN f l m).set (keepN f l m).length p = midN f l (m + 1) := by
  have hlt := (List.getElem?_eq_some_iff.1 hp).1
  have hle := keepN_le (f := f) (Nat.le_of_lt hlt)
  unfold midN
  rw [keepN_put hp hf, List.set_append_right _ _ (Nat.le_refl _), Nat.sub_self, List.length_append]
  have hd : l.drop (keepN f l m).length = l[(keepN f l m).length]'(by omega) :: l.drop ((keepN f l m).length + 1) := List.drop_eq_getElem_cons (by omega)
  rw [hd, List.set_cons_zero]
  simp
theorem midN_end {f : Pr → Bool} {l : List Pr} : (midN f l l.length).take (keepN f l l.length).length = l.filter (fun p => !f p) := by
  unfold midN
  rw [List.take_left' rfl]
  unfold keepN
  rw [List.take_length]
theorem keepN_idx {f : Pr → Bool} {l : List Pr} {j : Nat} (h : idxL f l = j) (hj : j < l.length) : keepN f l (j + 1) = l.take j ∧ (keepN f l (j + 1)).length = j := by
  unfold idxL at h
  split at h
  · rename_i i hi
    obtain rfl : i = j := by omega
    rw [List.findIdx?_eq_some_iff_getElem] at hi
    obtain ⟨hlt, hfi, hm⟩ := hi
    have h1 : keepN f l (i + 1) = l.take i := by
      rw [keepN_drop (List.getElem?_eq_getElem hlt) hfi]
      unfold keepN
      rw [List.filter_eq_self]
      intro p hp
      obtain ⟨t, ht, rfl⟩ := List.getElem_of_mem hp
      simp only [List.length_take] at ht
      have := hm t (by omega)
      rw [List.getElem_take]
      simpa using this
    exact ⟨h1, by rw [h1, List.length_take]; omega⟩
  · omega
theorem filter_none {f : Pr → Bool} {l : List Pr} (h : idxL f l = -1) : l.filter (fun p => !f p) = l := by
  rcases idx_any (f := f) (l := l) with ⟨_, h2⟩ | ⟨j, p, h1, _⟩
  · rw [List.filter_eq_self]
    rw [List.any_eq_false] at h2
    intro p hp
    simpa using h2 p hp
  · omega
theorem cleared_one (n : Nat) : ((Builtin.zeroCells (Value.agg zeroP.cells.toArray).cells n).toList.length = n * 43) ∧ ∀ u ∈ (Builtin.zeroCells (Value.agg zeroP.cells.toArray).cells n).toList, u.oneCell' = true := by
  have hz : (Value.agg zeroP.cells.toArray).cells = zeroP.cells.toArray := by kernel_rfl
  rw [hz]
  have hs : zeroP.cells.toArray.size = 43 := rfl
  constructor
  · simp [Builtin.zeroCells, hs]
  · intro u hu
    rw [Array.mem_toList_iff] at hu
    unfold Builtin.zeroCells at hu
    obtain ⟨i, _, rfl⟩ := Array.mem_map.1 hu
    have hi : i % zeroP.cells.toArray.size < zeroP.cells.toArray.size := Nat.mod_lt _ (by rw [hs]; omega)
    rw [getElem!_pos zeroP.cells.toArray _ hi]
    exact Rp.one (A := fun _ => True) (w := (default : World)) (d := zeroP) ⟨rfl, rfl⟩ _ (by simp)
end Go.Proofs.Ytmpmnikgbepphaa
