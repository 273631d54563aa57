/- A struct that is an argument, opened field by field. Over any program. No condition. -/
import Derived.Test.YtmpmnikgbepphaaOpen
namespace Go.Kb
open Go.RowKit Go.ChangeShapes Go.WideShapes Go.ChangeAt Go.Deep

section
variable {H : Type} {enc : TypeId × Value → H} {P : Program} {W : World}
theorem weightsEach_at : ∀ {ts : List TypeId} {ds : List (DataW H)} {j : Nat} {t : TypeId} {d : DataW H}, (DataW.weightsEach P ts ds).all (· ≤ reachBytes) = true → ts[j]? = some t → ds[j]? = some d → (d.weights P t).all (· ≤ reachBytes) = true
  | [], _, j, _, _, _, ht, _ => by simp at ht
  | _ :: _, [], j, _, _, _, _, hd => by simp at hd
  | a :: ts, x :: ds, 0, t, d, hw, ht, hd => by
    simp at ht hd
    subst ht hd
    simp only [DataW.weightsEach, List.all_append, Bool.and_eq_true] at hw
    exact hw.1
  | a :: ts, x :: ds, j + 1, t, d, hw, ht, hd => by
    simp only [DataW.weightsEach, List.all_append, Bool.and_eq_true] at hw
    exact weightsEach_at hw.2 (by simpa using ht) (by simpa using hd)
/-- what a field of a struct's data opens as -/
def FieldOpens (enc : TypeId × Value → H) (P : Program) (W : World) (cs : List Value) (t : TypeId) (o : Nat) : Prop :=
  ∃ (fuel : Nat) (x : DataW H × List MemPlace), DataW.trod enc P W 0 (fun _ => true) true fuel t ((cs.drop o).take (P.cellsOf t)) = some x ∧ (x.1.weights P t).all (· ≤ reachBytes) = true
theorem open_fields {t : TypeId} {fs : Array Field} {v : Value} {d : DataW H} {p : List MemPlace} {r : Reach} {b0 : Nat} (hs : P.underlying t = some (.struct fs))
    (hok : Value.okWide P W r b0 t v) (h : DataW.Trod enc P W 0 (fun _ => true) true t v d p) (hw : (d.weights P t).all (· ≤ reachBytes) = true) :
    ∃ cs : Array Value, v = .agg cs ∧ cs.size = P.cellsOf t ∧ ∀ (j : Nat) (f : Field), fs[j]? = some f → FieldOpens enc P W cs.toList f.type f.offset := by
  obtain ⟨cs, rfl, _⟩ := okWide_struct hs hok
  obtain ⟨fuel, hf⟩ := h
  obtain ⟨xs, n, _, hd, hl, hxl, hx⟩ := DataW.trod_struct hs hf
  refine ⟨cs, rfl, by simpa [Value.cells] using hl, fun j f hj => ?_⟩
  have h1 := hx j f hj
  have hlt : j < xs.length := by rw [hxl]; exact (Array.getElem?_eq_some_iff.1 hj).1
  rw [List.getElem?_eq_getElem hlt] at h1
  refine ⟨n, _, h1, ?_⟩
  have hd1 := congrArg Prod.fst hd
  simp only at hd1
  subst hd1
  simp only [DataW.weights, hs] at hw
  refine weightsEach_at hw (j := j) ?_ ?_
  · rw [List.getElem?_map]
    have : fs.toList[j]? = some f := by simpa using hj
    rw [this]; rfl
  · rw [List.getElem?_map, List.getElem?_eq_getElem hlt]; rfl
theorem FieldOpens.opens {cs : List Value} {t : TypeId} {o n : Nat} {D : Type} {e : Rep D} {R : D → Prop} (h : FieldOpens enc P W cs t o) (ho : Opens enc P W t e R) (hc : P.cellsOf t = n) : ∃ d, e.rel (fun _ => True) W ((cs.drop o).take n) d ∧ R d := by
  obtain ⟨fuel, x, h1, h2⟩ := h
  subst hc
  exact ho _ _ _ h1 h2
theorem cell_of_take {cs : List Value} {o : Nat} {v : Value} (h : (cs.drop o).take 1 = [v]) : cs[o]? = some v := by
  have := congrArg (fun l => l[0]?) h
  simpa [List.getElem?_take, List.getElem?_drop] using this
theorem FieldOpens.int {cs : List Value} {t : TypeId} {o : Nat} {k : IntKind} (h : FieldOpens enc P W cs t o) (hu : P.underlying t = some (.int k)) (hc : P.cellsOf t = 1) : ∃ n, cs[o]? = some (.int k n) ∧ (Lit.int k n).wf = true := by
  obtain ⟨n, h1, h2⟩ := h.opens (opens_int hu) hc
  exact ⟨n, cell_of_take h1, h2⟩
theorem FieldOpens.bool {cs : List Value} {t : TypeId} {o : Nat} (h : FieldOpens enc P W cs t o) (hu : P.underlying t = some .bool) (hc : P.cellsOf t = 1) : ∃ b, cs[o]? = some (.bool b) := by
  obtain ⟨b, h1, _⟩ := h.opens (opens_bool hu) hc
  exact ⟨b, cell_of_take h1⟩
theorem FieldOpens.slice {cs : List Value} {t : TypeId} {o : Nat} {D : Type} {e : Rep D} {R : List D → Prop} (h : FieldOpens enc P W cs t o) (ho : Opens enc P W t (Rep.sl e) R) (hc : P.cellsOf t = 1) : ∃ v l, cs[o]? = some v ∧ RdS e (fun _ => True) W v l ∧ R l := by
  obtain ⟨l, ⟨v, h1, h2⟩, h3⟩ := h.opens ho hc
  exact ⟨v, l, cell_of_take h1, h2, h3⟩
end
end Go.Kb
