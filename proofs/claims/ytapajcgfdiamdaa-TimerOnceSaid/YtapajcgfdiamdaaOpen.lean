/- Arguments opened into how their data lie in memory. Over any program. No condition. -/
import Derived.Test.YtapajcgfdiamdaaRep
import Derived.Test.YtapajcgfdiamdaaFrame
import Derived.Deep.Slices
import Derived.SizedLaws
namespace Go.Kb
open Go.RowKit Go.ChangeShapes Go.WideShapes Go.ChangeAt Go.Deep

section
variable {H : Type} {enc : TypeId × Value → H} {P : Program} {W : World} {D E : Type}
/-- what data of a type opens as -/
def Opens (enc : TypeId × Value → H) (P : Program) (W : World) (t : TypeId) (e : Rep D) (R : D → Prop) : Prop :=
  ∀ (fuel : Nat) (cs : List Value) (x : DataW H × List MemPlace), DataW.trod enc P W 0 (fun _ => true) true fuel t cs = some x → (x.1.weights P t).all (· ≤ reachBytes) = true → ∃ d, e.rel (fun _ => True) W cs d ∧ R d
theorem opens_int {t : TypeId} {k : IntKind} (hu : P.underlying t = some (.int k)) : Opens enc P W t (Rep.int k) (fun n => (Lit.int k n).wf = true) := by
  intro fuel cs x h _
  obtain ⟨n, rfl, _, hw⟩ := DataW.trod_int hu h
  exact ⟨n, rfl, hw⟩
theorem opens_bool {t : TypeId} (hu : P.underlying t = some .bool) : Opens enc P W t Rep.bool (fun _ => True) := by
  intro fuel cs x h _
  obtain ⟨b, rfl, _⟩ := DataW.trod_bool hu h
  exact ⟨b, rfl, trivial⟩
theorem weights_of_all {t : TypeId} : ∀ {l : List (DataW H)} {d : DataW H}, d ∈ l → (DataW.weightsAll P t l).all (· ≤ reachBytes) = true → (d.weights P t).all (· ≤ reachBytes) = true
  | y :: r, d, h, hw => by
    simp only [DataW.weightsAll, List.all_append, Bool.and_eq_true] at hw
    rcases List.mem_cons.1 h with rfl | h
    · exact hw.1
    · exact weights_of_all h hw.2
theorem opens_pair {t : TypeId} {f0 f1 : Field} {x : Rep D} {y : Rep E} {R : D → Prop} {Q : E → Prop} (hs : P.underlying t = some (.struct #[f0, f1])) (h0 : f0.offset = 0) (h1 : f1.offset = x.size) (c0 : P.cellsOf f0.type = x.size) (c1 : P.cellsOf f1.type = y.size)
    (hc : P.cellsOf t = x.size + y.size) (ho : Opens enc P W f0.type x R) (hp : Opens enc P W f1.type y Q) : Opens enc P W t (Rep.pair x y) (fun d => R d.1 ∧ Q d.2) := by
  intro fuel cs z h hw
  obtain ⟨xs, n, rfl, rfl, hl, hxl, hf⟩ := DataW.trod_struct hs h
  have e0 := hf 0 f0 rfl
  have e1 := hf 1 f1 rfl
  match xs, hxl with
  | [a, b], _ =>
    simp only [DataW.weights, hs, List.map_cons, List.map_nil, DataW.weightsEach, List.append_nil, List.all_append, Bool.and_eq_true] at hw
    rw [h0, c0, List.drop_zero] at e0
    rw [h1, c1] at e1
    obtain ⟨d0, r0, q0⟩ := ho _ _ _ e0 hw.1
    obtain ⟨d1, r1, q1⟩ := hp _ _ _ e1 hw.2
    refine ⟨(d0, d1), ⟨cs.take x.size, cs.drop x.size, (List.take_append_drop _ _).symm, r0, ?_⟩, q0, q1⟩
    have : (cs.drop x.size).take y.size = cs.drop x.size := List.take_of_length_le (by rw [List.length_drop]; omega)
    rw [this] at r1
    exact r1
theorem opens_slice {t te : TypeId} {e : Rep D} {R : D → Prop} (ht : P.underlying t = some (.slice te)) (hc : P.cellsOf te = e.size) (ho : Opens enc P W te e R) :
    Opens enc P W t (Rep.sl e) (fun l => (∀ x ∈ l, R x) ∧ l.length * P.bytesOf te ≤ 140737488351232) := by
  intro fuel cs x h hw
  rcases open_slice ht h with ⟨rfl, _⟩ | ⟨a, len, cap, m, n, Dd, Pl, rfl, _, hl, hm, hmm, rfl, hi⟩
  · exact ⟨[], ⟨_, rfl, RdS.nil _ _ _⟩, by simp, by simp⟩
  · simp only [if_true] at hmm
    subst hmm
    simp only [DataW.weights, ht, List.all_cons, List.all_append, Bool.and_eq_true, List.length_map, List.length_range, reachBytes] at hw
    have hz : a.spot = none ∨ m = 0 := by
      rcases Nat.eq_zero_or_pos m with h0 | h0
      · exact .inr h0
      · obtain ⟨cs', hcs, _⟩ := hi 0 h0
        obtain ⟨_, _, hat⟩ := World.cells?_some hcs
        have hp := e.pos
        have h1 := hat 0 (by omega)
        left
        rcases hs : a.spot with _ | s
        · rfl
        · exfalso
          have hlen : cs'.length = P.cellsOf te := by assumption
          rw [Nat.zero_mul] at h1
          have : cs'[0]? = some (cs'[0]'(by omega)) := List.getElem?_eq_getElem (by omega)
          rw [this] at h1
          simp [Addr.add, World.cell?, hs] at h1
          split at h1 <;> simp at h1
    have key : ∀ k, k ≤ len → ∃ us ds, ds.length = k ∧ RdE e (fun _ => True) W us ds ∧ (∀ x ∈ ds, R x) ∧ ∀ j u, us[j]? = some u → W.cell? (a.add j) = some u := by
      intro k
      induction k with
      | zero => exact fun _ => ⟨[], [], rfl, RdE.nil _ _ _, by simp, by simp⟩
      | succ k ih =>
        intro hk
        obtain ⟨us, ds, hdl, he, hr, hcell⟩ := ih (by omega)
        obtain ⟨cs', hcs, htr⟩ := hi k (by omega)
        have hwk : ((Dd k).weights P te).all (· ≤ reachBytes) = true := weights_of_all (l := (List.range len).map Dd) (List.mem_map.2 ⟨k, List.mem_range.2 (by omega), rfl⟩) hw.2.1
        obtain ⟨d, hrel, hR⟩ := ho _ _ _ htr hwk
        obtain ⟨_, _, hat⟩ := World.cells?_some hcs
        refine ⟨us ++ cs', ds ++ [d], by simp [hdl], he.append (RdE.single hrel), ?_, fun j u hu => ?_⟩
        · intro x hx
          rcases List.mem_append.1 hx with hx | hx
          · exact hr x hx
          · simp at hx; subst hx; exact hR
        · have hul : us.length = k * e.size := by rw [he.1, hdl]
          rcases Nat.lt_or_ge j us.length with hj | hj
          · rw [List.getElem?_append_left hj] at hu
            exact hcell j u hu
          · rw [List.getElem?_append_right hj] at hu
            have hcl : cs'.length = e.size := e.len hrel
            have hjl : j - us.length < cs'.length := (List.getElem?_eq_some_iff.1 hu).1
            have h1 := hat (j - us.length) (by omega)
            rw [hu, hc, Go.Deep.add_add] at h1
            have : k * e.size + (j - us.length) = j := by omega
            rw [this] at h1
            exact h1
    obtain ⟨us, ds, rfl, he, hr, hcell⟩ := key len (Nat.le_refl _)
    refine ⟨ds, ⟨_, rfl, ⟨us, ⟨he.1, some a, m, rfl, hl, hm, ?_⟩, he⟩, fun _ _ _ => trivial⟩, hr, ?_⟩
    · rcases hz with hz | hz
      · obtain ⟨b, off, sp⟩ := a
        simp only at hz
        subst hz
        exact .inr ⟨b, off, rfl, fun j u hu => by have := hcell j u hu; rwa [Addr.add_lit] at this⟩
      · exact .inl hz
    · have h1 := of_decide_eq_true hw.1
      have h2 : ds.length * P.bytesOf te ≤ (ds.length + (m - ds.length)) * P.bytesOf te := Nat.mul_le_mul_right _ (by omega)
      omega
/-- a slice that is an argument -/
theorem Opens.slice {t te : TypeId} {e : Rep D} {R : List D → Prop} {v : Value} {d : DataW H} {p : List MemPlace} {r : Reach} {b0 : Nat} (ho : Opens enc P W t (Rep.sl e) R) (ht : P.underlying t = some (.slice te))
    (hok : Value.okWide P W r b0 t v) (h : DataW.Trod enc P W 0 (fun _ => true) true t v d p) (hw : (d.weights P t).all (· ≤ reachBytes) = true) : ∃ l, RdS e (fun _ => True) W v l ∧ R l := by
  obtain ⟨a, len, cap, rfl⟩ := okWide_slice ht hok
  obtain ⟨fuel, hf⟩ := h
  obtain ⟨l, ⟨v', hv, hr⟩, hR⟩ := ho _ _ _ hf hw
  simp [Value.cells] at hv
  subst hv
  exact ⟨l, hr, hR⟩
/-- a struct that is an argument -/
theorem Opens.agg {t : TypeId} {fs : Array Field} {e : Rep D} {R : D → Prop} {v : Value} {d : DataW H} {p : List MemPlace} {r : Reach} {b0 : Nat} (ho : Opens enc P W t e R) (ht : P.underlying t = some (.struct fs))
    (hok : Value.okWide P W r b0 t v) (h : DataW.Trod enc P W 0 (fun _ => true) true t v d p) (hw : (d.weights P t).all (· ≤ reachBytes) = true) : ∃ cs l, v = .agg cs ∧ e.rel (fun _ => True) W cs.toList l ∧ R l := by
  obtain ⟨cs, rfl, _⟩ := okWide_struct ht hok
  obtain ⟨fuel, hf⟩ := h
  obtain ⟨l, hr, hR⟩ := ho _ _ _ hf hw
  exact ⟨cs, l, rfl, hr, hR⟩
end
end Go.Kb
