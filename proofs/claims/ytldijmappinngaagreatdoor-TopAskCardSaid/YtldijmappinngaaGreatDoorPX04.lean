/- Written by chain.py of +PR04 Frame Open Fld. No condition. -/
import Derived.Test.YtldijmappinngaaGreatDoorPR04
import Derived.ProofKit
import Derived.OpenShut
import Derived.ShutString
import Derived.ChangeOld
import Derived.Lib.SmallJoins
import Derived.Deep.Slices
import Derived.SizedLaws
namespace Go.Kb
set_option maxRecDepth 100000
open Go.RowKit Go.ChangeShapes Go.WideShapes Go.ChangeAt Go.Deep

section
variable {H : Type} {enc : TypeId × Value → H} {P : Program} {W W' : World}
def okTypes (P : Program) (ts : List TypeId) : Bool := ts.all fun t => P.readableRec t && decide (t < P.types.size)
theorem trodAll_stays (hl : laidOutB P = true) : ∀ {ts : List TypeId} {vs : List Value} {ds : List (DataW H)} {ps : List MemPlace}, okTypes P ts = true →
    DataW.TrodAll enc P W 0 (fun _ => true) true ts vs ds ps → Ext W W' → (∀ x ∈ ps, x.block < W.heap.size) → DataW.TrodAll enc P W' 0 (fun b => decide (b < W.heap.size)) true ts vs ds ps
  | [], vs, ds, ps, _, h, _, _ => by
    obtain ⟨rfl, rfl, rfl⟩ := trodAll_nil h
    rfl
  | t :: ts, vs, ds, ps, hr, h, hb, hlt => by
    obtain ⟨v, vs', d, ds', p, q, rfl, rfl, rfl, h1, h2⟩ := trodAll_cons h
    simp only [okTypes, List.all_cons, Bool.and_eq_true, decide_eq_true_eq] at hr
    exact ⟨p, q, Below.trod hl hr.1.1 hr.1.2 h1 hb fun x hx => hlt x (List.mem_append_left _ hx), trodAll_stays hl hr.2 h2 hb fun x hx => hlt x (List.mem_append_right _ hx), rfl⟩

/-- a number's bounds out of 'wf' -/
theorem u8_bd {n : Int} (h : (Lit.int .u8 n).wf = true) : 0 ≤ n ∧ n ≤ 255 := by
  simpa [Lit.wf, IntKind.min, IntKind.max, IntKind.signed, IntKind.bits] using h

/-- cells of a slice's row, said by RdN -/
theorem open_bytes {t e : TypeId} {fuel : Nat} {cs : List Value} {x : DataW H × List MemPlace} (ht : P.underlying t = some (.slice e)) (he : P.underlying e = some (.int .u8)) (hc : P.cellsOf e = 1)
    (h : DataW.trod enc P W 0 (fun _ => true) true fuel t cs = some x) : ∃ v xs, cs = [v] ∧ RI .u8 W v xs ∧ Bs xs := by
  rcases open_ints ht he hc h with ⟨rfl, _⟩ | ⟨a, len, cap, zs, rfl, _, hl, hm, hz, _, hcell, hwz⟩
  · exact ⟨_, [], rfl, RdN.nil _ _, fun x hx => by simp at hx⟩
  · simp only [if_true] at hz
    have hlen : (zs.take len).length = len := by rw [List.length_take]; omega
    refine ⟨_, zs.take len, rfl, ⟨by simp, some a, cap, by rw [hlen], by omega, hm, ?_⟩, fun x hx => u8_bd (hwz x (List.mem_of_mem_take hx))⟩
    rcases Nat.eq_zero_or_pos cap with h0 | h0
    · exact .inl h0
    · right
      have hsp : a.spot = none := by
        have := hcell 0 (by omega)
        rcases hs : a.spot with _ | s
        · rfl
        · simp [Addr.add, World.cell?, hs] at this
          split at this <;> simp at this
      obtain ⟨b, off, sp⟩ := a
      simp only at hsp
      subst hsp
      refine ⟨b, off, rfl, fun j u hu => ?_⟩
      rw [List.getElem?_map, Option.map_eq_some_iff] at hu
      obtain ⟨n, hn, rfl⟩ := hu
      rw [List.getElem?_take] at hn
      split at hn
      · have hj := (List.getElem?_eq_some_iff.1 hn).1
        have := hcell j hj
        rw [Addr.add_lit] at this
        rw [this, List.getD_eq_getElem?_getD, hn]
        rfl
      · cases hn
theorem open_bytes1 {t e : TypeId} {v : Value} {d : DataW H} {p : List MemPlace} (ht : P.underlying t = some (.slice e)) (he : P.underlying e = some (.int .u8)) (hc : P.cellsOf e = 1) {r : Reach} {b0 : Nat}
    (hok : Value.okWide P W r b0 t v) (h : DataW.Trod enc P W 0 (fun _ => true) true t v d p) : ∃ xs, RI .u8 W v xs ∧ Bs xs := by
  obtain ⟨a, len, cap, rfl⟩ := okWide_slice ht hok
  obtain ⟨fuel, hf⟩ := h
  obtain ⟨v, xs, hv, h1, h2⟩ := open_bytes ht he hc hf
  simp [Value.cells] at hv
  subst hv
  exact ⟨xs, h1, h2⟩
open Go.Joins in
/-- a struct of bytes and a bool -/
theorem open_bytes_bool {t e : TypeId} {f0 f1 : Field} {v : Value} {d : DataW H} {p : List MemPlace} {r : Reach} {b0 : Nat} (hs : P.underlying t = some (.struct #[f0, f1])) (hone : oneCellFields P #[f0, f1] = true) (hC : P.cellsOf t = 2)
    (ht : P.underlying f0.type = some (.slice e)) (he : P.underlying e = some (.int .u8)) (hc : P.cellsOf e = 1) (hb : P.underlying f1.type = some .bool)
    (hok : Value.okWide P W r b0 t v) (h : DataW.Trod enc P W 0 (fun _ => true) true t v d p) : ∃ va xs b, v = .agg #[va, .bool b] ∧ RI .u8 W va xs ∧ Bs xs := by
  obtain ⟨c0, c1, y0, y1, m, rfl, _, _, hy0, hy1⟩ := open_agg2 hs hone hC hok h
  obtain ⟨va, xs, hv, h1, h2⟩ := open_bytes ht he hc hy0
  obtain ⟨b, hv2, _⟩ := DataW.trod_bool hb hy1
  simp only [List.cons.injEq, and_true] at hv hv2
  subst hv hv2
  exact ⟨c0, xs, b, rfl, h1, h2⟩
end
end Go.Kb
namespace Go.Kb
open Go.RowKit Go.ChangeShapes Go.WideShapes Go.ChangeAt Go.Deep

section
variable {H : Type} {enc : TypeId × Value → H} {P : Program} {W : World} {D E : Type}
/-- what data of a type opens as -/
def Opens (enc : TypeId × Value → H) (P : Program) (W : World) (t : TypeId) (e : Rep D) (R : D → Prop) : Prop :=
  ∀ (fuel : Nat) (cs : List Value) (x : DataW H × List MemPlace), DataW.trod enc P W 0 (fun _ => true) true fuel t cs = some x → (x.1.weights P t).all (· ≤ reachBytes) = true → ∃ d, e.rel (fun _ => True) W cs d ∧ R d
theorem opens_int {t : TypeId} {k : IntKind} (hu : P.underlying t = some (.int k)) : Opens enc P W t (Rep.int k) (fun n => (Lit.int k n).wf = true) := by
  intro fuel cs x h _
  obtain ⟨n, rfl, _, hw⟩ := DataW.trod_int hu h
  exact ⟨n, rfl, hw⟩
theorem opens_bool {t : TypeId} (hu : P.underlying t = some .bool) : Opens enc P W t Rep.bool (fun _ => True) := by
  intro fuel cs x h _
  obtain ⟨b, rfl, _⟩ := DataW.trod_bool hu h
  exact ⟨b, rfl, trivial⟩
theorem weights_of_all {t : TypeId} : ∀ {l : List (DataW H)} {d : DataW H}, d ∈ l → (DataW.weightsAll P t l).all (· ≤ reachBytes) = true → (d.weights P t).all (· ≤ reachBytes) = true
  | y :: r, d, h, hw => by
    simp only [DataW.weightsAll, List.all_append, Bool.and_eq_true] at hw
    rcases List.mem_cons.1 h with rfl | h
    · exact hw.1
    · exact weights_of_all h hw.2
theorem opens_pair {t : TypeId} {f0 f1 : Field} {x : Rep D} {y : Rep E} {R : D → Prop} {Q : E → Prop} (hs : P.underlying t = some (.struct #[f0, f1])) (h0 : f0.offset = 0) (h1 : f1.offset = x.size) (c0 : P.cellsOf f0.type = x.size) (c1 : P.cellsOf f1.type = y.size)
    (hc : P.cellsOf t = x.size + y.size) (ho : Opens enc P W f0.type x R) (hp : Opens enc P W f1.type y Q) : Opens enc P W t (Rep.pair x y) (fun d => R d.1 ∧ Q d.2) := by
  intro fuel cs z h hw
  obtain ⟨xs, n, rfl, rfl, hl, hxl, hf⟩ := DataW.trod_struct hs h
  have e0 := hf 0 f0 rfl
  have e1 := hf 1 f1 rfl
  match xs, hxl with
  | [a, b], _ =>
    simp only [DataW.weights, hs, List.map_cons, List.map_nil, DataW.weightsEach, List.append_nil, List.all_append, Bool.and_eq_true] at hw
    rw [h0, c0, List.drop_zero] at e0
    rw [h1, c1] at e1
    obtain ⟨d0, r0, q0⟩ := ho _ _ _ e0 hw.1
    obtain ⟨d1, r1, q1⟩ := hp _ _ _ e1 hw.2
    refine ⟨(d0, d1), ⟨cs.take x.size, cs.drop x.size, (List.take_append_drop _ _).symm, r0, ?_⟩, q0, q1⟩
    have : (cs.drop x.size).take y.size = cs.drop x.size := List.take_of_length_le (by rw [List.length_drop]; omega)
    rw [this] at r1
    exact r1
theorem opens_slice {t te : TypeId} {e : Rep D} {R : D → Prop} (ht : P.underlying t = some (.slice te)) (hc : P.cellsOf te = e.size) (ho : Opens enc P W te e R) :
    Opens enc P W t (Rep.sl e) (fun l => (∀ x ∈ l, R x) ∧ l.length * P.bytesOf te ≤ 140737488351232) := by
  intro fuel cs x h hw
  rcases open_slice ht h with ⟨rfl, _⟩ | ⟨a, len, cap, m, n, Dd, Pl, rfl, _, hl, hm, hmm, rfl, hi⟩
  · exact ⟨[], ⟨_, rfl, RdS.nil _ _ _⟩, by simp, by simp⟩
  · simp only [if_true] at hmm
    subst hmm
    simp only [DataW.weights, ht, List.all_cons, List.all_append, Bool.and_eq_true, List.length_map, List.length_range, reachBytes] at hw
    have hz : a.spot = none ∨ m = 0 := by
      rcases Nat.eq_zero_or_pos m with h0 | h0
      · exact .inr h0
      · obtain ⟨cs', hcs, _⟩ := hi 0 h0
        obtain ⟨_, _, hat⟩ := World.cells?_some hcs
        have hp := e.pos
        have h1 := hat 0 (by omega)
        left
        rcases hs : a.spot with _ | s
        · rfl
        · exfalso
          have hlen : cs'.length = P.cellsOf te := by assumption
          rw [Nat.zero_mul] at h1
          have : cs'[0]? = some (cs'[0]'(by omega)) := List.getElem?_eq_getElem (by omega)
          rw [this] at h1
          simp [Addr.add, World.cell?, hs] at h1
          split at h1 <;> simp at h1
    have key : ∀ k, k ≤ len → ∃ us ds, ds.length = k ∧ RdE e (fun _ => True) W us ds ∧ (∀ x ∈ ds, R x) ∧ ∀ j u, us[j]? = some u → W.cell? (a.add j) = some u := by
      intro k
      induction k with
      | zero => exact fun _ => ⟨[], [], rfl, RdE.nil _ _ _, by simp, by simp⟩
      | succ k ih =>
        intro hk
        obtain ⟨us, ds, hdl, he, hr, hcell⟩ := ih (by omega)
        obtain ⟨cs', hcs, htr⟩ := hi k (by omega)
        have hwk : ((Dd k).weights P te).all (· ≤ reachBytes) = true := weights_of_all (l := (List.range len).map Dd) (List.mem_map.2 ⟨k, List.mem_range.2 (by omega), rfl⟩) hw.2.1
        obtain ⟨d, hrel, hR⟩ := ho _ _ _ htr hwk
        obtain ⟨_, _, hat⟩ := World.cells?_some hcs
        refine ⟨us ++ cs', ds ++ [d], by simp [hdl], he.append (RdE.single hrel), ?_, fun j u hu => ?_⟩
        · intro x hx
          rcases List.mem_append.1 hx with hx | hx
          · exact hr x hx
          · simp at hx; subst hx; exact hR
        · have hul : us.length = k * e.size := by rw [he.1, hdl]
          rcases Nat.lt_or_ge j us.length with hj | hj
          · rw [List.getElem?_append_left hj] at hu
            exact hcell j u hu
          · rw [List.getElem?_append_right hj] at hu
            have hcl : cs'.length = e.size := e.len hrel
            have hjl : j - us.length < cs'.length := (List.getElem?_eq_some_iff.1 hu).1
            have h1 := hat (j - us.length) (by omega)
            rw [hu, hc, Go.Deep.add_add] at h1
            have : k * e.size + (j - us.length) = j := by omega
            rw [this] at h1
            exact h1
    obtain ⟨us, ds, rfl, he, hr, hcell⟩ := key len (Nat.le_refl _)
    refine ⟨ds, ⟨_, rfl, ⟨us, ⟨he.1, some a, m, rfl, hl, hm, ?_⟩, he⟩, fun _ _ _ => trivial⟩, hr, ?_⟩
    · rcases hz with hz | hz
      · obtain ⟨b, off, sp⟩ := a
        simp only at hz
        subst hz
        exact .inr ⟨b, off, rfl, fun j u hu => by have := hcell j u hu; rwa [Addr.add_lit] at this⟩
      · exact .inl hz
    · have h1 := of_decide_eq_true hw.1
      have h2 : ds.length * P.bytesOf te ≤ (ds.length + (m - ds.length)) * P.bytesOf te := Nat.mul_le_mul_right _ (by omega)
      omega
/-- a slice that is an argument -/
theorem Opens.slice {t te : TypeId} {e : Rep D} {R : List D → Prop} {v : Value} {d : DataW H} {p : List MemPlace} {r : Reach} {b0 : Nat} (ho : Opens enc P W t (Rep.sl e) R) (ht : P.underlying t = some (.slice te))
    (hok : Value.okWide P W r b0 t v) (h : DataW.Trod enc P W 0 (fun _ => true) true t v d p) (hw : (d.weights P t).all (· ≤ reachBytes) = true) : ∃ l, RdS e (fun _ => True) W v l ∧ R l := by
  obtain ⟨a, len, cap, rfl⟩ := okWide_slice ht hok
  obtain ⟨fuel, hf⟩ := h
  obtain ⟨l, ⟨v', hv, hr⟩, hR⟩ := ho _ _ _ hf hw
  simp [Value.cells] at hv
  subst hv
  exact ⟨l, hr, hR⟩
/-- a struct that is an argument -/
theorem Opens.agg {t : TypeId} {fs : Array Field} {e : Rep D} {R : D → Prop} {v : Value} {d : DataW H} {p : List MemPlace} {r : Reach} {b0 : Nat} (ho : Opens enc P W t e R) (ht : P.underlying t = some (.struct fs))
    (hok : Value.okWide P W r b0 t v) (h : DataW.Trod enc P W 0 (fun _ => true) true t v d p) (hw : (d.weights P t).all (· ≤ reachBytes) = true) : ∃ cs l, v = .agg cs ∧ e.rel (fun _ => True) W cs.toList l ∧ R l := by
  obtain ⟨cs, rfl, _⟩ := okWide_struct ht hok
  obtain ⟨fuel, hf⟩ := h
  obtain ⟨l, hr, hR⟩ := ho _ _ _ hf hw
  exact ⟨cs, l, rfl, hr, hR⟩
end
end Go.Kb
namespace Go.Kb
open Go.RowKit Go.ChangeShapes Go.WideShapes Go.ChangeAt Go.Deep

section
variable {H : Type} {enc : TypeId × Value → H} {P : Program} {W : World}
theorem weightsEach_at : ∀ {ts : List TypeId} {ds : List (DataW H)} {j : Nat} {t : TypeId} {d : DataW H}, (DataW.weightsEach P ts ds).all (· ≤ reachBytes) = true → ts[j]? = some t → ds[j]? = some d → (d.weights P t).all (· ≤ reachBytes) = true
  | [], _, j, _, _, _, ht, _ => by simp at ht
  | _ :: _, [], j, _, _, _, _, hd => by simp at hd
  | a :: ts, x :: ds, 0, t, d, hw, ht, hd => by
    simp at ht hd
    subst ht hd
    simp only [DataW.weightsEach, List.all_append, Bool.and_eq_true] at hw
    exact hw.1
  | a :: ts, x :: ds, j + 1, t, d, hw, ht, hd => by
    simp only [DataW.weightsEach, List.all_append, Bool.and_eq_true] at hw
    exact weightsEach_at hw.2 (by simpa using ht) (by simpa using hd)
/-- what a field of a struct's data opens as -/
def FieldOpens (enc : TypeId × Value → H) (P : Program) (W : World) (cs : List Value) (t : TypeId) (o : Nat) : Prop :=
  ∃ (fuel : Nat) (x : DataW H × List MemPlace), DataW.trod enc P W 0 (fun _ => true) true fuel t ((cs.drop o).take (P.cellsOf t)) = some x ∧ (x.1.weights P t).all (· ≤ reachBytes) = true
theorem open_fields {t : TypeId} {fs : Array Field} {v : Value} {d : DataW H} {p : List MemPlace} {r : Reach} {b0 : Nat} (hs : P.underlying t = some (.struct fs))
    (hok : Value.okWide P W r b0 t v) (h : DataW.Trod enc P W 0 (fun _ => true) true t v d p) (hw : (d.weights P t).all (· ≤ reachBytes) = true) :
    ∃ cs : Array Value, v = .agg cs ∧ cs.size = P.cellsOf t ∧ ∀ (j : Nat) (f : Field), fs[j]? = some f → FieldOpens enc P W cs.toList f.type f.offset := by
  obtain ⟨cs, rfl, _⟩ := okWide_struct hs hok
  obtain ⟨fuel, hf⟩ := h
  obtain ⟨xs, n, _, hd, hl, hxl, hx⟩ := DataW.trod_struct hs hf
  refine ⟨cs, rfl, by simpa [Value.cells] using hl, fun j f hj => ?_⟩
  have h1 := hx j f hj
  have hlt : j < xs.length := by rw [hxl]; exact (Array.getElem?_eq_some_iff.1 hj).1
  rw [List.getElem?_eq_getElem hlt] at h1
  refine ⟨n, _, h1, ?_⟩
  have hd1 := congrArg Prod.fst hd
  simp only at hd1
  subst hd1
  simp only [DataW.weights, hs] at hw
  refine weightsEach_at hw (j := j) ?_ ?_
  · rw [List.getElem?_map]
    have : fs.toList[j]? = some f := by simpa using hj
    rw [this]; rfl
  · rw [List.getElem?_map, List.getElem?_eq_getElem hlt]; rfl
theorem FieldOpens.opens {cs : List Value} {t : TypeId} {o n : Nat} {D : Type} {e : Rep D} {R : D → Prop} (h : FieldOpens enc P W cs t o) (ho : Opens enc P W t e R) (hc : P.cellsOf t = n) : ∃ d, e.rel (fun _ => True) W ((cs.drop o).take n) d ∧ R d := by
  obtain ⟨fuel, x, h1, h2⟩ := h
  subst hc
  exact ho _ _ _ h1 h2
theorem cell_of_take {cs : List Value} {o : Nat} {v : Value} (h : (cs.drop o).take 1 = [v]) : cs[o]? = some v := by
  have := congrArg (fun l => l[0]?) h
  simpa [List.getElem?_take, List.getElem?_drop] using this
theorem FieldOpens.int {cs : List Value} {t : TypeId} {o : Nat} {k : IntKind} (h : FieldOpens enc P W cs t o) (hu : P.underlying t = some (.int k)) (hc : P.cellsOf t = 1) : ∃ n, cs[o]? = some (.int k n) ∧ (Lit.int k n).wf = true := by
  obtain ⟨n, h1, h2⟩ := h.opens (opens_int hu) hc
  exact ⟨n, cell_of_take h1, h2⟩
theorem FieldOpens.bool {cs : List Value} {t : TypeId} {o : Nat} (h : FieldOpens enc P W cs t o) (hu : P.underlying t = some .bool) (hc : P.cellsOf t = 1) : ∃ b, cs[o]? = some (.bool b) := by
  obtain ⟨b, h1, _⟩ := h.opens (opens_bool hu) hc
  exact ⟨b, cell_of_take h1⟩
theorem FieldOpens.slice {cs : List Value} {t : TypeId} {o : Nat} {D : Type} {e : Rep D} {R : List D → Prop} (h : FieldOpens enc P W cs t o) (ho : Opens enc P W t (Rep.sl e) R) (hc : P.cellsOf t = 1) : ∃ v l, cs[o]? = some v ∧ RdS e (fun _ => True) W v l ∧ R l := by
  obtain ⟨l, ⟨v, h1, h2⟩, h3⟩ := h.opens ho hc
  exact ⟨v, l, cell_of_take h1, h2, h3⟩
end
end Go.Kb
