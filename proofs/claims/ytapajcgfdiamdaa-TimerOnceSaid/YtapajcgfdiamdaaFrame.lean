/- From how an argument reads to the words on memory of this seat, and back: for the rows' last step. Over any program. No condition. -/
import Derived.Test.YtapajcgfdiamdaaBase
import Derived.ProofKit
import Derived.OpenShut
import Derived.ShutString
import Derived.ChangeOld
import Derived.Lib.SmallJoins
namespace Go.Kb
open Go.RowKit Go.ChangeShapes Go.WideShapes Go.ChangeAt Go.Deep

section
variable {H : Type} {enc : TypeId × Value → H} {P : Program} {W W' : World}
def okTypes (P : Program) (ts : List TypeId) : Bool := ts.all fun t => P.readableRec t && decide (t < P.types.size)
theorem trodAll_stays (hl : laidOutB P = true) : ∀ {ts : List TypeId} {vs : List Value} {ds : List (DataW H)} {ps : List MemPlace}, okTypes P ts = true →
    DataW.TrodAll enc P W 0 (fun _ => true) true ts vs ds ps → Ext W W' → (∀ x ∈ ps, x.block < W.heap.size) → DataW.TrodAll enc P W' 0 (fun b => decide (b < W.heap.size)) true ts vs ds ps
  | [], vs, ds, ps, _, h, _, _ => by
    obtain ⟨rfl, rfl, rfl⟩ := trodAll_nil h
    rfl
  | t :: ts, vs, ds, ps, hr, h, hb, hlt => by
    obtain ⟨v, vs', d, ds', p, q, rfl, rfl, rfl, h1, h2⟩ := trodAll_cons h
    simp only [okTypes, List.all_cons, Bool.and_eq_true, decide_eq_true_eq] at hr
    exact ⟨p, q, Below.trod hl hr.1.1 hr.1.2 h1 hb fun x hx => hlt x (List.mem_append_left _ hx), trodAll_stays hl hr.2 h2 hb fun x hx => hlt x (List.mem_append_right _ hx), rfl⟩

/-- a number's bounds out of 'wf' -/
theorem u8_bd {n : Int} (h : (Lit.int .u8 n).wf = true) : 0 ≤ n ∧ n ≤ 255 := by
  simpa [Lit.wf, IntKind.min, IntKind.max, IntKind.signed, IntKind.bits] using h

/-- cells of a slice's row, said by RdN -/
theorem open_bytes {t e : TypeId} {fuel : Nat} {cs : List Value} {x : DataW H × List MemPlace} (ht : P.underlying t = some (.slice e)) (he : P.underlying e = some (.int .u8)) (hc : P.cellsOf e = 1)
    (h : DataW.trod enc P W 0 (fun _ => true) true fuel t cs = some x) : ∃ v xs, cs = [v] ∧ RI .u8 W v xs ∧ Bs xs := by
  rcases open_ints ht he hc h with ⟨rfl, _⟩ | ⟨a, len, cap, zs, rfl, _, hl, hm, hz, _, hcell, hwz⟩
  · exact ⟨_, [], rfl, RdN.nil _ _, fun x hx => by simp at hx⟩
  · simp only [if_true] at hz
    have hlen : (zs.take len).length = len := by rw [List.length_take]; omega
    refine ⟨_, zs.take len, rfl, ⟨by simp, some a, cap, by rw [hlen], by omega, hm, ?_⟩, fun x hx => u8_bd (hwz x (List.mem_of_mem_take hx))⟩
    rcases Nat.eq_zero_or_pos cap with h0 | h0
    · exact .inl h0
    · right
      have hsp : a.spot = none := by
        have := hcell 0 (by omega)
        rcases hs : a.spot with _ | s
        · rfl
        · simp [Addr.add, World.cell?, hs] at this
          split at this <;> simp at this
      obtain ⟨b, off, sp⟩ := a
      simp only at hsp
      subst hsp
      refine ⟨b, off, rfl, fun j u hu => ?_⟩
      rw [List.getElem?_map, Option.map_eq_some_iff] at hu
      obtain ⟨n, hn, rfl⟩ := hu
      rw [List.getElem?_take] at hn
      split at hn
      · have hj := (List.getElem?_eq_some_iff.1 hn).1
        have := hcell j hj
        rw [Addr.add_lit] at this
        rw [this, List.getD_eq_getElem?_getD, hn]
        rfl
      · cases hn
theorem open_bytes1 {t e : TypeId} {v : Value} {d : DataW H} {p : List MemPlace} (ht : P.underlying t = some (.slice e)) (he : P.underlying e = some (.int .u8)) (hc : P.cellsOf e = 1) {r : Reach} {b0 : Nat}
    (hok : Value.okWide P W r b0 t v) (h : DataW.Trod enc P W 0 (fun _ => true) true t v d p) : ∃ xs, RI .u8 W v xs ∧ Bs xs := by
  obtain ⟨a, len, cap, rfl⟩ := okWide_slice ht hok
  obtain ⟨fuel, hf⟩ := h
  obtain ⟨v, xs, hv, h1, h2⟩ := open_bytes ht he hc hf
  simp [Value.cells] at hv
  subst hv
  exact ⟨xs, h1, h2⟩
open Go.Joins in
/-- a struct of bytes and a bool -/
theorem open_bytes_bool {t e : TypeId} {f0 f1 : Field} {v : Value} {d : DataW H} {p : List MemPlace} {r : Reach} {b0 : Nat} (hs : P.underlying t = some (.struct #[f0, f1])) (hone : oneCellFields P #[f0, f1] = true) (hC : P.cellsOf t = 2)
    (ht : P.underlying f0.type = some (.slice e)) (he : P.underlying e = some (.int .u8)) (hc : P.cellsOf e = 1) (hb : P.underlying f1.type = some .bool)
    (hok : Value.okWide P W r b0 t v) (h : DataW.Trod enc P W 0 (fun _ => true) true t v d p) : ∃ va xs b, v = .agg #[va, .bool b] ∧ RI .u8 W va xs ∧ Bs xs := by
  obtain ⟨c0, c1, y0, y1, m, rfl, _, _, hy0, hy1⟩ := open_agg2 hs hone hC hok h
  obtain ⟨va, xs, hv, h1, h2⟩ := open_bytes ht he hc hy0
  obtain ⟨b, hv2, _⟩ := DataW.trod_bool hb hy1
  simp only [List.cons.injEq, and_true] at hv hv2
  subst hv hv2
  exact ⟨c0, xs, b, rfl, h1, h2⟩
end
end Go.Kb
