/- A setting that is an argument. Conditions: none. -/
import Derived.Test.YtilmkghopeoipaaMoA
import Derived.Test.YtilmkghopeoipaaOpen
namespace Go.Proofs.Ytilmkghopeoipaa
open Go.RowKit Go.Kb Go.ChangeShapes Go.WideShapes Go.ChangeAt Go.Deep

theorem ints_of_cells {k : IntKind} {p : Int → Prop} : ∀ {cs : List Value}, (∀ i, i < cs.length → ∃ x, cs[i]? = some (.int k x) ∧ p x) → ∃ l : List Int, cs = l.map (Value.int k) ∧ ∀ x ∈ l, p x
  | [], _ => ⟨[], rfl, by simp⟩
  | c :: cs, h => by
    obtain ⟨l, hl, hp⟩ := ints_of_cells (cs := cs) fun i hi => h (i + 1) (by simp; omega)
    obtain ⟨x, hx, hpx⟩ := h 0 (by simp)
    simp at hx
    subst hx hl
    refine ⟨x :: l, by simp, fun y hy => ?_⟩
    rcases List.mem_cons.1 hy with rfl | hy
    · exact hpx
    · exact hp y hy
theorem u64_bd {n : Int} (h : (Lit.int .u64 n).wf = true) : 0 ≤ n ∧ n < 18446744073709551616 := by
  have : 0 ≤ n ∧ n ≤ 18446744073709551615 := by simpa [Lit.wf, IntKind.min, IntKind.max, IntKind.signed, IntKind.bits] using h
  omega
theorem u32_bd {n : Int} (h : (Lit.int .u32 n).wf = true) : 0 ≤ n ∧ n < 4294967296 := by
  have : 0 ≤ n ∧ n ≤ 4294967295 := by simpa [Lit.wf, IntKind.min, IntKind.max, IntKind.signed, IntKind.bits] using h
  omega
theorem i64_bd {n : Int} (h : (Lit.int .i64 n).wf = true) : -9223372036854775808 ≤ n ∧ n ≤ 9223372036854775807 := by
  simpa [Lit.wf, IntKind.min, IntKind.max, IntKind.signed, IntKind.bits] using h
theorem Tm.one1 (t : Tm) : ∀ u ∈ t.cells, u.oneCell' = true := by
  intro u hu
  simp only [Tm.cells, List.mem_append, List.mem_map, List.mem_cons, List.not_mem_nil, or_false] at hu
  rcases hu with ⟨x, _, rfl⟩ | rfl | rfl | rfl | rfl | rfl <;> rfl
def Rep.tm : Rep Tm where
  size := 24
  pos := by decide
  rel := fun _ _ cs d => cs = d.cells ∧ d.Ok
  len := fun h => by rw [h.1, Tm.len h.2]
  one := fun {_ _ _ d} h u hu => d.one1 u (by rw [← h.1]; exact hu)
  keep := fun h _ => h
theorem opens_tm {H : Type} {enc : TypeId × Value → H} (W : World) : Opens enc Try.prog W 26 Rep.tm (fun t => t.Ok) := by
  intro fuel cs x h _
  obtain ⟨xs, n, rfl, rfl, hl, hxl, hf⟩ := DataW.trod_struct Try.underlying26 h
  have cT : Try.prog.cellsOf 26 = 24 := by kernel_rfl
  have cA : Try.prog.cellsOf 22 = 19 := by kernel_rfl
  have c8 : Try.prog.cellsOf 5 = 1 := by kernel_rfl
  have c64 : Try.prog.cellsOf 23 = 1 := by kernel_rfl
  have c32 : Try.prog.cellsOf 24 = 1 := by kernel_rfl
  have cI : Try.prog.cellsOf 3 = 1 := by kernel_rfl
  have e0 : DataW.trod enc Try.prog W 0 (fun _ => true) true n 22 ((cs.drop 0).take (Try.prog.cellsOf 22)) = _ := hf 0 _ rfl
  rw [cA] at e0
  have e1 : DataW.trod enc Try.prog W 0 (fun _ => true) true n 23 ((cs.drop 19).take (Try.prog.cellsOf 23)) = _ := hf 1 _ rfl
  rw [c64] at e1
  have e2 : DataW.trod enc Try.prog W 0 (fun _ => true) true n 24 ((cs.drop 20).take (Try.prog.cellsOf 24)) = _ := hf 2 _ rfl
  rw [c32] at e2
  have e3 : DataW.trod enc Try.prog W 0 (fun _ => true) true n 24 ((cs.drop 21).take (Try.prog.cellsOf 24)) = _ := hf 3 _ rfl
  rw [c32] at e3
  have e4 : DataW.trod enc Try.prog W 0 (fun _ => true) true n 3 ((cs.drop 22).take (Try.prog.cellsOf 3)) = _ := hf 4 _ rfl
  rw [cI] at e4
  have e5 : DataW.trod enc Try.prog W 0 (fun _ => true) true n 3 ((cs.drop 23).take (Try.prog.cellsOf 3)) = _ := hf 5 _ rfl
  rw [cI] at e5
  match xs, hxl with
  | [a0, a1, a2, a3, a4, a5], _ =>
    rw [cT] at hl
    rw [List.drop_zero] at e0
    obtain ⟨f1, g1, _, w1⟩ := DataW.trod_int Try.underlying23 e1
    obtain ⟨f2, g2, _, w2⟩ := DataW.trod_int Try.underlying24 e2
    obtain ⟨f3, g3, _, w3⟩ := DataW.trod_int Try.underlying24 e3
    obtain ⟨f4, g4, _, w4⟩ := DataW.trod_int Try.underlying3 e4
    obtain ⟨f5, g5, _, w5⟩ := DataW.trod_int Try.underlying3 e5
    obtain ⟨ys, m, _, _, hyl, hyn, hy⟩ := DataW.trod_array Try.underlying22 e0
    rw [cA] at hyl
    obtain ⟨l, hlc, hlb⟩ := ints_of_cells (k := .u8) (p := fun x => 0 ≤ x ∧ x ≤ 255) (cs := cs.take 19) fun i hi => by
      rw [hyl] at hi
      have := hy i hi
      rw [c8, Nat.mul_one, List.getElem?_eq_getElem (by omega)] at this
      obtain ⟨z, gz, _, wz⟩ := DataW.trod_int Try.underlying5 this
      refine ⟨z, ?_, u8_bd wz⟩
      have h2 := congrArg (fun l => l[0]?) gz
      simpa [List.getElem?_take, List.getElem?_drop, hi] using h2
    have hcs : cs = cs.take 19 ++ ((cs.drop 19).take 1 ++ ((cs.drop 20).take 1 ++ ((cs.drop 21).take 1 ++ ((cs.drop 22).take 1 ++ (cs.drop 23).take 1)))) := by
      apply List.ext_getElem?
      intro i
      have : i < 19 ∨ i = 19 ∨ i = 20 ∨ i = 21 ∨ i = 22 ∨ i = 23 ∨ 24 ≤ i := by omega
      rcases this with hi | rfl | rfl | rfl | rfl | rfl | hi
      · rw [List.getElem?_append_left (by rw [hyl]; exact hi), List.getElem?_take, if_pos hi]
      · simp [hl]
      · simp [hl]
      · simp [hl]
      · simp [hl]
      · simp [hl]
      · rw [List.getElem?_eq_none (by omega), List.getElem?_eq_none (by simp [hl]; omega)]
    refine ⟨⟨l, f1, f2, f3, f4, f5⟩, ⟨?_, ?_⟩, ?_⟩
    · rw [hcs, hlc]
      have g1' : (cs.drop 19).take 1 = _ := g1
      have g2' : (cs.drop 20).take 1 = _ := g2
      have g3' : (cs.drop 21).take 1 = _ := g3
      have g4' : (cs.drop 22).take 1 = _ := g4
      have g5' : (cs.drop 23).take 1 = _ := g5
      rw [g1', g2', g3', g4', g5']
      rfl
    all_goals exact ⟨by have := congrArg List.length hlc; simpa [hl, hyl] using this.symm, hlb, u64_bd w1, u32_bd w2, u32_bd w3, i64_bd w4, i64_bd w5⟩
/-- a setting that is an argument -/
theorem open_tm {H : Type} {enc : TypeId × Value → H} {W : World} {v : Value} {d : DataW H} {p : List MemPlace} {r : Reach} {b0 : Nat} 
    (hok : Value.okWide Try.prog W r b0 26 v) (h : DataW.Trod enc Try.prog W 0 (fun _ => true) true 26 v d p) (hw : (d.weights Try.prog 26).all (· ≤ reachBytes) = true) : ∃ t : Tm, v = .agg t.arr ∧ t.Ok := by
  obtain ⟨cs, t, rfl, hr, hR⟩ := Opens.agg (opens_tm W) Try.underlying26 hok h hw
  refine ⟨t, ?_, hR⟩
  have h1 : cs.toList = t.cells := hr.1
  show _ = Value.agg t.cells.toArray
  rw [← h1]
end Go.Proofs.Ytilmkghopeoipaa
