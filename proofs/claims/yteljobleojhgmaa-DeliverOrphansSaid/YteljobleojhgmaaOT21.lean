/- Written by chain.py of +Q21 NA20[Pr.wf] RA20. No condition. -/
import Derived.Test.YteljobleojhgmaaQ21
import Derived.DeepKeys
import Derived.Laws.StructEq
namespace Go.Proofs.Yteljobleojhgmaa
open Go.RowKit Go.Kb
set_option linter.unusedSimpArgs false

/-- its numbers fit -/
def Pr.wf (p : Pr) : Prop := (Lit.int .i64 p.pid).wf = true ∧ (Lit.int .i64 p.parent).wf = true ∧ (Lit.int .i64 p.group).wf = true ∧ (Lit.int .i64 p.session).wf = true ∧ (Lit.int .i64 p.state).wf = true ∧ (Lit.int .i64 p.prog).wf = true ∧ (Lit.int .i64 p.pc).wf = true ∧ (Lit.int .u64 p.pending).wf = true ∧ (Lit.int .u64 p.mask).wf = true ∧ (∀ x ∈ p.acts, (Lit.int .i64 x).wf = true) ∧ (Lit.int .i64 p.status).wf = true
end Go.Proofs.Yteljobleojhgmaa
namespace Go.Proofs.Yteljobleojhgmaa
open Go.RowKit Go.Kb Go.ChangeShapes Go.WideShapes Go.ChangeAt Go.Deep

theorem ints_of_cells {k : IntKind} {p : Int → Prop} : ∀ {cs : List Value}, (∀ i, i < cs.length → ∃ x, cs[i]? = some (.int k x) ∧ p x) → ∃ l : List Int, cs = l.map (Value.int k) ∧ ∀ x ∈ l, p x
  | [], _ => ⟨[], rfl, by simp⟩
  | c :: cs, h => by
    obtain ⟨l, hl, hp⟩ := ints_of_cells (cs := cs) fun i hi => h (i + 1) (by simp; omega)
    obtain ⟨x, hx, hpx⟩ := h 0 (by simp)
    simp at hx
    subst hx hl
    refine ⟨x :: l, by simp, fun y hy => ?_⟩
    rcases List.mem_cons.1 hy with rfl | hy
    · exact hpx
    · exact hp y hy
set_option maxRecDepth 100000 in
theorem opens_proc {H : Type} {enc : TypeId × Value → H} (W : World) : Opens enc Try.prog W 101 Rp Pr.wf := by
  intro fuel cs x h _
  obtain ⟨xs, n, rfl, rfl, hl, hxl, hf⟩ := DataW.trod_struct Try.underlying101 h
  have cT : Try.prog.cellsOf 101 = 43 := by kernel_rfl
  have cA : Try.prog.cellsOf 37 = 32 := by kernel_rfl
  have cU : Try.prog.cellsOf 35 = 1 := by kernel_rfl
  have cI : Try.prog.cellsOf 3 = 1 := by kernel_rfl
  have cB : Try.prog.cellsOf 4 = 1 := by kernel_rfl
  have e0 : DataW.trod enc Try.prog W 0 (fun _ => true) true n 3 ((cs.drop 0).take (Try.prog.cellsOf 3)) = _ := hf 0 _ rfl
  rw [cI] at e0
  have e1 : DataW.trod enc Try.prog W 0 (fun _ => true) true n 3 ((cs.drop 1).take (Try.prog.cellsOf 3)) = _ := hf 1 _ rfl
  rw [cI] at e1
  have e2 : DataW.trod enc Try.prog W 0 (fun _ => true) true n 3 ((cs.drop 2).take (Try.prog.cellsOf 3)) = _ := hf 2 _ rfl
  rw [cI] at e2
  have e3 : DataW.trod enc Try.prog W 0 (fun _ => true) true n 3 ((cs.drop 3).take (Try.prog.cellsOf 3)) = _ := hf 3 _ rfl
  rw [cI] at e3
  have e4 : DataW.trod enc Try.prog W 0 (fun _ => true) true n 3 ((cs.drop 4).take (Try.prog.cellsOf 3)) = _ := hf 4 _ rfl
  rw [cI] at e4
  have e5 : DataW.trod enc Try.prog W 0 (fun _ => true) true n 3 ((cs.drop 5).take (Try.prog.cellsOf 3)) = _ := hf 5 _ rfl
  rw [cI] at e5
  have e6 : DataW.trod enc Try.prog W 0 (fun _ => true) true n 3 ((cs.drop 6).take (Try.prog.cellsOf 3)) = _ := hf 6 _ rfl
  rw [cI] at e6
  have e7 : DataW.trod enc Try.prog W 0 (fun _ => true) true n 35 ((cs.drop 7).take (Try.prog.cellsOf 35)) = _ := hf 7 _ rfl
  rw [cU] at e7
  have e8 : DataW.trod enc Try.prog W 0 (fun _ => true) true n 35 ((cs.drop 8).take (Try.prog.cellsOf 35)) = _ := hf 8 _ rfl
  rw [cU] at e8
  have e9 : DataW.trod enc Try.prog W 0 (fun _ => true) true n 37 ((cs.drop 9).take (Try.prog.cellsOf 37)) = _ := hf 9 _ rfl
  rw [cA] at e9
  have e10 : DataW.trod enc Try.prog W 0 (fun _ => true) true n 3 ((cs.drop 41).take (Try.prog.cellsOf 3)) = _ := hf 10 _ rfl
  rw [cI] at e10
  have e11 : DataW.trod enc Try.prog W 0 (fun _ => true) true n 4 ((cs.drop 42).take (Try.prog.cellsOf 4)) = _ := hf 11 _ rfl
  rw [cB] at e11
  match xs, hxl with
  | [a0, a1, a2, a3, a4, a5, a6, a7, a8, a9, a10, a11], _ =>
    rw [cT] at hl
    obtain ⟨f0, g0, _, w0⟩ := DataW.trod_int Try.underlying3 e0
    obtain ⟨f1, g1, _, w1⟩ := DataW.trod_int Try.underlying3 e1
    obtain ⟨f2, g2, _, w2⟩ := DataW.trod_int Try.underlying3 e2
    obtain ⟨f3, g3, _, w3⟩ := DataW.trod_int Try.underlying3 e3
    obtain ⟨f4, g4, _, w4⟩ := DataW.trod_int Try.underlying3 e4
    obtain ⟨f5, g5, _, w5⟩ := DataW.trod_int Try.underlying3 e5
    obtain ⟨f6, g6, _, w6⟩ := DataW.trod_int Try.underlying3 e6
    obtain ⟨f7, g7, _, w7⟩ := DataW.trod_int Try.underlying35 e7
    obtain ⟨f8, g8, _, w8⟩ := DataW.trod_int Try.underlying35 e8
    obtain ⟨f10, g10, _, w10⟩ := DataW.trod_int Try.underlying3 e10
    obtain ⟨f11, g11, _⟩ := DataW.trod_bool Try.underlying4 e11
    obtain ⟨ys, m, _, _, hyl, hyn, hy⟩ := DataW.trod_array Try.underlying37 e9
    rw [cA] at hyl
    obtain ⟨l, hlc, hlb⟩ := ints_of_cells (k := .i64) (p := fun x => (Lit.int .i64 x).wf = true) (cs := (cs.drop 9).take 32) fun i hi => by
      rw [hyl] at hi
      have := hy i hi
      rw [cI, Nat.mul_one, List.getElem?_eq_getElem (by omega)] at this
      obtain ⟨z, gz, _, wz⟩ := DataW.trod_int Try.underlying3 this
      refine ⟨z, ?_, wz⟩
      have h2 := congrArg (fun l => l[0]?) gz
      simpa [List.getElem?_take, List.getElem?_drop, hi] using h2
    have hcs : cs = (cs.drop 0).take 1 ++ ((cs.drop 1).take 1 ++ ((cs.drop 2).take 1 ++ ((cs.drop 3).take 1 ++ ((cs.drop 4).take 1 ++ ((cs.drop 5).take 1 ++ ((cs.drop 6).take 1 ++ ((cs.drop 7).take 1 ++ ((cs.drop 8).take 1 ++ ((cs.drop 9).take 32 ++ ((cs.drop 41).take 1 ++ ((cs.drop 42).take 1))))))))))) := by
      apply List.ext_getElem?
      intro i
      have : i = 0 ∨ i = 1 ∨ i = 2 ∨ i = 3 ∨ i = 4 ∨ i = 5 ∨ i = 6 ∨ i = 7 ∨ i = 8 ∨ (9 ≤ i ∧ i < 41) ∨ i = 41 ∨ i = 42 ∨ 43 ≤ i := by omega
      rcases this with rfl | rfl | rfl | rfl | rfl | rfl | rfl | rfl | rfl | hi | rfl | rfl | hi
      case inr.inr.inr.inr.inr.inr.inr.inr.inr.inl =>
        obtain ⟨t, rfl⟩ : ∃ t, i = 9 + t := ⟨i - 9, by omega⟩
        have ht : t < 32 := by omega
        have e1 : ∀ k, k < 43 → ((cs.drop k).take 1).length = 1 := fun k hk => by rw [List.length_take, List.length_drop]; omega
        iterate 9 rw [List.getElem?_append_right (by rw [e1 _ (by omega)]; omega), e1 _ (by omega)]
        rw [List.getElem?_append_left (by rw [List.length_take, List.length_drop]; omega), List.getElem?_take, if_pos (by omega), List.getElem?_drop]
        congr 1
        omega
      case inr.inr.inr.inr.inr.inr.inr.inr.inr.inr.inr.inr =>
        rw [List.getElem?_eq_none (by omega), List.getElem?_eq_none (by simp [hl]; omega)]
      all_goals simp [hl]
    refine ⟨⟨f0, f1, f2, f3, f4, f5, f6, f7, f8, l, f10, f11⟩, ⟨?_, ?_⟩, ?_⟩
    · rw [hcs, hlc]
      have g0' : (cs.drop 0).take 1 = _ := g0
      have g1' : (cs.drop 1).take 1 = _ := g1
      have g2' : (cs.drop 2).take 1 = _ := g2
      have g3' : (cs.drop 3).take 1 = _ := g3
      have g4' : (cs.drop 4).take 1 = _ := g4
      have g5' : (cs.drop 5).take 1 = _ := g5
      have g6' : (cs.drop 6).take 1 = _ := g6
      have g7' : (cs.drop 7).take 1 = _ := g7
      have g8' : (cs.drop 8).take 1 = _ := g8
      have g10' : (cs.drop 41).take 1 = _ := g10
      have g11' : (cs.drop 42).take 1 = _ := g11
      rw [g0', g1', g2', g3', g4', g5', g6', g7', g8', g10', g11']
      rfl
    · show l.length = 32
      have := congrArg List.length hlc
      rw [List.length_map] at this
      exact this.symm.trans hyl
    · exact ⟨w0, w1, w2, w3, w4, w5, w6, w7, w8, hlb, w10⟩
set_option maxRecDepth 100000 in
theorem open_tab {H : Type} {enc : TypeId × Value → H} {W : World} {v : Value} {d : DataW H} {p : List MemPlace} {r : Reach} {b0 : Nat}
    (hok : Value.okWide Try.prog W r b0 24 v) (h : DataW.Trod enc Try.prog W 0 (fun _ => true) true 24 v d p) (hw : (d.weights Try.prog 24).all (· ≤ reachBytes) = true) :
    ∃ (Ad : Option Addr) (c : Nat) (l : List Pr) (nx : Int), v = tv Ad l.length c nx ∧ RdY Rp (fun _ => True) W (.slice Ad l.length c) l ∧ (∀ p ∈ l, p.wf) ∧ (Lit.int .i64 nx).wf = true := by
  obtain ⟨cs, rfl, hl, hf⟩ := open_fields Try.underlying24 hok h hw
  have cT : Try.prog.cellsOf 24 = 2 := by kernel_rfl
  rw [cT] at hl
  have f0 : FieldOpens enc Try.prog W cs.toList 22 0 := hf 0 _ rfl
  have f1 : FieldOpens enc Try.prog W cs.toList 3 1 := hf 1 _ rfl
  obtain ⟨v, l, hv, hr, hR⟩ := f0.slice (opens_slice Try.underlying22 (by kernel_rfl) (opens_proc W)) (by kernel_rfl)
  obtain ⟨nx, hnx, hnw⟩ := f1.int Try.underlying3 (by kernel_rfl)
  obtain ⟨Ad, c, rfl, _, _⟩ := hr.shape
  refine ⟨Ad, c, l, nx, ?_, hr.y, hR.1, hnw⟩
  show Value.agg cs = Value.agg #[_, _]
  congr 1
  obtain ⟨k⟩ := cs
  simp only [List.size_toArray] at hl
  match k, hl with
  | [a0, a1], _ =>
    simp at hv hnx
    subst hv hnx
    rfl
end Go.Proofs.Yteljobleojhgmaa
namespace Go.Proofs.Yteljobleojhgmaa
open Go.RowKit Go.Kb
theorem good_wf {l : List Pr} (h : ∀ p ∈ l, p.wf) : (∀ p ∈ l, Sig.U64 p.pending) ∧ (∀ p ∈ l, Sig.U64 p.mask) := by
  have h1 : IntKind.u64.min = 0 := rfl
  have h2 : IntKind.u64.max = 18446744073709551615 := rfl
  constructor
  · intro p hp
    have := (h p hp).2.2.2.2.2.2.2.1
    simp [Lit.wf] at this
    rw [h1, h2] at this
    exact ⟨this.1, by omega⟩
  · intro p hp
    have := (h p hp).2.2.2.2.2.2.2.2.1
    simp [Lit.wf] at this
    rw [h1, h2] at this
    exact ⟨this.1, by omega⟩
end Go.Proofs.Yteljobleojhgmaa
