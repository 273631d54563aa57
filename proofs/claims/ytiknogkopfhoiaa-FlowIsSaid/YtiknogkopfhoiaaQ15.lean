/- FlowIs: for every setting, flow, byte, marks and wish the law answers true, and leaves its arguments as they were. No condition. -/
import Derived.Test.YtiknogkopfhoiaaP15
import Derived.Test.YtiknogkopfhoiaaMoO
import Derived.Test.YtiknogkopfhoiaaFld
namespace Go.Proofs.Ytiknogkopfhoiaa
open Go.RowKit Go.Kb Go.ChangeShapes Go.WideShapes Go.ChangeAt

/-- a flow that is an argument -/
theorem opens_flow {H : Type} {enc : TypeId × Value → H} (W : World) : Opens enc Try.prog W 28 (Rep.pair Rep.bool Rep.bool) (fun _ => True ∧ True) :=
  opens_pair Try.underlying28 rfl rfl (by kernel_rfl) (by kernel_rfl) (by kernel_rfl) (opens_bool Try.underlying4) (opens_bool Try.underlying4)
theorem flow_cells {A : Nat → Prop} {w : World} {cs : List Value} {d : Bool × Bool} (h : (Rep.pair Rep.bool Rep.bool).rel A w cs d) : cs = [.bool d.1, .bool d.2] := by
  obtain ⟨us, vs, rfl, h1, h2⟩ := h
  have h1 : us = [.bool d.1] := h1
  have h2 : vs = [.bool d.2] := h2
  rw [h1, h2]; rfl
theorem open_flow {H : Type} {enc : TypeId × Value → H} {W : World} {v : Value} {d : DataW H} {p : List MemPlace} {r : Reach} {b0 : Nat}
    (hok : Value.okWide Try.prog W r b0 28 v) (h : DataW.Trod enc Try.prog W 0 (fun _ => true) true 28 v d p) (hw : (d.weights Try.prog 28).all (· ≤ reachBytes) = true) : ∃ a b, v = .agg #[.bool a, .bool b] := by
  obtain ⟨cs, l, rfl, hr, _⟩ := Opens.agg (opens_flow W) Try.underlying28 hok h hw
  have := flow_cells hr
  exact ⟨l.1, l.2, by rw [show cs = #[.bool l.1, .bool l.2] from Array.ext' this]⟩
theorem open_asked {H : Type} {enc : TypeId × Value → H} {W : World} {v : Value} {d : DataW H} {p : List MemPlace} {r : Reach} {b0 : Nat}
    (hok : Value.okWide Try.prog W r b0 30 v) (h : DataW.Trod enc Try.prog W 0 (fun _ => true) true 30 v d p) (hw : (d.weights Try.prog 30).all (· ≤ reachBytes) = true) :
    ∃ (t : Tm) (a b : Bool) (c n lo hi k : Int), v = .agg (askedA t.arr a b c n lo hi k) ∧ t.Ok := by
  obtain ⟨cs, rfl, hl, hf⟩ := open_fields Try.underlying30 hok h hw
  have cT : Try.prog.cellsOf 30 = 31 := by kernel_rfl
  rw [cT] at hl
  have f0 : FieldOpens enc Try.prog W cs.toList 26 0 := hf 0 _ rfl
  have f1 : FieldOpens enc Try.prog W cs.toList 28 24 := hf 1 _ rfl
  have f2 : FieldOpens enc Try.prog W cs.toList 5 26 := hf 2 _ rfl
  have f3 : FieldOpens enc Try.prog W cs.toList 3 27 := hf 3 _ rfl
  have f4 : FieldOpens enc Try.prog W cs.toList 3 28 := hf 4 _ rfl
  have f5 : FieldOpens enc Try.prog W cs.toList 3 29 := hf 5 _ rfl
  have f6 : FieldOpens enc Try.prog W cs.toList 3 30 := hf 6 _ rfl
  obtain ⟨t, ⟨ht, _⟩, hok⟩ := f0.opens (opens_tm W) (n := 24) (by kernel_rfl)
  obtain ⟨f, hfl, _⟩ := f1.opens (opens_flow W) (n := 2) (by kernel_rfl)
  have hfl := flow_cells hfl
  obtain ⟨c, hc, _⟩ := f2.int Try.underlying5 (by kernel_rfl)
  obtain ⟨n, h3, _⟩ := f3.int Try.underlying3 (by kernel_rfl)
  obtain ⟨lo, h4, _⟩ := f4.int Try.underlying3 (by kernel_rfl)
  obtain ⟨hi, h5, _⟩ := f5.int Try.underlying3 (by kernel_rfl)
  obtain ⟨k, h6, _⟩ := f6.int Try.underlying3 (by kernel_rfl)
  have g0 : cs.toList[24]? = some (.bool f.1) := by
    have := congrArg (fun l => l[0]?) hfl
    simpa [List.getElem?_take, List.getElem?_drop] using this
  have g1 : cs.toList[25]? = some (.bool f.2) := by
    have := congrArg (fun l => l[1]?) hfl
    simpa [List.getElem?_take, List.getElem?_drop] using this
  refine ⟨t, f.1, f.2, c, n, lo, hi, k, ?_, hok⟩
  have e : cs.toList = t.cells ++ [.bool f.1, .bool f.2, .int .u8 c, .int .i64 n, .int .i64 lo, .int .i64 hi, .int .i64 k] := by
    rw [List.drop_zero] at ht
    rw [← ht]
    apply List.ext_getElem?
    intro i
    have hll : cs.toList.length = 31 := by simpa using hl
    have : i < 24 ∨ i = 24 ∨ i = 25 ∨ i = 26 ∨ i = 27 ∨ i = 28 ∨ i = 29 ∨ i = 30 ∨ 31 ≤ i := by omega
    have h24 : (cs.toList.take 24).length = 24 := by rw [List.length_take]; omega
    rcases this with h | rfl | rfl | rfl | rfl | rfl | rfl | rfl | h
    · rw [List.getElem?_append_left (by omega), List.getElem?_take, if_pos h]
    · rw [List.getElem?_append_right (by omega), h24, g0]; rfl
    · rw [List.getElem?_append_right (by omega), h24, g1]; rfl
    · rw [List.getElem?_append_right (by omega), h24, hc]; rfl
    · rw [List.getElem?_append_right (by omega), h24, h3]; rfl
    · rw [List.getElem?_append_right (by omega), h24, h4]; rfl
    · rw [List.getElem?_append_right (by omega), h24, h5]; rfl
    · rw [List.getElem?_append_right (by omega), h24, h6]; rfl
    · rw [List.getElem?_eq_none (by omega), List.getElem?_eq_none (by simp [h24]; omega)]
  congr 1
  apply Array.ext'
  rw [e]
  simp [askedA, Tm.arr]
set_option maxHeartbeats 800000 in
set_option maxRecDepth 100000 in
theorem flowIs_lifted (os : Os) (started : os.Started) (H : Type) (enc : TypeId × Value → H) :
    ReturnsInHanded {} Try.checked os 3 .any (Rows.flowIsSpec.pre6 enc Try.prog Try.f3 Rows.flowIsRow.domain false) (Rows.flowIsSpec.post enc Try.prog Try.f3 false true false false) := by
  refine returnsInHanded_of_change_sized (C := Try.checked) (by kernel_rfl) started (by kernel_rfl) Try.func3
    (ChangeSpec.witness6 (enc := enc) (C := Try.checked) false ⟨#[], #[.agg #[.int .u8 0, .int .u8 0, .int .u8 0, .int .u8 0, .int .u8 0, .int .u8 0, .int .u8 0, .int .u8 0, .int .u8 0, .int .u8 0, .int .u8 0, .int .u8 0, .int .u8 0, .int .u8 0, .int .u8 0, .int .u8 0, .int .u8 0, .int .u8 0, .int .u8 0, .int .u64 0, .int .u32 0, .int .u32 0, .int .i64 0, .int .i64 0, .bool false, .bool false, .int .u8 0, .int .i64 0, .int .i64 0, .int .i64 0, .int .i64 0]], []⟩ 8 (by kernel_rfl) (by kernel_rfl) (by kernel_rfl) (by kernel_rfl)) ?_
  intro W base args ds gs before hval0 hW _ hsz0 _
  have hsz : (DataW.weightsEach Try.prog (Try.f3.params.toList ++ Rows.flowIsSpec.plain.varTypes Try.prog) (ds ++ gs)).all (· ≤ reachBytes) = true := hsz0
  clear hsz0
  have hval : ∀ (j : Nat) t v, Try.f3.params[j]? = some t → args[j]? = some v → Value.okWide Try.prog W .any base t v := hval0
  have hW' := hW
  obtain ⟨p, q, hA0, hV, rfl, _, _⟩ := hW
  have hA : DataW.TrodAll enc Try.prog W 0 (fun _ => true) true Try.f3.params.toList args.toList ds p := hA0
  rw [Try.params3] at hA hval hsz
  obtain ⟨rfl, rfl⟩ := trodVars_none hV
  have hkeep := hA
  have hlt : ∀ x ∈ p, x.block < W.heap.size := fun x hx => hW'.lt x (by simpa using hx)
  clear hA0 hval0
  obtain ⟨v0, vs0, d0, ds0, p0, q0, hargs, rfl, rfl, h0, r0⟩ := trodAll_cons hA
  obtain ⟨rfl, rfl, rfl⟩ := trodAll_nil r0
  obtain rfl : args = #[v0] := by cases args; simp_all
  simp only [List.cons_append, List.nil_append, DataW.weightsEach, List.all_append, Bool.and_eq_true] at hsz
  obtain ⟨t, a, b, c, n, lo, hi, k, rfl, ht⟩ := open_asked (hval 0 30 v0 rfl rfl) h0 hsz.1
  refine (flowIs_walk t a b c n lo hi k W ht).mono fun e W' ⟨he, hE⟩ => ?_
  subst he
  exact ⟨_, rfl, _, _, _, [], _, [], hW', trodAll_mk1 (shut_bool Try.underlying4 _), trodAll_stays (by kernel_rfl) (by kernel_rfl) hkeep hE hlt, rfl, hE.frame _, fun h => by cases h⟩
/-- THE STATEMENT -/
theorem flowIs_holds : Rows.FlowIsSaid :=
  OpenClaim.holds_of_wide 3 Try.f3 rfl rfl rfl rfl rfl rfl rfl ⟨rfl, rfl, rfl, rfl, rfl⟩ rfl rfl rfl rfl rfl (by kernel_rfl) Try.func3 (by kernel_rfl)
    (of_decide_eq_true (by kernel_rfl)) (by unfold Func.isWrapper; first | (rw [if_pos (by decide +kernel)]; kernel_rfl) | (rw [if_neg (by decide +kernel)]; exact ⟨rfl, rfl⟩))
    (fun os started H enc _ => flowIs_lifted os started H enc)
end Go.Proofs.Ytiknogkopfhoiaa
