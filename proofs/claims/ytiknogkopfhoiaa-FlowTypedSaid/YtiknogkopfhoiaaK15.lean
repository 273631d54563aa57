/- FlowTyped: for every setting, flow and bytes the law answers true, and leaves its arguments as they were. No condition. -/
import Derived.Test.YtiknogkopfhoiaaI15
import Derived.Test.YtiknogkopfhoiaaMoO
namespace Go.Proofs.Ytiknogkopfhoiaa
open Go.RowKit Go.Kb Go.ChangeShapes Go.WideShapes Go.ChangeAt

/-- a flow that is an argument -/
theorem opens_flow {H : Type} {enc : TypeId × Value → H} (W : World) : Opens enc Try.prog W 28 (Rep.pair Rep.bool Rep.bool) (fun _ => True ∧ True) :=
  opens_pair Try.underlying28 rfl rfl (by kernel_rfl) (by kernel_rfl) (by kernel_rfl) (opens_bool Try.underlying4) (opens_bool Try.underlying4)
theorem flow_cells {A : Nat → Prop} {w : World} {cs : List Value} {d : Bool × Bool} (h : (Rep.pair Rep.bool Rep.bool).rel A w cs d) : cs = [.bool d.1, .bool d.2] := by
  obtain ⟨us, vs, rfl, h1, h2⟩ := h
  have h1 : us = [.bool d.1] := h1
  have h2 : vs = [.bool d.2] := h2
  rw [h1, h2]; rfl
theorem open_flow {H : Type} {enc : TypeId × Value → H} {W : World} {v : Value} {d : DataW H} {p : List MemPlace} {r : Reach} {b0 : Nat}
    (hok : Value.okWide Try.prog W r b0 28 v) (h : DataW.Trod enc Try.prog W 0 (fun _ => true) true 28 v d p) (hw : (d.weights Try.prog 28).all (· ≤ reachBytes) = true) : ∃ a b, v = .agg #[.bool a, .bool b] := by
  obtain ⟨cs, l, rfl, hr, _⟩ := Opens.agg (opens_flow W) Try.underlying28 hok h hw
  have := flow_cells hr
  exact ⟨l.1, l.2, by rw [show cs = #[.bool l.1, .bool l.2] from Array.ext' this]⟩
set_option maxRecDepth 100000 in
theorem flowTyped_lifted (os : Os) (started : os.Started) (H : Type) (enc : TypeId × Value → H) :
    ReturnsInHanded {} Try.checked os 4 .any (Rows.flowTypedSpec.pre6 enc Try.prog Try.f4 Rows.flowTypedRow.domain false) (Rows.flowTypedSpec.post enc Try.prog Try.f4 false true false false) := by
  refine returnsInHanded_of_change_sized (C := Try.checked) (by kernel_rfl) started (by kernel_rfl) Try.func4
    (ChangeSpec.witness6 (enc := enc) (C := Try.checked) false ⟨#[], #[.agg #[.int .u8 0, .int .u8 0, .int .u8 0, .int .u8 0, .int .u8 0, .int .u8 0, .int .u8 0, .int .u8 0, .int .u8 0, .int .u8 0, .int .u8 0, .int .u8 0, .int .u8 0, .int .u8 0, .int .u8 0, .int .u8 0, .int .u8 0, .int .u8 0, .int .u8 0, .int .u64 0, .int .u32 0, .int .u32 0, .int .i64 0, .int .i64 0], .agg #[.bool false, .bool false], .slice none 0 0], []⟩ 8 (by kernel_rfl) (by kernel_rfl) (by kernel_rfl) (by kernel_rfl)) ?_
  intro W base args ds gs before hval0 hW _ hsz0 _
  have hsz : (DataW.weightsEach Try.prog (Try.f4.params.toList ++ Rows.flowTypedSpec.plain.varTypes Try.prog) (ds ++ gs)).all (· ≤ reachBytes) = true := hsz0
  clear hsz0
  have hval : ∀ (j : Nat) t v, Try.f4.params[j]? = some t → args[j]? = some v → Value.okWide Try.prog W .any base t v := hval0
  have hW' := hW
  obtain ⟨p, q, hA0, hV, rfl, _, _⟩ := hW
  have hA : DataW.TrodAll enc Try.prog W 0 (fun _ => true) true Try.f4.params.toList args.toList ds p := hA0
  rw [Try.params4] at hA hval hsz
  obtain ⟨rfl, rfl⟩ := trodVars_none hV
  have hkeep := hA
  have hlt : ∀ x ∈ p, x.block < W.heap.size := fun x hx => hW'.lt x (by simpa using hx)
  clear hA0 hval0
  obtain ⟨v0, vs0, d0, ds0, p0, q0, hargs, rfl, rfl, h0, r0⟩ := trodAll_cons hA
  obtain ⟨v1, vs1, d1, ds1, p1, q1, rfl, rfl, rfl, h1, r1⟩ := trodAll_cons r0
  obtain ⟨v2, vs2, d2, ds2, p2, q2, rfl, rfl, rfl, h2, r2⟩ := trodAll_cons r1
  obtain ⟨rfl, rfl, rfl⟩ := trodAll_nil r2
  obtain rfl : args = #[v0, v1, v2] := by cases args; simp_all
  simp only [List.cons_append, List.nil_append, DataW.weightsEach, List.all_append, Bool.and_eq_true] at hsz
  obtain ⟨t, rfl, ht⟩ := open_tm (hval 0 26 v0 rfl rfl) h0 hsz.1
  obtain ⟨a, b, rfl⟩ := open_flow (hval 1 28 v1 rfl rfl) h1 hsz.2.1
  obtain ⟨xs, hx, bx⟩ := open_bytes1 Try.underlying38 Try.underlying5 (by kernel_rfl) (hval 2 38 v2 rfl rfl) h2
  clear bx
  refine (flowTyped_walk t a b v2 xs W ht hx).mono fun e W' ⟨he, hE⟩ => ?_
  subst he
  exact ⟨_, rfl, _, _, _, [], _, [], hW', trodAll_mk1 (shut_bool Try.underlying4 _), trodAll_stays (by kernel_rfl) (by kernel_rfl) hkeep hE hlt, rfl, hE.frame _, fun h => by cases h⟩
/-- THE STATEMENT -/
theorem flowTyped_holds : Rows.FlowTypedSaid :=
  OpenClaim.holds_of_wide 4 Try.f4 rfl rfl rfl rfl rfl rfl rfl ⟨rfl, rfl, rfl, rfl, rfl⟩ rfl rfl rfl rfl rfl (by kernel_rfl) Try.func4 (by kernel_rfl)
    (of_decide_eq_true (by kernel_rfl)) (by unfold Func.isWrapper; first | (rw [if_pos (by decide +kernel)]; kernel_rfl) | (rw [if_neg (by decide +kernel)]; exact ⟨rfl, rfl⟩))
    (fun os started H enc _ => flowTyped_lifted os started H enc)
end Go.Proofs.Ytiknogkopfhoiaa
