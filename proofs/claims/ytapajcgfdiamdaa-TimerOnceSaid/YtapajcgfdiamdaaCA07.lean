/- TimerOnce: for every argument the law answers true, and leaves its arguments as they were. No condition. -/
import Derived.Test.YtapajcgfdiamdaaRows
import Derived.Test.YtapajcgfdiamdaaBA07
import Derived.Test.YtapajcgfdiamdaaOpen
import Derived.Test.YtapajcgfdiamdaaFrame
namespace Go.Proofs.Ytapajcgfdiamdaa
open Go.RowKit Go.Kb Go.ChangeShapes Go.WideShapes Go.ChangeAt Go.Deep

set_option maxRecDepth 100000 in
theorem opens_op {H : Type} {enc : TypeId × Value → H} (W : World) : Opens enc Try.prog W 31 Rep.op3 (fun d => (Lit.int .i64 d.2.1).wf = true ∧ (Lit.int .i64 d.2.2).wf = true) := by
  intro fuel cs x h _
  obtain ⟨xs, n, rfl, rfl, hl, hxl, hf⟩ := DataW.trod_struct Try.underlying31 h
  have cT : Try.prog.cellsOf 31 = 3 := by kernel_rfl
  have cI : Try.prog.cellsOf 3 = 1 := by kernel_rfl
  have cJ : Try.prog.cellsOf 2 = 1 := by kernel_rfl
  have e0 : DataW.trod enc Try.prog W 0 (fun _ => true) true n 3 ((cs.drop 0).take (Try.prog.cellsOf 3)) = _ := hf 0 _ rfl
  have e1 : DataW.trod enc Try.prog W 0 (fun _ => true) true n 3 ((cs.drop 1).take (Try.prog.cellsOf 3)) = _ := hf 1 _ rfl
  have e2 : DataW.trod enc Try.prog W 0 (fun _ => true) true n 2 ((cs.drop 2).take (Try.prog.cellsOf 2)) = _ := hf 2 _ rfl
  rw [cI] at e0 e1
  rw [cJ] at e2
  match xs, hxl with
  | [a0, a1, a2], _ =>
    rw [cT] at hl
    obtain ⟨f0, g0, _, _⟩ := DataW.trod_int Try.underlying3 e0
    obtain ⟨f1, g1, _, w1⟩ := DataW.trod_int Try.underlying3 e1
    obtain ⟨f2, g2, _, w2⟩ := DataW.trod_int Try.underlying2 e2
    refine ⟨(f0, f1, f2), ?_, w1, w2⟩
    show cs = _
    match cs, hl with
    | [x0, x1, x2], _ =>
      simp at g0 g1 g2
      rw [g0, g1, g2]
set_option maxHeartbeats 800000 in
set_option maxRecDepth 100000 in
theorem timerOnce_lifted (os : Os) (started : os.Started) (H : Type) (enc : TypeId × Value → H) :
    ReturnsInHanded {} Try.checked os 4 .any (Rows.timerOnceSpec.pre6 enc Try.prog Try.f4 Rows.timerOnceRow.domain false) (Rows.timerOnceSpec.post enc Try.prog Try.f4 false true false false) := by
  refine returnsInHanded_of_change_sized (C := Try.checked) (by kernel_rfl) started (by kernel_rfl) Try.func4
    (ChangeSpec.witness6 (enc := enc) (C := Try.checked) false ⟨#[], #[.slice none 0 0], []⟩ 8 (by kernel_rfl) (by kernel_rfl) (by kernel_rfl) (by kernel_rfl)) ?_
  intro W base args ds gs before hval0 hW _ hsz0 _
  have hsz : (DataW.weightsEach Try.prog (Try.f4.params.toList ++ Rows.timerOnceSpec.plain.varTypes Try.prog) (ds ++ gs)).all (· ≤ reachBytes) = true := hsz0
  clear hsz0
  have hval : ∀ (j : Nat) t v, Try.f4.params[j]? = some t → args[j]? = some v → Value.okWide Try.prog W .any base t v := hval0
  have hW' := hW
  obtain ⟨p, q, hA0, hV, rfl, _, _⟩ := hW
  have hA : DataW.TrodAll enc Try.prog W 0 (fun _ => true) true Try.f4.params.toList args.toList ds p := hA0
  rw [Try.params4] at hA hval hsz
  obtain ⟨rfl, rfl⟩ := trodVars_none hV
  have hkeep := hA
  have hlt : ∀ x ∈ p, x.block < W.heap.size := fun x hx => hW'.lt x (by simpa using hx)
  clear hA0 hval0
  obtain ⟨v0, vs0, d0, ds0, p0, q0, hargs, rfl, rfl, h0, r0⟩ := trodAll_cons hA
  obtain ⟨rfl, rfl, rfl⟩ := trodAll_nil r0
  obtain rfl : args = #[v0] := by cases args; simp_all
  simp only [List.cons_append, List.nil_append, DataW.weightsEach, List.all_append, Bool.and_eq_true] at hsz
  obtain ⟨l, hl, hwf⟩ := Opens.slice (opens_slice Try.underlying22 (by kernel_rfl) (opens_op W)) Try.underlying22 (hval 0 22 v0 rfl rfl) h0 hsz.1
  refine (timerOnce_walk v0 l hwf.1 W hl.y).mono fun e W' ⟨he, hE⟩ => ?_
  subst he
  exact ⟨_, rfl, _, _, _, [], _, [], hW', trodAll_mk1 (shut_bool Try.underlying4 _), trodAll_stays (by kernel_rfl) (by kernel_rfl) hkeep hE hlt, rfl, hE.frame _, fun h => by cases h⟩
/-- THE STATEMENT -/
theorem timerOnce_holds : Rows.TimerOnceSaid :=
  OpenClaim.holds_of_wide 4 Try.f4 rfl rfl rfl rfl rfl rfl rfl ⟨rfl, rfl, rfl, rfl, rfl⟩ rfl rfl rfl rfl rfl (by kernel_rfl) Try.func4 (by kernel_rfl)
    (of_decide_eq_true (by kernel_rfl)) (by unfold Func.isWrapper; first | (rw [if_pos (by decide +kernel)]; kernel_rfl) | (rw [if_neg (by decide +kernel)]; exact ⟨rfl, rfl⟩))
    (fun os started H enc _ => timerOnce_lifted os started H enc)
end Go.Proofs.Ytapajcgfdiamdaa
