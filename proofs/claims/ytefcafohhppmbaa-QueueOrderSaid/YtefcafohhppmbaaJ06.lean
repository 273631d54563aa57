/- The arguments of the laws of queues opened: a queue's measures, steps. QueueTwo: for every argument the law answers true, and leaves its arguments as they were. No condition. -/
import Derived.Test.YtefcafohhppmbaaI06
import Derived.Test.YtefcafohhppmbaaFld
namespace Go.Proofs.Ytefcafohhppmbaa
open Go.RowKit Go.Kb Go.ChangeShapes Go.WideShapes Go.ChangeAt Go.Deep

theorem open_conf {H : Type} {enc : TypeId × Value → H} {W : World} {v : Value} {d : DataW H} {p : List MemPlace} {r : Reach} {b0 : Nat}
    (hok : Value.okWide Try.prog W r b0 23 v) (h : DataW.Trod enc Try.prog W 0 (fun _ => true) true 23 v d p) (hw : (d.weights Try.prog 23).all (· ≤ reachBytes) = true) :
    ∃ B R H L : Int, v = .agg #[.int .i64 B, .int .i64 R, .int .i64 H, .int .i64 L] := by
  obtain ⟨cs, rfl, hl, hf⟩ := open_fields Try.underlying23 hok h hw
  have cT : Try.prog.cellsOf 23 = 4 := by kernel_rfl
  rw [cT] at hl
  have f0 : FieldOpens enc Try.prog W cs.toList 3 0 := hf 0 _ rfl
  have f1 : FieldOpens enc Try.prog W cs.toList 3 1 := hf 1 _ rfl
  have f2 : FieldOpens enc Try.prog W cs.toList 3 2 := hf 2 _ rfl
  have f3 : FieldOpens enc Try.prog W cs.toList 3 3 := hf 3 _ rfl
  obtain ⟨B, hB, _⟩ := f0.int Try.underlying3 (by kernel_rfl)
  obtain ⟨R, hR, _⟩ := f1.int Try.underlying3 (by kernel_rfl)
  obtain ⟨H, hH, _⟩ := f2.int Try.underlying3 (by kernel_rfl)
  obtain ⟨L, hL, _⟩ := f3.int Try.underlying3 (by kernel_rfl)
  refine ⟨B, R, H, L, ?_⟩
  congr 1
  obtain ⟨l⟩ := cs
  simp only [List.size_toArray] at hl
  match l, hl with
  | [a0, a1, a2, a3], _ =>
    simp at hB hR hH hL
    subst hB hR hH hL
    rfl
def OpsOk (l : List Opn) : Prop := l.length ≤ 10000000000000 ∧ ∀ x ∈ l, x.2.length ≤ 140737488355328
theorem open_ops {H : Type} {enc : TypeId × Value → H} {W : World} {v : Value} {d : DataW H} {p : List MemPlace} {r : Reach} {b0 : Nat}
    (hok : Value.okWide Try.prog W r b0 24 v) (h : DataW.Trod enc Try.prog W 0 (fun _ => true) true 24 v d p) (hw : (d.weights Try.prog 24).all (· ≤ reachBytes) = true) :
    ∃ l : List Opn, RdS Po (fun _ => True) W v l ∧ OpsOk l := by
  have b8 : Try.prog.bytesOf 5 = 1 := by kernel_rfl
  have bO : Try.prog.bytesOf 36 = 32 := by kernel_rfl
  have hO : Opens enc Try.prog W 36 Po (fun d => (Lit.int .i64 d.1).wf = true ∧ ((∀ x ∈ d.2, (Lit.int .u8 x).wf = true) ∧ d.2.length * Try.prog.bytesOf 5 ≤ 140737488351232)) :=
    opens_pair Try.underlying36 rfl rfl (by kernel_rfl) (by kernel_rfl) (by kernel_rfl) (opens_int Try.underlying3) (opens_slice Try.underlying34 (by kernel_rfl) (opens_int Try.underlying5))
  obtain ⟨l, hl, hR, hn⟩ := Opens.slice (opens_slice Try.underlying24 (by kernel_rfl) hO) Try.underlying24 hok h hw
  rw [bO] at hn
  refine ⟨l, hl, by omega, fun x hx => ?_⟩
  have := (hR x hx).2.2
  rw [b8] at this
  omega
set_option maxHeartbeats 800000 in
set_option maxRecDepth 100000 in
theorem queueTwo_lifted (os : Os) (started : os.Started) (H : Type) (enc : TypeId × Value → H) :
    ReturnsInHanded {} Try.checked os 6 .any (Rows.queueTwoSpec.pre6 enc Try.prog Try.f6 Rows.queueTwoRow.domain false) (Rows.queueTwoSpec.post enc Try.prog Try.f6 false true false false) := by
  refine returnsInHanded_of_change_sized (C := Try.checked) (by kernel_rfl) started (by kernel_rfl) Try.func6
    (ChangeSpec.witness6 (enc := enc) (C := Try.checked) false ⟨#[], #[.agg #[.int .i64 0, .int .i64 0, .int .i64 0, .int .i64 0], .slice none 0 0, .slice none 0 0], []⟩ 8 (by kernel_rfl) (by kernel_rfl) (by kernel_rfl) (by kernel_rfl)) ?_
  intro W base args ds gs before hval0 hW _ hsz0 _
  have hsz : (DataW.weightsEach Try.prog (Try.f6.params.toList ++ Rows.queueTwoSpec.plain.varTypes Try.prog) (ds ++ gs)).all (· ≤ reachBytes) = true := hsz0
  clear hsz0
  have hval : ∀ (j : Nat) t v, Try.f6.params[j]? = some t → args[j]? = some v → Value.okWide Try.prog W .any base t v := hval0
  have hW' := hW
  obtain ⟨p, q, hA0, hV, rfl, _, _⟩ := hW
  have hA : DataW.TrodAll enc Try.prog W 0 (fun _ => true) true Try.f6.params.toList args.toList ds p := hA0
  rw [Try.params6] at hA hval hsz
  obtain ⟨rfl, rfl⟩ := trodVars_none hV
  have hkeep := hA
  have hlt : ∀ x ∈ p, x.block < W.heap.size := fun x hx => hW'.lt x (by simpa using hx)
  clear hA0 hval0
  obtain ⟨v0, vs0, d0, ds0, p0, q0, hargs, rfl, rfl, h0, r0⟩ := trodAll_cons hA
  obtain ⟨v1, vs1, d1, ds1, p1, q1, rfl, rfl, rfl, h1, r1⟩ := trodAll_cons r0
  obtain ⟨v2, vs2, d2, ds2, p2, q2, rfl, rfl, rfl, h2, r2⟩ := trodAll_cons r1
  obtain ⟨rfl, rfl, rfl⟩ := trodAll_nil r2
  obtain rfl : args = #[v0, v1, v2] := by cases args; simp_all
  simp only [List.cons_append, List.nil_append, DataW.weightsEach, List.all_append, Bool.and_eq_true] at hsz
  obtain ⟨B, R, H', L, rfl⟩ := open_conf (hval 0 23 v0 rfl rfl) h0 hsz.1
  obtain ⟨l, hl, ho⟩ := open_ops (hval 1 24 v1 rfl rfl) h1 hsz.2.1
  obtain ⟨t, ht, _⟩ := Opens.slice (opens_slice Try.underlying49 (by kernel_rfl) (opens_bool Try.underlying4)) Try.underlying49 (hval 2 49 v2 rfl rfl) h2 hsz.2.2.1
  refine (queueTwo_walk B R H' L v1 v2 l t W hl ht ho.1 ho.2).mono fun e W' ⟨he, hE⟩ => ?_
  subst he
  exact ⟨_, rfl, _, _, _, [], _, [], hW', trodAll_mk1 (shut_bool Try.underlying4 _), trodAll_stays (by kernel_rfl) (by kernel_rfl) hkeep hE hlt, rfl, hE.frame _, fun h => by cases h⟩
/-- THE STATEMENT -/
theorem queueTwo_holds : Rows.QueueTwoSaid :=
  OpenClaim.holds_of_wide 6 Try.f6 rfl rfl rfl rfl rfl rfl rfl ⟨rfl, rfl, rfl, rfl, rfl⟩ rfl rfl rfl rfl rfl (by kernel_rfl) Try.func6 (by kernel_rfl)
    (of_decide_eq_true (by kernel_rfl)) (by unfold Func.isWrapper; first | (rw [if_pos (by decide +kernel)]; kernel_rfl) | (rw [if_neg (by decide +kernel)]; exact ⟨rfl, rfl⟩))
    (fun os started H enc _ => queueTwo_lifted os started H enc)
end Go.Proofs.Ytefcafohhppmbaa
