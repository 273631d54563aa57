/- JobsAccess: for every argument the law answers true, and leaves its arguments as they were. No condition. -/
import Derived.Test.YtcncacllaonplaaRows
import Derived.Test.YtcncacllaonplaaEA22
namespace Go.Proofs.Ytcncacllaonplaa
open Go.RowKit Go.Kb Go.ChangeShapes Go.WideShapes Go.ChangeAt Go.Deep

set_option maxRecDepth 100000 in
theorem open_world {H : Type} {enc : TypeId × Value → H} {W : World} {v : Value} {d : DataW H} {p : List MemPlace} {r : Reach} {b0 : Nat}
    (hok : Value.okWide Try.prog W r b0 24 v) (h : DataW.Trod enc Try.prog W 0 (fun _ => true) true 24 v d p) (hw : (d.weights Try.prog 24).all (· ≤ reachBytes) = true) :
    ∃ (Ad : Option Addr) (c : Nat) (l : List Pr) (nx s g0 : Int) (ts : Bool) (pid g : Int) (wr : Bool), v = .agg #[.slice Ad l.length c, .int .i64 nx, .int .i64 s, .int .i64 g0, .bool ts, .int .i64 pid, .int .i64 g, .bool wr] ∧ RdY Rp (fun _ => True) W (.slice Ad l.length c) l ∧ (∀ p ∈ l, p.wf) := by
  obtain ⟨cs, rfl, hl, hf⟩ := open_fields Try.underlying24 hok h hw
  have cT : Try.prog.cellsOf 24 = 8 := by kernel_rfl
  rw [cT] at hl
  have f0 : FieldOpens enc Try.prog W cs.toList 22 0 := hf 0 _ rfl
  have f1 : FieldOpens enc Try.prog W cs.toList 3 1 := hf 1 _ rfl
  have f2 : FieldOpens enc Try.prog W cs.toList 3 2 := hf 2 _ rfl
  have f3 : FieldOpens enc Try.prog W cs.toList 3 3 := hf 3 _ rfl
  have f4 : FieldOpens enc Try.prog W cs.toList 4 4 := hf 4 _ rfl
  have f5 : FieldOpens enc Try.prog W cs.toList 3 5 := hf 5 _ rfl
  have f6 : FieldOpens enc Try.prog W cs.toList 3 6 := hf 6 _ rfl
  have f7 : FieldOpens enc Try.prog W cs.toList 4 7 := hf 7 _ rfl
  obtain ⟨v, l, hv, hr, hR⟩ := f0.slice (opens_slice Try.underlying22 (by kernel_rfl) (opens_proc W)) (by kernel_rfl)
  obtain ⟨nx, h1, _⟩ := f1.int Try.underlying3 (by kernel_rfl)
  obtain ⟨s, h2, _⟩ := f2.int Try.underlying3 (by kernel_rfl)
  obtain ⟨g0, h3, _⟩ := f3.int Try.underlying3 (by kernel_rfl)
  obtain ⟨ts, h4⟩ := f4.bool Try.underlying4 (by kernel_rfl)
  obtain ⟨pid, h5, _⟩ := f5.int Try.underlying3 (by kernel_rfl)
  obtain ⟨g, h6, _⟩ := f6.int Try.underlying3 (by kernel_rfl)
  obtain ⟨wr, h7⟩ := f7.bool Try.underlying4 (by kernel_rfl)
  obtain ⟨Ad, c, rfl, _, _⟩ := hr.shape
  refine ⟨Ad, c, l, nx, s, g0, ts, pid, g, wr, ?_, hr.y, hR.1⟩
  show Value.agg cs = Value.agg #[_, _, _, _, _, _, _, _]
  congr 1
  obtain ⟨k⟩ := cs
  simp only [List.size_toArray] at hl
  match k, hl with
  | [a0, a1, a2, a3, a4, a5, a6, a7], _ =>
    simp at hv h1 h2 h3 h4 h5 h6 h7
    subst hv h1 h2 h3 h4 h5 h6 h7
    rfl
theorem masks {l : List Pr} (h : ∀ p ∈ l, p.wf) : ∀ p ∈ l, Sig.U64 p.mask := fun p hp => by
  have := (h p hp).2.2.2.2.2.2.2.2.1
  simp [Lit.wf] at this
  have h1 : IntKind.u64.min = 0 := rfl
  have h2 : IntKind.u64.max = 18446744073709551615 := rfl
  rw [h1, h2] at this
  exact ⟨this.1, by omega⟩
theorem pends {l : List Pr} (h : ∀ p ∈ l, p.wf) : ∀ p ∈ l, Sig.U64 p.pending := fun p hp => by
  have := (h p hp).2.2.2.2.2.2.2.1
  simp [Lit.wf] at this
  have h1 : IntKind.u64.min = 0 := rfl
  have h2 : IntKind.u64.max = 18446744073709551615 := rfl
  rw [h1, h2] at this
  exact ⟨this.1, by omega⟩
set_option maxHeartbeats 800000 in
set_option maxRecDepth 100000 in
theorem jobsAccess_lifted (os : Os) (started : os.Started) (H : Type) (enc : TypeId × Value → H) :
    ReturnsInHanded {} Try.checked os 4 .any (Rows.jobsAccessSpec.pre6 enc Try.prog Try.f4 Rows.jobsAccessRow.domain false) (Rows.jobsAccessSpec.post enc Try.prog Try.f4 false true false false) := by
  refine returnsInHanded_of_change_sized (C := Try.checked) (by kernel_rfl) started (by kernel_rfl) Try.func4
    (ChangeSpec.witness6 (enc := enc) (C := Try.checked) false ⟨#[], #[.agg #[.slice none 0 0, .int .i64 0, .int .i64 0, .int .i64 0, .bool false, .int .i64 0, .int .i64 0, .bool false]], []⟩ 8 (by kernel_rfl) (by kernel_rfl) (by kernel_rfl) (by kernel_rfl)) ?_
  intro W base args ds gs before hval0 hW _ hsz0 _
  have hsz : (DataW.weightsEach Try.prog (Try.f4.params.toList ++ Rows.jobsAccessSpec.plain.varTypes Try.prog) (ds ++ gs)).all (· ≤ reachBytes) = true := hsz0
  clear hsz0
  have hval : ∀ (j : Nat) t v, Try.f4.params[j]? = some t → args[j]? = some v → Value.okWide Try.prog W .any base t v := hval0
  have hW' := hW
  obtain ⟨p, q, hA0, hV, rfl, _, _⟩ := hW
  have hA : DataW.TrodAll enc Try.prog W 0 (fun _ => true) true Try.f4.params.toList args.toList ds p := hA0
  rw [Try.params4] at hA hval hsz
  obtain ⟨rfl, rfl⟩ := trodVars_none hV
  have hkeep := hA
  have hlt : ∀ x ∈ p, x.block < W.heap.size := fun x hx => hW'.lt x (by simpa using hx)
  clear hA0 hval0
  obtain ⟨v0, vs0, d0, ds0, p0, q0, hargs, rfl, rfl, h0, r0⟩ := trodAll_cons hA
  obtain ⟨rfl, rfl, rfl⟩ := trodAll_nil r0
  obtain rfl : args = #[v0] := by cases args; simp_all
  simp only [List.cons_append, List.nil_append, DataW.weightsEach, List.all_append, Bool.and_eq_true] at hsz
  obtain ⟨Ad, c, l, nx, s, g0, ts, pid, g, wr, rfl, hl, hwf⟩ := open_world (hval 0 24 v0 rfl rfl) h0 hsz.1
  refine (jobsAccess_walk Ad c l nx s g0 ts pid g wr W hl (masks hwf) (pends hwf) hwf).mono fun e W' ⟨he, hE⟩ => ?_
  subst he
  exact ⟨_, rfl, _, _, _, [], _, [], hW', trodAll_mk1 (shut_bool Try.underlying4 _), trodAll_stays (by kernel_rfl) (by kernel_rfl) hkeep hE hlt, rfl, hE.frame _, fun h => by cases h⟩
/-- THE STATEMENT -/
theorem jobsAccess_holds : Rows.JobsAccessSaid :=
  OpenClaim.holds_of_wide 4 Try.f4 rfl rfl rfl rfl rfl rfl rfl ⟨rfl, rfl, rfl, rfl, rfl⟩ rfl rfl rfl rfl rfl (by kernel_rfl) Try.func4 (by kernel_rfl)
    (of_decide_eq_true (by kernel_rfl)) (by unfold Func.isWrapper; first | (rw [if_pos (by decide +kernel)]; kernel_rfl) | (rw [if_neg (by decide +kernel)]; exact ⟨rfl, rfl⟩))
    (fun os started H enc _ => jobsAccess_lifted os started H enc)
end Go.Proofs.Ytcncacllaonplaa
