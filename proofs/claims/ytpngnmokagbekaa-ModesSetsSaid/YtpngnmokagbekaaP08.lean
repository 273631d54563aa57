/- ModesSets: for every argument the law answers true, and leaves its arguments as they were. No condition. -/
import Derived.Test.YtpngnmokagbekaaO08
import Derived.Test.YtpngnmokagbekaaMoO
import Derived.Test.YtpngnmokagbekaaFld
namespace Go.Proofs.Ytpngnmokagbekaa
open Go.RowKit Go.Kb Go.ChangeShapes Go.WideShapes Go.ChangeAt

theorem open_flagsM {H : Type} {enc : TypeId × Value → H} {W : World} {v : Value} {d : DataW H} {p : List MemPlace} {r : Reach} {b0 : Nat}
    (hok : Value.okWide Try.prog W r b0 50 v) (h : DataW.Trod enc Try.prog W 0 (fun _ => true) true 50 v d p) (hw : (d.weights Try.prog 50).all (· ≤ reachBytes) = true) :
    ∃ (t : Tm) (op q : Int) (on : Bool), v = .agg (tmA t.arr [.int .i64 op, .int .i64 q, .bool on]) ∧ t.Ok := by
  obtain ⟨cs, rfl, hl, hf⟩ := open_fields Try.underlying50 hok h hw
  have cT : Try.prog.cellsOf 50 = 27 := by kernel_rfl
  rw [cT] at hl
  have f0 : FieldOpens enc Try.prog W cs.toList 27 0 := hf 0 _ rfl
  have f1 : FieldOpens enc Try.prog W cs.toList 3 24 := hf 1 _ rfl
  have f2 : FieldOpens enc Try.prog W cs.toList 3 25 := hf 2 _ rfl
  have f3 : FieldOpens enc Try.prog W cs.toList 4 26 := hf 3 _ rfl
  obtain ⟨t, ⟨ht, _⟩, hok⟩ := f0.opens (opens_tm W) (n := 24) (by kernel_rfl)
  obtain ⟨op, hop, _⟩ := f1.int Try.underlying3 (by kernel_rfl)
  obtain ⟨q, hq, _⟩ := f2.int Try.underlying3 (by kernel_rfl)
  obtain ⟨on, hon⟩ := f3.bool Try.underlying4 (by kernel_rfl)
  refine ⟨t, op, q, on, ?_, hok⟩
  congr 1
  refine tmA_eq hl (by rw [List.drop_zero] at ht; exact ht) (Tm.len hok) fun k hk => ?_
  rcases k with _ | _ | _ | k
  · exact hop
  · exact hq
  · exact hon
  · simp at hk; omega
set_option maxHeartbeats 800000 in
set_option maxRecDepth 100000 in
theorem modesSets_lifted (os : Os) (started : os.Started) (H : Type) (enc : TypeId × Value → H) :
    ReturnsInHanded {} Try.checked os 6 .any (Rows.modesSetsSpec.pre6 enc Try.prog Try.f6 Rows.modesSetsRow.domain false) (Rows.modesSetsSpec.post enc Try.prog Try.f6 false true false false) := by
  refine returnsInHanded_of_change_sized (C := Try.checked) (by kernel_rfl) started (by kernel_rfl) Try.func6
    (ChangeSpec.witness6 (enc := enc) (C := Try.checked) false ⟨#[], #[.agg #[.int .u8 0, .int .u8 0, .int .u8 0, .int .u8 0, .int .u8 0, .int .u8 0, .int .u8 0, .int .u8 0, .int .u8 0, .int .u8 0, .int .u8 0, .int .u8 0, .int .u8 0, .int .u8 0, .int .u8 0, .int .u8 0, .int .u8 0, .int .u8 0, .int .u8 0, .int .u64 0, .int .u32 0, .int .u32 0, .int .i64 0, .int .i64 0, .int .i64 0, .int .i64 0, .bool false]], []⟩ 8 (by kernel_rfl) (by kernel_rfl) (by kernel_rfl) (by kernel_rfl)) ?_
  intro W base args ds gs before hval0 hW _ hsz0 _
  have hsz : (DataW.weightsEach Try.prog (Try.f6.params.toList ++ Rows.modesSetsSpec.plain.varTypes Try.prog) (ds ++ gs)).all (· ≤ reachBytes) = true := hsz0
  clear hsz0
  have hval : ∀ (j : Nat) t v, Try.f6.params[j]? = some t → args[j]? = some v → Value.okWide Try.prog W .any base t v := hval0
  have hW' := hW
  obtain ⟨p, q, hA0, hV, rfl, _, _⟩ := hW
  have hA : DataW.TrodAll enc Try.prog W 0 (fun _ => true) true Try.f6.params.toList args.toList ds p := hA0
  rw [Try.params6] at hA hval hsz
  obtain ⟨rfl, rfl⟩ := trodVars_none hV
  have hkeep := hA
  have hlt : ∀ x ∈ p, x.block < W.heap.size := fun x hx => hW'.lt x (by simpa using hx)
  clear hA0 hval0
  obtain ⟨v0, vs0, d0, ds0, p0, q0, hargs, rfl, rfl, h0, r0⟩ := trodAll_cons hA
  obtain ⟨rfl, rfl, rfl⟩ := trodAll_nil r0
  obtain rfl : args = #[v0] := by cases args; simp_all
  simp only [List.cons_append, List.nil_append, DataW.weightsEach, List.all_append, Bool.and_eq_true] at hsz
  obtain ⟨t, op, q, on, rfl, ht⟩ := open_flagsM (hval 0 50 v0 rfl rfl) h0 hsz.1
  refine (modesSets_walk t op q on W ht).mono fun e W' ⟨he, hE⟩ => ?_
  subst he
  exact ⟨_, rfl, _, _, _, [], _, [], hW', trodAll_mk1 (shut_bool Try.underlying4 _), trodAll_stays (by kernel_rfl) (by kernel_rfl) hkeep hE hlt, rfl, hE.frame _, fun h => by cases h⟩
/-- THE STATEMENT -/
theorem modesSets_holds : Rows.ModesSetsSaid :=
  OpenClaim.holds_of_wide 6 Try.f6 rfl rfl rfl rfl rfl rfl rfl ⟨rfl, rfl, rfl, rfl, rfl⟩ rfl rfl rfl rfl rfl (by kernel_rfl) Try.func6 (by kernel_rfl)
    (of_decide_eq_true (by kernel_rfl)) (by unfold Func.isWrapper; first | (rw [if_pos (by decide +kernel)]; kernel_rfl) | (rw [if_neg (by decide +kernel)]; exact ⟨rfl, rfl⟩))
    (fun os started H enc _ => modesSets_lifted os started H enc)
end Go.Proofs.Ytpngnmokagbekaa
