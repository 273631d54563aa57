/- ModesAsks: for every argument the law answers true, and leaves its arguments as they were. No condition. -/
import Derived.Test.YtpngnmokagbekaaM08
import Derived.Test.YtpngnmokagbekaaMoO
import Derived.Test.YtpngnmokagbekaaFld
namespace Go.Proofs.Ytpngnmokagbekaa
open Go.RowKit Go.Kb Go.ChangeShapes Go.WideShapes Go.ChangeAt

theorem open_askedM {H : Type} {enc : TypeId × Value → H} {W : World} {v : Value} {d : DataW H} {p : List MemPlace} {r : Reach} {b0 : Nat}
    (hok : Value.okWide Try.prog W r b0 37 v) (h : DataW.Trod enc Try.prog W 0 (fun _ => true) true 37 v d p) (hw : (d.weights Try.prog 37).all (· ≤ reachBytes) = true) :
    ∃ (t : Tm) (op c : Int) (on : Bool), v = .agg (tmA t.arr [.int .i64 op, .bool on, .int .u8 c]) ∧ t.Ok := by
  obtain ⟨cs, rfl, hl, hf⟩ := open_fields Try.underlying37 hok h hw
  have cT : Try.prog.cellsOf 37 = 27 := by kernel_rfl
  rw [cT] at hl
  have f0 : FieldOpens enc Try.prog W cs.toList 27 0 := hf 0 _ rfl
  have f1 : FieldOpens enc Try.prog W cs.toList 3 24 := hf 1 _ rfl
  have f2 : FieldOpens enc Try.prog W cs.toList 4 25 := hf 2 _ rfl
  have f3 : FieldOpens enc Try.prog W cs.toList 5 26 := hf 3 _ rfl
  obtain ⟨t, ⟨ht, _⟩, hok⟩ := f0.opens (opens_tm W) (n := 24) (by kernel_rfl)
  obtain ⟨op, hop, _⟩ := f1.int Try.underlying3 (by kernel_rfl)
  obtain ⟨on, hon⟩ := f2.bool Try.underlying4 (by kernel_rfl)
  obtain ⟨c, hc, _⟩ := f3.int Try.underlying5 (by kernel_rfl)
  refine ⟨t, op, c, on, ?_, hok⟩
  congr 1
  refine tmA_eq hl (by rw [List.drop_zero] at ht; exact ht) (Tm.len hok) fun k hk => ?_
  rcases k with _ | _ | _ | k
  · exact hop
  · exact hon
  · exact hc
  · simp at hk; omega
set_option maxHeartbeats 800000 in
set_option maxRecDepth 100000 in
theorem modesAsks_lifted (os : Os) (started : os.Started) (H : Type) (enc : TypeId × Value → H) :
    ReturnsInHanded {} Try.checked os 4 .any (Rows.modesAsksSpec.pre6 enc Try.prog Try.f4 Rows.modesAsksRow.domain false) (Rows.modesAsksSpec.post enc Try.prog Try.f4 false true false false) := by
  refine returnsInHanded_of_change_sized (C := Try.checked) (by kernel_rfl) started (by kernel_rfl) Try.func4
    (ChangeSpec.witness6 (enc := enc) (C := Try.checked) false ⟨#[], #[.agg #[.int .u8 0, .int .u8 0, .int .u8 0, .int .u8 0, .int .u8 0, .int .u8 0, .int .u8 0, .int .u8 0, .int .u8 0, .int .u8 0, .int .u8 0, .int .u8 0, .int .u8 0, .int .u8 0, .int .u8 0, .int .u8 0, .int .u8 0, .int .u8 0, .int .u8 0, .int .u64 0, .int .u32 0, .int .u32 0, .int .i64 0, .int .i64 0, .int .i64 0, .bool false, .int .u8 0]], []⟩ 8 (by kernel_rfl) (by kernel_rfl) (by kernel_rfl) (by kernel_rfl)) ?_
  intro W base args ds gs before hval0 hW _ hsz0 _
  have hsz : (DataW.weightsEach Try.prog (Try.f4.params.toList ++ Rows.modesAsksSpec.plain.varTypes Try.prog) (ds ++ gs)).all (· ≤ reachBytes) = true := hsz0
  clear hsz0
  have hval : ∀ (j : Nat) t v, Try.f4.params[j]? = some t → args[j]? = some v → Value.okWide Try.prog W .any base t v := hval0
  have hW' := hW
  obtain ⟨p, q, hA0, hV, rfl, _, _⟩ := hW
  have hA : DataW.TrodAll enc Try.prog W 0 (fun _ => true) true Try.f4.params.toList args.toList ds p := hA0
  rw [Try.params4] at hA hval hsz
  obtain ⟨rfl, rfl⟩ := trodVars_none hV
  have hkeep := hA
  have hlt : ∀ x ∈ p, x.block < W.heap.size := fun x hx => hW'.lt x (by simpa using hx)
  clear hA0 hval0
  obtain ⟨v0, vs0, d0, ds0, p0, q0, hargs, rfl, rfl, h0, r0⟩ := trodAll_cons hA
  obtain ⟨rfl, rfl, rfl⟩ := trodAll_nil r0
  obtain rfl : args = #[v0] := by cases args; simp_all
  simp only [List.cons_append, List.nil_append, DataW.weightsEach, List.all_append, Bool.and_eq_true] at hsz
  obtain ⟨t, op, c, on, rfl, ht⟩ := open_askedM (hval 0 37 v0 rfl rfl) h0 hsz.1
  refine (modesAsks_walk t op c on W ht).mono fun e W' ⟨he, hE⟩ => ?_
  subst he
  exact ⟨_, rfl, _, _, _, [], _, [], hW', trodAll_mk1 (shut_bool Try.underlying4 _), trodAll_stays (by kernel_rfl) (by kernel_rfl) hkeep hE hlt, rfl, hE.frame _, fun h => by cases h⟩
/-- THE STATEMENT -/
theorem modesAsks_holds : Rows.ModesAsksSaid :=
  OpenClaim.holds_of_wide 4 Try.f4 rfl rfl rfl rfl rfl rfl rfl ⟨rfl, rfl, rfl, rfl, rfl⟩ rfl rfl rfl rfl rfl (by kernel_rfl) Try.func4 (by kernel_rfl)
    (of_decide_eq_true (by kernel_rfl)) (by unfold Func.isWrapper; first | (rw [if_pos (by decide +kernel)]; kernel_rfl) | (rw [if_neg (by decide +kernel)]; exact ⟨rfl, rfl⟩))
    (fun os started H enc _ => modesAsks_lifted os started H enc)
end Go.Proofs.Ytpngnmokagbekaa
