/- EchoParts: for every argument the law answers true, and leaves its arguments as they were. No condition. -/
import Derived.Test.YtjgheofaflgagaaJ11
import Derived.Test.YtjgheofaflgagaaMoO
import Derived.Test.YtjgheofaflgagaaFld
namespace Go.Proofs.Ytjgheofaflgagaa
open Go.RowKit Go.Kb Go.ChangeShapes Go.WideShapes Go.ChangeAt

theorem u16_bd {n : Int} (h : (Lit.int .u16 n).wf = true) : 0 ≤ n ∧ n ≤ 65535 := by
  simpa [Lit.wf, IntKind.min, IntKind.max, IntKind.signed, IntKind.bits] using h
theorem open_parts {H : Type} {enc : TypeId × Value → H} {W : World} {v : Value} {d : DataW H} {p : List MemPlace} {r : Reach} {b0 : Nat}
    (hok : Value.okWide Try.prog W r b0 40 v) (h : DataW.Trod enc Try.prog W 0 (fun _ => true) true 40 v d p) (hw : (d.weights Try.prog 40).all (· ≤ reachBytes) = true) :
    ∃ (t : Tm) (u : Value) (l : List Int) (col i k : Int), v = .agg (tmA t.arr [.int .i64 col, u, .int .u16 i, .int .u16 k]) ∧ t.Ok ∧ RI .u8 W u l ∧ Bs l ∧ (0 ≤ i ∧ i ≤ 65535) ∧ (0 ≤ k ∧ k ≤ 65535) := by
  obtain ⟨cs, rfl, hl, hf⟩ := open_fields Try.underlying40 hok h hw
  have cT : Try.prog.cellsOf 40 = 28 := by kernel_rfl
  rw [cT] at hl
  have f0 : FieldOpens enc Try.prog W cs.toList 26 0 := hf 0 _ rfl
  have f1 : FieldOpens enc Try.prog W cs.toList 3 24 := hf 1 _ rfl
  have f2 : FieldOpens enc Try.prog W cs.toList 27 25 := hf 2 _ rfl
  have f3 : FieldOpens enc Try.prog W cs.toList 38 26 := hf 3 _ rfl
  have f4 : FieldOpens enc Try.prog W cs.toList 38 27 := hf 4 _ rfl
  obtain ⟨t, ⟨ht, _⟩, hok⟩ := f0.opens (opens_tm W) (n := 24) (by kernel_rfl)
  obtain ⟨u, l, hu, hr, hR⟩ := f2.slice (opens_slice Try.underlying27 (by kernel_rfl) (opens_int Try.underlying5)) (by kernel_rfl)
  obtain ⟨col, hcol, _⟩ := f1.int Try.underlying3 (by kernel_rfl)
  obtain ⟨i, hi, hi3⟩ := f3.int Try.underlying38 (by kernel_rfl)
  obtain ⟨k, hk, hk3⟩ := f4.int Try.underlying38 (by kernel_rfl)
  refine ⟨t, u, l, col, i, k, ?_, hok, RdS.ri hr, fun x hx => u8_bd (hR.1 x hx), u16_bd hi3, u16_bd hk3⟩
  congr 1
  refine tmA_eq hl (by rw [List.drop_zero] at ht; exact ht) (Tm.len hok) fun j hj => ?_
  rcases j with _ | _ | _ | _ | j
  · exact hcol
  · exact hu
  · exact hi
  · exact hk
  · simp at hj; omega
set_option maxHeartbeats 800000 in
set_option maxRecDepth 100000 in
theorem echoParts_lifted (os : Os) (started : os.Started) (H : Type) (enc : TypeId × Value → H) :
    ReturnsInHanded {} Try.checked os 5 .any (Rows.echoPartsSpec.pre6 enc Try.prog Try.f5 Rows.echoPartsRow.domain false) (Rows.echoPartsSpec.post enc Try.prog Try.f5 false true false false) := by
  refine returnsInHanded_of_change_sized (C := Try.checked) (by kernel_rfl) started (by kernel_rfl) Try.func5
    (ChangeSpec.witness6 (enc := enc) (C := Try.checked) false ⟨#[], #[.agg #[.int .u8 0, .int .u8 0, .int .u8 0, .int .u8 0, .int .u8 0, .int .u8 0, .int .u8 0, .int .u8 0, .int .u8 0, .int .u8 0, .int .u8 0, .int .u8 0, .int .u8 0, .int .u8 0, .int .u8 0, .int .u8 0, .int .u8 0, .int .u8 0, .int .u8 0, .int .u64 0, .int .u32 0, .int .u32 0, .int .i64 0, .int .i64 0, .int .i64 0, .slice none 0 0, .int .u16 0, .int .u16 0]], []⟩ 8 (by kernel_rfl) (by kernel_rfl) (by kernel_rfl) (by kernel_rfl)) ?_
  intro W base args ds gs before hval0 hW _ hsz0 _
  have hsz : (DataW.weightsEach Try.prog (Try.f5.params.toList ++ Rows.echoPartsSpec.plain.varTypes Try.prog) (ds ++ gs)).all (· ≤ reachBytes) = true := hsz0
  clear hsz0
  have hval : ∀ (j : Nat) t v, Try.f5.params[j]? = some t → args[j]? = some v → Value.okWide Try.prog W .any base t v := hval0
  have hW' := hW
  obtain ⟨p, q, hA0, hV, rfl, _, _⟩ := hW
  have hA : DataW.TrodAll enc Try.prog W 0 (fun _ => true) true Try.f5.params.toList args.toList ds p := hA0
  rw [Try.params5] at hA hval hsz
  obtain ⟨rfl, rfl⟩ := trodVars_none hV
  have hkeep := hA
  have hlt : ∀ x ∈ p, x.block < W.heap.size := fun x hx => hW'.lt x (by simpa using hx)
  clear hA0 hval0
  obtain ⟨v0, vs0, d0, ds0, p0, q0, hargs, rfl, rfl, h0, r0⟩ := trodAll_cons hA
  obtain ⟨rfl, rfl, rfl⟩ := trodAll_nil r0
  obtain rfl : args = #[v0] := by cases args; simp_all
  simp only [List.cons_append, List.nil_append, DataW.weightsEach, List.all_append, Bool.and_eq_true] at hsz
  obtain ⟨t, u, l, col, i, k, rfl, ht, hl, hb, hi, hk⟩ := open_parts (hval 0 40 v0 rfl rfl) h0 hsz.1
  refine (echoParts_walk t col u l i k W ht hl hb hi hk).mono fun e W' ⟨he, hE⟩ => ?_
  subst he
  exact ⟨_, rfl, _, _, _, [], _, [], hW', trodAll_mk1 (shut_bool Try.underlying4 _), trodAll_stays (by kernel_rfl) (by kernel_rfl) hkeep hE hlt, rfl, hE.frame _, fun h => by cases h⟩
/-- THE STATEMENT -/
theorem echoParts_holds : Rows.EchoPartsSaid :=
  OpenClaim.holds_of_wide 5 Try.f5 rfl rfl rfl rfl rfl rfl rfl ⟨rfl, rfl, rfl, rfl, rfl⟩ rfl rfl rfl rfl rfl (by kernel_rfl) Try.func5 (by kernel_rfl)
    (of_decide_eq_true (by kernel_rfl)) (by unfold Func.isWrapper; first | (rw [if_pos (by decide +kernel)]; kernel_rfl) | (rw [if_neg (by decide +kernel)]; exact ⟨rfl, rfl⟩))
    (fun os started H enc _ => echoParts_lifted os started H enc)
end Go.Proofs.Ytjgheofaflgagaa
