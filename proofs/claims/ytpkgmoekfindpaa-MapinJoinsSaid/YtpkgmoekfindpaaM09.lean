/- MapinJoins: for every argument the law answers true, and leaves its arguments as they were. No condition. -/
import Derived.Test.YtpkgmoekfindpaaI09
import Derived.Test.YtpkgmoekfindpaaMoO
import Derived.Test.YtpkgmoekfindpaaFld
namespace Go.Proofs.Ytpkgmoekfindpaa
open Go.RowKit Go.Kb Go.ChangeShapes Go.WideShapes Go.ChangeAt

theorem u16_bd {n : Int} (h : (Lit.int .u16 n).wf = true) : 0 ≤ n ∧ n ≤ 65535 := by
  simpa [Lit.wf, IntKind.min, IntKind.max, IntKind.signed, IntKind.bits] using h
theorem open_cut {H : Type} {enc : TypeId × Value → H} {W : World} {v : Value} {d : DataW H} {p : List MemPlace} {r : Reach} {b0 : Nat}
    (hok : Value.okWide Try.prog W r b0 37 v) (h : DataW.Trod enc Try.prog W 0 (fun _ => true) true 37 v d p) (hw : (d.weights Try.prog 37).all (· ≤ reachBytes) = true) :
    ∃ (t : Tm) (u : Value) (l : List Int) (cut op : Int), v = .agg (tmA t.arr [u, .int .u16 cut, .int .i64 op]) ∧ t.Ok ∧ RI .u8 W u l ∧ Bs l ∧ 0 ≤ cut ∧ cut ≤ 65535 := by
  obtain ⟨cs, rfl, hl, hf⟩ := open_fields Try.underlying37 hok h hw
  have cT : Try.prog.cellsOf 37 = 27 := by kernel_rfl
  rw [cT] at hl
  have f0 : FieldOpens enc Try.prog W cs.toList 26 0 := hf 0 _ rfl
  have f1 : FieldOpens enc Try.prog W cs.toList 27 24 := hf 1 _ rfl
  have f2 : FieldOpens enc Try.prog W cs.toList 35 25 := hf 2 _ rfl
  have f3 : FieldOpens enc Try.prog W cs.toList 3 26 := hf 3 _ rfl
  obtain ⟨t, ⟨ht, _⟩, hok⟩ := f0.opens (opens_tm W) (n := 24) (by kernel_rfl)
  obtain ⟨u, l, hu, hr, hR⟩ := f1.slice (opens_slice Try.underlying27 (by kernel_rfl) (opens_int Try.underlying5)) (by kernel_rfl)
  obtain ⟨cut, hcut, hw2⟩ := f2.int Try.underlying35 (by kernel_rfl)
  obtain ⟨op, hop, _⟩ := f3.int Try.underlying3 (by kernel_rfl)
  refine ⟨t, u, l, cut, op, ?_, hok, RdS.ri hr, fun x hx => u8_bd (hR.1 x hx), u16_bd hw2⟩
  congr 1
  refine tmA_eq hl (by rw [List.drop_zero] at ht; exact ht) (Tm.len hok) fun k hk => ?_
  rcases k with _ | _ | _ | k
  · exact hu
  · exact hcut
  · exact hop
  · simp at hk; omega
set_option maxHeartbeats 800000 in
set_option maxRecDepth 100000 in
theorem mapinJoins_lifted (os : Os) (started : os.Started) (H : Type) (enc : TypeId × Value → H) :
    ReturnsInHanded {} Try.checked os 5 .any (Rows.mapinJoinsSpec.pre6 enc Try.prog Try.f5 Rows.mapinJoinsRow.domain false) (Rows.mapinJoinsSpec.post enc Try.prog Try.f5 false true false false) := by
  refine returnsInHanded_of_change_sized (C := Try.checked) (by kernel_rfl) started (by kernel_rfl) Try.func5
    (ChangeSpec.witness6 (enc := enc) (C := Try.checked) false ⟨#[], #[.agg #[.int .u8 0, .int .u8 0, .int .u8 0, .int .u8 0, .int .u8 0, .int .u8 0, .int .u8 0, .int .u8 0, .int .u8 0, .int .u8 0, .int .u8 0, .int .u8 0, .int .u8 0, .int .u8 0, .int .u8 0, .int .u8 0, .int .u8 0, .int .u8 0, .int .u8 0, .int .u64 0, .int .u32 0, .int .u32 0, .int .i64 0, .int .i64 0, .slice none 0 0, .int .u16 0, .int .i64 0]], []⟩ 8 (by kernel_rfl) (by kernel_rfl) (by kernel_rfl) (by kernel_rfl)) ?_
  intro W base args ds gs before hval0 hW _ hsz0 _
  have hsz : (DataW.weightsEach Try.prog (Try.f5.params.toList ++ Rows.mapinJoinsSpec.plain.varTypes Try.prog) (ds ++ gs)).all (· ≤ reachBytes) = true := hsz0
  clear hsz0
  have hval : ∀ (j : Nat) t v, Try.f5.params[j]? = some t → args[j]? = some v → Value.okWide Try.prog W .any base t v := hval0
  have hW' := hW
  obtain ⟨p, q, hA0, hV, rfl, _, _⟩ := hW
  have hA : DataW.TrodAll enc Try.prog W 0 (fun _ => true) true Try.f5.params.toList args.toList ds p := hA0
  rw [Try.params5] at hA hval hsz
  obtain ⟨rfl, rfl⟩ := trodVars_none hV
  have hkeep := hA
  have hlt : ∀ x ∈ p, x.block < W.heap.size := fun x hx => hW'.lt x (by simpa using hx)
  clear hA0 hval0
  obtain ⟨v0, vs0, d0, ds0, p0, q0, hargs, rfl, rfl, h0, r0⟩ := trodAll_cons hA
  obtain ⟨rfl, rfl, rfl⟩ := trodAll_nil r0
  obtain rfl : args = #[v0] := by cases args; simp_all
  simp only [List.cons_append, List.nil_append, DataW.weightsEach, List.all_append, Bool.and_eq_true] at hsz
  obtain ⟨t, u, l, cut, op, rfl, ht, hl, hb, hc⟩ := open_cut (hval 0 37 v0 rfl rfl) h0 hsz.1
  refine (mapinJoins_walk t u l cut op W ht hl hb hc).mono fun e W' ⟨he, hE⟩ => ?_
  subst he
  exact ⟨_, rfl, _, _, _, [], _, [], hW', trodAll_mk1 (shut_bool Try.underlying4 _), trodAll_stays (by kernel_rfl) (by kernel_rfl) hkeep hE hlt, rfl, hE.frame _, fun h => by cases h⟩
/-- THE STATEMENT -/
theorem mapinJoins_holds : Rows.MapinJoinsSaid :=
  OpenClaim.holds_of_wide 5 Try.f5 rfl rfl rfl rfl rfl rfl rfl ⟨rfl, rfl, rfl, rfl, rfl⟩ rfl rfl rfl rfl rfl (by kernel_rfl) Try.func5 (by kernel_rfl)
    (of_decide_eq_true (by kernel_rfl)) (by unfold Func.isWrapper; first | (rw [if_pos (by decide +kernel)]; kernel_rfl) | (rw [if_neg (by decide +kernel)]; exact ⟨rfl, rfl⟩))
    (fun os started H enc _ => mapinJoins_lifted os started H enc)
end Go.Proofs.Ytpkgmoekfindpaa
