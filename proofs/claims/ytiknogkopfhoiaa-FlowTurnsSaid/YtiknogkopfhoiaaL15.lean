/- FlowTurns: for every setting, marks and counts the law answers true, and leaves its arguments as they were. No condition. -/
import Derived.Test.YtiknogkopfhoiaaJ15
import Derived.Test.YtiknogkopfhoiaaMoO
import Derived.Test.YtiknogkopfhoiaaFld
namespace Go.Proofs.Ytiknogkopfhoiaa
open Go.RowKit Go.Kb Go.ChangeShapes Go.WideShapes Go.ChangeAt

theorem open_turns {H : Type} {enc : TypeId × Value → H} {W : World} {v : Value} {d : DataW H} {p : List MemPlace} {r : Reach} {b0 : Nat}
    (hok : Value.okWide Try.prog W r b0 55 v) (h : DataW.Trod enc Try.prog W 0 (fun _ => true) true 55 v d p) (hw : (d.weights Try.prog 55).all (· ≤ reachBytes) = true) :
    ∃ (t : Tm) (u : Value) (l : List Int) (lo hi : Int), v = .agg (turnsA t.arr u lo hi) ∧ t.Ok ∧ RI .i64 W u l := by
  obtain ⟨cs, rfl, hl, hf⟩ := open_fields Try.underlying55 hok h hw
  have cT : Try.prog.cellsOf 55 = 27 := by kernel_rfl
  rw [cT] at hl
  have f0 : FieldOpens enc Try.prog W cs.toList 26 0 := hf 0 _ rfl
  have f1 : FieldOpens enc Try.prog W cs.toList 53 24 := hf 1 _ rfl
  have f2 : FieldOpens enc Try.prog W cs.toList 3 25 := hf 2 _ rfl
  have f3 : FieldOpens enc Try.prog W cs.toList 3 26 := hf 3 _ rfl
  obtain ⟨t, ⟨ht, _⟩, hok⟩ := f0.opens (opens_tm W) (n := 24) (by kernel_rfl)
  obtain ⟨u, l, hu, hr, _⟩ := f1.slice (opens_slice Try.underlying53 (by kernel_rfl) (opens_int Try.underlying3)) (by kernel_rfl)
  obtain ⟨lo, hlo, _⟩ := f2.int Try.underlying3 (by kernel_rfl)
  obtain ⟨hi, hhi, _⟩ := f3.int Try.underlying3 (by kernel_rfl)
  refine ⟨t, u, l, lo, hi, ?_, hok, RdS.ri hr⟩
  have e : cs.toList = t.cells ++ [u, .int .i64 lo, .int .i64 hi] := by
    rw [List.drop_zero] at ht
    rw [← ht]
    apply List.ext_getElem?
    intro i
    have hll : cs.toList.length = 27 := by simpa using hl
    have : i < 24 ∨ i = 24 ∨ i = 25 ∨ i = 26 ∨ 27 ≤ i := by omega
    have h24 : (cs.toList.take 24).length = 24 := by rw [List.length_take]; omega
    rcases this with h | rfl | rfl | rfl | h
    · rw [List.getElem?_append_left (by omega), List.getElem?_take, if_pos h]
    · rw [List.getElem?_append_right (by omega), h24, hu]; rfl
    · rw [List.getElem?_append_right (by omega), h24, hlo]; rfl
    · rw [List.getElem?_append_right (by omega), h24, hhi]; rfl
    · rw [List.getElem?_eq_none (by omega), List.getElem?_eq_none (by simp [h24]; omega)]
  congr 1
  apply Array.ext'
  rw [e]
  simp [turnsA, Tm.arr]
set_option maxHeartbeats 800000 in
set_option maxRecDepth 100000 in
theorem flowTurns_lifted (os : Os) (started : os.Started) (H : Type) (enc : TypeId × Value → H) :
    ReturnsInHanded {} Try.checked os 5 .any (Rows.flowTurnsSpec.pre6 enc Try.prog Try.f5 Rows.flowTurnsRow.domain false) (Rows.flowTurnsSpec.post enc Try.prog Try.f5 false true false false) := by
  refine returnsInHanded_of_change_sized (C := Try.checked) (by kernel_rfl) started (by kernel_rfl) Try.func5
    (ChangeSpec.witness6 (enc := enc) (C := Try.checked) false ⟨#[], #[.agg #[.int .u8 0, .int .u8 0, .int .u8 0, .int .u8 0, .int .u8 0, .int .u8 0, .int .u8 0, .int .u8 0, .int .u8 0, .int .u8 0, .int .u8 0, .int .u8 0, .int .u8 0, .int .u8 0, .int .u8 0, .int .u8 0, .int .u8 0, .int .u8 0, .int .u8 0, .int .u64 0, .int .u32 0, .int .u32 0, .int .i64 0, .int .i64 0, .slice none 0 0, .int .i64 0, .int .i64 0]], []⟩ 8 (by kernel_rfl) (by kernel_rfl) (by kernel_rfl) (by kernel_rfl)) ?_
  intro W base args ds gs before hval0 hW _ hsz0 _
  have hsz : (DataW.weightsEach Try.prog (Try.f5.params.toList ++ Rows.flowTurnsSpec.plain.varTypes Try.prog) (ds ++ gs)).all (· ≤ reachBytes) = true := hsz0
  clear hsz0
  have hval : ∀ (j : Nat) t v, Try.f5.params[j]? = some t → args[j]? = some v → Value.okWide Try.prog W .any base t v := hval0
  have hW' := hW
  obtain ⟨p, q, hA0, hV, rfl, _, _⟩ := hW
  have hA : DataW.TrodAll enc Try.prog W 0 (fun _ => true) true Try.f5.params.toList args.toList ds p := hA0
  rw [Try.params5] at hA hval hsz
  obtain ⟨rfl, rfl⟩ := trodVars_none hV
  have hkeep := hA
  have hlt : ∀ x ∈ p, x.block < W.heap.size := fun x hx => hW'.lt x (by simpa using hx)
  clear hA0 hval0
  obtain ⟨v0, vs0, d0, ds0, p0, q0, hargs, rfl, rfl, h0, r0⟩ := trodAll_cons hA
  obtain ⟨rfl, rfl, rfl⟩ := trodAll_nil r0
  obtain rfl : args = #[v0] := by cases args; simp_all
  simp only [List.cons_append, List.nil_append, DataW.weightsEach, List.all_append, Bool.and_eq_true] at hsz
  obtain ⟨t, u, l, lo, hi, rfl, ht, hl⟩ := open_turns (hval 0 55 v0 rfl rfl) h0 hsz.1
  refine (flowTurns_walk t u l lo hi W ht hl).mono fun e W' ⟨he, hE⟩ => ?_
  subst he
  exact ⟨_, rfl, _, _, _, [], _, [], hW', trodAll_mk1 (shut_bool Try.underlying4 _), trodAll_stays (by kernel_rfl) (by kernel_rfl) hkeep hE hlt, rfl, hE.frame _, fun h => by cases h⟩
/-- THE STATEMENT -/
theorem flowTurns_holds : Rows.FlowTurnsSaid :=
  OpenClaim.holds_of_wide 5 Try.f5 rfl rfl rfl rfl rfl rfl rfl ⟨rfl, rfl, rfl, rfl, rfl⟩ rfl rfl rfl rfl rfl (by kernel_rfl) Try.func5 (by kernel_rfl)
    (of_decide_eq_true (by kernel_rfl)) (by unfold Func.isWrapper; first | (rw [if_pos (by decide +kernel)]; kernel_rfl) | (rw [if_neg (by decide +kernel)]; exact ⟨rfl, rfl⟩))
    (fun os started H enc _ => flowTurns_lifted os started H enc)
end Go.Proofs.Ytiknogkopfhoiaa
