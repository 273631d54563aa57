/- ModesLater: for every argument the law answers true, and leaves its arguments as they were. No condition. -/
import Derived.Test.YtpngnmokagbekaaR08
import Derived.Test.YtpngnmokagbekaaMoO
import Derived.Test.YtpngnmokagbekaaFld
namespace Go.Proofs.Ytpngnmokagbekaa
open Go.RowKit Go.Kb Go.ChangeShapes Go.WideShapes Go.ChangeAt

theorem open_two {H : Type} {enc : TypeId × Value → H} {W : World} {v : Value} {d : DataW H} {p : List MemPlace} {r : Reach} {b0 : Nat}
    (hok : Value.okWide Try.prog W r b0 47 v) (h : DataW.Trod enc Try.prog W 0 (fun _ => true) true 47 v d p) (hw : (d.weights Try.prog 47).all (· ≤ reachBytes) = true) :
    ∃ (t : Tm) (u z : Value) (a b : List Int) (n : Int), v = .agg (twA u z n t.arr) ∧ t.Ok ∧ (0 ≤ n ∧ n ≤ 255) ∧ RI .u8 W u a ∧ Bs a ∧ RI .u8 W z b ∧ Bs b := by
  obtain ⟨cs, rfl, hl, hf⟩ := open_fields Try.underlying47 hok h hw
  have cT : Try.prog.cellsOf 47 = 27 := by kernel_rfl
  rw [cT] at hl
  have f0 : FieldOpens enc Try.prog W cs.toList 22 0 := hf 0 _ rfl
  have f1 : FieldOpens enc Try.prog W cs.toList 5 1 := hf 1 _ rfl
  have f2 : FieldOpens enc Try.prog W cs.toList 22 2 := hf 2 _ rfl
  have f3 : FieldOpens enc Try.prog W cs.toList 27 3 := hf 3 _ rfl
  obtain ⟨u, a, hu, hr, hR⟩ := f0.slice (opens_slice Try.underlying22 (by kernel_rfl) (opens_int Try.underlying5)) (by kernel_rfl)
  obtain ⟨n, hn, hnb⟩ := f1.int Try.underlying5 (by kernel_rfl)
  obtain ⟨z, b, hz, hs, hS⟩ := f2.slice (opens_slice Try.underlying22 (by kernel_rfl) (opens_int Try.underlying5)) (by kernel_rfl)
  obtain ⟨t, ⟨ht, _⟩, hok⟩ := f3.opens (opens_tm W) (n := 24) (by kernel_rfl)
  refine ⟨t, u, z, a, b, n, ?_, hok, u8_bd hnb, RdS.ri hr, fun x hx => u8_bd (hR.1 x hx), RdS.ri hs, fun x hx => u8_bd (hS.1 x hx)⟩
  congr 1
  have e : cs.toList = [u, .int .u8 n, z] ++ t.cells := by
    rw [← ht]
    have h24 : cs.toList.length = 27 := by simpa using hl
    apply List.ext_getElem?
    intro i
    have : i = 0 ∨ i = 1 ∨ i = 2 ∨ 3 ≤ i := by omega
    rcases this with rfl | rfl | rfl | hi
    · exact hu
    · exact hn
    · exact hz
    · obtain ⟨j, rfl⟩ : ∃ j, i = 3 + j := ⟨i - 3, by omega⟩
      rw [List.getElem?_append_right (by simp)]
      simp only [List.length_cons, List.length_nil, Nat.reduceAdd, Nat.add_sub_cancel_left]
      rcases Nat.lt_or_ge j 24 with hj | hj
      · rw [List.getElem?_take, if_pos hj, List.getElem?_drop]
      · rw [List.getElem?_eq_none (by omega), List.getElem?_eq_none (by simp; omega)]
  apply Array.ext'
  rw [e]
  simp [twA, Tm.arr]
set_option maxHeartbeats 800000 in
set_option maxRecDepth 100000 in
theorem modesLater_lifted (os : Os) (started : os.Started) (H : Type) (enc : TypeId × Value → H) :
    ReturnsInHanded {} Try.checked os 5 .any (Rows.modesLaterSpec.pre6 enc Try.prog Try.f5 Rows.modesLaterRow.domain false) (Rows.modesLaterSpec.post enc Try.prog Try.f5 false true false false) := by
  refine returnsInHanded_of_change_sized (C := Try.checked) (by kernel_rfl) started (by kernel_rfl) Try.func5
    (ChangeSpec.witness6 (enc := enc) (C := Try.checked) false ⟨#[], #[.agg #[.slice none 0 0, .int .u8 0, .slice none 0 0, .int .u8 0, .int .u8 0, .int .u8 0, .int .u8 0, .int .u8 0, .int .u8 0, .int .u8 0, .int .u8 0, .int .u8 0, .int .u8 0, .int .u8 0, .int .u8 0, .int .u8 0, .int .u8 0, .int .u8 0, .int .u8 0, .int .u8 0, .int .u8 0, .int .u8 0, .int .u64 0, .int .u32 0, .int .u32 0, .int .i64 0, .int .i64 0]], []⟩ 8 (by kernel_rfl) (by kernel_rfl) (by kernel_rfl) (by kernel_rfl)) ?_
  intro W base args ds gs before hval0 hW _ hsz0 _
  have hsz : (DataW.weightsEach Try.prog (Try.f5.params.toList ++ Rows.modesLaterSpec.plain.varTypes Try.prog) (ds ++ gs)).all (· ≤ reachBytes) = true := hsz0
  clear hsz0
  have hval : ∀ (j : Nat) t v, Try.f5.params[j]? = some t → args[j]? = some v → Value.okWide Try.prog W .any base t v := hval0
  have hW' := hW
  obtain ⟨p, q, hA0, hV, rfl, _, _⟩ := hW
  have hA : DataW.TrodAll enc Try.prog W 0 (fun _ => true) true Try.f5.params.toList args.toList ds p := hA0
  rw [Try.params5] at hA hval hsz
  obtain ⟨rfl, rfl⟩ := trodVars_none hV
  have hkeep := hA
  have hlt : ∀ x ∈ p, x.block < W.heap.size := fun x hx => hW'.lt x (by simpa using hx)
  clear hA0 hval0
  obtain ⟨v0, vs0, d0, ds0, p0, q0, hargs, rfl, rfl, h0, r0⟩ := trodAll_cons hA
  obtain ⟨rfl, rfl, rfl⟩ := trodAll_nil r0
  obtain rfl : args = #[v0] := by cases args; simp_all
  simp only [List.cons_append, List.nil_append, DataW.weightsEach, List.all_append, Bool.and_eq_true] at hsz
  obtain ⟨t, u, z, a, b, n, rfl, ht, hn, ha, hBa, hb, hBb⟩ := open_two (hval 0 47 v0 rfl rfl) h0 hsz.1
  refine (modesLater_walk t u z a b n W ht hn ha hBa hb hBb).mono fun e W' ⟨he, hE⟩ => ?_
  subst he
  exact ⟨_, rfl, _, _, _, [], _, [], hW', trodAll_mk1 (shut_bool Try.underlying4 _), trodAll_stays (by kernel_rfl) (by kernel_rfl) hkeep hE hlt, rfl, hE.frame _, fun h => by cases h⟩
/-- THE STATEMENT -/
theorem modesLater_holds : Rows.ModesLaterSaid :=
  OpenClaim.holds_of_wide 5 Try.f5 rfl rfl rfl rfl rfl rfl rfl ⟨rfl, rfl, rfl, rfl, rfl⟩ rfl rfl rfl rfl rfl (by kernel_rfl) Try.func5 (by kernel_rfl)
    (of_decide_eq_true (by kernel_rfl)) (by unfold Func.isWrapper; first | (rw [if_pos (by decide +kernel)]; kernel_rfl) | (rw [if_neg (by decide +kernel)]; exact ⟨rfl, rfl⟩))
    (fun os started H enc _ => modesLater_lifted os started H enc)
end Go.Proofs.Ytpngnmokagbekaa
