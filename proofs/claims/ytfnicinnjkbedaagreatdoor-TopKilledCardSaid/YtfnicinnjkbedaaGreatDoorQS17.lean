/- TopKilled: for every setting and two texts the law answers true, and leaves its arguments as they were; the tables that its row lists are tied by the given tie. No condition. -/
import Derived.Test.YtfnicinnjkbedaaGreatDoorQR17
import Derived.Test.YtfnicinnjkbedaaGreatDoorOP17
import Derived.Test.YtfnicinnjkbedaaGreatDoorCards
import Derived.Test.YtfnicinnjkbedaaGreatDoorTie
import Derived.LaidMore
import Derived.Lay
import Derived.SevenTiedAt
import Derived.Stop.Joined
namespace Go.Proofs.YtfnicinnjkbedaaGreatDoor
open Go.RowKit Go.Kb Go.ChangeShapes Go.WideShapes Go.ChangeAt
set_option maxRecDepth 100000

set_option maxHeartbeats 800000 in
theorem topKilled_own : ownKnob Tryz.prog.godebug = none := by kernel_rfl
set_option maxRecDepth 100000 in
theorem topKilled_lifted (os : Os) (started : os.Started) (H : Type) (enc : TypeId × Value → H) :
    ReturnsInHanded {} Tryz.checked os 3 .any (fun w args => (Rows.topKilledSpec.pre enc Tryz.prog Tryz.f3 Rows.topKilledRow.domain false w args ∧ laidMetH Tryz.prog Rows.topKilledRow.laid w) ∧ sizedMet enc Tryz.prog Tryz.f3 (OpenSpec.ofChange Rows.topKilledSpec) false w args)
      (Rows.topKilledSpec.post enc Tryz.prog Tryz.f3 false true false false) := by
  refine returnsInHanded_of_change_and (C := Tryz.checked) (X := fun w _ => laidMetH Tryz.prog Rows.topKilledRow.laid w) (fun _ _ _ hh h => h.of_heap hh) topKilled_own started (by kernel_rfl) Tryz.func3
    (ChangeSpec.witness_shaped (enc := enc) (C := Tryz.checked) (os := os) (X := fun w _ => laidMetH Tryz.prog Rows.topKilledRow.laid w) false (World.laidAll Tryz.prog os Rows.topKilledRow.laid) #[.agg #[.int .u8 0, .int .u8 0, .int .u8 0, .int .u8 0, .int .u8 0, .int .u8 0, .int .u8 0, .int .u8 0, .int .u8 0, .int .u8 0, .int .u8 0, .int .u8 0, .int .u8 0, .int .u8 0, .int .u8 0, .int .u8 0, .int .u8 0, .int .u8 0, .int .u8 0, .int .u64 0, .int .u32 0, .int .u32 0, .int .i64 0, .int .i64 0], .slice none 0 0, .slice none 0 0] 8 (World.laidAll_os _ _ _)
      (World.shaped_of_ZipB (by kernel_rfl) (by kernel_rfl)) (by kernel_rfl) (by kernel_rfl) (by kernel_rfl)
      (by rw [MakeChecks.laidMetH_plain _ _ _ (by kernel_rfl)]; exact laidMet_laidAll _ (by kernel_rfl) (by kernel_rfl))) ?_
  intro W base args ds gs before hval0 hW _ hsz0 _ _
  have hsz : (DataW.weightsEach Tryz.prog (Tryz.f3.params.toList ++ Rows.topKilledSpec.plain.varTypes Tryz.prog) (ds ++ gs)).all (· ≤ reachBytes) = true := hsz0
  clear hsz0
  have hval : ∀ (j : Nat) t v, Tryz.f3.params[j]? = some t → args[j]? = some v → Value.okWide Tryz.prog W .any base t v := hval0
  have hW' := hW
  obtain ⟨p, q, hA0, hV, rfl, _, _⟩ := hW
  have hA : DataW.TrodAll enc Tryz.prog W 0 (fun _ => true) true Tryz.f3.params.toList args.toList ds p := hA0
  rw [Tryz.params3] at hA hval hsz
  obtain ⟨rfl, rfl⟩ := trodVars_none hV
  have hkeep := hA
  have hlt : ∀ x ∈ p, x.block < W.heap.size := fun x hx => hW'.lt x (by simpa using hx)
  clear hA0 hval0
  obtain ⟨v0, vs0, d0, ds0, p0, q0, hargs, rfl, rfl, h0, r0⟩ := trodAll_cons hA
  obtain ⟨v1, vs1, d1, ds1, p1, q1, hargs1, rfl, rfl, h1, r1⟩ := trodAll_cons r0
  obtain ⟨v2, vs2, d2, ds2, p2, q2, hargs2, rfl, rfl, h2, r2⟩ := trodAll_cons r1
  obtain ⟨rfl, rfl, rfl⟩ := trodAll_nil r2
  obtain rfl : args = #[v0, v1, v2] := by cases args; simp_all
  simp only [List.cons_append, List.nil_append, DataW.weightsEach, List.all_append, Bool.and_eq_true] at hsz
  obtain ⟨t, rfl, ht⟩ := open_tm (hval 0 26 v0 rfl rfl) h0 hsz.1
  have c8 : Tryz.prog.cellsOf 5 = 1 := by kernel_rfl
  obtain ⟨l1, hl1, _⟩ := open_bytes1 Tryz.underlying27 Tryz.underlying5 c8 (hval 1 27 v1 rfl rfl) h1
  obtain ⟨l2, hl2, _⟩ := open_bytes1 Tryz.underlying27 Tryz.underlying5 c8 (hval 2 27 v2 rfl rfl) h2
  refine (topKilled_walk t v1 v2 l1 l2 W ht hl1 hl2).mono fun e W' ⟨he, hE⟩ => ?_
  subst he
  exact ⟨_, rfl, _, _, _, [], _, [], hW', trodAll_mk1 (shut_bool Tryz.underlying4 _), trodAll_stays (by kernel_rfl) (by kernel_rfl) hkeep hE hlt, rfl, hE.frame _, fun h => by cases h⟩
theorem topKilled_row : Rows.TopKilledSaid :=
  OpenClaim.holds_of_wide 3 Tryz.f3 rfl rfl rfl rfl rfl rfl rfl ⟨rfl, rfl, rfl, rfl, rfl⟩ rfl rfl rfl rfl rfl (by kernel_rfl) Tryz.func3 (by kernel_rfl)
    (of_decide_eq_true (by kernel_rfl)) (by unfold Func.isWrapper; first | (rw [if_pos (by decide +kernel)]; kernel_rfl) | (rw [if_neg (by decide +kernel)]; exact ⟨rfl, rfl⟩))
    (fun os started H enc _ => topKilled_lifted os started H enc)
/-- THE STATEMENT: THE TIED CARD -/
theorem topKilled_holds : Rows.TopKilledCardSaid :=
  Claim7.holds_tied_plain_at .later [] [.data, .pinned] true Rows.topKilledCard.stood.harness false topKilled_row (fun _ h => by cases h) (by kernel_rfl) (fun _ h => by cases h) topKilled_row_tie rfl ⟨rfl, rfl⟩ (by kernel_rfl) rfl
    (fun f fn hf hfn => by
      obtain rfl : f = 3 := Option.some.inj ((show Tryz.prog.funcNamed "parlour/parlourtop.TopKilled" = some 3 by kernel_rfl).symm.trans hf) |>.symm
      obtain rfl : fn = Tryz.f3 := (Option.some.inj (Tryz.func3.symm.trans hfn)).symm
      exact ⟨by kernel_rfl, fun j t ht => by
        rw [Tryz.params3] at ht
        have hm := Array.mem_of_getElem? ht
        have hall : ∀ u ∈ Tryz.f3.params, Tryz.prog.wantsStandIn u = false := by
          have h9 : Tryz.f3.params.all (fun u => !Tryz.prog.wantsStandIn u) = true := by kernel_rfl
          intro u hu
          have := Array.all_eq_true_iff_forall_mem.1 h9 u hu
          simpa using this
        rw [Tryz.params3] at hall
        exact hall t hm⟩)
    (by kernel_rfl)
#print axioms topKilled_holds
end Go.Proofs.YtfnicinnjkbedaaGreatDoor
