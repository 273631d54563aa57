/- TopCarries: for every setting, bytes and numbers the law answers true, and leaves its argument as it was; the tables that its row lists are tied by the given tie. No condition. -/
import Derived.Test.YtfnicinnjkbedaaDoorTC17
import Derived.Test.YtfnicinnjkbedaaDoorOP17
import Derived.Test.YtfnicinnjkbedaaDoorCards
import Derived.Test.YtfnicinnjkbedaaDoorTie
import Derived.LaidMore
import Derived.Lay
import Derived.SevenTiedAt
import Derived.Stop.Joined
namespace Go.Proofs.YtfnicinnjkbedaaDoor
open Go.RowKit Go.Kb Go.ChangeShapes Go.WideShapes Go.ChangeAt
set_option maxRecDepth 100000

theorem open_carried {H : Type} {enc : TypeId × Value → H} {W : World} {v : Value} {d : DataW H} {p : List MemPlace} {r : Reach} {b0 : Nat}
    (hok : Value.okWide Tryd.prog W r b0 29 v) (h : DataW.Trod enc Tryd.prog W 0 (fun _ => true) true 29 v d p) (hw : (d.weights Tryd.prog 29).all (· ≤ reachBytes) = true) :
    ∃ (t : Tm) (u : Value) (l : List Int) (n m : Int), v = .agg (tmA t.arr [u, .int .u8 n, .int .u8 m]) ∧ t.Ok ∧ RI .u8 W u l ∧ Bs l ∧ (0 ≤ n ∧ n ≤ 255) ∧ (0 ≤ m ∧ m ≤ 255) := by
  obtain ⟨cs, rfl, hl, hf⟩ := open_fields Tryd.underlying29 hok h hw
  have cT : Tryd.prog.cellsOf 29 = 27 := by kernel_rfl
  rw [cT] at hl
  have f0 : FieldOpens enc Tryd.prog W cs.toList 26 0 := hf 0 _ rfl
  have f1 : FieldOpens enc Tryd.prog W cs.toList 27 24 := hf 1 _ rfl
  have f2 : FieldOpens enc Tryd.prog W cs.toList 5 25 := hf 2 _ rfl
  have f3 : FieldOpens enc Tryd.prog W cs.toList 5 26 := hf 3 _ rfl
  obtain ⟨t, ⟨ht, _⟩, hok⟩ := f0.opens (opens_tm W) (n := 24) (by kernel_rfl)
  obtain ⟨u, l, hu, hr, hR⟩ := f1.slice (opens_slice Tryd.underlying27 (by kernel_rfl) (opens_int Tryd.underlying5)) (by kernel_rfl)
  obtain ⟨n, hnn, wn⟩ := f2.int Tryd.underlying5 (by kernel_rfl)
  obtain ⟨m, hmm, wm⟩ := f3.int Tryd.underlying5 (by kernel_rfl)
  refine ⟨t, u, l, n, m, ?_, hok, RdS.ri hr, fun x hx => u8_bd (hR.1 x hx), u8_bd wn, u8_bd wm⟩
  rw [List.drop_zero] at ht
  rw [tmA_eq (t := t) (xs := [u, .int .u8 n, .int .u8 m]) hl ht (Tm.len hok) (fun k hk => by
    match k, hk with
    | 0, _ => exact hu
    | 1, _ => exact hnn
    | 2, _ => exact hmm)]
set_option maxHeartbeats 800000 in
theorem topCarries_own : ownKnob Tryd.prog.godebug = none := by kernel_rfl
set_option maxRecDepth 100000 in
theorem topCarries_lifted (os : Os) (started : os.Started) (H : Type) (enc : TypeId × Value → H) :
    ReturnsInHanded {} Tryd.checked os 3 .any (fun w args => (Rows.topCarriesSpec.pre enc Tryd.prog Tryd.f3 Rows.topCarriesRow.domain false w args ∧ laidMetH Tryd.prog Rows.topCarriesRow.laid w) ∧ sizedMet enc Tryd.prog Tryd.f3 (OpenSpec.ofChange Rows.topCarriesSpec) false w args)
      (Rows.topCarriesSpec.post enc Tryd.prog Tryd.f3 false true false false) := by
  refine returnsInHanded_of_change_and (C := Tryd.checked) (X := fun w _ => laidMetH Tryd.prog Rows.topCarriesRow.laid w) (fun _ _ _ hh h => h.of_heap hh) topCarries_own started (by kernel_rfl) Tryd.func3
    (ChangeSpec.witness_shaped (enc := enc) (C := Tryd.checked) (os := os) (X := fun w _ => laidMetH Tryd.prog Rows.topCarriesRow.laid w) false (World.laidAll Tryd.prog os Rows.topCarriesRow.laid) #[.agg #[.int .u8 0, .int .u8 0, .int .u8 0, .int .u8 0, .int .u8 0, .int .u8 0, .int .u8 0, .int .u8 0, .int .u8 0, .int .u8 0, .int .u8 0, .int .u8 0, .int .u8 0, .int .u8 0, .int .u8 0, .int .u8 0, .int .u8 0, .int .u8 0, .int .u8 0, .int .u64 0, .int .u32 0, .int .u32 0, .int .i64 0, .int .i64 0, .slice none 0 0, .int .u8 0, .int .u8 0]] 8 (World.laidAll_os _ _ _)
      (World.shaped_of_ZipB (by kernel_rfl) (by kernel_rfl)) (by kernel_rfl) (by kernel_rfl) (by kernel_rfl)
      (by rw [MakeChecks.laidMetH_plain _ _ _ (by kernel_rfl)]; exact laidMet_laidAll _ (by kernel_rfl) (by kernel_rfl))) ?_
  intro W base args ds gs before hval0 hW _ hsz0 _ _
  have hsz : (DataW.weightsEach Tryd.prog (Tryd.f3.params.toList ++ Rows.topCarriesSpec.plain.varTypes Tryd.prog) (ds ++ gs)).all (· ≤ reachBytes) = true := hsz0
  clear hsz0
  have hval : ∀ (j : Nat) t v, Tryd.f3.params[j]? = some t → args[j]? = some v → Value.okWide Tryd.prog W .any base t v := hval0
  have hW' := hW
  obtain ⟨p, q, hA0, hV, rfl, _, _⟩ := hW
  have hA : DataW.TrodAll enc Tryd.prog W 0 (fun _ => true) true Tryd.f3.params.toList args.toList ds p := hA0
  rw [Tryd.params3] at hA hval hsz
  obtain ⟨rfl, rfl⟩ := trodVars_none hV
  have hkeep := hA
  have hlt : ∀ x ∈ p, x.block < W.heap.size := fun x hx => hW'.lt x (by simpa using hx)
  clear hA0 hval0
  obtain ⟨v0, vs0, d0, ds0, p0, q0, hargs, rfl, rfl, h0, r0⟩ := trodAll_cons hA
  obtain ⟨rfl, rfl, rfl⟩ := trodAll_nil r0
  obtain rfl : args = #[v0] := by cases args; simp_all
  simp only [List.cons_append, List.nil_append, DataW.weightsEach, List.all_append, Bool.and_eq_true] at hsz
  obtain ⟨t, u, l, n, m, rfl, ht, hl, hB, hn, hm⟩ := open_carried (hval 0 29 v0 rfl rfl) h0 hsz.1
  refine (topCarries_walk t u l n m W ht hl hB hn hm).mono fun e W' ⟨he, hE⟩ => ?_
  subst he
  exact ⟨_, rfl, _, _, _, [], _, [], hW', trodAll_mk1 (shut_bool Tryd.underlying4 _), trodAll_stays (by kernel_rfl) (by kernel_rfl) hkeep hE hlt, rfl, hE.frame _, fun h => by cases h⟩
theorem topCarries_row : Rows.TopCarriesSaid :=
  OpenClaim.holds_of_wide 3 Tryd.f3 rfl rfl rfl rfl rfl rfl rfl ⟨rfl, rfl, rfl, rfl, rfl⟩ rfl rfl rfl rfl rfl (by kernel_rfl) Tryd.func3 (by kernel_rfl)
    (of_decide_eq_true (by kernel_rfl)) (by unfold Func.isWrapper; first | (rw [if_pos (by decide +kernel)]; kernel_rfl) | (rw [if_neg (by decide +kernel)]; exact ⟨rfl, rfl⟩))
    (fun os started H enc _ => topCarries_lifted os started H enc)
/-- THE STATEMENT: THE TIED CARD -/
theorem topCarries_holds : Rows.TopCarriesCardSaid :=
  Claim7.holds_tied_plain_at .later [] [.data, .pinned] true Rows.topCarriesCard.stood.harness false topCarries_row (fun _ h => by cases h) (by kernel_rfl) (fun _ h => by cases h) topCarries_row_tie rfl ⟨rfl, rfl⟩ (by kernel_rfl) rfl
    (fun f fn hf hfn => by
      obtain rfl : f = 3 := Option.some.inj ((show Tryd.prog.funcNamed "parlour/parlourtop.TopCarries" = some 3 by kernel_rfl).symm.trans hf) |>.symm
      obtain rfl : fn = Tryd.f3 := (Option.some.inj (Tryd.func3.symm.trans hfn)).symm
      exact ⟨by kernel_rfl, fun j t ht => by
        rw [Tryd.params3] at ht
        have hm := Array.mem_of_getElem? ht
        have hall : ∀ u ∈ Tryd.f3.params, Tryd.prog.wantsStandIn u = false := by
          have h9 : Tryd.f3.params.all (fun u => !Tryd.prog.wantsStandIn u) = true := by kernel_rfl
          intro u hu
          have := Array.all_eq_true_iff_forall_mem.1 h9 u hu
          simpa using this
        rw [Tryd.params3] at hall
        exact hall t hm⟩)
    (by kernel_rfl)
#print axioms topCarries_holds
end Go.Proofs.YtfnicinnjkbedaaDoor
