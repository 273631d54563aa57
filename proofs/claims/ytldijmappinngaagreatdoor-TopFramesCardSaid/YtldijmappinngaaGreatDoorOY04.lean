/- TopFrames: for every messages and every step the law answers true, and leaves its arguments as they were; the tables that its row lists are tied by the given tie. No condition. -/
import Derived.Test.YtldijmappinngaaGreatDoorOX04
import Derived.Test.YtldijmappinngaaGreatDoorCards
import Derived.Test.YtldijmappinngaaGreatDoorTie
import Derived.LaidMore
import Derived.Lay
import Derived.SevenTiedAt
import Derived.Stop.Joined
namespace Go.Proofs.YtldijmappinngaaGreatDoor
open Go.RowKit Go.Kb Go.ChangeShapes Go.WideShapes Go.ChangeAt
set_option maxRecDepth 100000

section
variable {H : Type} {enc : TypeId × Value → H} {P : Program} {W : World}
theorem fields_of {t : TypeId} {fs : Array Field} (hs : P.underlying t = some (.struct fs)) {fuel : Nat} {cs : List Value} {x : DataW H × List MemPlace}
    (h : DataW.trod enc P W 0 (fun _ => true) true fuel t cs = some x) (hw : (x.1.weights P t).all (· ≤ reachBytes) = true) :
    cs.length = P.cellsOf t ∧ ∀ (j : Nat) (f : Field), fs[j]? = some f → FieldOpens enc P W cs f.type f.offset := by
  obtain ⟨xs, n, rfl, rfl, hl, hxl, hf⟩ := DataW.trod_struct hs h
  refine ⟨hl, fun j f hj => ?_⟩
  have h1 := hf j f hj
  have hlt : j < xs.length := by rw [hxl]; exact (Array.getElem?_eq_some_iff.1 hj).1
  rw [List.getElem?_eq_getElem hlt] at h1
  refine ⟨n, _, h1, ?_⟩
  simp only [DataW.weights, hs] at hw
  refine weightsEach_at hw (j := j) ?_ ?_
  · rw [List.getElem?_map]
    have : fs.toList[j]? = some f := by simpa using hj
    rw [this]; rfl
  · rw [List.getElem?_map, List.getElem?_eq_getElem hlt]; rfl
theorem field_str {cs : List Value} {t : TypeId} {o : Nat} (h : FieldOpens enc P W cs t o) (hu : P.underlying t = some .string) (hc : P.cellsOf t = 1) : ∃ s : ByteArray, cs[o]? = some (.string s) := by
  obtain ⟨fuel, x, h1, h2⟩ := h
  rw [hc] at h1
  obtain ⟨s, h3, _⟩ := DataW.trod_string hu h1
  exact ⟨s, cell_of_take h3⟩
end
theorem u32_bd {n : Int} (h : (Lit.int .u32 n).wf = true) : 0 ≤ n ∧ n ≤ 4294967295 := by
  simpa [Lit.wf, IntKind.min, IntKind.max, IntKind.signed, IntKind.bits] using h
theorem u16_bd {n : Int} (h : (Lit.int .u16 n).wf = true) : 0 ≤ n ∧ n ≤ 65535 := by
  simpa [Lit.wf, IntKind.min, IntKind.max, IntKind.signed, IntKind.bits] using h
theorem opens_msg {H : Type} {enc : TypeId × Value → H} (W : World) : Opens enc Tryz.prog W 28 MgR Mg.Raw := by
  intro fuel cs x h hw
  obtain ⟨hl, hf⟩ := fields_of Tryz.underlying28 h hw
  have cT : Tryz.prog.cellsOf 28 = 10 := by kernel_rfl
  rw [cT] at hl
  have f0 : FieldOpens enc Tryz.prog W cs 3 0 := hf 0 _ rfl
  have f1 : FieldOpens enc Tryz.prog W cs 26 1 := hf 1 _ rfl
  have f2 : FieldOpens enc Tryz.prog W cs 26 2 := hf 2 _ rfl
  have f3 : FieldOpens enc Tryz.prog W cs 26 3 := hf 3 _ rfl
  have f4 : FieldOpens enc Tryz.prog W cs 26 4 := hf 4 _ rfl
  have f5 : FieldOpens enc Tryz.prog W cs 26 5 := hf 5 _ rfl
  have f6 : FieldOpens enc Tryz.prog W cs 9 6 := hf 6 _ rfl
  have f7 : FieldOpens enc Tryz.prog W cs 9 7 := hf 7 _ rfl
  have f8 : FieldOpens enc Tryz.prog W cs 4 8 := hf 8 _ rfl
  have f9 : FieldOpens enc Tryz.prog W cs 25 9 := hf 9 _ rfl
  obtain ⟨k, h0, _⟩ := f0.int Tryz.underlying3 (by kernel_rfl)
  obtain ⟨ch, h1, b1⟩ := f1.int Tryz.underlying26 (by kernel_rfl)
  obtain ⟨se, h2, b2⟩ := f2.int Tryz.underlying26 (by kernel_rfl)
  obtain ⟨wi, h3, b3⟩ := f3.int Tryz.underlying26 (by kernel_rfl)
  obtain ⟨pk, h4, b4⟩ := f4.int Tryz.underlying26 (by kernel_rfl)
  obtain ⟨co, h5, b5⟩ := f5.int Tryz.underlying26 (by kernel_rfl)
  obtain ⟨nm, h6⟩ := field_str f6 Tryz.underlying9 (by kernel_rfl)
  obtain ⟨la, h7⟩ := field_str f7 Tryz.underlying9 (by kernel_rfl)
  obtain ⟨wa, h8⟩ := f8.bool Tryz.underlying4 (by kernel_rfl)
  obtain ⟨u, l, h9, hr, hR⟩ := f9.slice (opens_slice Tryz.underlying25 (by kernel_rfl) (opens_int Tryz.underlying5)) (by kernel_rfl)
  refine ⟨⟨k, ch, se, wi, pk, co, nm, la, wa, l⟩, ⟨u, ?_, hr⟩, ⟨u32_bd b1, u32_bd b2, u32_bd b3, u32_bd b4, u32_bd b5, fun x hx => u8_bd (hR.1 x hx)⟩⟩
  match cs, hl with
  | [a0, a1, a2, a3, a4, a5, a6, a7, a8, a9], _ =>
    simp only [List.getElem?_cons_zero, List.getElem?_cons_succ, Option.some.injEq] at h0 h1 h2 h3 h4 h5 h6 h7 h8 h9
    subst h0 h1 h2 h3 h4 h5 h6 h7 h8 h9
    rfl
set_option maxHeartbeats 800000 in
theorem topFrames_own : ownKnob Tryz.prog.godebug = none := by kernel_rfl
set_option maxRecDepth 100000 in
theorem topFrames_lifted (os : Os) (started : os.Started) (H : Type) (enc : TypeId × Value → H) :
    ReturnsInHanded {} Tryz.checked os 3 .any (fun w args => (Rows.topFramesSpec.pre enc Tryz.prog Tryz.f3 Rows.topFramesRow.domain false w args ∧ laidMetH Tryz.prog Rows.topFramesRow.laid w) ∧ sizedMet enc Tryz.prog Tryz.f3 (OpenSpec.ofChange Rows.topFramesSpec) false w args)
      (Rows.topFramesSpec.post enc Tryz.prog Tryz.f3 false true false false) := by
  refine returnsInHanded_of_change_and (C := Tryz.checked) (X := fun w _ => laidMetH Tryz.prog Rows.topFramesRow.laid w) (fun _ _ _ hh h => h.of_heap hh) topFrames_own started (by kernel_rfl) Tryz.func3
    (ChangeSpec.witness_shaped (enc := enc) (C := Tryz.checked) (os := os) (X := fun w _ => laidMetH Tryz.prog Rows.topFramesRow.laid w) false (World.laidAll Tryz.prog os Rows.topFramesRow.laid) #[.slice none 0 0, .int .u16 0] 8 (World.laidAll_os _ _ _)
      (World.shaped_of_ZipB (by kernel_rfl) (by kernel_rfl)) (by kernel_rfl) (by kernel_rfl) (by kernel_rfl)
      (by rw [MakeChecks.laidMetH_plain _ _ _ (by kernel_rfl)]; exact laidMet_laidAll _ (by kernel_rfl) (by kernel_rfl))) ?_
  intro W base args ds gs before hval0 hW _ hsz0 _ _
  have hsz : (DataW.weightsEach Tryz.prog (Tryz.f3.params.toList ++ Rows.topFramesSpec.plain.varTypes Tryz.prog) (ds ++ gs)).all (· ≤ reachBytes) = true := hsz0
  clear hsz0
  have hval : ∀ (j : Nat) t v, Tryz.f3.params[j]? = some t → args[j]? = some v → Value.okWide Tryz.prog W .any base t v := hval0
  have hW' := hW
  obtain ⟨p, q, hA0, hV, rfl, _, _⟩ := hW
  have hA : DataW.TrodAll enc Tryz.prog W 0 (fun _ => true) true Tryz.f3.params.toList args.toList ds p := hA0
  rw [Tryz.params3] at hA hval hsz
  obtain ⟨rfl, rfl⟩ := trodVars_none hV
  have hkeep := hA
  have hlt : ∀ x ∈ p, x.block < W.heap.size := fun x hx => hW'.lt x (by simpa using hx)
  clear hA0 hval0
  obtain ⟨v0, vs0, d0, ds0, p0, q0, hargs, rfl, rfl, h0, r0⟩ := trodAll_cons hA
  obtain ⟨v1, vs1, d1, ds1, p1, q1, rfl, rfl, rfl, h1, r1⟩ := trodAll_cons r0
  obtain ⟨rfl, rfl, rfl⟩ := trodAll_nil r1
  obtain rfl : args = #[v0, v1] := by cases args; simp_all
  simp only [List.cons_append, List.nil_append, DataW.weightsEach, List.all_append, Bool.and_eq_true] at hsz
  obtain ⟨ms, hms, hR⟩ := (opens_slice (enc := enc) (P := Tryz.prog) (W := W) Tryz.underlying22 (by kernel_rfl) (opens_msg W)).slice Tryz.underlying22 (hval 0 22 v0 rfl rfl) h0 hsz.1
  obtain ⟨st, rfl, rfl, rfl, hst⟩ := open_int Tryz.underlying23 (hval 1 23 v1 rfl rfl) h1
  refine (topFrames_walk v0 ms st W hms.y hR.1 (u16_bd hst)).mono fun e W' ⟨he, hE⟩ => ?_
  subst he
  exact ⟨_, rfl, _, _, _, [], _, [], hW', trodAll_mk1 (shut_bool Tryz.underlying4 _), trodAll_stays (by kernel_rfl) (by kernel_rfl) hkeep hE hlt, rfl, hE.frame _, fun h => by cases h⟩
theorem topFrames_row : Rows.TopFramesSaid :=
  OpenClaim.holds_of_wide 3 Tryz.f3 rfl rfl rfl rfl rfl rfl rfl ⟨rfl, rfl, rfl, rfl, rfl⟩ rfl rfl rfl rfl rfl (by kernel_rfl) Tryz.func3 (by kernel_rfl)
    (of_decide_eq_true (by kernel_rfl)) (by unfold Func.isWrapper; first | (rw [if_pos (by decide +kernel)]; kernel_rfl) | (rw [if_neg (by decide +kernel)]; exact ⟨rfl, rfl⟩))
    (fun os started H enc _ => topFrames_lifted os started H enc)
/-- THE STATEMENT: THE TIED CARD -/
theorem topFrames_holds : Rows.TopFramesCardSaid :=
  Claim7.holds_tied_plain_at .later [] [.data, .pinned] true Rows.topFramesCard.stood.harness false topFrames_row (fun _ h => by cases h) (by kernel_rfl) (fun _ h => by cases h) topFrames_row_tie rfl ⟨rfl, rfl⟩ (by kernel_rfl) rfl
    (fun f fn hf hfn => by
      obtain rfl : f = 3 := Option.some.inj ((show Tryz.prog.funcNamed "parlour/parlourtop.TopFrames" = some 3 by kernel_rfl).symm.trans hf) |>.symm
      obtain rfl : fn = Tryz.f3 := (Option.some.inj (Tryz.func3.symm.trans hfn)).symm
      exact ⟨by kernel_rfl, fun j t ht => by
        rw [Tryz.params3] at ht
        have hm := Array.mem_of_getElem? ht
        have hall : ∀ u ∈ Tryz.f3.params, Tryz.prog.wantsStandIn u = false := by
          have h9 : Tryz.f3.params.all (fun u => !Tryz.prog.wantsStandIn u) = true := by kernel_rfl
          intro u hu
          have := Array.all_eq_true_iff_forall_mem.1 h9 u hu
          simpa using this
        rw [Tryz.params3] at hall
        exact hall t hm⟩)
    (by kernel_rfl)
#print axioms topFrames_holds
end Go.Proofs.YtldijmappinngaaGreatDoor
