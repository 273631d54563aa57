/- Parts QT28. No condition. -/
import Derived.Test.YtmmhcllibpmfnaaGreatDoorZB05
import Derived.Test.YtmmhcllibpmfnaaGreatDoorZB07
import Derived.LaidMore
import Derived.Lay
import Derived.SevenTiedAt
import Derived.Stop.Joined
import Derived.Test.YtmmhcllibpmfnaaGreatDoorCards
import Derived.Test.YtmmhcllibpmfnaaGreatDoorTie
namespace Go.Proofs.YtmmhcllibpmfnaaGreatDoor
open Go.RowKit Go.Kb Go.ChangeShapes Go.WideShapes Go.ChangeAt
set_option maxRecDepth 100000
section
variable {H : Type} {enc : TypeId × Value → H} {P : Program} {W : World}
theorem fields_of {t : TypeId} {fs : Array Field} (hs : P.underlying t = some (.struct fs)) {fuel : Nat} {cs : List Value} {x : DataW H × List MemPlace}
   (h : DataW.trod enc P W 0 (fun _ => true) true fuel t cs = some x) (hw : (x.1.weights P t).all (· ≤ reachBytes) = true) :
   cs.length = P.cellsOf t ∧ ∀ (j : Nat) (f : Field), fs[j]? = some f → FieldOpens enc P W cs f.type f.offset := by
 obtain ⟨xs, n, rfl, rfl, hl, hxl, hf⟩ := DataW.trod_struct hs h
 refine ⟨hl, fun j f hj => ?_⟩
 have h1 := hf j f hj
 have hlt : j < xs.length := by rw [hxl]; exact (Array.getElem?_eq_some_iff.1 hj).1
 rw [List.getElem?_eq_getElem hlt] at h1
 refine ⟨n, _, h1, ?_⟩
 simp only [DataW.weights, hs] at hw
 refine weightsEach_at hw (j := j) ?_ ?_
 · rw [List.getElem?_map]
   have : fs.toList[j]? = some f := by simpa using hj
   rw [this]; rfl
 · rw [List.getElem?_map, List.getElem?_eq_getElem hlt]; rfl
theorem field_str {cs : List Value} {t : TypeId} {o : Nat} (h : FieldOpens enc P W cs t o) (hu : P.underlying t = some .string) (hc : P.cellsOf t = 1) : ∃ s : ByteArray, cs[o]? = some (.string s) ∧ s.size ≤ maxLen := by
 obtain ⟨fuel, x, h1, h2⟩ := h
 rw [hc] at h1
 obtain ⟨s, h3, _, h4⟩ := DataW.trod_string hu h1
 exact ⟨s, cell_of_take h3, h4⟩
end
theorem u32_bd {n : Int} (h : (Lit.int .u32 n).wf = true) : 0 ≤ n ∧ n ≤ 4294967295 := by
 simpa [Lit.wf, IntKind.min, IntKind.max, IntKind.signed, IntKind.bits] using h
theorem opens_po {H : Type} {enc : TypeId × Value → H} (W : World) : Opens enc Tryz.prog W 107 OpR (fun _ => True) := by
 intro fuel cs x h hw
 obtain ⟨hl, hf⟩ := fields_of Tryz.underlying107 h hw
 have cT : Tryz.prog.cellsOf 107 = 4 := by kernel_rfl
 rw [cT] at hl
 have f0 : FieldOpens enc Tryz.prog W cs 3 0 := hf 0 _ rfl
 have f1 : FieldOpens enc Tryz.prog W cs 3 1 := hf 1 _ rfl
 have f2 : FieldOpens enc Tryz.prog W cs 3 2 := hf 2 _ rfl
 have f3 : FieldOpens enc Tryz.prog W cs 9 3 := hf 3 _ rfl
 obtain ⟨k, h0, _⟩ := f0.int Tryz.underlying3 (by kernel_rfl)
 obtain ⟨a, h1, _⟩ := f1.int Tryz.underlying3 (by kernel_rfl)
 obtain ⟨b, h2, _⟩ := f2.int Tryz.underlying3 (by kernel_rfl)
 obtain ⟨tx, h3, _⟩ := field_str f3 Tryz.underlying9 (by kernel_rfl)
 refine ⟨⟨k, a, b, tx⟩, ?_, trivial⟩
 match cs, hl with
 | [a0, a1, a2, a3], _ =>
   simp only [List.getElem?_cons_zero, List.getElem?_cons_succ, Option.some.injEq] at h0 h1 h2 h3
   subst h0 h1 h2 h3
   rfl
theorem opens_pq {H : Type} {enc : TypeId × Value → H} (W : World) : Opens enc Tryz.prog W 76 PqR (fun d => d.1.size ≤ maxLen ∧ d.2.length * 40 ≤ 140737488351232) := by
 intro fuel cs x h hw
 obtain ⟨hl, hf⟩ := fields_of Tryz.underlying76 h hw
 have cT : Tryz.prog.cellsOf 76 = 2 := by kernel_rfl
 rw [cT] at hl
 have f0 : FieldOpens enc Tryz.prog W cs 9 0 := hf 0 _ rfl
 have f1 : FieldOpens enc Tryz.prog W cs 74 1 := hf 1 _ rfl
 obtain ⟨nm, h0, hn⟩ := field_str f0 Tryz.underlying9 (by kernel_rfl)
 obtain ⟨u, l, h1, hr, hR⟩ := f1.slice (opens_slice Tryz.underlying74 (by kernel_rfl) (opens_po W)) (by kernel_rfl)
 have hb : Tryz.prog.bytesOf 107 = 40 := by kernel_rfl
 rw [hb] at hR
 refine ⟨(nm, l), ⟨u, ?_, hr⟩, hn, hR.2⟩
 match cs, hl with
 | [a0, a1], _ =>
   simp only [List.getElem?_cons_zero, List.getElem?_cons_succ, Option.some.injEq] at h0 h1
   subst h0 h1
   rfl
set_option maxHeartbeats 800000 in
theorem topLimits_own : ownKnob Tryz.prog.godebug = none := by kernel_rfl
set_option maxRecDepth 100000 in
theorem topLimits_lifted (os : Os) (started : os.Started) (H : Type) (enc : TypeId × Value → H) :
   ReturnsInHanded {} Tryz.checked os 4 .any (fun w args => (Rows.topLimitsSpec.pre enc Tryz.prog Tryz.f4 Rows.topLimitsRow.domain false w args ∧ laidMetH Tryz.prog Rows.topLimitsRow.laid w) ∧ sizedMet enc Tryz.prog Tryz.f4 (OpenSpec.ofChange Rows.topLimitsSpec) false w args)
     (Rows.topLimitsSpec.post enc Tryz.prog Tryz.f4 false true false false) := by
 refine returnsInHanded_of_change_and (C := Tryz.checked) (X := fun w _ => laidMetH Tryz.prog Rows.topLimitsRow.laid w) (fun _ _ _ hh h => h.of_heap hh) topLimits_own started (by kernel_rfl) Tryz.func4
   (ChangeSpec.witness_shaped (enc := enc) (C := Tryz.checked) (os := os) (X := fun w _ => laidMetH Tryz.prog Rows.topLimitsRow.laid w) false (World.laidAll Tryz.prog os Rows.topLimitsRow.laid) #[.slice none 0 0, .slice none 0 0] 8 (World.laidAll_os _ _ _)
     (World.shaped_of_ZipB (by kernel_rfl) (by kernel_rfl)) (by kernel_rfl) (by kernel_rfl) (by kernel_rfl)
     (by rw [MakeChecks.laidMetH_plain _ _ _ (by kernel_rfl)]; exact laidMet_laidAll _ (by kernel_rfl) (by kernel_rfl))) ?_
 intro W base args ds gs before hval0 hW _ hsz0 _ _
 have hsz : (DataW.weightsEach Tryz.prog (Tryz.f4.params.toList ++ Rows.topLimitsSpec.plain.varTypes Tryz.prog) (ds ++ gs)).all (· ≤ reachBytes) = true := hsz0
 clear hsz0
 have hval : ∀ (j : Nat) t v, Tryz.f4.params[j]? = some t → args[j]? = some v → Value.okWide Tryz.prog W .any base t v := hval0
 have hW' := hW
 obtain ⟨p, q, hA0, hV, rfl, _, _⟩ := hW
 have hA : DataW.TrodAll enc Tryz.prog W 0 (fun _ => true) true Tryz.f4.params.toList args.toList ds p := hA0
 rw [Tryz.params4] at hA hval hsz
 obtain ⟨rfl, rfl⟩ := trodVars_none hV
 have hkeep := hA
 have hlt : ∀ x ∈ p, x.block < W.heap.size := fun x hx => hW'.lt x (by simpa using hx)
 clear hA0 hval0
 obtain ⟨v0, vs0, d0, ds0, p0, q0, hargs, rfl, rfl, h0, r0⟩ := trodAll_cons hA
 obtain ⟨v1, vs1, d1, ds1, p1, q1, rfl, rfl, rfl, h1, r1⟩ := trodAll_cons r0
 obtain ⟨rfl, rfl, rfl⟩ := trodAll_nil r1
 obtain rfl : args = #[v0, v1] := by cases args; simp_all
 simp only [List.cons_append, List.nil_append, DataW.weightsEach, List.all_append, Bool.and_eq_true] at hsz
 obtain ⟨l, hl, hR, hB⟩ := (opens_slice (enc := enc) (P := Tryz.prog) (W := W) Tryz.underlying22 (by kernel_rfl) (opens_pq W)).slice Tryz.underlying22 (hval 0 22 v0 rfl rfl) h0 hsz.1
 obtain ⟨ss, hs, hS, -⟩ := (opens_slice (enc := enc) (P := Tryz.prog) (W := W) Tryz.underlying64 (by kernel_rfl) (opens_int Tryz.underlying33)).slice Tryz.underlying64 (hval 1 64 v1 rfl rfl) h1 hsz.2.1
 have hb : Tryz.prog.bytesOf 76 = 40 := by kernel_rfl
 rw [hb] at hB
 refine (topLimits_walk v0 v1 l ss W hl.y ⟨hB, fun d hd => (hR d hd).2⟩ (fun d hd => by have := (hR d hd).1; unfold maxLen at this; omega) hs.y (fun x hx => u32_bd (hS x hx))).mono fun e W' ⟨he, hE⟩ => ?_
 subst he
 exact ⟨_, rfl, _, _, _, [], _, [], hW', trodAll_mk1 (shut_bool Tryz.underlying4 _), trodAll_stays (by kernel_rfl) (by kernel_rfl) hkeep hE hlt, rfl, hE.frame _, fun h => by cases h⟩
theorem topLimits_row : Rows.TopLimitsSaid :=
 OpenClaim.holds_of_wide 4 Tryz.f4 rfl rfl rfl rfl rfl rfl rfl ⟨rfl, rfl, rfl, rfl, rfl⟩ rfl rfl rfl rfl rfl topLimits_name Tryz.func4 topLimits_facts
   (of_decide_eq_true (by kernel_rfl)) topLimits_wrap
   (fun os started H enc _ => topLimits_lifted os started H enc)
/-- THE STATEMENT: THE TIED CARD -/
theorem topLimits_holds : Rows.TopLimitsCardSaid :=
 Claim7.holds_tied_plain_at .later [] [.data, .pinned] true Rows.topLimitsCard.stood.harness false topLimits_row (fun _ h => by cases h) topLimits_wft (fun _ h => by cases h) topLimits_row_tie rfl ⟨rfl, rfl⟩ topLimits_main rfl
   (fun f fn hf hfn => by
     obtain rfl : f = 4 := Option.some.inj (topLimits_name.symm.trans hf) |>.symm
     obtain rfl : fn = Tryz.f4 := (Option.some.inj (Tryz.func4.symm.trans hfn)).symm
     exact ⟨topLimits_looks, fun j t ht => by
       rw [Tryz.params4] at ht
       have hm := Array.mem_of_getElem? ht
       have hall : ∀ u ∈ Tryz.f4.params, Tryz.prog.wantsStandIn u = false := by
         have h9 : Tryz.f4.params.all (fun u => !Tryz.prog.wantsStandIn u) = true := by kernel_rfl
         intro u hu
         have := Array.all_eq_true_iff_forall_mem.1 h9 u hu
         simpa using this
       rw [Tryz.params4] at hall
       exact hall t hm⟩)
   topLimits_goes
#print axioms topLimits_holds
end Go.Proofs.YtmmhcllibpmfnaaGreatDoor
