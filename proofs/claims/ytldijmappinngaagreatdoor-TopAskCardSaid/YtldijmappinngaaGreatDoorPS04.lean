/- TopAsk: for every request, channel and wish the law answers true, and leaves its arguments as they were; the tables that its row lists are tied by the given tie. No condition. -/
import Derived.Test.YtldijmappinngaaGreatDoorPX04
import Derived.Test.YtldijmappinngaaGreatDoorCards
import Derived.Test.YtldijmappinngaaGreatDoorTie
import Derived.LaidMore
import Derived.Lay
import Derived.SevenTiedAt
import Derived.Stop.Joined
namespace Go.Proofs.YtldijmappinngaaGreatDoor
open Go.RowKit Go.Kb Go.ChangeShapes Go.WideShapes Go.ChangeAt
set_option maxRecDepth 100000

section
variable {H : Type} {enc : TypeId × Value → H} {P : Program} {W : World}
theorem fields_of {t : TypeId} {fs : Array Field} (hs : P.underlying t = some (.struct fs)) {fuel : Nat} {cs : List Value} {x : DataW H × List MemPlace}
    (h : DataW.trod enc P W 0 (fun _ => true) true fuel t cs = some x) (hw : (x.1.weights P t).all (· ≤ reachBytes) = true) :
    cs.length = P.cellsOf t ∧ ∀ (j : Nat) (f : Field), fs[j]? = some f → FieldOpens enc P W cs f.type f.offset := by
  obtain ⟨xs, n, rfl, rfl, hl, hxl, hf⟩ := DataW.trod_struct hs h
  refine ⟨hl, fun j f hj => ?_⟩
  have h1 := hf j f hj
  have hlt : j < xs.length := by rw [hxl]; exact (Array.getElem?_eq_some_iff.1 hj).1
  rw [List.getElem?_eq_getElem hlt] at h1
  refine ⟨n, _, h1, ?_⟩
  simp only [DataW.weights, hs] at hw
  refine weightsEach_at hw (j := j) ?_ ?_
  · rw [List.getElem?_map]
    have : fs.toList[j]? = some f := by simpa using hj
    rw [this]; rfl
  · rw [List.getElem?_map, List.getElem?_eq_getElem hlt]; rfl
theorem field_str {cs : List Value} {t : TypeId} {o : Nat} (h : FieldOpens enc P W cs t o) (hu : P.underlying t = some .string) (hc : P.cellsOf t = 1) : ∃ s : ByteArray, cs[o]? = some (.string s) := by
  obtain ⟨fuel, x, h1, h2⟩ := h
  rw [hc] at h1
  obtain ⟨s, h3, _⟩ := DataW.trod_string hu h1
  exact ⟨s, cell_of_take h3⟩
end
theorem u32_bd {n : Int} (h : (Lit.int .u32 n).wf = true) : 0 ≤ n ∧ n ≤ 4294967295 := by
  simpa [Lit.wf, IntKind.min, IntKind.max, IntKind.signed, IntKind.bits] using h
theorem u16_bd {n : Int} (h : (Lit.int .u16 n).wf = true) : 0 ≤ n ∧ n ≤ 65535 := by
  simpa [Lit.wf, IntKind.min, IntKind.max, IntKind.signed, IntKind.bits] using h
/-- how a request lies in eleven cells -/
def RqR : Rep Rq where
  size := 11
  pos := by decide
  rel := fun A w cs r => ∃ v, cs = (rqA r v).toList ∧ RdS Ub8 A w v r.mo
  len := fun ⟨v, h, _⟩ => by rw [h]; rfl
  one := fun ⟨v, h, h2⟩ u hu => by
    obtain ⟨Ad, c, rfl, _⟩ := h2.shape
    rw [h] at hu
    simp at hu
    rcases hu with rfl | rfl | rfl | rfl | rfl | rfl | rfl | rfl | rfl | rfl | rfl <;> rfl
  keep := fun ⟨v, h, h2⟩ hk => ⟨v, h, h2.keep hk⟩
/-- how a size lies in four -/
def SzR : Rep (Int × Int × Int × Int) where
  size := 4
  pos := by decide
  rel := fun _ _ cs d => cs = [.int .u32 d.1, .int .u32 d.2.1, .int .u32 d.2.2.1, .int .u32 d.2.2.2]
  len := fun h => by rw [h]; rfl
  one := fun h u hu => by
    rw [h] at hu
    simp at hu
    rcases hu with rfl | rfl | rfl | rfl <;> rfl
  keep := fun h _ => h
theorem opens_size {H : Type} {enc : TypeId × Value → H} (W : World) : Opens enc Tryz.prog W 45 SzR (fun d => (0 ≤ d.1 ∧ d.1 ≤ 4294967295) ∧ (0 ≤ d.2.1 ∧ d.2.1 ≤ 4294967295) ∧ (0 ≤ d.2.2.1 ∧ d.2.2.1 ≤ 4294967295) ∧ (0 ≤ d.2.2.2 ∧ d.2.2.2 ≤ 4294967295)) := by
  intro fuel cs x h hw
  obtain ⟨hl, hf⟩ := fields_of Tryz.underlying45 h hw
  have cT : Tryz.prog.cellsOf 45 = 4 := by kernel_rfl
  rw [cT] at hl
  have f0 : FieldOpens enc Tryz.prog W cs 26 0 := hf 0 _ rfl
  have f1 : FieldOpens enc Tryz.prog W cs 26 1 := hf 1 _ rfl
  have f2 : FieldOpens enc Tryz.prog W cs 26 2 := hf 2 _ rfl
  have f3 : FieldOpens enc Tryz.prog W cs 26 3 := hf 3 _ rfl
  obtain ⟨a, h0, b0⟩ := f0.int Tryz.underlying26 (by kernel_rfl)
  obtain ⟨b, h1, b1⟩ := f1.int Tryz.underlying26 (by kernel_rfl)
  obtain ⟨c, h2, b2⟩ := f2.int Tryz.underlying26 (by kernel_rfl)
  obtain ⟨d, h3, b3⟩ := f3.int Tryz.underlying26 (by kernel_rfl)
  refine ⟨(a, b, c, d), ?_, u32_bd b0, u32_bd b1, u32_bd b2, u32_bd b3⟩
  match cs, hl with
  | [a0, a1, a2, a3], _ =>
    simp only [List.getElem?_cons_zero, List.getElem?_cons_succ, Option.some.injEq] at h0 h1 h2 h3
    subst h0 h1 h2 h3
    rfl
theorem opens_req {H : Type} {enc : TypeId × Value → H} (W : World) : Opens enc Tryz.prog W 47 RqR Rq.Raw := by
  intro fuel cs x h hw
  obtain ⟨hl, hf⟩ := fields_of Tryz.underlying47 h hw
  have cT : Tryz.prog.cellsOf 47 = 11 := by kernel_rfl
  rw [cT] at hl
  have f0 : FieldOpens enc Tryz.prog W cs 3 0 := hf 0 _ rfl
  have f1 : FieldOpens enc Tryz.prog W cs 9 1 := hf 1 _ rfl
  have f2 : FieldOpens enc Tryz.prog W cs 9 2 := hf 2 _ rfl
  have f3 : FieldOpens enc Tryz.prog W cs 9 3 := hf 3 _ rfl
  have f4 : FieldOpens enc Tryz.prog W cs 45 4 := hf 4 _ rfl
  have f5 : FieldOpens enc Tryz.prog W cs 25 8 := hf 5 _ rfl
  have f6 : FieldOpens enc Tryz.prog W cs 4 9 := hf 6 _ rfl
  have f7 : FieldOpens enc Tryz.prog W cs 26 10 := hf 7 _ rfl
  obtain ⟨k, h0, _⟩ := f0.int Tryz.underlying3 (by kernel_rfl)
  obtain ⟨tx, h1⟩ := field_str f1 Tryz.underlying9 (by kernel_rfl)
  obtain ⟨vl, h2⟩ := field_str f2 Tryz.underlying9 (by kernel_rfl)
  obtain ⟨la, h3⟩ := field_str f3 Tryz.underlying9 (by kernel_rfl)
  obtain ⟨sz, h4, z1, z2, z3, z4⟩ := f4.opens (opens_size W) (n := 4) (by kernel_rfl)
  obtain ⟨u, l, h8, hr, hR⟩ := f5.slice (opens_slice Tryz.underlying25 (by kernel_rfl) (opens_int Tryz.underlying5)) (by kernel_rfl)
  obtain ⟨on, h9⟩ := f6.bool Tryz.underlying4 (by kernel_rfl)
  obtain ⟨co, h10, b10⟩ := f7.int Tryz.underlying26 (by kernel_rfl)
  refine ⟨⟨k, tx, vl, la, sz.1, sz.2.1, sz.2.2.1, sz.2.2.2, l, on, co⟩, ⟨u, ?_, hr⟩, ⟨fun x hx => u8_bd (hR.1 x hx), z1, z2, z3, z4, u32_bd b10⟩⟩
  match cs, hl with
  | [a0, a1, a2, a3, a4, a5, a6, a7, a8, a9, a10], _ =>
    have h4 : [a4, a5, a6, a7] = [.int .u32 sz.1, .int .u32 sz.2.1, .int .u32 sz.2.2.1, .int .u32 sz.2.2.2] := h4
    simp only [List.getElem?_cons_zero, List.getElem?_cons_succ, Option.some.injEq] at h0 h1 h2 h3 h8 h9 h10
    simp only [List.cons.injEq, and_true] at h4
    obtain ⟨e4, e5, e6, e7⟩ := h4
    subst h0 h1 h2 h3 e4 e5 e6 e7 h8 h9 h10
    rfl
set_option maxHeartbeats 800000 in
theorem topAsk_own : ownKnob Tryz.prog.godebug = none := by kernel_rfl
set_option maxRecDepth 100000 in
theorem topAsk_lifted (os : Os) (started : os.Started) (H : Type) (enc : TypeId × Value → H) :
    ReturnsInHanded {} Tryz.checked os 4 .any (fun w args => (Rows.topAskSpec.pre enc Tryz.prog Tryz.f4 Rows.topAskRow.domain false w args ∧ laidMetH Tryz.prog Rows.topAskRow.laid w) ∧ sizedMet enc Tryz.prog Tryz.f4 (OpenSpec.ofChange Rows.topAskSpec) false w args)
      (Rows.topAskSpec.post enc Tryz.prog Tryz.f4 false true false false) := by
  refine returnsInHanded_of_change_and (C := Tryz.checked) (X := fun w _ => laidMetH Tryz.prog Rows.topAskRow.laid w) (fun _ _ _ hh h => h.of_heap hh) topAsk_own started (by kernel_rfl) Tryz.func4
    (ChangeSpec.witness_shaped (enc := enc) (C := Tryz.checked) (os := os) (X := fun w _ => laidMetH Tryz.prog Rows.topAskRow.laid w) false (World.laidAll Tryz.prog os Rows.topAskRow.laid) #[.agg #[.int .i64 0, .string ⟨#[]⟩, .string ⟨#[]⟩, .string ⟨#[]⟩, .int .u32 0, .int .u32 0, .int .u32 0, .int .u32 0, .slice none 0 0, .bool false, .int .u32 0], .int .u32 0, .bool false] 8 (World.laidAll_os _ _ _)
      (World.shaped_of_ZipB (by kernel_rfl) (by kernel_rfl)) (by kernel_rfl) (by kernel_rfl) (by kernel_rfl)
      (by rw [MakeChecks.laidMetH_plain _ _ _ (by kernel_rfl)]; exact laidMet_laidAll _ (by kernel_rfl) (by kernel_rfl))) ?_
  intro W base args ds gs before hval0 hW _ hsz0 _ _
  have hsz : (DataW.weightsEach Tryz.prog (Tryz.f4.params.toList ++ Rows.topAskSpec.plain.varTypes Tryz.prog) (ds ++ gs)).all (· ≤ reachBytes) = true := hsz0
  clear hsz0
  have hval : ∀ (j : Nat) t v, Tryz.f4.params[j]? = some t → args[j]? = some v → Value.okWide Tryz.prog W .any base t v := hval0
  have hW' := hW
  obtain ⟨p, q, hA0, hV, rfl, _, _⟩ := hW
  have hA : DataW.TrodAll enc Tryz.prog W 0 (fun _ => true) true Tryz.f4.params.toList args.toList ds p := hA0
  rw [Tryz.params4] at hA hval hsz
  obtain ⟨rfl, rfl⟩ := trodVars_none hV
  have hkeep := hA
  have hlt : ∀ x ∈ p, x.block < W.heap.size := fun x hx => hW'.lt x (by simpa using hx)
  clear hA0 hval0
  obtain ⟨v0, vs0, d0, ds0, p0, q0, hargs, rfl, rfl, h0, r0⟩ := trodAll_cons hA
  obtain ⟨v1, vs1, d1, ds1, p1, q1, rfl, rfl, rfl, h1, r1⟩ := trodAll_cons r0
  obtain ⟨v2, vs2, d2, ds2, p2, q2, rfl, rfl, rfl, h2, r2⟩ := trodAll_cons r1
  obtain ⟨rfl, rfl, rfl⟩ := trodAll_nil r2
  obtain rfl : args = #[v0, v1, v2] := by cases args; simp_all
  simp only [List.cons_append, List.nil_append, DataW.weightsEach, List.all_append, Bool.and_eq_true] at hsz
  obtain ⟨cs, r, rfl, ⟨v, hcs, hmo⟩, hR⟩ := (opens_req (enc := enc) W).agg Tryz.underlying47 (hval 0 47 v0 rfl rfl) h0 hsz.1
  obtain rfl : cs = rqA r v := by apply Array.ext'; exact hcs
  obtain ⟨ch, rfl, rfl, rfl, hch⟩ := open_int Tryz.underlying26 (hval 1 26 v1 rfl rfl) h1
  obtain ⟨wa, rfl, rfl, rfl⟩ := open_bool Tryz.underlying4 (hval 2 4 v2 rfl rfl) h2
  refine (topAsk_walk r v ch wa W hmo.y hR (u32_bd hch)).mono fun e W' ⟨he, hE⟩ => ?_
  subst he
  exact ⟨_, rfl, _, _, _, [], _, [], hW', trodAll_mk1 (shut_bool Tryz.underlying4 _), trodAll_stays (by kernel_rfl) (by kernel_rfl) hkeep hE hlt, rfl, hE.frame _, fun h => by cases h⟩
theorem topAsk_row : Rows.TopAskSaid :=
  OpenClaim.holds_of_wide 4 Tryz.f4 rfl rfl rfl rfl rfl rfl rfl ⟨rfl, rfl, rfl, rfl, rfl⟩ rfl rfl rfl rfl rfl (by kernel_rfl) Tryz.func4 (by kernel_rfl)
    (of_decide_eq_true (by kernel_rfl)) (by unfold Func.isWrapper; first | (rw [if_pos (by decide +kernel)]; kernel_rfl) | (rw [if_neg (by decide +kernel)]; exact ⟨rfl, rfl⟩))
    (fun os started H enc _ => topAsk_lifted os started H enc)
/-- THE STATEMENT: THE TIED CARD -/
theorem topAsk_holds : Rows.TopAskCardSaid :=
  Claim7.holds_tied_plain_at .later [] [.data, .pinned] true Rows.topAskCard.stood.harness false topAsk_row (fun _ h => by cases h) (by kernel_rfl) (fun _ h => by cases h) topAsk_row_tie rfl ⟨rfl, rfl⟩ (by kernel_rfl) rfl
    (fun f fn hf hfn => by
      obtain rfl : f = 4 := Option.some.inj ((show Tryz.prog.funcNamed "parlour/parlourtop.TopAsk" = some 4 by kernel_rfl).symm.trans hf) |>.symm
      obtain rfl : fn = Tryz.f4 := (Option.some.inj (Tryz.func4.symm.trans hfn)).symm
      exact ⟨by kernel_rfl, fun j t ht => by
        rw [Tryz.params4] at ht
        have hm := Array.mem_of_getElem? ht
        have hall : ∀ u ∈ Tryz.f4.params, Tryz.prog.wantsStandIn u = false := by
          have h9 : Tryz.f4.params.all (fun u => !Tryz.prog.wantsStandIn u) = true := by kernel_rfl
          intro u hu
          have := Array.all_eq_true_iff_forall_mem.1 h9 u hu
          simpa using this
        rw [Tryz.params4] at hall
        exact hall t hm⟩)
    (by kernel_rfl)
#print axioms topAsk_holds
end Go.Proofs.YtldijmappinngaaGreatDoor
