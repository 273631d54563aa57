/- CanonRoom: for every lines and line the law answers true, and leaves its arguments as they were. No condition. -/
import Derived.Test.YtgahpclgdhghjaaJ13
import Derived.Test.YtgahpclgdhghjaaK13
namespace Go.Proofs.Ytgahpclgdhghjaa
open Go.RowKit Go.Kb Go.ChangeShapes Go.WideShapes Go.ChangeAt

/-- a line that is an argument -/
theorem open_line {H : Type} {enc : TypeId × Value → H} {W : World} {v : Value} {d : DataW H} {p : List MemPlace} {r : Reach} {b0 : Nat}
    (hok : Value.okWide Try.prog W r b0 35 v) (h : DataW.Trod enc Try.prog W 0 (fun _ => true) true 35 v d p) (hw : (d.weights Try.prog 35).all (· ≤ reachBytes) = true) :
    ∃ (u : Value) (l : List Int) (f : Bool), v = .agg #[u, .bool f] ∧ RdS Ub (fun _ => True) W u l ∧ l.length ≤ 140737488351232 := by
  have h1 := opens_pair (enc := enc) (W := W) Try.underlying35 rfl rfl (by kernel_rfl) (by kernel_rfl) (by kernel_rfl)
    (opens_slice Try.underlying25 (by kernel_rfl) (opens_int Try.underlying5)) (opens_bool Try.underlying4)
  obtain ⟨cs, d, rfl, hr, hR⟩ := Opens.agg h1 Try.underlying35 hok h hw
  obtain ⟨us, vs, h0, ⟨u, rfl, h2⟩, h3⟩ := hr
  have h3 : vs = [.bool d.2] := h3
  subst h3
  have e1 : Try.prog.bytesOf 5 = 1 := by kernel_rfl
  have hb := hR.1.2
  rw [e1] at hb
  refine ⟨u, d.1, d.2, ?_, h2, by omega⟩
  have h0' : cs.toList = [u, .bool d.2] := h0
  rw [show cs = #[u, .bool d.2] from Array.ext' h0']
theorem canonRoom_walk (v v2 : Value) (ls : List (List Int × Bool)) (l : List Int) (f : Bool) (w : World) (h : RdS Ln (fun _ => True) w v ls) (h2 : RdS Ub (fun _ => True) w v2 l) (hb : ∀ x ∈ ls, x.1.length ≤ 140737488351232) (hb2 : l.length ≤ 140737488351232) (hll : ls.length ≤ 4398046510976) :
    Calls Try.prog 4 #[v, .agg #[v2, .bool f]] w fun e w' => e = .returned (.bool true) ∧ Ext w w' := by
  by_cases hg : greatL ([(l, f)] ++ ls) = true
  · exact canonRoom_great v v2 ls l f w h h2 hll hg
  · cases f
    · exact canonRoom_false v v2 ls l w h h2 hb hb2 hg
    · exact canonRoom_true v v2 ls l w h h2 hb hb2 hg
set_option maxRecDepth 100000 in
theorem canonRoom_lifted (os : Os) (started : os.Started) (H : Type) (enc : TypeId × Value → H) :
    ReturnsInHanded {} Try.checked os 4 .any (Rows.canonRoomSpec.pre6 enc Try.prog Try.f4 Rows.canonRoomRow.domain false) (Rows.canonRoomSpec.post enc Try.prog Try.f4 false true false false) := by
  refine returnsInHanded_of_change_sized (C := Try.checked) (by kernel_rfl) started (by kernel_rfl) Try.func4
    (ChangeSpec.witness6 (enc := enc) (C := Try.checked) false ⟨#[], #[.slice none 0 0, .agg #[.slice none 0 0, .bool false]], []⟩ 8 (by kernel_rfl) (by kernel_rfl) (by kernel_rfl) (by kernel_rfl)) ?_
  intro W base args ds gs before hval0 hW _ hsz0 _
  have hsz : (DataW.weightsEach Try.prog (Try.f4.params.toList ++ Rows.canonRoomSpec.plain.varTypes Try.prog) (ds ++ gs)).all (· ≤ reachBytes) = true := hsz0
  clear hsz0
  have hval : ∀ (j : Nat) t v, Try.f4.params[j]? = some t → args[j]? = some v → Value.okWide Try.prog W .any base t v := hval0
  have hW' := hW
  obtain ⟨p, q, hA0, hV, rfl, _, _⟩ := hW
  have hA : DataW.TrodAll enc Try.prog W 0 (fun _ => true) true Try.f4.params.toList args.toList ds p := hA0
  rw [Try.params4] at hA hval hsz
  obtain ⟨rfl, rfl⟩ := trodVars_none hV
  have hkeep := hA
  have hlt : ∀ x ∈ p, x.block < W.heap.size := fun x hx => hW'.lt x (by simpa using hx)
  clear hA0 hval0
  obtain ⟨v0, vs0, d0, ds0, p0, q0, hargs, rfl, rfl, h0, r0⟩ := trodAll_cons hA
  obtain ⟨v1, vs1, d1, ds1, p1, q1, rfl, rfl, rfl, h1, r1⟩ := trodAll_cons r0
  obtain ⟨rfl, rfl, rfl⟩ := trodAll_nil r1
  obtain rfl : args = #[v0, v1] := by cases args; simp_all
  simp only [List.cons_append, List.nil_append, DataW.weightsEach, List.all_append, Bool.and_eq_true] at hsz
  obtain ⟨ls, hx, hb⟩ := (opens_ln (enc := enc) W).slice Try.underlying22 (hval 0 22 v0 rfl rfl) h0 hsz.1
  obtain ⟨u, l, f, rfl, hl, hl2⟩ := open_line (hval 1 35 v1 rfl rfl) h1 hsz.2.1
  refine (canonRoom_walk v0 u ls l f W hx hl (fun x hx => (hb.1 x hx).1) hl2 (by have := hb.2; omega)).mono fun e W' ⟨he, hE⟩ => ?_
  subst he
  exact ⟨_, rfl, _, _, _, [], _, [], hW', trodAll_mk1 (shut_bool Try.underlying4 _), trodAll_stays (by kernel_rfl) (by kernel_rfl) hkeep hE hlt, rfl, hE.frame _, fun h => by cases h⟩
/-- THE STATEMENT -/
theorem canonRoom_holds : Rows.CanonRoomSaid :=
  OpenClaim.holds_of_wide 4 Try.f4 rfl rfl rfl rfl rfl rfl rfl ⟨rfl, rfl, rfl, rfl, rfl⟩ rfl rfl rfl rfl rfl (by kernel_rfl) Try.func4 (by kernel_rfl)
    (of_decide_eq_true (by kernel_rfl)) (by unfold Func.isWrapper; first | (rw [if_pos (by decide +kernel)]; kernel_rfl) | (rw [if_neg (by decide +kernel)]; exact ⟨rfl, rfl⟩))
    (fun os started H enc _ => canonRoom_lifted os started H enc)
end Go.Proofs.Ytgahpclgdhghjaa
