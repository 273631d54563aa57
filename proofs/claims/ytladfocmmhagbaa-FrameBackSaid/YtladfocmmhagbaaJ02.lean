/- FrameBad: for every framer and bytes the law answers true, and leaves its arguments as they were. No condition. -/
import Derived.Test.YtladfocmmhagbaaI02
namespace Go.Proofs.Ytladfocmmhagbaa
open Go.RowKit Go.Kb Go.Kb.Frame Go.ChangeShapes Go.WideShapes Go.ChangeAt

theorem rdls_three {w : World} {x y z : Value} {l m n : List Int} {B : Nat} (hB : w.heap.size = B) (e : TypeId) (h : RI .u8 w x l) (h2 : RI .u8 w y m) (h3 : RI .u8 w z n) : RdLs (w.alloc (.cells #[x, y, z] e)) (.slice (some ⟨B, 0, none⟩) 3 3) [l, m, n] := by
  refine ⟨[x, y, z], rfl, ?_, fun j u k hz hn => ?_⟩
  · subst hB
    have := RdN.of_own (own_lit w w.heap.size e #[x, y, z] (Nat.le_refl _) (by simp [maxLen]))
    simpa using this
  · match j, hz, hn with
    | 0, hz, hn => simp at hz hn; subst hz hn; exact h.alloc _
    | 1, hz, hn => simp at hz hn; subst hz hn; exact h2.alloc _
    | 2, hz, hn => simp at hz hn; subst hz hn; exact h3.alloc _

/-- what is left holds less than a packet -/
def Less (r : List Int) : Prop := r.length < 4 ∨ (4 ≤ r.length ∧ 1 ≤ hd4 r ∧ hd4 r ≤ 33792 ∧ (r.length : Int) < 4 + hd4 r)
theorem feedGo_less : ∀ (f : Nat) (buf r : List Int), buf.length ≤ f → (feedGo f buf).2 = some r → Less r ∧ (∀ x ∈ r, x ∈ buf) := by
  intro f
  induction f with
  | zero =>
    intro buf r hl h
    have : buf = [] := List.eq_nil_of_length_eq_zero (by omega)
    subst this
    simp [feedGo] at h
    subst h
    exact ⟨.inl (by simp), fun x hx => hx⟩
  | succ f ih =>
    intro buf r hl h
    match buf, hl, h with
    | [], _, h => simp [feedGo] at h; subst h; exact ⟨.inl (by simp), fun x hx => hx⟩
    | [_], _, h => simp [feedGo] at h; subst h; exact ⟨.inl (by simp), fun x hx => hx⟩
    | [_, _], _, h => simp [feedGo] at h; subst h; exact ⟨.inl (by simp), fun x hx => hx⟩
    | [_, _, _], _, h => simp [feedGo] at h; subst h; exact ⟨.inl (by simp), fun x hx => hx⟩
    | a :: b :: c :: d :: t, hl, h =>
      simp only [feedGo] at h
      split at h
      · rename_i hn
        split at h
        · rename_i hw
          simp at h
          subst h
          have e : num4 a b c d = hd4 (a :: b :: c :: d :: t) := rfl
          rw [e] at hn hw
          refine ⟨.inr ⟨by simp, hn.1, hn.2, ?_⟩, fun x hx => hx⟩
          simp only [List.length_cons]
          omega
        · obtain ⟨h1, h2⟩ := ih _ r (by simp only [List.length_cons, List.length_drop] at hl ⊢; omega) h
          exact ⟨h1, fun x hx => by
            have := List.mem_of_mem_drop (h2 x hx)
            simp [this]⟩
      · simp at h
theorem feedR_cases (bad : Bool) (buf : List Int) : ∃ r b ls n, feedR bad buf = ((r, b), ls, n) ∧
    ((b = true ∧ r = [] ∧ (n = 5 ∨ (bad = true ∧ n = 9))) ∨ (b = false ∧ n = 0 ∧ Less r ∧ ∀ x ∈ r, x ∈ buf)) := by
  cases bad
  · cases h : (feed buf).2 with
    | none => exact ⟨[], true, (feed buf).1, 5, by simp [feedR, h], .inl ⟨rfl, rfl, .inl rfl⟩⟩
    | some r =>
      obtain ⟨h1, h2⟩ := feedGo_less buf.length buf r (Nat.le_refl _) h
      exact ⟨r, false, (feed buf).1, 0, by simp [feedR, h], .inr ⟨rfl, rfl, h1, h2⟩⟩
  · exact ⟨[], true, [], 9, rfl, .inl ⟨rfl, rfl, .inr ⟨rfl, rfl⟩⟩⟩

set_option maxHeartbeats 800000 in
theorem frameBad_walk (vb v u : Value) (bad : Bool) (xs ys zs : List Int) (w : World) (h1 : RI .u8 w vb xs) (h2 : RI .u8 w v ys) (h3 : RI .u8 w u zs) (b1 : Bs xs) (b2 : Bs ys) (b3 : Bs zs) :
    Calls Try.prog 7 #[.agg #[vb, .bool bad], v, u] w fun e w' => e = .returned (.bool true) ∧ Ext w w' := by
  have X := Lib.hid h1
  have Y := Lib.hid h2
  have Z := Lib.hid h3
  have BX := Lib.hid b1
  have BY := Lib.hid b2
  have BZ := Lib.hid b3
  obtain ⟨A, c, rfl, hc, hm⟩ := h1.shape
  obtain ⟨A', c', rfl, hc', hm'⟩ := h2.shape
  obtain ⟨A'', c'', rfl, hc'', hm''⟩ := h3.shape
  have BB := Lib.hid (Blk.new w 33 #[.slice A xs.length c, .bool bad])
  clear h1 h2 h3
  by_cases hg : 200000 < xs.length ∨ 200000 < ys.length ∨ 200000 < zs.length
  · have HG : Hid (([xs, ys, zs].any fun l => decide (200000 < l.length)) = true) := Lib.hid (by simpa using hg)
    clear hg b1 b2 b3
    go_enter Try.func7, Try.ntmps7
    go_wp2_with (first
      | ((go_at_call 8; refine (alive_any _).mono ?_; rintro e w1 ⟨rfl, E1⟩); obtain ⟨q0, q1, _, _⟩ := (BB.out.ext E1).two)
      | ((go_at_call 9; refine (great_any _ [xs, ys, zs] _ (rdls_three rfl _ ((X.out.alloc _).ext E1) ((Y.out.alloc _).ext E1) ((Z.out.alloc _).ext E1))).mono ?_; rintro e w2 ⟨rfl, E2⟩); rw [HG.out]))
    go_ret
    exact ⟨rfl, (by repeat (first | with_reducible exact Ext.refl _ | refine Ext.drewN ?_ _ | refine Ext.drew ?_ | refine Ext.alloc ?_ _ | assumption | (refine Below.trans ?_ (by assumption)) | (refine Ext.trans ?_ (by assumption)) | (refine Below.trans ?_ (Below.mono (by assumption) (by omega)))))⟩
  · have HG : Hid (([xs, ys, zs].any fun l => decide (200000 < l.length)) = false) := Lib.hid (by simp; omega)
    have n1 : xs.length ≤ 200000 := by omega
    have n2 : ys.length ≤ 200000 := by omega
    have n3 : zs.length ≤ 200000 := by omega
    obtain ⟨r, b, ls, n, hR, hcase⟩ := feedR_cases bad (xs ++ ys)
    have HR := Lib.hid hR
    clear hR hg
    rcases hcase with ⟨rfl, rfl, hn⟩ | ⟨rfl, rfl, hless, hmem⟩
    · have HR2 : Hid (feedR true ([] ++ zs) = (([], true), [], 9)) := Lib.hid rfl
      clear b1 b2 b3
      rcases hn with rfl | ⟨rfl, rfl⟩
      all_goals
        go_enter Try.func7, Try.ntmps7
        go_wp2_with (first
          | ((go_at_call 8; refine (alive_any _).mono ?_; rintro e w1 ⟨rfl, E1⟩); obtain ⟨q0, q1, _, _⟩ := (BB.out.ext E1).two)
          | ((go_at_call 9; refine (great_any _ [xs, ys, zs] _ (rdls_three rfl _ ((X.out.alloc _).ext E1) ((Y.out.alloc _).ext E1) ((Z.out.alloc _).ext E1))).mono ?_; rintro e w2 ⟨rfl, E2⟩); rw [HG.out]; clear q0 q1; have E02 : Ext (w.alloc (.cells #[.slice A xs.length c, .bool _] 33)) w2 := (by repeat (first | with_reducible exact Ext.refl _ | refine Ext.drewN ?_ _ | refine Ext.drew ?_ | refine Ext.alloc ?_ _ | assumption | (refine Below.trans ?_ (by assumption)) | (refine Ext.trans ?_ (by assumption)) | (refine Below.trans ?_ (Below.mono (by assumption) (by omega))))); obtain ⟨q0, q1, _, _⟩ := (BB.out.ext E02).two)
          | ((go_at_call 13; refine (to_any _ _ xs _ ((X.out.alloc _).ext E02) (by omega)).mono ?_; rintro e w3 ⟨v3, rfl, o3, E3⟩); obtain ⟨A3, c3, rfl⟩ := own_shape o3))
        refine (feed_any _ _ _ xs ys _ (RdN.of_own o3) (((Y.out.alloc _).ext E02).ext E3) BX.out BY.out (by omega) (by omega)).mono ?_
        rintro e w5 ⟨v5, l5, rfl, ⟨vs, mid, o5, lt5, r5⟩, E5⟩
        simp only [HR.out] at o5 r5 ⊢
        obtain ⟨A5, c5, rfl⟩ := own_shape r5
        obtain ⟨B5, d5, rfl⟩ := own_shape o5.2.1
        go_wp2_with fail
        refine (feed_any _ _ true [] zs _ ((RdN.of_own r5).alloc _) ((((Z.out.alloc _).ext E02).ext (E3.trans E5)).alloc _) (fun x hx => by simp at hx) BZ.out (by simp) (by omega)).mono ?_
        rintro e w6 ⟨v6, l6, rfl, ⟨vs6, mid6, o6, lt6, r6⟩, E6⟩
        simp only [HR2.out] at o6 r6 ⊢
        obtain ⟨A6, c6, rfl⟩ := own_shape r6
        obtain ⟨B6, d6, rfl⟩ := own_shape o6.2.1
        have E56 : Ext (w5.alloc (.cells #[.slice A5 0 c5, .bool true] 34)) w6 := E6
        have g0 := fun o => (((Blk.new w5 34 #[.slice A5 0 c5, .bool true]).ext E56).alloc o).two.1
        have E06 : Ext (w.alloc (.cells #[.slice A xs.length c, .bool _] 33)) w6 := E02.trans (E3.trans (E5.trans (((Ext.refl _).alloc _).trans E6)))
        have f1 := fun o => ((BB.out.ext E06).alloc o).two.2.1
        go_wp2
        go_ret
        exact ⟨rfl, ((Ext.refl _).alloc _).trans (E06.alloc _)⟩
    · have BR := Lib.hid (show Bs r from fun x hx => by
        rcases List.mem_append.1 (hmem x hx) with h | h
        · exact b1 x h
        · exact b2 x h)
      clear b1 b2 b3 hmem
      have hbd := hd4_bd BR.out
      rcases hless with hl4 | ⟨hl4, hd1, hd2, hd3⟩
      · have hl4' : r.length < 4 := hl4
        go_enter Try.func7, Try.ntmps7
        go_wp2_with (first
          | ((go_at_call 8; refine (alive_any _).mono ?_; rintro e w1 ⟨rfl, E1⟩); obtain ⟨q0, q1, _, _⟩ := (BB.out.ext E1).two)
          | ((go_at_call 9; refine (great_any _ [xs, ys, zs] _ (rdls_three rfl _ ((X.out.alloc _).ext E1) ((Y.out.alloc _).ext E1) ((Z.out.alloc _).ext E1))).mono ?_; rintro e w2 ⟨rfl, E2⟩); rw [HG.out]; clear q0 q1; have E02 : Ext (w.alloc (.cells #[.slice A xs.length c, .bool _] 33)) w2 := (by repeat (first | with_reducible exact Ext.refl _ | refine Ext.drewN ?_ _ | refine Ext.drew ?_ | refine Ext.alloc ?_ _ | assumption | (refine Below.trans ?_ (by assumption)) | (refine Ext.trans ?_ (by assumption)) | (refine Below.trans ?_ (Below.mono (by assumption) (by omega))))); obtain ⟨q0, q1, _, _⟩ := (BB.out.ext E02).two)
          | ((go_at_call 13; refine (to_any _ _ xs _ ((X.out.alloc _).ext E02) (by omega)).mono ?_; rintro e w3 ⟨v3, rfl, o3, E3⟩); obtain ⟨A3, c3, rfl⟩ := own_shape o3))
        refine (feed_any _ _ _ xs ys _ (RdN.of_own o3) (((Y.out.alloc _).ext E02).ext E3) BX.out BY.out (by omega) (by omega)).mono ?_
        rintro e w5 ⟨v5, l5, rfl, ⟨vs, mid, o5, lt5, r5⟩, E5⟩
        simp only [HR.out] at o5 r5 ⊢
        obtain ⟨A5, c5, rfl⟩ := own_shape r5
        obtain ⟨B5, d5, rfl⟩ := own_shape o5.2.1
        go_wp2
        go_ret
        exact ⟨rfl, ((Ext.refl _).alloc _).trans ((E02.trans (E3.trans E5)).alloc _)⟩
      · have hrl : r.length ≤ 37892 := by omega
        go_enter Try.func7, Try.ntmps7
        go_wp2_with (first
          | ((go_at_call 8; refine (alive_any _).mono ?_; rintro e w1 ⟨rfl, E1⟩); obtain ⟨q0, q1, _, _⟩ := (BB.out.ext E1).two)
          | ((go_at_call 9; refine (great_any _ [xs, ys, zs] _ (rdls_three rfl _ ((X.out.alloc _).ext E1) ((Y.out.alloc _).ext E1) ((Z.out.alloc _).ext E1))).mono ?_; rintro e w2 ⟨rfl, E2⟩); rw [HG.out]; clear q0 q1; have E02 : Ext (w.alloc (.cells #[.slice A xs.length c, .bool _] 33)) w2 := (by repeat (first | with_reducible exact Ext.refl _ | refine Ext.drewN ?_ _ | refine Ext.drew ?_ | refine Ext.alloc ?_ _ | assumption | (refine Below.trans ?_ (by assumption)) | (refine Ext.trans ?_ (by assumption)) | (refine Below.trans ?_ (Below.mono (by assumption) (by omega))))); obtain ⟨q0, q1, _, _⟩ := (BB.out.ext E02).two)
          | ((go_at_call 13; refine (to_any _ _ xs _ ((X.out.alloc _).ext E02) (by omega)).mono ?_; rintro e w3 ⟨v3, rfl, o3, E3⟩); obtain ⟨A3, c3, rfl⟩ := own_shape o3))
        refine (feed_any _ _ _ xs ys _ (RdN.of_own o3) (((Y.out.alloc _).ext E02).ext E3) BX.out BY.out (by omega) (by omega)).mono ?_
        rintro e w5 ⟨v5, l5, rfl, ⟨vs, mid, o5, lt5, r5⟩, E5⟩
        simp only [HR.out] at o5 r5 ⊢
        obtain ⟨A5, c5, rfl⟩ := own_shape r5
        obtain ⟨B5, d5, rfl⟩ := own_shape o5.2.1
        go_wp2_with ((go_at_call 18; refine (number_any _ r _ ((RdN.of_own r5).alloc _) BR.out hl4).mono ?_; rintro e w6 ⟨rfl, E6⟩); have g0 := ((Blk.new w5 34 #[.slice A5 r.length c5, .bool false]).ext E6).two.1)
        go_ret
        refine ⟨ret_bool ?_, ((Ext.refl _).alloc _).trans (((E02.trans (E3.trans E5)).alloc _).trans E6)⟩
        first | rfl | (simp; done) | (simp; omega)
set_option maxRecDepth 100000 in
theorem frameBad_lifted (os : Os) (started : os.Started) (H : Type) (enc : TypeId × Value → H) :
    ReturnsInHanded {} Try.checked os 7 .any (Rows.frameBadSpec.pre6 enc Try.prog Try.f7 Rows.frameBadRow.domain false) (Rows.frameBadSpec.post enc Try.prog Try.f7 false true false false) := by
  refine returnsInHanded_of_change (C := Try.checked) (by kernel_rfl) started (by kernel_rfl) Try.func7
    (ChangeSpec.witness6 (enc := enc) (C := Try.checked) false ⟨#[], #[.agg #[.slice none 0 0, .bool false], .slice none 0 0, .slice none 0 0], []⟩ 8 (by kernel_rfl) (by kernel_rfl) (by kernel_rfl) (by kernel_rfl)) ?_
  intro W base args ds gs before hval0 hW _ _
  have hval : ∀ (j : Nat) t v, Try.f7.params[j]? = some t → args[j]? = some v → Value.okWide Try.prog W .any base t v := hval0
  have hW' := hW
  obtain ⟨p, q, hA0, hV, rfl, _, _⟩ := hW
  have hA : DataW.TrodAll enc Try.prog W 0 (fun _ => true) true Try.f7.params.toList args.toList ds p := hA0
  rw [Try.params7] at hA hval
  obtain ⟨rfl, rfl⟩ := trodVars_none hV
  have hkeep := hA
  have hlt : ∀ x ∈ p, x.block < W.heap.size := fun x hx => hW'.lt x (by simpa using hx)
  clear hA0 hval0
  obtain ⟨v0, vs0, d0, ds0, p0, q0, hargs, rfl, rfl, h0, r0⟩ := trodAll_cons hA
  obtain ⟨v1, vs1, d1, ds1, p1, q1, rfl, rfl, rfl, h1, r1⟩ := trodAll_cons r0
  obtain ⟨v2, vs2, d2, ds2, p2, q2, rfl, rfl, rfl, h2, r2⟩ := trodAll_cons r1
  obtain ⟨rfl, rfl, rfl⟩ := trodAll_nil r2
  obtain rfl : args = #[v0, v1, v2] := by cases args; simp_all
  obtain ⟨va, xs, b, rfl, hx, bx⟩ := open_bytes_bool Try.underlying33 (by kernel_rfl) (by kernel_rfl) Try.underlying22 Try.underlying5 (by kernel_rfl) Try.underlying4 (hval 0 33 v0 rfl rfl) h0
  obtain ⟨ys, hy, bY⟩ := open_bytes1 Try.underlying22 Try.underlying5 (by kernel_rfl) (hval 1 22 v1 rfl rfl) h1
  obtain ⟨zs, hz, bZ⟩ := open_bytes1 Try.underlying22 Try.underlying5 (by kernel_rfl) (hval 2 22 v2 rfl rfl) h2
  refine (frameBad_walk va v1 v2 b xs ys zs W hx hy hz bx bY bZ).mono fun e W' ⟨he, hE⟩ => ?_
  subst he
  exact ⟨_, rfl, _, _, _, [], _, [], hW', trodAll_mk1 (shut_bool Try.underlying4 _), trodAll_stays (by kernel_rfl) (by kernel_rfl) hkeep hE hlt, rfl, hE.frame _, fun h => by cases h⟩
/-- THE STATEMENT -/
theorem frameBad_holds : Rows.FrameBadSaid :=
  OpenClaim.holds_of_wide 7 Try.f7 rfl rfl rfl rfl rfl rfl rfl ⟨rfl, rfl, rfl, rfl, rfl⟩ rfl rfl rfl rfl rfl (by kernel_rfl) Try.func7 (by kernel_rfl)
    (of_decide_eq_true (by kernel_rfl)) (by unfold Func.isWrapper; first | (rw [if_pos (by decide +kernel)]; kernel_rfl) | (rw [if_neg (by decide +kernel)]; exact ⟨rfl, rfl⟩))
    (fun os started H enc _ => frameBad_lifted os started H enc)
end Go.Proofs.Ytladfocmmhagbaa
