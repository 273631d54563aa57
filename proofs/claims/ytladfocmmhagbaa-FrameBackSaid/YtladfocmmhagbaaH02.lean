/- FramePuts: for every payload the law answers true, and leaves its argument as it was. No condition. -/
import Derived.Test.YtladfocmmhagbaaG02
import Derived.Test.YtladfocmmhagbaaFrame
namespace Go.Proofs.Ytladfocmmhagbaa
open Go.RowKit Go.Kb Go.Kb.Frame Go.ChangeShapes Go.WideShapes Go.ChangeAt

theorem rdls_one {w : World} {x : Value} {l : List Int} {B : Nat} (hB : w.heap.size = B) (e : TypeId) (h : RI .u8 w x l) : RdLs (w.alloc (.cells #[x] e)) (.slice (some ⟨B, 0, none⟩) 1 1) [l] :=
  ⟨[x], rfl, RdN.oneB hB e x, fun j y m hy hm => by
    match j, hy, hm with
    | 0, hy, hm => simp at hy hm; subst hy hm; exact h.alloc _⟩

set_option maxHeartbeats 800000 in
theorem framePuts_walk (v : Value) (xs : List Int) (w : World) (h : RI .u8 w v xs) :
    Calls Try.prog 3 #[v] w fun e w' => e = .returned (.bool true) ∧ Ext w w' := by
  have H := Lib.hid h
  obtain ⟨A, c, rfl, hc, hm⟩ := h.shape
  clear h
  by_cases hg : 200000 < xs.length
  · have HG : Hid (([xs].any fun l => decide (200000 < l.length)) = true) := Lib.hid (by simp [hg])
    clear hg
    go_enter Try.func3, Try.ntmps3
    go_wp2_with (first
      | (go_at_call 8; refine (alive_any _).mono ?_; rintro e w1 ⟨rfl, E1⟩)
      | ((go_at_call 9; refine (great_any _ [xs] _ (rdls_one rfl _ (H.out.ext E1))).mono ?_; rintro e w2 ⟨rfl, E2⟩); rw [HG.out]))
    go_ret
    exact ⟨rfl, (by repeat (first | with_reducible exact Ext.refl _ | refine Ext.drewN ?_ _ | refine Ext.drew ?_ | refine Ext.alloc ?_ _ | assumption | (refine Below.trans ?_ (by assumption)) | (refine Ext.trans ?_ (by assumption)) | (refine Below.trans ?_ (Below.mono (by assumption) (by omega)))))⟩
  · have HG : Hid (([xs].any fun l => decide (200000 < l.length)) = false) := Lib.hid (by simp; omega)
    have hb : ∀ x : Bool, (x != x) = false := fun x => by simp
    go_enter Try.func3, Try.ntmps3
    go_wp2_with (first
      | (go_at_call 8; refine (alive_any _).mono ?_; rintro e w1 ⟨rfl, E1⟩)
      | ((go_at_call 9; refine (great_any _ [xs] _ (rdls_one rfl _ (H.out.ext E1))).mono ?_; rintro e w2 ⟨rfl, E2⟩); rw [HG.out])
      | (at_builtin; refine app_u8 _ rfl _ _ rfl w2.heap.size _ 0 [] rfl (own_empty rfl _ _ _ (Nat.le_refl _)) _ xs.length _ rfl (H.out.ext (by repeat (first | with_reducible exact Ext.refl _ | refine Ext.drewN ?_ _ | refine Ext.drew ?_ | refine Ext.alloc ?_ _ | assumption | (refine Below.trans ?_ (by assumption)) | (refine Ext.trans ?_ (by assumption)) | (refine Below.trans ?_ (Below.mono (by assumption) (by omega)))))) (one_ints _ _) (by omega) (by simp) ?_; intro v3 w3 hown3 hB3 hg3 hat3; obtain ⟨A3, c3, rfl⟩ := own_shape hown3; have E3 : Ext w2 w3 := Below.trans ((Ext.refl _).alloc _) hB3; clear hB3 hg3 hat3)
      | ((go_at_call 10; refine (put_any _ xs _ (RdN.of_own (by simpa using hown3)) (by omega)).mono ?_; rintro e w4 ⟨v4, rfl, o4, E4⟩); obtain ⟨A4, c4, rfl⟩ := own_shape o4)
      | ((go_at_call 11; refine (refput_any _ xs _ (H.out.ext (by repeat (first | with_reducible exact Ext.refl _ | refine Ext.drewN ?_ _ | refine Ext.drew ?_ | refine Ext.alloc ?_ _ | assumption | (refine Below.trans ?_ (by assumption)) | (refine Ext.trans ?_ (by assumption)) | (refine Below.trans ?_ (Below.mono (by assumption) (by omega)))))) (by omega)).mono ?_; rintro e w5 ⟨v5, rfl, o5, E5⟩); obtain ⟨A5, c5, rfl⟩ := own_shape o5)
      | ((go_at_call 12; refine (bytes_any _ _ (fput xs).1 (fput xs).1 _ (o4.rd.ext E5) o5.rd).mono ?_; rintro e w6 ⟨rfl, E6⟩)))
    have HI := Lib.hid (RdN.of_own (by simpa using hown3) : RdN w3 1 (.slice A3 xs.length c3) xs.length (u8s xs))
    have HO := Lib.hid (own_ext (own_ext o4 E5) E6)
    have HE : Hid (Ext w3 w6) := Lib.hid (by repeat (first | with_reducible exact Ext.refl _ | refine Ext.drewN ?_ _ | refine Ext.drew ?_ | refine Ext.alloc ?_ _ | assumption | (refine Below.trans ?_ (by assumption)) | (refine Ext.trans ?_ (by assumption)) | (refine Below.trans ?_ (Below.mono (by assumption) (by omega)))))
    have HE0 : Hid (Ext w w3) := Lib.hid (by repeat (first | with_reducible exact Ext.refl _ | refine Ext.drewN ?_ _ | refine Ext.drew ?_ | refine Ext.alloc ?_ _ | assumption | (refine Below.trans ?_ (by assumption)) | (refine Ext.trans ?_ (by assumption)) | (refine Below.trans ?_ (Below.mono (by assumption) (by omega)))))
    clear o4 o5 hown3 E1 E2 E3 E4 E5 E6
    have hll := fput_len xs
    generalize (fput xs).1 = l at *
    go_loopw [38] (fun i wr => ∃ k : Nat, k ≤ l.length ∧ i = .int .i64 k ∧ Ext w3 wr ∧ ∃ zs, wr.ownsRow w3.heap.size 5 1 (.slice A4 l.length c4) l.length (u8s zs)) (fun i _ => l.length - (intOf i).toNat)
    case atStart => exact ⟨0, Nat.zero_le _, rfl, HE.out, l, HO.out⟩
    case round =>
      obtain ⟨k, hk, rfl, hE, zs, hO⟩ := hrel
      have HO := Lib.hid hO
      clear hO
      by_cases hlt : k < l.length
      · obtain ⟨g, rfl, hgb, _⟩ := own_addr HO.out (by omega)
        obtain ⟨x, hx, hcell, hfr⟩ := own_int HO.out hlt
        clear hx
        go_wp2
        go_roundw
        case rel => exact ⟨k + 1, by omega, by go_num, hE.setNew hgb _, _, own_int_set HO.out k _⟩
        case measure => simp [intOf]; omega
      · go_wp2_with (go_at_call 12; refine (bytes_any _ _ xs xs _ (HI.out.ext hE) (H.out.ext (HE0.out.trans hE))).mono ?_; rintro e w7 ⟨rfl, E7⟩)
        go_ret
        exact ⟨by simp, (HE0.out.trans hE).trans E7⟩
set_option maxRecDepth 100000 in
theorem framePuts_lifted (os : Os) (started : os.Started) (H : Type) (enc : TypeId × Value → H) :
    ReturnsInHanded {} Try.checked os 3 .any (Rows.framePutsSpec.pre6 enc Try.prog Try.f3 Rows.framePutsRow.domain false) (Rows.framePutsSpec.post enc Try.prog Try.f3 false true false false) := by
  refine returnsInHanded_of_change (C := Try.checked) (by kernel_rfl) started (by kernel_rfl) Try.func3
    (ChangeSpec.witness6 (enc := enc) (C := Try.checked) false ⟨#[], #[.slice none 0 0], []⟩ 8 (by kernel_rfl) (by kernel_rfl) (by kernel_rfl) (by kernel_rfl)) ?_
  intro W base args ds gs before hval0 hW _ _
  have hval : ∀ (j : Nat) t v, Try.f3.params[j]? = some t → args[j]? = some v → Value.okWide Try.prog W .any base t v := hval0
  have hW' := hW
  obtain ⟨p, q, hA0, hV, rfl, _, _⟩ := hW
  have hA : DataW.TrodAll enc Try.prog W 0 (fun _ => true) true Try.f3.params.toList args.toList ds p := hA0
  rw [Try.params3] at hA hval
  obtain ⟨rfl, rfl⟩ := trodVars_none hV
  have hkeep := hA
  have hlt : ∀ x ∈ p, x.block < W.heap.size := fun x hx => hW'.lt x (by simpa using hx)
  clear hA0 hval0
  obtain ⟨v0, vs0, d0, ds0, p0, q0, hargs, rfl, rfl, h0, r0⟩ := trodAll_cons hA
  obtain ⟨rfl, rfl, rfl⟩ := trodAll_nil r0
  obtain rfl : args = #[v0] := by cases args; simp_all
  obtain ⟨xs, hx, _⟩ := open_bytes1 Try.underlying22 Try.underlying5 (by kernel_rfl) (hval 0 22 v0 rfl rfl) h0
  refine (framePuts_walk v0 xs W hx).mono fun e W' ⟨he, hE⟩ => ?_
  subst he
  exact ⟨_, rfl, _, _, _, [], _, [], hW', trodAll_mk1 (shut_bool Try.underlying4 _), trodAll_stays (by kernel_rfl) (by kernel_rfl) hkeep hE hlt, rfl, hE.frame _, fun h => by cases h⟩
/-- THE STATEMENT -/
theorem framePuts_holds : Rows.FramePutsSaid :=
  OpenClaim.holds_of_wide 3 Try.f3 rfl rfl rfl rfl rfl rfl rfl ⟨rfl, rfl, rfl, rfl, rfl⟩ rfl rfl rfl rfl rfl (by kernel_rfl) Try.func3 (by kernel_rfl)
    (of_decide_eq_true (by kernel_rfl)) (by unfold Func.isWrapper; first | (rw [if_pos (by decide +kernel)]; kernel_rfl) | (rw [if_neg (by decide +kernel)]; exact ⟨rfl, rfl⟩))
    (fun os started H enc _ => framePuts_lifted os started H enc)
end Go.Proofs.Ytladfocmmhagbaa
