/- What goes up, and down, in a pile, by contract. No condition. -/
import Derived.Test.YtapajcgfdiamdaaD07
namespace Go.Proofs.Ytapajcgfdiamdaa
open Go.RowKit Go.Kb

/-- the pile behind the interface -/
def hv (T : Nat) : Value := .iface 61 (.pointer (some ⟨T, 0, none⟩))
set_option maxRecDepth 100000 in
set_option maxHeartbeats 3000000 in
theorem up_any (T : Nat) (F : Nat → Prop) (mv : Value) (es : List En) (n j : Nat) (hj : j < n) (hn : n ≤ es.length) (hI : UpI es n j) (w : World) (h : Pile T F mv w es) :
    Calls Try.prog 23 #[hv T, .int .i64 j] w fun e w' => e = .returned (.tuple #[]) ∧ (∃ es', es'.Perm es ∧ HeapN es' n ∧ (∀ k, n ≤ k → ent es' k = ent es k) ∧ Pile T F mv w' es') ∧ Mod F w w' := by
  have H := Lib.hid h
  have HI := Lib.hid hI
  have HSM := Lib.hid h.small
  clear h hI
  unfold hv
  go_enter Try.func23, Try.ntmps23
  go_wp2
  go_loopw [1] (fun jv wr => ∃ (j : Nat) (es' : List En), jv = .int .i64 j ∧ j < n ∧ Hid (es'.Perm es) ∧ Hid (UpI es' n j) ∧ Hid (∀ k, n ≤ k → ent es' k = ent es k) ∧ Hid (Pile T F mv wr es') ∧ Hid (Mod F w wr)) (fun jv _ => (intOf jv).toNat)
  case atStart => exact ⟨j, es, rfl, hj, Lib.hid (.refl _), HI, Lib.hid fun _ _ => rfl, H, Lib.hid (Mod.refl _ _)⟩
  case round =>
    clear hj HI H
    obtain ⟨j, es', rfl, hj, HP, HI, HS, H, HM⟩ := hrel
    have hle := HP.out.length_eq
    by_cases hj0 : j = 0
    · subst hj0
      go_wp2
      go_end0
      exact ⟨rfl, ⟨es', HP.out, up_end HI.out (.inl rfl), HS.out, H.out⟩, HM.out⟩
    · obtain ⟨m, rfl⟩ : ∃ m, j = m + 1 := ⟨j - 1, by omega⟩
      have hnn := HSM.out
      have e1 : IntKind.i64.wrap (((m + 1 : Nat) : Int) - 1) = (m : Int) := by rw [IntWalk.i64_in _ (by omega)]; omega
      have e2 : (m : Int).tdiv 2 = ((m / 2 : Nat) : Int) := by rw [Int.tdiv_eq_ediv_of_nonneg (by omega)]; omega
      have c1 : ((m + 1 : Nat) : Int) = (m : Int) + 1 := by omega
      have c2 : ((m / 2 : Nat) : Int) = (m : Int) / 2 := by omega
      have hl := less_any T F mv es' (m + 1) (m / 2) (by omega) (by omega) wr H.out
      have hs := fun w h => swap_any T F mv es' (m / 2) (m + 1) (by omega) (by omega) (by omega) w h
      rw [c1, c2] at hl hs
      have HL := Lib.hid hl
      have HSW := Lib.hid hs
      have e3 : ((m : Int) / 2 == (m : Int) + 1) = false := by
        rw [beq_eq_false_iff_ne]
        omega
      have e4 : ¬ ((m : Int) / 2 = (m : Int) + 1) := by omega
      clear hl hs c1 c2
      go_wp2_with fail
      refine HL.out.mono ?_
      rintro e w2 ⟨rfl, E2⟩
      cases hb : bef (ent es' (m + 1)) (ent es' (m / 2))
      · have HB := Lib.hid hb
        clear hb
        go_wp2
        go_end0
        exact ⟨rfl, ⟨es', HP.out, up_end HI.out (.inr HB.out), HS.out, H.out.ext E2⟩, HM.out.ext E2⟩
      · have HB := Lib.hid hb
        clear hb
        go_wp2_with fail
        refine (HSW.out w2 (H.out.ext E2)).mono ?_
        rintro e w3 ⟨rfl, H3, M3⟩
        have H3 := Lib.hid H3
        have M3 := Lib.hid M3
        go_wp2
        go_roundw
        case rel => exact ⟨m / 2, swp es' (m / 2) (m + 1), by go_num, by omega, Lib.hid ((swp_perm (by omega) (by omega)).trans HP.out), Lib.hid (up_step HI.out (by omega) hj (by omega) HB.out), Lib.hid (fun k hk => by rw [ent_swp (by omega) (by omega), if_neg (by omega), if_neg (by omega)]; exact HS.out k hk), H3, Lib.hid ((HM.out.ext E2).trans M3.out)⟩
        case measure => simp [intOf]; omega
/-- what one is handed behind: a pile whose first n are in order, or one that is to go up -/
def DownPost (T : Nat) (F : Nat → Prop) (mv : Value) (es : List En) (n i : Nat) (w : World) (e : Ending) (w' : World) : Prop :=
  ∃ b es', e = .returned (.bool b) ∧ es'.Perm es ∧ (b = true → HeapN es' n) ∧ (b = false → UpI es' n i) ∧ (∀ k, n ≤ k → ent es' k = ent es k) ∧ Pile T F mv w' es' ∧ Mod F w w'
set_option maxRecDepth 100000 in
set_option maxHeartbeats 3000000 in
theorem down_any (T : Nat) (F : Nat → Prop) (mv : Value) (es : List En) (n i0 : Nat) (hn : n ≤ es.length) (hI : DnI es n i0 i0) (hi0 : i0 ≤ 1000) (w : World) (h : Pile T F mv w es) :
    Calls Try.prog 22 #[hv T, .int .i64 i0, .int .i64 n] w (DownPost T F mv es n i0 w) := by
  have H := Lib.hid h
  have HI := Lib.hid hI
  have HSM := Lib.hid h.small
  have HI0 := Lib.hid hi0
  clear h hI hi0
  unfold hv
  go_enter Try.func22, Try.ntmps22
  go_wp2
  go_loopw [7] (fun jv wr => ∃ (i : Nat) (es' : List En), jv = .int .i64 i ∧ i0 ≤ i ∧ Hid (i = i0 ∨ i < n) ∧ Hid (es'.Perm es) ∧ Hid (DnI es' n i0 i) ∧ Hid (∀ k, n ≤ k → ent es' k = ent es k) ∧ Hid (Pile T F mv wr es') ∧ Hid (Mod F w wr)) (fun jv _ => 2000 - (intOf jv).toNat)
  case atStart => exact ⟨i0, es, rfl, Nat.le_refl _, Lib.hid (.inl rfl), Lib.hid (.refl _), HI, Lib.hid fun _ _ => rfl, H, Lib.hid (Mod.refl _ _)⟩
  case round =>
    clear HI H
    obtain ⟨i, es', rfl, hi, HIN, HP, HI, HS, H, HM⟩ := hrel
    have hle := HP.out.length_eq
    have hnn := HSM.out
    have hii := HIN.out
    have hi0 := HI0.out
    have e1 : IntKind.i64.wrap (2 * (i : Int)) = 2 * (i : Int) := IntWalk.i64_in _ (by omega)
    have e2 : IntKind.i64.wrap (2 * (i : Int) + 1) = 2 * (i : Int) + 1 := IntWalk.i64_in _ (by omega)
    have e3 : IntKind.i64.wrap (2 * (i : Int) + 1 + 1) = 2 * (i : Int) + 1 + 1 := IntWalk.i64_in _ (by omega)
    by_cases h1 : 2 * i + 1 < n
    · have k1 : ¬ ((n : Int) ≤ 2 * (i : Int) + 1) := by omega
      have k2 : ¬ (2 * (i : Int) + 1 < 0) := by omega
      have hin : i < n := by omega
      have him : i ≤ 1000 := by omega
      clear hnn hii hi0
      by_cases h2 : 2 * i + 1 + 1 < n
      · have k3 : 2 * (i : Int) + 1 + 1 < (n : Int) := by omega
        have hl := less_any T F mv es' (2 * i + 1 + 1) (2 * i + 1) (by omega) (by omega) wr H.out
        rw [show ((2 * i + 1 + 1 : Nat) : Int) = 2 * (i : Int) + 1 + 1 by omega, show ((2 * i + 1 : Nat) : Int) = 2 * (i : Int) + 1 by omega] at hl
        have HL := Lib.hid hl
        clear hl
        go_wp2_with fail
        refine HL.out.mono ?_
        rintro e w4 ⟨rfl, E4⟩
        clear HL
        cases hb : bef (ent es' (2 * i + 1 + 1)) (ent es' (2 * i + 1))
        · have HMN := Lib.hid (show ∀ c, 0 < c → c < n → par c = i → bef (ent es' c) (ent es' (2 * i + 1)) = false from fun c c0 cn ci => by
            have : c = 2 * i + 1 ∨ c = 2 * i + 1 + 1 := by unfold par at ci; omega
            rcases this with rfl | rfl
            · exact bef_irr _
            · exact hb)
          clear hb
          have hl := less_any T F mv es' (2 * i + 1) i (by omega) (by omega) w4 (H.out.ext E4)
          have hs := fun w h => swap_any T F mv es' i (2 * i + 1) (by omega) (by omega) (by omega) w h
          rw [show (((2 * i + 1 : Nat)) : Int) = 2 * (i : Int) + 1 by omega] at hl hs
          have HL := Lib.hid hl
          have HSW := Lib.hid hs
          clear hl hs
          go_wp2_with fail
          refine HL.out.mono ?_
          rintro e w5 ⟨rfl, E5⟩
          cases hb : bef (ent es' (2 * i + 1)) (ent es' i)
          · have hend := Lib.hid (dn_end HI.out (fun c c0 cn ci => bef_tr hb (HMN.out c c0 cn ci)))
            clear hb HL HSW
            by_cases h2 : i0 < i
            · have k3 : (i0 : Int) < (i : Int) := by omega
              go_wp2
              go_ret
              unfold DownPost
              exact ⟨true, es', rfl, HP.out, fun _ => hend.out.1 (by omega), (fun h => by cases h), HS.out, ((H.out.ext E4)).ext E5, (HM.out.ext E4).ext E5⟩
            · obtain rfl : i = i0 := by omega
              have k3 : ¬ (i : Int) < (i : Int) := by omega
              go_wp2
              go_ret
              unfold DownPost
              exact ⟨false, es', rfl, HP.out, (fun h => by cases h), fun _ => hend.out.2 (by trivial), HS.out, ((H.out.ext E4)).ext E5, (HM.out.ext E4).ext E5⟩
          · have HB := Lib.hid hb
            clear hb HL
            go_wp2_with fail
            refine (HSW.out w5 (((H.out.ext E4)).ext E5)).mono ?_
            rintro e w6 ⟨rfl, H6, M6⟩
            have H6 := Lib.hid H6
            have M6 := Lib.hid M6
            clear HSW
            go_wp2
            go_roundw
            case rel => exact ⟨2 * i + 1, swp es' i (2 * i + 1), by go_num, by omega, Lib.hid (.inr h1), Lib.hid ((swp_perm (by omega) (by omega)).trans HP.out), Lib.hid (dn_step HI.out (by omega) h1 (by omega) (by unfold par; omega) HMN.out HB.out hi), Lib.hid (fun k hk => by rw [ent_swp (by omega) (by omega), if_neg (by omega), if_neg (by omega)]; exact HS.out k hk), H6, Lib.hid (((HM.out.ext E4).ext E5).trans M6.out)⟩
            case measure => simp [intOf]; omega
        · have HMN := Lib.hid (show ∀ c, 0 < c → c < n → par c = i → bef (ent es' c) (ent es' (2 * i + 1 + 1)) = false from fun c c0 cn ci => by
            have : c = 2 * i + 1 ∨ c = 2 * i + 1 + 1 := by unfold par at ci; omega
            rcases this with rfl | rfl
            · exact bef_asym hb
            · exact bef_irr _)
          clear hb
          have hl := less_any T F mv es' (2 * i + 1 + 1) i (by omega) (by omega) w4 (H.out.ext E4)
          have hs := fun w h => swap_any T F mv es' i (2 * i + 1 + 1) (by omega) (by omega) (by omega) w h
          rw [show (((2 * i + 1 + 1 : Nat)) : Int) = 2 * (i : Int) + 1 + 1 by omega] at hl hs
          have HL := Lib.hid hl
          have HSW := Lib.hid hs
          clear hl hs
          go_wp2_with fail
          refine HL.out.mono ?_
          rintro e w5 ⟨rfl, E5⟩
          cases hb : bef (ent es' (2 * i + 1 + 1)) (ent es' i)
          · have hend := Lib.hid (dn_end HI.out (fun c c0 cn ci => bef_tr hb (HMN.out c c0 cn ci)))
            clear hb HL HSW
            by_cases h2 : i0 < i
            · have k3 : (i0 : Int) < (i : Int) := by omega
              go_wp2
              go_ret
              unfold DownPost
              exact ⟨true, es', rfl, HP.out, fun _ => hend.out.1 (by omega), (fun h => by cases h), HS.out, ((H.out.ext E4)).ext E5, (HM.out.ext E4).ext E5⟩
            · obtain rfl : i = i0 := by omega
              have k3 : ¬ (i : Int) < (i : Int) := by omega
              go_wp2
              go_ret
              unfold DownPost
              exact ⟨false, es', rfl, HP.out, (fun h => by cases h), fun _ => hend.out.2 (by trivial), HS.out, ((H.out.ext E4)).ext E5, (HM.out.ext E4).ext E5⟩
          · have HB := Lib.hid hb
            clear hb HL
            go_wp2_with fail
            refine (HSW.out w5 (((H.out.ext E4)).ext E5)).mono ?_
            rintro e w6 ⟨rfl, H6, M6⟩
            have H6 := Lib.hid H6
            have M6 := Lib.hid M6
            clear HSW
            go_wp2
            go_roundw
            case rel => exact ⟨2 * i + 1 + 1, swp es' i (2 * i + 1 + 1), by go_num, by omega, Lib.hid (.inr h2), Lib.hid ((swp_perm (by omega) (by omega)).trans HP.out), Lib.hid (dn_step HI.out (by omega) h2 (by omega) (by unfold par; omega) HMN.out HB.out hi), Lib.hid (fun k hk => by rw [ent_swp (by omega) (by omega), if_neg (by omega), if_neg (by omega)]; exact HS.out k hk), H6, Lib.hid (((HM.out.ext E4).ext E5).trans M6.out)⟩
            case measure => simp [intOf]; omega
      · have k3 : ¬ (2 * (i : Int) + 1 + 1 < (n : Int)) := by omega
        have HMN := Lib.hid (show ∀ c, 0 < c → c < n → par c = i → bef (ent es' c) (ent es' (2 * i + 1)) = false from fun c c0 cn ci => by
          have : c = 2 * i + 1 := by unfold par at ci; omega
          subst this
          exact bef_irr _)
        have hl := less_any T F mv es' (2 * i + 1) i (by omega) (by omega) wr H.out
        have hs := fun w h => swap_any T F mv es' i (2 * i + 1) (by omega) (by omega) (by omega) w h
        rw [show (((2 * i + 1 : Nat)) : Int) = 2 * (i : Int) + 1 by omega] at hl hs
        have HL := Lib.hid hl
        have HSW := Lib.hid hs
        clear hl hs
        go_wp2_with fail
        refine HL.out.mono ?_
        rintro e w5 ⟨rfl, E5⟩
        cases hb : bef (ent es' (2 * i + 1)) (ent es' i)
        · have hend := Lib.hid (dn_end HI.out (fun c c0 cn ci => bef_tr hb (HMN.out c c0 cn ci)))
          clear hb HL HSW
          by_cases h2 : i0 < i
          · have k3 : (i0 : Int) < (i : Int) := by omega
            go_wp2
            go_ret
            unfold DownPost
            exact ⟨true, es', rfl, HP.out, fun _ => hend.out.1 (by omega), (fun h => by cases h), HS.out, (H.out).ext E5, (HM.out).ext E5⟩
          · obtain rfl : i = i0 := by omega
            have k3 : ¬ (i : Int) < (i : Int) := by omega
            go_wp2
            go_ret
            unfold DownPost
            exact ⟨false, es', rfl, HP.out, (fun h => by cases h), fun _ => hend.out.2 (by trivial), HS.out, (H.out).ext E5, (HM.out).ext E5⟩
        · have HB := Lib.hid hb
          clear hb HL
          go_wp2_with fail
          refine (HSW.out w5 ((H.out).ext E5)).mono ?_
          rintro e w6 ⟨rfl, H6, M6⟩
          have H6 := Lib.hid H6
          have M6 := Lib.hid M6
          clear HSW
          go_wp2
          go_roundw
          case rel => exact ⟨2 * i + 1, swp es' i (2 * i + 1), by go_num, by omega, Lib.hid (.inr h1), Lib.hid ((swp_perm (by omega) (by omega)).trans HP.out), Lib.hid (dn_step HI.out (by omega) h1 (by omega) (by unfold par; omega) HMN.out HB.out hi), Lib.hid (fun k hk => by rw [ent_swp (by omega) (by omega), if_neg (by omega), if_neg (by omega)]; exact HS.out k hk), H6, Lib.hid (((HM.out).ext E5).trans M6.out)⟩
          case measure => simp [intOf]; omega
    · have k1 : (n : Int) ≤ 2 * (i : Int) + 1 := by omega
      have hend := Lib.hid (dn_end HI.out (fun c c0 cn ci => by unfold par at ci; omega))
      clear hnn hii hi0
      by_cases h2 : i0 < i
      · have k3 : (i0 : Int) < (i : Int) := by omega
        go_wp2
        go_ret
        unfold DownPost
        exact ⟨true, es', rfl, HP.out, fun _ => hend.out.1 (by omega), (fun h => by cases h), HS.out, H.out, HM.out⟩
      · obtain rfl : i = i0 := by omega
        have k3 : ¬ (i : Int) < (i : Int) := by omega
        go_wp2
        go_ret
        unfold DownPost
        exact ⟨false, es', rfl, HP.out, (fun h => by cases h), fun _ => hend.out.2 (by trivial), HS.out, H.out, HM.out⟩
end Go.Proofs.Ytapajcgfdiamdaa
