/- The document's timers: Set, by contract. Condition: at most 256 timers. -/
import Derived.Test.YtapajcgfdiamdaaU07
import Derived.Deep.CutBlock
namespace Go.Proofs.Ytapajcgfdiamdaa
open Go.RowKit Go.Kb

theorem setT_full {L : List (Int × Int)} {id due : Int} (h : fullL L id = true) : setE L id = 6 ∧ setT L id due = L := by unfold setE setT; rw [h]; exact ⟨rfl, rfl⟩
theorem setT_done {L : List (Int × Int)} {id due : Int} (h : fullL L id = false) : setE L id = 0 ∧ setT L id due = insL (id, due) (remL id L) := by unfold setE setT; rw [h]; exact ⟨rfl, rfl⟩
theorem full_has' {L : List (Int × Int)} {id : Int} (h : hasL L id = true) : fullL L id = false := by unfold fullL; rw [h]; rfl
set_option maxRecDepth 100000 in
set_option maxHeartbeats 3000000 in
theorem rset_any (R : Nat) (F : Nat → Prop) (L : List (Int × Int)) (id due : Int) (hl : L.length ≤ 256) (w : World) (h : Rf R F w L) :
    Calls Try.prog 10 #[.pointer (some ⟨R, 0, none⟩), .int .i64 id, .int .i64 due] w fun e w' => e = .returned (.int .i64 (setE L id)) ∧ ∃ F', Rf R F' w' (setT L id due) ∧ (∀ k, F' k → F k ∨ w.heap.size ≤ k) ∧ Mod (fun k => k = R) w w' := by
  have H := Lib.hid h
  obtain ⟨v, B, S⟩ := h.ex
  have B := Lib.hid B
  have kR := B.out.cell0
  have HC := Lib.hid (cut_any v L id (by omega) w S.y)
  clear h S
  go_enter Try.func10, Try.ntmps10
  go_wp2_with fail
  refine HC.out.mono ?_
  rintro e w1 ⟨A1, c1, rfl, O1, E1⟩
  rw [rem_cut]
  have O1 := Lib.hid O1
  have B1 := Lib.hid (B.out.ext E1)
  have E1 := Lib.hid E1
  obtain ⟨hs, hhs⟩ : ∃ hs, hasL L id = hs := ⟨_, rfl⟩
  rw [hhs]
  obtain ⟨l, hll⟩ : ∃ l, remL id L = l := ⟨_, rfl⟩
  rw [hll] at O1 ⊢
  obtain ⟨Q, hK⟩ : ∃ Q, l.length = Q := ⟨_, rfl⟩
  rw [hK] at O1 ⊢
  have hKl : Q ≤ 256 := by rw [← hK, ← hll]; exact Nat.le_trans (List.length_filter_le _ _) hl
  clear kR HC B hl
  have HHS := Lib.hid hhs
  have HLL := Lib.hid hll
  have HK := Lib.hid hK
  clear hhs hll hK
  go_upto_region 2 with fail
  go_cut [7, 26] (fun s7 s26 wx => s7 = .slice A1 Q c1 ∧ s26 = .bool (fullL L id) ∧ wx = w1)
  case first =>
    cases hs
    · have hfu : fullL L id = ((Q : Int) == 256) := by
        unfold fullL
        rw [HHS.out, ← rem_none (L := L) (id := id) HHS.out, HLL.out, HK.out, Bool.eq_iff_iff]
        simp
        omega
      go_wp2_with fail
      go_meet
      refine ⟨rfl, ?_, rfl⟩
      rw [hfu]
    · have hfu : fullL L id = false := full_has' HHS.out
      go_wp2_with fail
      go_meet
      refine ⟨rfl, ?_, rfl⟩
      rw [hfu]
  case rest =>
    obtain ⟨rfl, rfl, rfl⟩ := hcut
    obtain ⟨fu, hfu⟩ : ∃ fu, fullL L id = fu := ⟨_, rfl⟩
    rw [hfu]
    by_cases hft : fu = true
    · subst hft
      have H1 := Lib.hid (setT_full (due := due) hfu)
      clear hfu
      go_wp2
      go_ret
      rw [H1.out.1, H1.out.2]
      exact ⟨rfl, F, H.out.ext E1.out, fun k hk => .inl hk, Mod.of_ext E1.out⟩
    obtain rfl : fu = false := by simpa using hft
    have H1 := Lib.hid (show setE L id = 0 ∧ setT L id due = insL (id, due) l by obtain ⟨e1, e2⟩ := setT_done (due := due) hfu; exact ⟨e1, by rw [e2, HLL.out]⟩)
    clear hfu hft HHS HLL
    have HS1 := Lib.hid E1.out.size
    obtain ⟨W1, hW1⟩ : ∃ W1, W1 = wc := ⟨_, rfl⟩
    subst hW1
    obtain ⟨hc1, hc2⟩ : Q ≤ c1 ∧ c1 ≤ 9223372036854775807 := by
      obtain ⟨_, _, he, h1, h2⟩ := O1.out.shapeN HK.out
      cases he
      exact ⟨h1, h2⟩
    go_upto_block 0 with fail
    have HWZ := Lib.hid (show W1.heap.size = W1.heap.size from rfl)
    obtain ⟨WX, hWX⟩ : ∃ WX, WX = W1.alloc (.cells #[.int .i64 id, .int .i64 due] 43) := ⟨_, rfl⟩
    have E1X : Ext W1 WX := by rw [hWX]; exact (Ext.refl _).alloc _
    have E1 := Lib.hid (E1.out.trans E1X)
    have O1 := Lib.hid (O1.out.ext E1X)
    have B1 := Lib.hid (B1.out.ext E1X)
    obtain ⟨X, hX⟩ : ∃ X, W1.heap.size = X := ⟨_, rfl⟩
    have X1 := Lib.hid (show Blk WX X 43 #[.int .i64 id, .int .i64 due] by rw [← hX, hWX]; exact Blk.new W1 _ _)
    have hRX := Lib.hid (show R ≠ X by have := HS1.out; have := H.out.lt R H.out.hR; omega)
    rw [hX, ← hWX]
    clear hX hWX E1X HWZ
    go_cut [10] (fun s10 wx => ∃ m : Nat, m ≤ Q ∧ s10 = .int .i64 m ∧ Hid (insL (id, due) l = l.take m ++ [(id, due)] ++ l.drop m) ∧ wx = WX)
    case first =>
      go_wp2
      go_loopw [10] (fun t wr => ∃ m : Nat, m ≤ Q ∧ t = .int .i64 m ∧ Hid (∀ j d, j < m → l[j]? = some d → befK d (id, due) = true) ∧ wr = WX) (fun t _ => Q - (intOf t).toNat)
      case atStart => exact ⟨0, Nat.zero_le _, rfl, Lib.hid (fun j _ h => absurd h (Nat.not_lt_zero j)), rfl⟩
      case round =>
        obtain ⟨m, hm, rfl, HB, rfl⟩ := hrel
        by_cases hmk : m < Q
        · obtain ⟨b, off, ⟨xi, xt⟩, rfl, hd, k0, k1⟩ := kp_at O1.out.y hmk
          have i1 : (0 : Int) ≤ (m : Int) := by omega
          have i2 : (m : Int) < (Q : Int) := by omega
          have hwm : IntKind.i64.wrap ((m : Int) + 1) = (m : Int) + 1 := IntWalk.i64_in _ (by omega)
          simp only at k0 k1
          by_cases hbf : befK (xi, xt) (id, due) = true
          · have HN := Lib.hid (show ∀ j d, j < m + 1 → l[j]? = some d → befK d (id, due) = true from fun j d hj hjd => by
              rcases Nat.lt_succ_iff_lt_or_eq.1 hj with h | rfl
              · exact HB.out j d h hjd
              · rw [hd] at hjd; cases hjd; exact hbf)
            rw [befK_iff] at hbf
            simp only at hbf
            clear hd
            by_cases hlt : xt < due
            · clear hbf
              go_wp2
              go_roundw
              case rel => exact ⟨m + 1, by omega, by go_num, HN, by first | rfl | trivial⟩
              case measure => simp [intOf]; omega
            · obtain ⟨rfl, h2⟩ := hbf.resolve_left hlt
              clear hbf
              go_wp2
              go_roundw
              case rel => exact ⟨m + 1, by omega, by go_num, HN, by first | rfl | trivial⟩
              case measure => simp [intOf]; omega
          · have HN := Lib.hid (ins_at (x := (id, due)) HB.out (.inr ⟨_, hd, by simpa using hbf⟩) (by rw [HK.out]; exact hm))
            rw [befK_iff] at hbf
            simp only at hbf
            clear hd
            have hlt : ¬ xt < due := fun h => hbf (.inl h)
            by_cases hq : xt = due
            · subst hq
              have h2 : ¬ xi < id := fun h => hbf (.inr ⟨rfl, h⟩)
              clear hbf
              go_wp2
              go_meet
              exact ⟨m, hm, by first | rfl | trivial, HN, by first | rfl | trivial⟩
            · have hqb : (xt == due) = false := by simpa using hq
              clear hbf
              go_wp2
              go_meet
              exact ⟨m, hm, by first | rfl | trivial, HN, by first | rfl | trivial⟩
        · obtain rfl : m = Q := by omega
          have HN := Lib.hid (ins_at (x := (id, due)) HB.out (.inl HK.out.symm) (by rw [HK.out]; exact Nat.le_refl _))
          have i2 : ¬ (m : Int) < (m : Int) := by omega
          go_wp2
          go_meet
          exact ⟨m, hm, by first | rfl | trivial, HN, by first | rfl | trivial⟩
    case rest =>
      obtain ⟨m, hm, rfl, HN, rfl⟩ := hcut
      obtain ⟨WW, hWW⟩ : ∃ WW, WW = wc := ⟨_, rfl⟩
      subst hWW
      have HT := Lib.hid (show RdY Kp (fun _ => False) WW (.slice A1 m c1) (l.take m) from ((RdS.to_ (n := Q) O1.out.rdT hm).y : RdY Kp _ _ _ _))
      have HD := Lib.hid (show RdY Kp (fun _ => False) WW (.slice (if c1 = m then A1 else A1.map (·.add (m * 2))) (Q - m) (c1 - m)) (l.drop m) from ((RdS.from_ (n := Q) O1.out.rdT hm).y : RdY Kp _ _ _ _))
      have HTL := Lib.hid (show (l.take m).length = m by rw [List.length_take, HK.out]; omega)
      have HDL := Lib.hid (show (l.drop m).length = Q - m by rw [List.length_drop, HK.out])
      have i1 : (0 : Int) ≤ (m : Int) := by omega
      have i2 : (m : Int) ≤ (Q : Int) := by omega
      have i3 : (Q : Int) ≤ (c1 : Int) := by omega
      have i4 : (m : Int) ≤ (c1 : Int) := by omega
      clear O1
      go_upto_region 8 with fail
      refine wp_region_held_drew (S := fun w' => Mod (fun k => k = R) WW w') (by kernel_rfl) ((Mod.refl _ _).drew) (fun hHeld => ?_)
      (refine wpAnyH_take (i := 0) (v := ?_) rfl (by kernel_rfl) (by kernel_rfl) (by kernel_rfl) (fun _ _ _ h => h) (Or.inl ⟨by rfl, ?_⟩) (by assumption) ?_; rotate_left; (focus (intro w' hSw; go_simp; try with_reducible rfl)); (try simp only [List.getElem_toArray]); (try simp only [List.getElem_cons_succ]); (try simp only [List.getElem_cons_zero]); (try simp only [Act.put]); (try simp only [List.setIfInBounds_toArray]); (try simp only [List.set_cons_succ]); (try simp only [List.set_cons_zero]))
      (refine wpAnyH_take (i := 2) (v := ?_) rfl (by kernel_rfl) (by kernel_rfl) (by kernel_rfl) (fun _ _ _ h => h) (Or.inl ⟨by rfl, ?_⟩) (by assumption) ?_; rotate_left; (focus (intro w' hSw; go_simp; try with_reducible rfl)); (try simp only [List.getElem_toArray]); (try simp only [List.getElem_cons_succ]); (try simp only [List.getElem_cons_zero]); (try simp only [Act.put]); (try simp only [List.setIfInBounds_toArray]); (try simp only [List.set_cons_succ]); (try simp only [List.set_cons_zero]))
      (refine wpAnyH_take (i := 3) (v := ?_) rfl (by kernel_rfl) (by kernel_rfl) (by kernel_rfl) (fun _ _ _ h => h) (Or.inl ⟨by rfl, ?_⟩) (by assumption) ?_; rotate_left; (focus (intro w' hSw; go_simp; try with_reducible rfl)); (try simp only [List.getElem_toArray]); (try simp only [List.getElem_cons_succ]); (try simp only [List.getElem_cons_zero]); (try simp only [Act.put]); (try simp only [List.setIfInBounds_toArray]); (try simp only [List.set_cons_succ]); (try simp only [List.set_cons_zero]))
      (refine wpAnyH_take (i := 4) (v := ?_) rfl (by kernel_rfl) (by kernel_rfl) (by kernel_rfl) (fun _ _ _ h => h) (Or.inl ⟨by rfl, ?_⟩) (by assumption) ?_; rotate_left; (focus (intro w' hSw; go_simp; try with_reducible rfl)); (try simp only [List.getElem_toArray]); (try simp only [List.getElem_cons_succ]); (try simp only [List.getElem_cons_zero]); (try simp only [Act.put]); (try simp only [List.setIfInBounds_toArray]); (try simp only [List.set_cons_succ]); (try simp only [List.set_cons_zero]))
      (refine wpAnyH_take (i := 6) (v := ?_) rfl (by kernel_rfl) (by kernel_rfl) (by kernel_rfl) (fun _ _ _ h => h) (Or.inl ⟨by rfl, ?_⟩) (by assumption) ?_; rotate_left; (focus (intro w' hSw; have kc := (X1.out.mod hSw hRX.out.symm).two; go_simp; try with_reducible rfl)); (try simp only [List.getElem_toArray]); (try simp only [List.getElem_cons_succ]); (try simp only [List.getElem_cons_zero]); (try simp only [Act.put]); (try simp only [List.setIfInBounds_toArray]); (try simp only [List.set_cons_succ]); (try simp only [List.set_cons_zero]))
      (refine wpAnyH_take (i := 9) (v := ?_) rfl (by kernel_rfl) (by kernel_rfl) (by kernel_rfl) (fun _ _ _ h => h) (Or.inl ⟨by rfl, ?_⟩) (by assumption) ?_; rotate_left; (focus (intro w' hSw; go_simp; try with_reducible rfl)); (try simp only [List.getElem_toArray]); (try simp only [List.getElem_cons_succ]); (try simp only [List.getElem_cons_zero]); (try simp only [Act.put]); (try simp only [List.setIfInBounds_toArray]); (try simp only [List.set_cons_succ]); (try simp only [List.set_cons_zero]))
      (refine wpAnyH_take (i := 10) (v := ?_) rfl (by kernel_rfl) (by kernel_rfl) (by kernel_rfl) (fun _ _ _ h => h) (Or.inl ⟨by rfl, ?_⟩) (by assumption) ?_; rotate_left; (focus (intro w' hSw; go_simp; try with_reducible rfl)); (try simp only [List.getElem_toArray]); (try simp only [List.getElem_cons_succ]); (try simp only [List.getElem_cons_zero]); (try simp only [Act.put]); (try simp only [List.setIfInBounds_toArray]); (try simp only [List.set_cons_succ]); (try simp only [List.set_cons_zero]))
      (refine wpAnyH_take (i := 11) (v := ?_) rfl (by kernel_rfl) (by kernel_rfl) (by kernel_rfl) (fun _ _ _ h => h) (Or.inl ⟨by rfl, ?_⟩) (by assumption) ?_; rotate_left; (focus (intro w' hSw; go_simp; try with_reducible rfl)); (try simp only [List.getElem_toArray]); (try simp only [List.getElem_cons_succ]); (try simp only [List.getElem_cons_zero]); (try simp only [Act.put]); (try simp only [List.setIfInBounds_toArray]); (try simp only [List.set_cons_succ]); (try simp only [List.set_cons_zero]))
      generalize (if c1 = m then A1 else Option.map (fun x => x.add (m * 2)) A1) = Bd at *
      have EX : Ext WW WW.drew := Ext.drew (Ext.refl _)
      have HT := Lib.hid (HT.out.ext EX)
      have HD := Lib.hid (HD.out.ext EX)
      have BR := Lib.hid (B1.out.ext EX)
      have EXW := Lib.hid (E1.out.trans EX)
      have EX0 := Lib.hid EX
      have HS := Lib.hid EX.size
      clear hHeld EX E1 X1 B1
      generalize WW.drew = w19 at *
      have EX := Ext.refl w19
      have EXo := EX
      have HD0 := HD
      have BR0 := BR
      refine wpAnyH_ready (rs := [1, 7]) (by kernel_rfl) (by simp) ?_
      refine (AllReadyH.cons rfl (fun K hK => ?_) (AllReadyH.cons rfl (fun K hK => ?_) AllReadyH.nil))
      ·
        go_simp
        refine hK.out _ _ (Mod.of_ext (EX0.out.trans (EX.alloc _))) (fun hHeld => ?_)
        clear hK K hHeld
        (try simp only [List.getElem_toArray]); (try simp only [List.getElem_cons_succ]); (try simp only [List.getElem_cons_zero]); (try simp only [Act.put]); (try simp only [List.setIfInBounds_toArray]); (try simp only [List.set_cons_succ]); (try simp only [List.set_cons_zero])
        have E3 := (Ext.refl w19).alloc (.cells #[] 43)
        have HT := Lib.hid (HT.out.ext E3)
        have HD := Lib.hid (HD.out.ext E3)
        have BR := Lib.hid (BR.out.ext E3)
        have EX := EX.trans E3
        have B1e := Lib.hid (Blk.new w19 43 #[])
        obtain ⟨n1, hn1⟩ : ∃ n1, w19.heap.size = n1 := ⟨_, rfl⟩
        have hn1W : w19.heap.size ≤ n1 := by rw [← hn1]; exact EXo.size
        rw [hn1] at B1e ⊢
        have Zw20 := E3.size
        clear hn1 E3 EXo
        generalize w19.alloc _ = w20 at *
        have EXo := EX
        have Ln1 := B1e.out.lt
        refine wpAnyH_ready (rs := [5, 7]) (by kernel_rfl) (by simp) ?_
        refine (AllReadyH.cons rfl (fun K hK => ?_) (AllReadyH.cons rfl (fun K hK => ?_) AllReadyH.nil))
        ·
          refine step_app0 (e := Kp) (A := fun _ => False) (n := n1) rfl (.tmp 64) (.tmp 67) rfl Try.underlying27 info_kp rfl B1e.out rfl HT.out rfl (fun _ _ h => h.elim) (by rw [HTL.out]; simp [maxLen]; omega) (by rw [HTL.out]; omega) ?_
          intro A5 c5 w21 o5 M5 D5
          rw [HTL.out]
          rw [HTL.out] at o5
          have E3 := (D5.mono (Nat.le_refl _))
          have EX5 : Ext w19 w21 := Below.trans EX (D5.mono hn1W)
          refine hK.out _ _ (Mod.of_ext (EX0.out.trans EX5)) (fun hHeld => ?_)
          clear hK K hHeld
          (try simp only [List.getElem_toArray]); (try simp only [List.getElem_cons_succ]); (try simp only [List.getElem_cons_zero]); (try simp only [Act.put]); (try simp only [List.setIfInBounds_toArray]); (try simp only [List.set_cons_succ]); (try simp only [List.set_cons_zero])
          have O5 := Lib.hid o5
          have HD := Lib.hid (HD0.out.ext EX5)
          have BR := Lib.hid (BR0.out.ext EX5)
          have EX := EX5
          have EXo := EX
          have L1 := M5.size
          clear o5 M5 D5 E3 EX5
          refine wpAnyH_ready (rs := [7]) (by kernel_rfl) (by simp) ?_
          refine (AllReadyH.cons rfl (fun K hK => ?_) AllReadyH.nil)
          go_simp
          refine hK.out _ _ (Mod.of_ext (EX0.out.trans (EX.alloc _))) (fun hHeld => ?_)
          clear hK K hHeld
          (try simp only [List.getElem_toArray]); (try simp only [List.getElem_cons_succ]); (try simp only [List.getElem_cons_zero]); (try simp only [Act.put]); (try simp only [List.setIfInBounds_toArray]); (try simp only [List.set_cons_succ]); (try simp only [List.set_cons_zero])
          have E3 := (Ext.refl w21).alloc (.cells #[.int .i64 id, .int .i64 due] 43)
          have HD := Lib.hid (HD.out.ext E3)
          have BR := Lib.hid (BR.out.ext E3)
          have O5 := Lib.hid (O5.out.ext E3)
          have EX := EX.trans E3
          have B7 := Lib.hid (Blk.new w21 43 #[.int .i64 id, .int .i64 due])
          obtain ⟨n7, hn7⟩ : ∃ n7, w21.heap.size = n7 := ⟨_, rfl⟩
          have hn7W : w19.heap.size ≤ n7 := by rw [← hn7]; exact EXo.size
          rw [hn7] at B7 ⊢
          have hne_n1_n7 : n1 ≠ n7 := by have := Ln1; omega
          have hne_n7_n1 : n7 ≠ n1 := fun h => hne_n1_n7 h.symm
          have Zw22 := E3.size
          clear hn7 E3 EXo
          generalize w21.alloc _ = w22 at *
          have EXo := EX
          have Ln7 := B7.out.lt
          refine wpAnyH_ready (rs := [8]) (by kernel_rfl) (by simp) ?_
          refine AllReadyH.cons rfl (fun K hK => ?_) AllReadyH.nil
          refine step_app (e := Kp) (base := n1) (B := fun _ => False) (A := fun _ => False) rfl (.tmp 68) (.tmp 70) rfl Try.underlying27 info_kp rfl O5.out rfl (RdY.singleB (e := Kp) (cs := [.int .i64 id, .int .i64 due]) (d := (id, due)) (kp_rel (id, due)) B7.out) rfl (fun _ _ h => h.elim) (N := m + 1) (by rw [HTL.out]; rfl) (by simp [maxLen]; omega) (by omega) (by omega) ?_
          intro A8 c8 w30 o8 M8 D8
          have EX8 : Ext w19 w30 := Below.trans EX (D8.mono hn1W)
          refine hK.out _ _ (Mod.of_ext (EX0.out.trans EX8)) (fun hHeld => ?_)
          clear hK K hHeld
          (try simp only [List.getElem_toArray]); (try simp only [List.getElem_cons_succ]); (try simp only [List.getElem_cons_zero]); (try simp only [Act.put]); (try simp only [List.setIfInBounds_toArray]); (try simp only [List.set_cons_succ]); (try simp only [List.set_cons_zero])
          have O8 := Lib.hid o8
          have HD := Lib.hid (HD0.out.ext EX8)
          have hsz8 : n1 ≤ w30.heap.size := Nat.le_trans (by omega) M8.size
          clear o8 M8 D8
          refine wpAnyH_ready (rs := [12]) (by kernel_rfl) (by simp) ?_
          refine AllReadyH.cons rfl (fun K hK => ?_) AllReadyH.nil
          refine step_app (e := Kp) (base := n1) (B := fun _ => False) (A := fun _ => False) rfl (.tmp 71) (.tmp 74) rfl Try.underlying27 info_kp rfl O8.out rfl HD.out rfl (fun _ _ h => h.elim) (N := Q + 1) (by rw [List.length_append, HTL.out, HDL.out, List.length_singleton]; omega) (by simp [maxLen]; omega) (by omega) hsz8 ?_
          intro A9 c9 w31 o9 M9 D9
          have EX9 : Ext w19 w31 := Below.trans EX8 (D9.mono hn1W)
          have hHeld := Mod.of_ext (S := fun k => k = R) (EX0.out.trans EX9)
          refine hK.out _ _ hHeld (fun hHeld => ?_)
          clear hK K
          (try simp only [List.getElem_toArray]); (try simp only [List.getElem_cons_succ]); (try simp only [List.getElem_cons_zero]); (try simp only [Act.put]); (try simp only [List.setIfInBounds_toArray]); (try simp only [List.set_cons_succ]); (try simp only [List.set_cons_zero])
          have O9 := Lib.hid o9
          have BR := Lib.hid (BR0.out.ext EX9)
          clear o9 M9 D9
          (refine wpAnyH_take (i := 13) (v := ?_) rfl (by kernel_rfl) (by kernel_rfl) (by kernel_rfl) (fun _ _ _ h => h) (Or.inl ⟨by rfl, ?_⟩) (by assumption) ?_; rotate_left; (focus (intro w' hSw; go_simp; try with_reducible rfl)); (try simp only [List.getElem_toArray]); (try simp only [List.getElem_cons_succ]); (try simp only [List.getElem_cons_zero]); (try simp only [Act.put]); (try simp only [List.setIfInBounds_toArray]); (try simp only [List.set_cons_succ]); (try simp only [List.set_cons_zero]))
          (refine wpAnyH_take (i := 14) (v := ?_) rfl (by kernel_rfl) (by kernel_rfl) (by kernel_rfl) (fun _ _ _ h => h) (Or.inl ⟨by rfl, ?_⟩) (by assumption) ?_; rotate_left; (focus (intro w' hSw; go_simp; try with_reducible rfl)); (try simp only [List.getElem_toArray]); (try simp only [List.getElem_cons_succ]); (try simp only [List.getElem_cons_zero]); (try simp only [Act.put]); (try simp only [List.setIfInBounds_toArray]); (try simp only [List.set_cons_succ]); (try simp only [List.set_cons_zero]))
          have fR := BR.out.frozen 0
          have cR := BR.out.cell0
          have M2 : Mod (fun k => k = R) w31 _ := (Mod.refl _ w31).set1 (.slice A9 (Q + 1) c9) (o := 0)
          have B2 := BR.out.set_ 0 (.slice A9 (Q + 1) c9)
          have hM2 := hHeld.trans M2
          (refine wpAnyH_ready (rs := [15]) (by kernel_rfl) (by simp) ?_; refine AllReadyH.cons rfl (fun K hK => ?_) AllReadyH.nil; go_simp; refine hK.out _ _ hM2 (fun hHeld => ?_); clear hK K; (try simp only [Act.put]); (try simp only [List.getElem_toArray]); (try simp only [List.getElem_cons_succ]); (try simp only [List.getElem_cons_zero]); (try simp only [List.setIfInBounds_toArray]); (try simp only [List.set_cons_succ]); (try simp only [List.set_cons_zero]))
          refine wpAnyH_done (by kernel_rfl) ?_ _
          have O9 := Lib.hid (O9.out.lower (base' := w.heap.size) (by have := EXW.out.size; omega))
          rw [← HN.out] at O9
          obtain ⟨F', h1, h2⟩ := H.out.put B2 O9.out M2 (Nat.le_trans EXW.out.size EX9.size)
          go_wp2
          go_ret
          rw [H1.out.1, H1.out.2]
          exact ⟨rfl, F', h1, h2, Mod.trans (Mod.of_ext (EXW.out.trans EX9)) M2⟩
        ·
          go_simp
          refine hK.out _ _ (Mod.of_ext (EX0.out.trans (EX.alloc _))) (fun hHeld => ?_)
          clear hK K hHeld
          (try simp only [List.getElem_toArray]); (try simp only [List.getElem_cons_succ]); (try simp only [List.getElem_cons_zero]); (try simp only [Act.put]); (try simp only [List.setIfInBounds_toArray]); (try simp only [List.set_cons_succ]); (try simp only [List.set_cons_zero])
          have E3 := (Ext.refl w20).alloc (.cells #[.int .i64 id, .int .i64 due] 43)
          have HT := Lib.hid (HT.out.ext E3)
          have HD := Lib.hid (HD.out.ext E3)
          have BR := Lib.hid (BR.out.ext E3)
          have B1e := Lib.hid (B1e.out.ext E3)
          have EX := EX.trans E3
          have B7 := Lib.hid (Blk.new w20 43 #[.int .i64 id, .int .i64 due])
          obtain ⟨n7, hn7⟩ : ∃ n7, w20.heap.size = n7 := ⟨_, rfl⟩
          have hn7W : w19.heap.size ≤ n7 := by rw [← hn7]; exact EXo.size
          rw [hn7] at B7 ⊢
          have hne_n1_n7 : n1 ≠ n7 := by have := Ln1; omega
          have hne_n7_n1 : n7 ≠ n1 := fun h => hne_n1_n7 h.symm
          have Zw21 := E3.size
          clear hn7 E3 EXo
          generalize w20.alloc _ = w21 at *
          have EXo := EX
          have Ln1 := B1e.out.lt
          have Ln7 := B7.out.lt
          refine wpAnyH_ready (rs := [5]) (by kernel_rfl) (by simp) ?_
          refine (AllReadyH.cons rfl (fun K hK => ?_) AllReadyH.nil)
          refine step_app0 (e := Kp) (A := fun _ => False) (n := n1) rfl (.tmp 64) (.tmp 67) rfl Try.underlying27 info_kp rfl B1e.out rfl HT.out rfl (fun _ _ h => h.elim) (by rw [HTL.out]; simp [maxLen]; omega) (by rw [HTL.out]; omega) ?_
          intro A5 c5 w22 o5 M5 D5
          rw [HTL.out]
          rw [HTL.out] at o5
          have E3 := (D5.mono (Nat.le_refl _))
          have EX5 : Ext w19 w22 := Below.trans EX (D5.mono hn1W)
          refine hK.out _ _ (Mod.of_ext (EX0.out.trans EX5)) (fun hHeld => ?_)
          clear hK K hHeld
          (try simp only [List.getElem_toArray]); (try simp only [List.getElem_cons_succ]); (try simp only [List.getElem_cons_zero]); (try simp only [Act.put]); (try simp only [List.setIfInBounds_toArray]); (try simp only [List.set_cons_succ]); (try simp only [List.set_cons_zero])
          have O5 := Lib.hid o5
          have HD := Lib.hid (HD0.out.ext EX5)
          have BR := Lib.hid (BR0.out.ext EX5)
          have B7 := Lib.hid (B7.out.mod M5 hne_n7_n1)
          have Ln7 := B7.out.lt
          have EX := EX5
          have EXo := EX
          have L1 := M5.size
          clear o5 M5 D5 E3 EX5
          refine wpAnyH_ready (rs := [8]) (by kernel_rfl) (by simp) ?_
          refine AllReadyH.cons rfl (fun K hK => ?_) AllReadyH.nil
          refine step_app (e := Kp) (base := n1) (B := fun _ => False) (A := fun _ => False) rfl (.tmp 68) (.tmp 70) rfl Try.underlying27 info_kp rfl O5.out rfl (RdY.singleB (e := Kp) (cs := [.int .i64 id, .int .i64 due]) (d := (id, due)) (kp_rel (id, due)) B7.out) rfl (fun _ _ h => h.elim) (N := m + 1) (by rw [HTL.out]; rfl) (by simp [maxLen]; omega) (by omega) (by omega) ?_
          intro A8 c8 w30 o8 M8 D8
          have EX8 : Ext w19 w30 := Below.trans EX (D8.mono hn1W)
          refine hK.out _ _ (Mod.of_ext (EX0.out.trans EX8)) (fun hHeld => ?_)
          clear hK K hHeld
          (try simp only [List.getElem_toArray]); (try simp only [List.getElem_cons_succ]); (try simp only [List.getElem_cons_zero]); (try simp only [Act.put]); (try simp only [List.setIfInBounds_toArray]); (try simp only [List.set_cons_succ]); (try simp only [List.set_cons_zero])
          have O8 := Lib.hid o8
          have HD := Lib.hid (HD0.out.ext EX8)
          have hsz8 : n1 ≤ w30.heap.size := Nat.le_trans (by omega) M8.size
          clear o8 M8 D8
          refine wpAnyH_ready (rs := [12]) (by kernel_rfl) (by simp) ?_
          refine AllReadyH.cons rfl (fun K hK => ?_) AllReadyH.nil
          refine step_app (e := Kp) (base := n1) (B := fun _ => False) (A := fun _ => False) rfl (.tmp 71) (.tmp 74) rfl Try.underlying27 info_kp rfl O8.out rfl HD.out rfl (fun _ _ h => h.elim) (N := Q + 1) (by rw [List.length_append, HTL.out, HDL.out, List.length_singleton]; omega) (by simp [maxLen]; omega) (by omega) hsz8 ?_
          intro A9 c9 w31 o9 M9 D9
          have EX9 : Ext w19 w31 := Below.trans EX8 (D9.mono hn1W)
          have hHeld := Mod.of_ext (S := fun k => k = R) (EX0.out.trans EX9)
          refine hK.out _ _ hHeld (fun hHeld => ?_)
          clear hK K
          (try simp only [List.getElem_toArray]); (try simp only [List.getElem_cons_succ]); (try simp only [List.getElem_cons_zero]); (try simp only [Act.put]); (try simp only [List.setIfInBounds_toArray]); (try simp only [List.set_cons_succ]); (try simp only [List.set_cons_zero])
          have O9 := Lib.hid o9
          have BR := Lib.hid (BR0.out.ext EX9)
          clear o9 M9 D9
          (refine wpAnyH_take (i := 13) (v := ?_) rfl (by kernel_rfl) (by kernel_rfl) (by kernel_rfl) (fun _ _ _ h => h) (Or.inl ⟨by rfl, ?_⟩) (by assumption) ?_; rotate_left; (focus (intro w' hSw; go_simp; try with_reducible rfl)); (try simp only [List.getElem_toArray]); (try simp only [List.getElem_cons_succ]); (try simp only [List.getElem_cons_zero]); (try simp only [Act.put]); (try simp only [List.setIfInBounds_toArray]); (try simp only [List.set_cons_succ]); (try simp only [List.set_cons_zero]))
          (refine wpAnyH_take (i := 14) (v := ?_) rfl (by kernel_rfl) (by kernel_rfl) (by kernel_rfl) (fun _ _ _ h => h) (Or.inl ⟨by rfl, ?_⟩) (by assumption) ?_; rotate_left; (focus (intro w' hSw; go_simp; try with_reducible rfl)); (try simp only [List.getElem_toArray]); (try simp only [List.getElem_cons_succ]); (try simp only [List.getElem_cons_zero]); (try simp only [Act.put]); (try simp only [List.setIfInBounds_toArray]); (try simp only [List.set_cons_succ]); (try simp only [List.set_cons_zero]))
          have fR := BR.out.frozen 0
          have cR := BR.out.cell0
          have M2 : Mod (fun k => k = R) w31 _ := (Mod.refl _ w31).set1 (.slice A9 (Q + 1) c9) (o := 0)
          have B2 := BR.out.set_ 0 (.slice A9 (Q + 1) c9)
          have hM2 := hHeld.trans M2
          (refine wpAnyH_ready (rs := [15]) (by kernel_rfl) (by simp) ?_; refine AllReadyH.cons rfl (fun K hK => ?_) AllReadyH.nil; go_simp; refine hK.out _ _ hM2 (fun hHeld => ?_); clear hK K; (try simp only [Act.put]); (try simp only [List.getElem_toArray]); (try simp only [List.getElem_cons_succ]); (try simp only [List.getElem_cons_zero]); (try simp only [List.setIfInBounds_toArray]); (try simp only [List.set_cons_succ]); (try simp only [List.set_cons_zero]))
          refine wpAnyH_done (by kernel_rfl) ?_ _
          have O9 := Lib.hid (O9.out.lower (base' := w.heap.size) (by have := EXW.out.size; omega))
          rw [← HN.out] at O9
          obtain ⟨F', h1, h2⟩ := H.out.put B2 O9.out M2 (Nat.le_trans EXW.out.size EX9.size)
          go_wp2
          go_ret
          rw [H1.out.1, H1.out.2]
          exact ⟨rfl, F', h1, h2, Mod.trans (Mod.of_ext (EXW.out.trans EX9)) M2⟩
      ·
        go_simp
        refine hK.out _ _ (Mod.of_ext (EX0.out.trans (EX.alloc _))) (fun hHeld => ?_)
        clear hK K hHeld
        (try simp only [List.getElem_toArray]); (try simp only [List.getElem_cons_succ]); (try simp only [List.getElem_cons_zero]); (try simp only [Act.put]); (try simp only [List.setIfInBounds_toArray]); (try simp only [List.set_cons_succ]); (try simp only [List.set_cons_zero])
        have E3 := (Ext.refl w19).alloc (.cells #[.int .i64 id, .int .i64 due] 43)
        have HT := Lib.hid (HT.out.ext E3)
        have HD := Lib.hid (HD.out.ext E3)
        have BR := Lib.hid (BR.out.ext E3)
        have EX := EX.trans E3
        have B7 := Lib.hid (Blk.new w19 43 #[.int .i64 id, .int .i64 due])
        obtain ⟨n7, hn7⟩ : ∃ n7, w19.heap.size = n7 := ⟨_, rfl⟩
        have hn7W : w19.heap.size ≤ n7 := by rw [← hn7]; exact EXo.size
        rw [hn7] at B7 ⊢
        have Zw20 := E3.size
        clear hn7 E3 EXo
        generalize w19.alloc _ = w20 at *
        have EXo := EX
        have Ln7 := B7.out.lt
        refine wpAnyH_ready (rs := [1]) (by kernel_rfl) (by simp) ?_
        refine (AllReadyH.cons rfl (fun K hK => ?_) AllReadyH.nil)
        go_simp
        refine hK.out _ _ (Mod.of_ext (EX0.out.trans (EX.alloc _))) (fun hHeld => ?_)
        clear hK K hHeld
        (try simp only [List.getElem_toArray]); (try simp only [List.getElem_cons_succ]); (try simp only [List.getElem_cons_zero]); (try simp only [Act.put]); (try simp only [List.setIfInBounds_toArray]); (try simp only [List.set_cons_succ]); (try simp only [List.set_cons_zero])
        have E3 := (Ext.refl w20).alloc (.cells #[] 43)
        have HT := Lib.hid (HT.out.ext E3)
        have HD := Lib.hid (HD.out.ext E3)
        have BR := Lib.hid (BR.out.ext E3)
        have B7 := Lib.hid (B7.out.ext E3)
        have EX := EX.trans E3
        have B1e := Lib.hid (Blk.new w20 43 #[])
        obtain ⟨n1, hn1⟩ : ∃ n1, w20.heap.size = n1 := ⟨_, rfl⟩
        have hn1W : w19.heap.size ≤ n1 := by rw [← hn1]; exact EXo.size
        rw [hn1] at B1e ⊢
        have hne_n7_n1 : n7 ≠ n1 := by have := Ln7; omega
        have hne_n1_n7 : n1 ≠ n7 := fun h => hne_n7_n1 h.symm
        have Zw21 := E3.size
        clear hn1 E3 EXo
        generalize w20.alloc _ = w21 at *
        have EXo := EX
        have Ln7 := B7.out.lt
        have Ln1 := B1e.out.lt
        refine wpAnyH_ready (rs := [5]) (by kernel_rfl) (by simp) ?_
        refine (AllReadyH.cons rfl (fun K hK => ?_) AllReadyH.nil)
        refine step_app0 (e := Kp) (A := fun _ => False) (n := n1) rfl (.tmp 64) (.tmp 67) rfl Try.underlying27 info_kp rfl B1e.out rfl HT.out rfl (fun _ _ h => h.elim) (by rw [HTL.out]; simp [maxLen]; omega) (by rw [HTL.out]; omega) ?_
        intro A5 c5 w22 o5 M5 D5
        rw [HTL.out]
        rw [HTL.out] at o5
        have E3 := (D5.mono (Nat.le_refl _))
        have EX5 : Ext w19 w22 := Below.trans EX (D5.mono hn1W)
        refine hK.out _ _ (Mod.of_ext (EX0.out.trans EX5)) (fun hHeld => ?_)
        clear hK K hHeld
        (try simp only [List.getElem_toArray]); (try simp only [List.getElem_cons_succ]); (try simp only [List.getElem_cons_zero]); (try simp only [Act.put]); (try simp only [List.setIfInBounds_toArray]); (try simp only [List.set_cons_succ]); (try simp only [List.set_cons_zero])
        have O5 := Lib.hid o5
        have HD := Lib.hid (HD0.out.ext EX5)
        have BR := Lib.hid (BR0.out.ext EX5)
        have B7 := Lib.hid (B7.out.mod M5 hne_n7_n1)
        have Ln7 := B7.out.lt
        have EX := EX5
        have EXo := EX
        have L1 := M5.size
        clear o5 M5 D5 E3 EX5
        refine wpAnyH_ready (rs := [8]) (by kernel_rfl) (by simp) ?_
        refine AllReadyH.cons rfl (fun K hK => ?_) AllReadyH.nil
        refine step_app (e := Kp) (base := n1) (B := fun _ => False) (A := fun _ => False) rfl (.tmp 68) (.tmp 70) rfl Try.underlying27 info_kp rfl O5.out rfl (RdY.singleB (e := Kp) (cs := [.int .i64 id, .int .i64 due]) (d := (id, due)) (kp_rel (id, due)) B7.out) rfl (fun _ _ h => h.elim) (N := m + 1) (by rw [HTL.out]; rfl) (by simp [maxLen]; omega) (by omega) (by omega) ?_
        intro A8 c8 w30 o8 M8 D8
        have EX8 : Ext w19 w30 := Below.trans EX (D8.mono hn1W)
        refine hK.out _ _ (Mod.of_ext (EX0.out.trans EX8)) (fun hHeld => ?_)
        clear hK K hHeld
        (try simp only [List.getElem_toArray]); (try simp only [List.getElem_cons_succ]); (try simp only [List.getElem_cons_zero]); (try simp only [Act.put]); (try simp only [List.setIfInBounds_toArray]); (try simp only [List.set_cons_succ]); (try simp only [List.set_cons_zero])
        have O8 := Lib.hid o8
        have HD := Lib.hid (HD0.out.ext EX8)
        have hsz8 : n1 ≤ w30.heap.size := Nat.le_trans (by omega) M8.size
        clear o8 M8 D8
        refine wpAnyH_ready (rs := [12]) (by kernel_rfl) (by simp) ?_
        refine AllReadyH.cons rfl (fun K hK => ?_) AllReadyH.nil
        refine step_app (e := Kp) (base := n1) (B := fun _ => False) (A := fun _ => False) rfl (.tmp 71) (.tmp 74) rfl Try.underlying27 info_kp rfl O8.out rfl HD.out rfl (fun _ _ h => h.elim) (N := Q + 1) (by rw [List.length_append, HTL.out, HDL.out, List.length_singleton]; omega) (by simp [maxLen]; omega) (by omega) hsz8 ?_
        intro A9 c9 w31 o9 M9 D9
        have EX9 : Ext w19 w31 := Below.trans EX8 (D9.mono hn1W)
        have hHeld := Mod.of_ext (S := fun k => k = R) (EX0.out.trans EX9)
        refine hK.out _ _ hHeld (fun hHeld => ?_)
        clear hK K
        (try simp only [List.getElem_toArray]); (try simp only [List.getElem_cons_succ]); (try simp only [List.getElem_cons_zero]); (try simp only [Act.put]); (try simp only [List.setIfInBounds_toArray]); (try simp only [List.set_cons_succ]); (try simp only [List.set_cons_zero])
        have O9 := Lib.hid o9
        have BR := Lib.hid (BR0.out.ext EX9)
        clear o9 M9 D9
        (refine wpAnyH_take (i := 13) (v := ?_) rfl (by kernel_rfl) (by kernel_rfl) (by kernel_rfl) (fun _ _ _ h => h) (Or.inl ⟨by rfl, ?_⟩) (by assumption) ?_; rotate_left; (focus (intro w' hSw; go_simp; try with_reducible rfl)); (try simp only [List.getElem_toArray]); (try simp only [List.getElem_cons_succ]); (try simp only [List.getElem_cons_zero]); (try simp only [Act.put]); (try simp only [List.setIfInBounds_toArray]); (try simp only [List.set_cons_succ]); (try simp only [List.set_cons_zero]))
        (refine wpAnyH_take (i := 14) (v := ?_) rfl (by kernel_rfl) (by kernel_rfl) (by kernel_rfl) (fun _ _ _ h => h) (Or.inl ⟨by rfl, ?_⟩) (by assumption) ?_; rotate_left; (focus (intro w' hSw; go_simp; try with_reducible rfl)); (try simp only [List.getElem_toArray]); (try simp only [List.getElem_cons_succ]); (try simp only [List.getElem_cons_zero]); (try simp only [Act.put]); (try simp only [List.setIfInBounds_toArray]); (try simp only [List.set_cons_succ]); (try simp only [List.set_cons_zero]))
        have fR := BR.out.frozen 0
        have cR := BR.out.cell0
        have M2 : Mod (fun k => k = R) w31 _ := (Mod.refl _ w31).set1 (.slice A9 (Q + 1) c9) (o := 0)
        have B2 := BR.out.set_ 0 (.slice A9 (Q + 1) c9)
        have hM2 := hHeld.trans M2
        (refine wpAnyH_ready (rs := [15]) (by kernel_rfl) (by simp) ?_; refine AllReadyH.cons rfl (fun K hK => ?_) AllReadyH.nil; go_simp; refine hK.out _ _ hM2 (fun hHeld => ?_); clear hK K; (try simp only [Act.put]); (try simp only [List.getElem_toArray]); (try simp only [List.getElem_cons_succ]); (try simp only [List.getElem_cons_zero]); (try simp only [List.setIfInBounds_toArray]); (try simp only [List.set_cons_succ]); (try simp only [List.set_cons_zero]))
        refine wpAnyH_done (by kernel_rfl) ?_ _
        have O9 := Lib.hid (O9.out.lower (base' := w.heap.size) (by have := EXW.out.size; omega))
        rw [← HN.out] at O9
        obtain ⟨F', h1, h2⟩ := H.out.put B2 O9.out M2 (Nat.le_trans EXW.out.size EX9.size)
        go_wp2
        go_ret
        rw [H1.out.1, H1.out.2]
        exact ⟨rfl, F', h1, h2, Mod.trans (Mod.of_ext (EXW.out.trans EX9)) M2⟩
end Go.Proofs.Ytapajcgfdiamdaa
