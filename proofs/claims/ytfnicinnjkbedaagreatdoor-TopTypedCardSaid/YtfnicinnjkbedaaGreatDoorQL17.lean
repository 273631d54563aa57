/- A line discipline kills the line, by contract: the line is gone; what goes out may turn. Conditions: the discipline is one. -/
import Derived.Test.YtfnicinnjkbedaaGreatDoorQK17
namespace Go.Proofs.YtfnicinnjkbedaaGreatDoor
open Go.RowKit Go.Kb
set_option maxRecDepth 100000

/-- the line is gone; what goes out, and the column, may be others -/
def KillR (d d2 : Ds) : Prop := ∃ (o : List Int) (k : Int), d2 = { d with line := [], out := o, col := k }
theorem echoD_kill {d : Ds} (b : List Int) (hl : d.line = []) : KillR d (d.echoD b) := by
  unfold Ds.echoD
  split
  · unfold Ds.showD
    split
    · exact ⟨_, _, by rw [← hl]⟩
    · exact ⟨d.out, d.col, by rw [← hl]⟩
  · exact ⟨d.out, d.col, by rw [← hl]⟩
def Ds.killD (d : Ds) : Ds := { d with line := [] }
theorem killD_ok {d : Ds} (h : d.Ok) : d.killD.Ok := ⟨h.t, (fun _ hx => by cases hx), h.bo, by simp [Ds.killD], h.out, h.col, h.fr⟩
theorem killR_killD {d d2 : Ds} (h : KillR d.killD d2) : KillR d d2 := by
  obtain ⟨o, k, h⟩ := h
  exact ⟨o, k, h⟩
theorem rep3_bs (N : Nat) : Bs (Ec.rep3 N) := by
  intro x hx
  simp only [Ec.rep3, List.mem_flatten, List.mem_replicate] at hx
  obtain ⟨l, ⟨_, rfl⟩, hx⟩ := hx
  simp only [List.mem_cons, List.not_mem_nil, or_false] at hx
  omega
theorem echoD_t {d : Ds} {b : List Int} : (d.echoD b).t = d.t := by
  unfold Ds.echoD Ds.showD
  split <;> (try split) <;> rfl
theorem goneN_le (e u : Bool) (col : Int) (rest gone : List Int) : Ec.goneN e u col rest gone ≤ 65543 := by
  unfold Ec.goneN
  have h1 := Ec.colsL_any e u col rest
  have h2 := Ec.colsL_any e u (Ec.colsL e u col rest) gone
  omega
theorem kill_dss {S : Nat → Prop} {g : Nat} {d e : Ds} {ws w4 w6 : World} (E : Ext ws w4) (M : Mod (fun j => j = g) w4 w6) (P : Dsc S g w6 e) (ht : e.t = d.killD.t) : DsS g d.t.arr ws w6 := by
  obtain ⟨-, -, vl, vs, vr, vo, hB, -⟩ := P
  rw [ht] at hB
  exact ⟨(Mod.of_ext E).trans M, _, rfl, hB⟩
set_option maxHeartbeats 3000000 in
theorem dkill_any {S : Nat → Prop} {g : Nat} (d : Ds) (c : Int) (w : World) (h : Dsc S g w d) (hc : 0 ≤ c ∧ c ≤ 255) :
    Calls Tryz.prog 120 #[.pointer (some ⟨g, 0, none⟩), .int .u8 c] w fun e w' => e = .returned (.tuple #[]) ∧ ∃ d2, KillR d d2 ∧ Dsc S g w' d2 ∧ Mod (fun j => j = g) w w' := by
  obtain ⟨ok, hS, vl, vs, vr, vo, hD, hR⟩ := h
  have hn := Tm.size ok.t
  have hil : (Tryz.prog.info? 26).map (·.size) = some d.t.arr.toList.length := by rw [Array.length_toList, hn]; kernel_rfl
  have HS := Lib.hid hS
  have HR := Lib.hid hR
  have HD := Lib.hid hD
  have HOK := Lib.hid ok
  have KC := Lib.hid (TmC.of hD hn)
  clear hS hR hD ok
  obtain ⟨Al, cl, rfl, -, -⟩ := HR.out.line.shape
  have HRU := Lib.hid (fun w' h1 h2 => Ec.rub_any d.t d.fr (.slice none 0 0) (.slice Al d.line.length cl) [] d.line w' HOK.out.t h1 (fun _ hx => by cases hx) h2 HOK.out.bl)
  have HSH := Lib.hid (fun w' => Ec.show_any d.t c w' HOK.out.t hc)
  have HH := Lib.hid (fun op w' h => dhas_any (S := S) (g := g) d.killD op w' h)
  have HE := Lib.hid (fun v b w' h hb hB hl => decho_any (S := S) (g := g) d.killD v b w' h hb hB hl)
  have KK0 := KC.out.k0
  have f0 := HD.out.frozen 24
  have HCC := Lib.hid hc
  clear hc
  obtain ⟨n1, hn1⟩ : ∃ n, d.line.length = n := ⟨_, rfl⟩
  have HN1 := Lib.hid hn1
  rw [hn1] at KK0
  clear hn1
  have hD1 : Dsc S g (w.setCell ⟨g, 24, none⟩ (.slice none 0 0)) d.killD := by
    refine ⟨killD_ok HOK.out, ⟨HS.out.1, fun j hj => ?_⟩, .slice none 0 0, vs, vr, vo, blk_tmset HD.out hn 0 rfl _, ⟨RdS.nil _ _ _, (HR.out.set_ HS.out.1 _ _).lines, (HR.out.set_ HS.out.1 _ _).raw, (HR.out.set_ HS.out.1 _ _).out⟩⟩
    have := HS.out.2 j hj
    simpa using this
  have HD1 := Lib.hid hD1
  have RL1 := Lib.hid (RdS.ri ((HR.out.set_ HS.out.1 24 (.slice none 0 0)).line))
  have HM1 := Lib.hid ((Mod.refl (fun j => j = g) w).set1 (o := 24) (.slice none 0 0))
  clear hD1
  obtain ⟨ws, hws⟩ : ∃ ws, w.setCell ⟨g, 24, none⟩ (.slice none 0 0) = ws := ⟨_, rfl⟩
  have HWS := Lib.hid hws
  rw [hws] at HD1 RL1 HM1
  obtain ⟨-, -, ul, us, ur, uo, hB1, hR1⟩ := HD1.out
  have HB1 := Lib.hid (show Blk ws g 82 (tmA d.t.arr (dsX d.killD ul us ur uo)) from hB1)
  have k8 : ws.cell? ⟨g, 32, none⟩ = some (.int .i64 d.fr) := (TmC.of HB1.out hn).k8
  have hkt : ∀ op, hasL d.killD.t op = hasL d.t op := fun _ => rfl
  have RL1 := Lib.hid (show RI .u8 ws (.slice Al d.line.length cl) d.line from RL1.out)
  rw [HN1.out] at HRU RL1
  obtain ⟨q54, hq54⟩ : ∃ q, hasL d.t 54 = q := ⟨_, rfl⟩
  obtain ⟨q61, hq61⟩ : ∃ q, hasL d.t 61 = q := ⟨_, rfl⟩
  obtain ⟨q55, hq55⟩ : ∃ q, hasL d.t 55 = q := ⟨_, rfl⟩
  have H54 := Lib.hid (fun w' h => HH.out 54 w' h)
  have H61 := Lib.hid (fun w' h => HH.out 61 w' h)
  have H55 := Lib.hid (fun w' h => HH.out 55 w' h)
  rw [hkt, hq54] at H54
  rw [hkt, hq61] at H61
  rw [hkt, hq55] at H55
  clear hB1 hR1 hws hq54 hq61 hq55 HH hkt
  go_enter Tryz.func120, Tryz.ntmps120
  go_wp2_with fail
  rw [HWS.out]
  refine (H54.out _ HD1.out).mono ?_
  rintro e w2 ⟨rfl, E2⟩
  have EX2 : Ext ws w2 := E2
  have HD2 := Lib.hid (HD1.out.ext EX2)
  have k8 := cell_ext E2 k8
  clear E2
  cases q54 with
  | false =>
    go_wp2_with (refine wpList_load_mid rfl 26 _ rfl g 0 rfl d.t.arr.toList _ (tmA_mid (HB1.out.ext EX2)) Tryz.underlying26 rfl hil ?_; simp only [Array.toArray_toList])
    refine (HSH.out _).mono ?_
    rintro e w4 ⟨A4, n4, c4, l4, rfl, o4, E4⟩
    have EX4 : Ext ws w4 := EX2.trans E4
    have HD4 := Lib.hid (HD1.out.ext EX4)
    have O4 := Lib.hid o4
    have HL4 := Lib.hid l4
    have hlen4 := Ec.showL_len (hasL d.t 60) c
    have hn4 : n4 ≤ 2 := by rw [← l4]; exact hlen4
    have HBS := Lib.hid (showL_bs (q := hasL d.t 60) HCC.out)
    have z4 := E4.size
    clear o4 l4 hlen4 HD2
    obtain ⟨l, hl⟩ : ∃ l, Ec.showL (hasL d.t 60) c = l := ⟨_, rfl⟩
    rw [hl] at O4 HL4 HBS
    clear hl
    go_wp2_with fail
    refine (H55.out _ HD4.out).mono ?_
    rintro e w5 ⟨rfl, E5⟩
    have EX5 : Ext ws w5 := EX4.trans E5
    have HD5 := Lib.hid (HD1.out.ext EX5)
    have O5 := Lib.hid (O4.out.ext E5)
    clear O4 HD4
    cases q55 with
    | false =>
      go_wp2_with fail
      refine (HE.out _ l _ HD5.out (RdY.ri O5.out.y) HBS.out (by rw [HL4.out]; omega)).mono ?_
      rintro e w6 ⟨rfl, P6, M6⟩
      have HP6 := Lib.hid P6
      have HM6 := Lib.hid ((HM1.out.ext EX5).trans M6)
      clear P6 M6
      go_wp2
      refine bodyPost_end (v := .tuple #[]) (by simp [results, Tryz.results120]) rfl ?_
      exact ⟨rfl, _, killR_killD (echoD_kill l rfl), HP6.out, HM6.out⟩
    | true =>
      have z5 := E5.size
      go_wp2_with (at_builtin; refine wpList_app (e := Ub) (B := fun _ => False) (A := fun _ => False) rfl (.tmp 39) (.tmp 40) rfl Tryz.underlying27 info_u8 rfl (O5.out.ext ((Ext.refl _).alloc _)) rfl (RI.y (RI.lit .u8 [10] _ rfl (by simp))) rfl (fun _ _ h => h.elim) (N := n4 + 1) (by rw [HL4.out]; rfl) (by unfold maxLen; omega) (by omega) (by simp; omega) ?_; intro A7 c7 w7 o7 M7 B7)
      have EX7 : Ext ws w7 := EX2.trans (Below.trans ((E4.trans E5).alloc _) B7)
      have HD7 := Lib.hid (HD1.out.ext EX7)
      have R7 := Lib.hid (show RI .u8 w7 (.slice A7 (n4 + 1) c7) (l ++ [10]) from RdY.ri o7.y)
      have HB7 := Lib.hid (show Bs (l ++ [10]) from fun x hx => by
        rcases List.mem_append.1 hx with hx | hx
        · exact HBS.out x hx
        · rw [List.mem_singleton.1 hx]; omega)
      clear o7 M7 B7 O5
      go_wp2_with fail
      refine (HE.out _ (l ++ [10]) _ HD7.out R7.out HB7.out (by rw [List.length_append, HL4.out]; simp; omega)).mono ?_
      rintro e w6 ⟨rfl, P6, M6⟩
      have HP6 := Lib.hid P6
      have HM6 := Lib.hid ((HM1.out.ext EX7).trans M6)
      clear P6 M6
      go_wp2
      refine bodyPost_end (v := .tuple #[]) (by simp [results, Tryz.results120]) rfl ?_
      exact ⟨rfl, _, killR_killD (echoD_kill _ rfl), HP6.out, HM6.out⟩
  | true =>
    go_wp2_with fail
    refine (H61.out _ HD2.out).mono ?_
    rintro e w3 ⟨rfl, E3⟩
    have EX2 : Ext ws w3 := EX2.trans E3
    have HD2 := Lib.hid (HD1.out.ext EX2)
    have k8 := cell_ext E3 k8
    clear E3
    cases q61 with
    | false =>
      go_wp2_with (refine wpList_load_mid rfl 26 _ rfl g 0 rfl d.t.arr.toList _ (tmA_mid (HB1.out.ext EX2)) Tryz.underlying26 rfl hil ?_; simp only [Array.toArray_toList])
      refine (HSH.out _).mono ?_
      rintro e w4 ⟨A4, n4, c4, l4, rfl, o4, E4⟩
      have EX4 : Ext ws w4 := EX2.trans E4
      have HD4 := Lib.hid (HD1.out.ext EX4)
      have O4 := Lib.hid o4
      have HL4 := Lib.hid l4
      have hlen4 := Ec.showL_len (hasL d.t 60) c
      have hn4 : n4 ≤ 2 := by rw [← l4]; exact hlen4
      have HBS := Lib.hid (showL_bs (q := hasL d.t 60) HCC.out)
      have z4 := E4.size
      clear o4 l4 hlen4 HD2
      obtain ⟨l, hl⟩ : ∃ l, Ec.showL (hasL d.t 60) c = l := ⟨_, rfl⟩
      rw [hl] at O4 HL4 HBS
      clear hl
      go_wp2_with fail
      refine (H55.out _ HD4.out).mono ?_
      rintro e w5 ⟨rfl, E5⟩
      have EX5 : Ext ws w5 := EX4.trans E5
      have HD5 := Lib.hid (HD1.out.ext EX5)
      have O5 := Lib.hid (O4.out.ext E5)
      clear O4 HD4
      cases q55 with
      | false =>
        go_wp2_with fail
        refine (HE.out _ l _ HD5.out (RdY.ri O5.out.y) HBS.out (by rw [HL4.out]; omega)).mono ?_
        rintro e w6 ⟨rfl, P6, M6⟩
        have HP6 := Lib.hid P6
        have HM6 := Lib.hid ((HM1.out.ext EX5).trans M6)
        clear P6 M6
        go_wp2
        refine bodyPost_end (v := .tuple #[]) (by simp [results, Tryz.results120]) rfl ?_
        exact ⟨rfl, _, killR_killD (echoD_kill l rfl), HP6.out, HM6.out⟩
      | true =>
        have z5 := E5.size
        go_wp2_with (at_builtin; refine wpList_app (e := Ub) (B := fun _ => False) (A := fun _ => False) rfl (.tmp 39) (.tmp 40) rfl Tryz.underlying27 info_u8 rfl (O5.out.ext ((Ext.refl _).alloc _)) rfl (RI.y (RI.lit .u8 [10] _ rfl (by simp))) rfl (fun _ _ h => h.elim) (N := n4 + 1) (by rw [HL4.out]; rfl) (by unfold maxLen; omega) (by omega) (by simp; omega) ?_; intro A7 c7 w7 o7 M7 B7)
        have EX7 : Ext ws w7 := EX2.trans (Below.trans ((E4.trans E5).alloc _) B7)
        have HD7 := Lib.hid (HD1.out.ext EX7)
        have R7 := Lib.hid (show RI .u8 w7 (.slice A7 (n4 + 1) c7) (l ++ [10]) from RdY.ri o7.y)
        have HB7 := Lib.hid (show Bs (l ++ [10]) from fun x hx => by
          rcases List.mem_append.1 hx with hx | hx
          · exact HBS.out x hx
          · rw [List.mem_singleton.1 hx]; omega)
        clear o7 M7 B7 O5
        go_wp2_with fail
        refine (HE.out _ (l ++ [10]) _ HD7.out R7.out HB7.out (by rw [List.length_append, HL4.out]; simp; omega)).mono ?_
        rintro e w6 ⟨rfl, P6, M6⟩
        have HP6 := Lib.hid P6
        have HM6 := Lib.hid ((HM1.out.ext EX7).trans M6)
        clear P6 M6
        go_wp2
        refine bodyPost_end (v := .tuple #[]) (by simp [results, Tryz.results120]) rfl ?_
        exact ⟨rfl, _, killR_killD (echoD_kill _ rfl), HP6.out, HM6.out⟩
    | true =>
      go_upto_region 3 with fail
      refine wp_region_held_drew (S := fun w' => DsS g d.t.arr ws w') (by kernel_rfl) (DsS.of HB1.out rfl (Ext.drew EX2)) (fun hHeld => ?_)
      (refine wpAnyH_take (i := 0) (v := ?_) rfl (by kernel_rfl) (by kernel_rfl) (by kernel_rfl) (fun _ _ _ h => h) (Or.inl ⟨by rfl, ?_⟩) (by assumption) ?_; rotate_left; (focus (intro w' hSw; go_simp; try with_reducible rfl)); (try simp only [List.getElem_toArray]); (try simp only [List.getElem_cons_succ]); (try simp only [List.getElem_cons_zero]); (try simp only [Act.put]); (try simp only [List.setIfInBounds_toArray]); (try simp only [List.set_cons_succ]); (try simp only [List.set_cons_zero]))
      (refine wpAnyH_take (i := 1) (v := ?_) rfl (by kernel_rfl) (by kernel_rfl) (by kernel_rfl) (fun _ _ _ h => h) (Or.inl ⟨by rfl, ?_⟩) (by assumption) ?_; rotate_left; (focus (intro w' hSw; go_simp; try with_reducible rfl)); (try simp only [List.getElem_toArray]); (try simp only [List.getElem_cons_succ]); (try simp only [List.getElem_cons_zero]); (try simp only [Act.put]); (try simp only [List.setIfInBounds_toArray]); (try simp only [List.set_cons_succ]); (try simp only [List.set_cons_zero]))
      (refine wpAnyH_take (i := 2) (v := ?_) rfl (by kernel_rfl) (by kernel_rfl) (by kernel_rfl) (fun _ _ _ h => h) (Or.inl ⟨by rfl, ?_⟩) (by assumption) ?_; rotate_left; (focus (intro w' hSw; go_simp; try with_reducible rfl)); (try simp only [List.getElem_toArray]); (try simp only [List.getElem_cons_succ]); (try simp only [List.getElem_cons_zero]); (try simp only [Act.put]); (try simp only [List.setIfInBounds_toArray]); (try simp only [List.set_cons_succ]); (try simp only [List.set_cons_zero]))
      (refine wpAnyH_take (i := 3) (v := ?_) rfl (by kernel_rfl) (by kernel_rfl) (by kernel_rfl) (fun _ _ _ h => h) (Or.inl ⟨by rfl, ?_⟩) (by assumption) ?_; rotate_left; (focus (intro w' hSw; go_simp; try with_reducible rfl)); (try simp only [List.getElem_toArray]); (try simp only [List.getElem_cons_succ]); (try simp only [List.getElem_cons_zero]); (try simp only [Act.put]); (try simp only [List.setIfInBounds_toArray]); (try simp only [List.set_cons_succ]); (try simp only [List.set_cons_zero]))
      (refine wpAnyH_take (i := 4) (v := .agg (d.t.arr).toList.toArray) rfl (by kernel_rfl) (by kernel_rfl) (by kernel_rfl) (fun _ _ _ h => h) (yieldsIf_load_mid (by rfl) 26 _ rfl _ _ rfl (d.t.arr).toList _ (fun w' hSw => DsS.mid hSw) Tryz.underlying26 rfl hil) (by assumption) ?_; simp only [Array.toArray_toList]; (try simp only [Act.put]); (try simp only [List.getElem_toArray]); (try simp only [List.getElem_cons_succ]); (try simp only [List.getElem_cons_zero]); (try simp only [List.setIfInBounds_toArray]); (try simp only [List.set_cons_succ]); (try simp only [List.set_cons_zero]))
      (refine wpAnyH_take (i := 5) (v := ?_) rfl (by kernel_rfl) (by kernel_rfl) (by kernel_rfl) (fun _ _ _ h => h) (Or.inl ⟨by rfl, ?_⟩) (by assumption) ?_; rotate_left; (focus (intro w' hSw; go_simp; try with_reducible rfl)); (try simp only [List.getElem_toArray]); (try simp only [List.getElem_cons_succ]); (try simp only [List.getElem_cons_zero]); (try simp only [Act.put]); (try simp only [List.setIfInBounds_toArray]); (try simp only [List.set_cons_succ]); (try simp only [List.set_cons_zero]))
      (refine wpAnyH_take (i := 6) (v := ?_) rfl (by kernel_rfl) (by kernel_rfl) (by kernel_rfl) (fun _ _ _ h => h) (Or.inl ⟨by rfl, ?_⟩) (by assumption) ?_; rotate_left; (focus (intro w' hSw; go_simp; try with_reducible rfl)); (try simp only [List.getElem_toArray]); (try simp only [List.getElem_cons_succ]); (try simp only [List.getElem_cons_zero]); (try simp only [Act.put]); (try simp only [List.setIfInBounds_toArray]); (try simp only [List.set_cons_succ]); (try simp only [List.set_cons_zero]))
      (refine wpAnyH_take (i := 7) (v := ?_) rfl (by kernel_rfl) (by kernel_rfl) (by kernel_rfl) (fun _ _ _ h => h) (Or.inl ⟨by rfl, ?_⟩) (by assumption) ?_; rotate_left; (focus (intro w' hSw; go_simp; try with_reducible rfl)); (try simp only [List.getElem_toArray]); (try simp only [List.getElem_cons_succ]); (try simp only [List.getElem_cons_zero]); (try simp only [Act.put]); (try simp only [List.setIfInBounds_toArray]); (try simp only [List.set_cons_succ]); (try simp only [List.set_cons_zero]))
      (refine wpAnyH_take (i := 9) (v := ?_) rfl (by kernel_rfl) (by kernel_rfl) (by kernel_rfl) (fun _ _ _ h => h) (Or.inl ⟨by rfl, ?_⟩) (by assumption) ?_; rotate_left; (focus (intro w' hSw; go_simp; try with_reducible rfl)); (try simp only [List.getElem_toArray]); (try simp only [List.getElem_cons_succ]); (try simp only [List.getElem_cons_zero]); (try simp only [Act.put]); (try simp only [List.setIfInBounds_toArray]); (try simp only [List.set_cons_succ]); (try simp only [List.set_cons_zero]))
      (refine wpAnyH_ready (rs := [8]) (by kernel_rfl) (by simp) ?_; refine AllReadyH.cons rfl (fun K hK => ?_) AllReadyH.nil; go_simp; refine hK.out _ _ (DsS.of HB1.out rfl (Ext.drew EX2)) (fun hHeld => ?_); clear hK K; (try simp only [Act.put]); (try simp only [List.getElem_toArray]); (try simp only [List.getElem_cons_succ]); (try simp only [List.getElem_cons_zero]); (try simp only [List.setIfInBounds_toArray]); (try simp only [List.set_cons_succ]); (try simp only [List.set_cons_zero]))
      (refine wpAnyH_ready (rs := [10]) (by kernel_rfl) (by simp) ?_; refine AllReadyH.cons rfl (fun K hK => ?_) AllReadyH.nil; go_simp; go_at_call 142; refine (HRU.out _ (RdN.nil _ _) (RdN.ext RL1.out (Ext.drew EX2))).mono ?_; rintro e w4 ⟨A4, n4, l4, rfl, r4, -, E4⟩; (try dsimp only); refine hK.out _ _ (DsS.of HB1.out rfl (Ext.trans (Ext.drew EX2) E4)) (fun hHeld => ?_); clear hK K; (try simp only [Act.put]); (try simp only [List.getElem_toArray]); (try simp only [List.getElem_cons_succ]); (try simp only [List.getElem_cons_zero]); (try simp only [List.setIfInBounds_toArray]); (try simp only [List.set_cons_succ]); (try simp only [List.set_cons_zero]))
      have EX4 : Ext ws w4 := Ext.trans (Ext.drew EX2) E4
      have HD4 := Lib.hid (HD1.out.ext EX4)
      have hg := goneN_le (hasL d.t 60) (hasL d.t 42) d.fr [] d.line
      obtain ⟨N, hN⟩ : ∃ N, Ec.goneN (hasL d.t 60) (hasL d.t 42) d.fr [] d.line = N := ⟨_, rfl⟩
      rw [hN] at l4 r4 hg
      clear hN hHeld
      (refine wpAnyH_ready (rs := [11]) (by kernel_rfl) (by simp) ?_; refine AllReadyH.cons rfl (fun K hK => ?_) AllReadyH.nil; go_simp; go_at_call 114; refine (HE.out _ (Ec.rep3 N) _ HD4.out r4 (rep3_bs N) (by rw [Ec.rep3_len]; omega)).mono ?_; rintro e w6 ⟨rfl, P6, M6⟩; (try dsimp only); refine hK.out _ _ (kill_dss EX4 M6 P6 echoD_t) (fun hHeld => ?_); clear hK K; (try simp only [Act.put]); (try simp only [List.getElem_toArray]); (try simp only [List.getElem_cons_succ]); (try simp only [List.getElem_cons_zero]); (try simp only [List.setIfInBounds_toArray]); (try simp only [List.set_cons_succ]); (try simp only [List.set_cons_zero]))
      refine wpAnyH_done (by kernel_rfl) ?_ _
      have HP6 := Lib.hid P6
      have HM6 := Lib.hid ((HM1.out.ext EX4).trans M6)
      clear P6 M6 hHeld
      go_wp2
      first | go_end0 | refine bodyPost_ret (results_none rfl _ _ _) rfl ?_
      exact ⟨rfl, _, killR_killD (echoD_kill _ rfl), HP6.out, HM6.out⟩
end Go.Proofs.YtfnicinnjkbedaaGreatDoor
