/- Without the document's answer, what a process may do with its terminal: walked; the law answers true. Conditions: masks have 64 bits. -/
import Derived.Test.YtcncacllaonplaaK22
import Derived.Deep.DeepCutAuto
namespace Go.Proofs.Ytcncacllaonplaa
open Go.RowKit Go.Kb

theorem acc_cases (l : List Pr) (nx s g : Int) (ts : Bool) (pid : Int) (wr : Bool) :
    (liveL l nx pid = false ∧ accL l nx s g ts pid wr = (3, 0)) ∨ (liveL l nx pid = true ∧ ∃ p, getL l nx pid = (p, true) ∧ p ∈ l ∧
      ((behP s g p = false ∧ accL l nx s g ts pid wr = (1, 0)) ∨ (behP s g p = true ∧
        (accL l nx s g ts pid wr = (3, 0) ∨ (wr = true ∧ accL l nx s g ts pid wr = (1, 0)) ∨ (accL l nx s g ts pid wr = (2, if wr then 22 else 21) ∧ deafP p (if wr then 22 else 21) = false ∧ orphL l nx p.group = false))))) := by
  cases hl : liveL l nx pid
  · exact .inl ⟨rfl, by unfold accL; rw [hl]; rfl⟩
  · obtain ⟨_, p, hgp, hpl, _⟩ := askL_live (live_ask hl)
    refine .inr ⟨rfl, p, hgp, hpl, ?_⟩
    unfold accL
    rw [hl, hgp]
    cases hb : behP s g p
    · exact .inl ⟨rfl, by simp⟩
    · refine .inr ⟨rfl, ?_⟩
      cases wr
      · cases hd : deafP p 21
        · cases ho : orphL l nx p.group
          · exact .inr (.inr ⟨by simp [hd], hd, rfl⟩)
          · exact .inl (by simp [hd])
        · exact .inl (by simp [hd])
      · cases ts
        · exact .inr (.inl ⟨rfl, by simp⟩)
        · cases hd : deafP p 22
          · cases ho : orphL l nx p.group
            · exact .inr (.inr ⟨by simp [hd], hd, rfl⟩)
            · exact .inl (by simp [hd])
          · exact .inr (.inl ⟨rfl, by simp⟩)
theorem get_dead {l : List Pr} {nx pid : Int} (h : (getL l nx pid).2 = false) : liveL l nx pid = false := by
  cases hl : liveL l nx pid
  · rfl
  · obtain ⟨_, p, hgp, _⟩ := askL_live (live_ask hl)
    rw [hgp] at h
    cases h
theorem deaf_not {p : Pr} {sig : Int} {x : Int} {k : Nat} (hk : sig.toNat = k) (hx : p.acts[k]? = some x) (h : deafP p sig = false) : (x == 1) = false ∧ Sig.hasL (Sig.blockL p.mask) sig = false := by
  unfold deafP at h
  rw [hk, List.getD, hx] at h
  simpa using h
set_option maxRecDepth 100000 in
set_option maxHeartbeats 4000000 in
theorem jobsSides_walk {A : Nat → Prop} (Ad : Option Addr) (c : Nat) (l : List Pr) (nx s g0 : Int) (ts : Bool) (pid g : Int) (wr : Bool) (w : World) (h : RdY Rp A w (.slice Ad l.length c) l) (hm : ∀ p ∈ l, Sig.U64 p.mask) :
    Calls Try.prog 3 #[.agg #[.slice Ad l.length c, .int .i64 nx, .int .i64 s, .int .i64 g0, .bool ts, .int .i64 pid, .int .i64 g, .bool wr]] w fun e w' => e = .returned (.bool true) ∧ Ext w w' := by
  have H := Lib.hid (rdy_pr (B := fun _ => False) h)
  have hoks := Lib.hid (RdY.oks h)
  have HM := Lib.hid hm
  obtain ⟨N, hN⟩ : ∃ N, l.length = N := ⟨_, rfl⟩
  have hto := fun w h hn => to_world (A := fun _ => False) Ad c l nx s g0 ts pid g wr w h hn
  rw [hN] at H hto ⊢
  have HTO := Lib.hid hto
  have HN := Lib.hid hN
  have B := Lib.hid (Blk.new w 24 #[.slice Ad N c, .int .i64 nx, .int .i64 s, .int .i64 g0, .bool ts, .int .i64 pid, .int .i64 g, .bool wr])
  have E0 : Ext w (w.alloc (.cells #[.slice Ad N c, .int .i64 nx, .int .i64 s, .int .i64 g0, .bool ts, .int .i64 pid, .int .i64 g, .bool wr] 24)) := (by repeat (first | with_reducible exact Ext.refl _ | refine Ext.drewN ?_ _ | refine Ext.drew ?_ | refine Ext.alloc ?_ _ | assumption | (refine Below.trans ?_ (by assumption)) | (refine Ext.trans ?_ (by assumption)) | (refine Below.trans ?_ (Below.mono (by assumption) (by omega)))))
  clear h hm hN hto
  go_enter Try.func3, Try.ntmps3
  go_wp2_with fail
  refine (alive_any _).mono ?_
  rintro e w1 ⟨rfl, E1⟩
  have B := Lib.hid (B.out.ext E1)
  have E01 := E0.trans E1
  clear E0 E1
  go_wp2_with (refine wpList_load_row rfl 24 _ rfl _ rfl 24 _ _ _ B.out Try.underlying24 rfl i24 ?_)
  refine (great_any Ad N c nx s g0 ts pid g wr _).mono ?_
  rintro e w2 ⟨rfl, E2⟩
  have B := Lib.hid (B.out.ext E2)
  have E02 := E01.trans E2
  clear E01 E2
  by_cases hg : 40 < N
  · have hg2 : decide (40 < N) = true := decide_eq_true hg
    rw [hg2]
    clear hg
    go_wp2
    go_ret
    exact ⟨rfl, E02⟩
  have hg2 : decide (40 < N) = false := decide_eq_false hg
  rw [hg2]
  have HG := Lib.hid hg
  clear hg2 hg
  go_wp2_with (refine wpList_load_row rfl 24 _ rfl _ rfl 24 _ _ _ B.out Try.underlying24 rfl i24 ?_)
  refine (HTO.out _ (H.out.ext E02) (by have := HN.out; have := HG.out; omega)).mono ?_
  rintro e w3 ⟨A3, c3, rfl, O3, E3⟩
  have B := Lib.hid (B.out.ext E3)
  have E03 := E02.trans E3
  have R3 := Lib.hid (rdy_pr (B := fun _ => False) O3.y)
  clear E02 E3 O3 HTO H
  obtain ⟨n3, hn3⟩ : ∃ n, w3.heap.size = n := ⟨_, rfl⟩
  obtain ⟨W3, hW3⟩ : ∃ W, W = w3.alloc (.cells #[.slice A3 N c3, .int .i64 nx] 28) := ⟨_, rfl⟩
  have T := Lib.hid (show Blk W3 n3 28 #[.slice A3 N c3, .int .i64 nx] by rw [hW3]; exact Blk.at_ _ _ hn3)
  have EW : Ext w3 W3 := by rw [hW3]; exact (Ext.refl _).alloc _
  have B := Lib.hid (B.out.ext EW)
  have R3 := Lib.hid (R3.out.ext EW)
  have E03 := E03.trans EW
  have HW3 := Lib.hid hW3
  have HN3 := Lib.hid hn3
  clear EW hW3 hn3
  go_upto_region 6 with fail
  rw [HN3.out, ← HW3.out]
  clear HW3 HN3
  obtain ⟨⟨v, x⟩, hac⟩ : ∃ a, accL l nx s g0 ts pid wr = a := ⟨_, rfl⟩
  have hacc := fun w h => access_any (A := fun _ => False) A3 c3 l nx s g0 ts pid wr w h HM.out
  have hcs := acc_cases l nx s g0 ts pid wr
  rw [HN.out] at hacc
  rw [hac] at hcs
  simp only [hac] at hacc
  have HACC := Lib.hid hacc
  have HCS := Lib.hid hcs
  clear hacc hcs hac
  refine wp_region_held_drew (S := fun w' => Ext W3 w') (by kernel_rfl) (Ext.drew (Ext.refl _)) (fun hHeld => ?_)
  (refine wpAnyH_take (i := 0) (v := ?_) rfl (by kernel_rfl) (by kernel_rfl) (by kernel_rfl) (fun _ _ _ h => h) (Or.inl ⟨by rfl, ?_⟩) (by assumption) ?_; rotate_left; (focus (intro w' hSw; have kc := (T.out.ext hSw).two; go_simp; try with_reducible rfl)); (try simp only [List.getElem_toArray]); (try simp only [List.getElem_cons_succ]); (try simp only [List.getElem_cons_zero]); (try simp only [Act.put]); (try simp only [List.setIfInBounds_toArray]); (try simp only [List.set_cons_succ]); (try simp only [List.set_cons_zero]))
  (refine wpAnyH_take (i := 1) (v := .agg #[.slice Ad N c, .int .i64 nx, .int .i64 s, .int .i64 g0, .bool ts, .int .i64 pid, .int .i64 g, .bool wr]) rfl (by kernel_rfl) (by kernel_rfl) (by kernel_rfl) (fun _ _ _ h => h) (yieldsIf_load_mid (by rfl) 24 _ rfl _ _ rfl (#[.slice Ad N c, .int .i64 nx, .int .i64 s, .int .i64 g0, .bool ts, .int .i64 pid, .int .i64 g, .bool wr]).toList _ (fun w' hSw => (fun i u hu => by rw [(Blk.ext B.out hSw).cell, Nat.zero_add, ← Array.getElem?_toList]; exact hu)) Try.underlying24 rfl i24) (by assumption) ?_; (try simp only [List.getElem_toArray]); (try simp only [List.getElem_cons_succ]); (try simp only [List.getElem_cons_zero]); (try simp only [Act.put]); (try simp only [List.setIfInBounds_toArray]); (try simp only [List.set_cons_succ]); (try simp only [List.set_cons_zero]))
  (refine wpAnyH_take (i := 3) (v := ?_) rfl (by kernel_rfl) (by kernel_rfl) (by kernel_rfl) (fun _ _ _ h => h) (Or.inl ⟨by rfl, ?_⟩) (by assumption) ?_; rotate_left; (focus (intro w' hSw; go_simp; try with_reducible rfl)); (try simp only [List.getElem_toArray]); (try simp only [List.getElem_cons_succ]); (try simp only [List.getElem_cons_zero]); (try simp only [Act.put]); (try simp only [List.setIfInBounds_toArray]); (try simp only [List.set_cons_succ]); (try simp only [List.set_cons_zero]))
  (refine wpAnyH_take (i := 4) (v := ?_) rfl (by kernel_rfl) (by kernel_rfl) (by kernel_rfl) (fun _ _ _ h => h) (Or.inl ⟨by rfl, ?_⟩) (by assumption) ?_; rotate_left; (focus (intro w' hSw; have kc := (B.out.ext hSw).cell 5; go_simp; try with_reducible rfl)); (try simp only [List.getElem_toArray]); (try simp only [List.getElem_cons_succ]); (try simp only [List.getElem_cons_zero]); (try simp only [Act.put]); (try simp only [List.setIfInBounds_toArray]); (try simp only [List.set_cons_succ]); (try simp only [List.set_cons_zero]))
  (refine wpAnyH_take (i := 5) (v := ?_) rfl (by kernel_rfl) (by kernel_rfl) (by kernel_rfl) (fun _ _ _ h => h) (Or.inl ⟨by rfl, ?_⟩) (by assumption) ?_; rotate_left; (focus (intro w' hSw; go_simp; try with_reducible rfl)); (try simp only [List.getElem_toArray]); (try simp only [List.getElem_cons_succ]); (try simp only [List.getElem_cons_zero]); (try simp only [Act.put]); (try simp only [List.setIfInBounds_toArray]); (try simp only [List.set_cons_succ]); (try simp only [List.set_cons_zero]))
  (refine wpAnyH_take (i := 6) (v := ?_) rfl (by kernel_rfl) (by kernel_rfl) (by kernel_rfl) (fun _ _ _ h => h) (Or.inl ⟨by rfl, ?_⟩) (by assumption) ?_; rotate_left; (focus (intro w' hSw; have kc := (B.out.ext hSw).cell 7; go_simp; try with_reducible rfl)); (try simp only [List.getElem_toArray]); (try simp only [List.getElem_cons_succ]); (try simp only [List.getElem_cons_zero]); (try simp only [Act.put]); (try simp only [List.setIfInBounds_toArray]); (try simp only [List.set_cons_succ]); (try simp only [List.set_cons_zero]))
  (refine wpAnyH_ready (rs := [2]) (by kernel_rfl) (by simp) ?_; refine AllReadyH.cons rfl (fun K hK => ?_) AllReadyH.nil; go_simp; go_at_call 10; refine (tty_any Ad N c nx s g0 ts pid g wr _).mono ?_; rintro e x1 ⟨rfl, F1⟩; (try dsimp only); refine hK.out _ _ ((Ext.refl W3).drew.trans F1) (fun hHeld => ?_); clear hK K; (try simp only [Act.put]); (try simp only [List.getElem_toArray]); (try simp only [List.getElem_cons_succ]); (try simp only [List.getElem_cons_zero]); (try simp only [List.setIfInBounds_toArray]); (try simp only [List.set_cons_succ]); (try simp only [List.set_cons_zero]))
  have EF1 := (Ext.refl W3).drew.trans F1
  (refine wpAnyH_ready (rs := [7]) (by kernel_rfl) (by simp) ?_; refine AllReadyH.cons rfl (fun K hK => ?_) AllReadyH.nil; go_simp; go_at_call 9; refine (HACC.out _ (R3.out.ext EF1)).mono ?_; rintro e w4 ⟨rfl, F2⟩; (try dsimp only); refine hK.out _ _ (EF1.trans F2) (fun hHeld => ?_); clear hK K; (try simp only [Act.put]); (try simp only [List.getElem_toArray]); (try simp only [List.getElem_cons_succ]); (try simp only [List.getElem_cons_zero]); (try simp only [List.setIfInBounds_toArray]); (try simp only [List.set_cons_succ]); (try simp only [List.set_cons_zero]))
  have E34 := EF1.trans F2
  (refine wpAnyH_take (i := 8) (v := ?_) rfl (by kernel_rfl) (by kernel_rfl) (by kernel_rfl) (fun _ _ _ h => h) (Or.inl ⟨by rfl, ?_⟩) (by assumption) ?_; rotate_left; (focus (intro w' hSw; go_simp; try with_reducible rfl)); (try simp only [List.getElem_toArray]); (try simp only [List.getElem_cons_succ]); (try simp only [List.getElem_cons_zero]); (try simp only [Act.put]); (try simp only [List.setIfInBounds_toArray]); (try simp only [List.set_cons_succ]); (try simp only [List.set_cons_zero]))
  (refine wpAnyH_take (i := 9) (v := ?_) rfl (by kernel_rfl) (by kernel_rfl) (by kernel_rfl) (fun _ _ _ h => h) (Or.inl ⟨by rfl, ?_⟩) (by assumption) ?_; rotate_left; (focus (intro w' hSw; go_simp; try with_reducible rfl)); (try simp only [List.getElem_toArray]); (try simp only [List.getElem_cons_succ]); (try simp only [List.getElem_cons_zero]); (try simp only [Act.put]); (try simp only [List.setIfInBounds_toArray]); (try simp only [List.set_cons_succ]); (try simp only [List.set_cons_zero]))
  (refine wpAnyH_take (i := 10) (v := ?_) rfl (by kernel_rfl) (by kernel_rfl) (by kernel_rfl) (fun _ _ _ h => h) (Or.inl ⟨by rfl, ?_⟩) (by assumption) ?_; rotate_left; (focus (intro w' hSw; go_simp; try with_reducible rfl)); (try simp only [List.getElem_toArray]); (try simp only [List.getElem_cons_succ]); (try simp only [List.getElem_cons_zero]); (try simp only [Act.put]); (try simp only [List.setIfInBounds_toArray]); (try simp only [List.set_cons_succ]); (try simp only [List.set_cons_zero]))
  (refine wpAnyH_take (i := 11) (v := ?_) rfl (by kernel_rfl) (by kernel_rfl) (by kernel_rfl) (fun _ _ _ h => h) (Or.inl ⟨by rfl, ?_⟩) (by assumption) ?_; rotate_left; (focus (intro w' hSw; go_simp; try with_reducible rfl)); (try simp only [List.getElem_toArray]); (try simp only [List.getElem_cons_succ]); (try simp only [List.getElem_cons_zero]); (try simp only [Act.put]); (try simp only [List.setIfInBounds_toArray]); (try simp only [List.set_cons_succ]); (try simp only [List.set_cons_zero]))
  (refine wpAnyH_take (i := 12) (v := ?_) rfl (by kernel_rfl) (by kernel_rfl) (by kernel_rfl) (fun _ _ _ h => h) (Or.inl ⟨by rfl, ?_⟩) (by assumption) ?_; rotate_left; (focus (intro w' hSw; go_simp; try with_reducible rfl)); (try simp only [List.getElem_toArray]); (try simp only [List.getElem_cons_succ]); (try simp only [List.getElem_cons_zero]); (try simp only [Act.put]); (try simp only [List.setIfInBounds_toArray]); (try simp only [List.set_cons_succ]); (try simp only [List.set_cons_zero]))
  refine wpAnyH_done (by kernel_rfl) ?_ _
  have E04 := E03.trans E34
  have B := Lib.hid (B.out.ext E34)
  have T := Lib.hid (T.out.ext E34)
  have R4 := Lib.hid (R3.out.ext E34)
  have hG := get_any (A := fun _ => False) A3 c3 l nx pid w4 (by rw [HN.out]; exact R4.out)
  have hd := get_dead (l := l) (nx := nx) (pid := pid)
  have hqok := getL_ok (nx := nx) (pid := pid) hoks.out
  obtain ⟨⟨q, okk⟩, hgq⟩ : ∃ a, getL l nx pid = a := ⟨_, rfl⟩
  have HCS := HCS.out
  rw [HN.out, hgq] at hG
  rw [hgq] at hd hqok
  rw [hgq] at HCS
  have HG5 := Lib.hid hG
  have HCS := Lib.hid HCS
  have HD := Lib.hid hd
  have hqok : q.ok := hqok
  have kb := T.out.two
  have k5 := B.out.cell 5
  clear hG hd hgq EF1 E34 E03 R3 F1 F2 HACC
  go_wp2_with fail
  refine HG5.out.mono ?_
  rintro e w5 ⟨rfl, E5⟩
  obtain ⟨n6, hn6⟩ : ∃ n, w5.heap.size = n := ⟨_, rfl⟩
  have B := Lib.hid (B.out.ext E5)
  have T := Lib.hid (T.out.ext E5)
  have R5 := Lib.hid (R4.out.ext E5)
  have E05 := E04.trans E5
  clear kb k5 R4 E04 E5 HG5
  go_upto_region 8 with ((refine wpList_store_A rfl 40 _ _ rfl (n6) _ rfl rfl 40 _ (zero_row w5 n6 hn6) (by rw [List.size_toArray]; exact i43' hqok) (Eq.trans (b := 43) (by rfl) (Eq.symm (show (q).cells.toArray.size = 43 from Pr.size hqok))) (Pr.one hqok) ?_); intro w6 H6 E6; have E56 : Ext w5 w6 := E6 w5.heap.size w5 ((Ext.refl w5).alloc _) (by omega); have B := Lib.hid (B.out.ext E56); have T := Lib.hid (T.out.ext E56); have R6 := Lib.hid (R5.out.ext E56); have E06 := E05.trans E56; have P := Lib.hid H6; have kb := T.out.two; have k5 := B.out.cell 5; clear E6 H6 E56 R5 E05)
  clear hn6
  cases okk
  · rcases HCS.out with ⟨_, he⟩ | ⟨h1, _⟩
    · cases he
      go_wp2
      go_ret
      exact ⟨rfl, E06⟩
    · rw [HD.out rfl] at h1
      cases h1
  · have hL := live_any (A := fun _ => False) A3 c3 l nx pid w6 (by rw [HN.out]; exact R6.out)
    rw [HN.out] at hL
    have HL := Lib.hid hL
    clear hL HD
    go_wp2_with fail
    refine HL.out.mono ?_
    rintro e w7 ⟨rfl, E7⟩
    have B := Lib.hid (B.out.ext E7)
    have T := Lib.hid (T.out.ext E7)
    have P := Lib.hid (P.out.ext E7)
    have R7 := Lib.hid (R6.out.ext E7)
    have E07 := E06.trans E7
    clear kb k5 HL R6 E7 E06
    rcases HCS.out with ⟨h1, he⟩ | ⟨h1, p, hp, hpl, hcs⟩
    · cases he
      rw [h1]
      go_wp2
      go_ret
      exact ⟨rfl, E07⟩
    rw [h1]
    cases hp
    have hqm := HM.out q hpl
    have HQM := Lib.hid hqm
    have pa := prAt_blk hqok P.out
    have pc2 := pa.c2
    have pc3 := pa.c3
    have k2 := B.out.cell 2
    have k3 := B.out.cell 3
    clear hqm hpl h1 pa
    rcases hcs with ⟨hb, he⟩ | ⟨hb, hcs⟩
    · cases he
      by_cases h3 : q.session = s
      · by_cases h4 : q.group = g0
        · have h3b : (q.session == s) = true := by simpa using h3
          have h4b : (q.group == g0) = true := by simpa using h4
          clear hb
          go_wp2
          go_ret
          exact ⟨rfl, E07⟩
        · exfalso
          unfold behP at hb
          simp [h3, h4] at hb
      · have h3b : (q.session == s) = false := by simpa using h3
        clear hb
        go_wp2
        go_ret
        exact ⟨rfl, E07⟩
    · have h3b : (q.session == s) = true := by
        unfold behP at hb
        rw [Bool.and_eq_true] at hb
        exact hb.1
      have h4b : (q.group == g0) = false := by
        unfold behP at hb
        rw [Bool.and_eq_true] at hb
        simpa using hb.2
      have h3 : q.session = s := by simpa using h3b
      have h4 : ¬ q.group = g0 := by simpa using h4b
      have k7 := B.out.cell 7
      clear hb
      rcases hcs with he | ⟨hw, he⟩ | ⟨he, hdf, hof⟩
      · cases he
        go_wp2
        all_goals
          go_ret
          exact ⟨rfl, E07⟩
      · cases he
        subst hw
        go_wp2
        go_ret
        exact ⟨rfl, E07⟩
      · have hO := orphaned_any (A := fun _ => False) A3 c3 l nx q.group w7 (by rw [HN.out]; exact R7.out)
        rw [HN.out, hof] at hO
        have HO := Lib.hid hO
        have kb := T.out.two
        clear hO hof
        cases wr
        · cases he
          obtain ⟨a, ha⟩ : ∃ a, q.acts[21]? = some a := ⟨_, List.getElem?_eq_getElem (by rw [hqok]; decide)⟩
          obtain ⟨hd1, hd2⟩ := deaf_not (sig := 21) (by rfl) ha hdf
          have hd3 : ¬ a = 1 := by simpa using hd1
          have hd4 : (a != 1) = true := by simpa using hd1
          have HDH := Lib.hid hd2
          have HA := Lib.hid ha
          clear hdf hd2 ha
          go_wp2_with fail
          refine HO.out.mono ?_
          rintro e w8 ⟨rfl, E8⟩
          have P := Lib.hid (P.out.ext E8)
          have pa := prAt_blk hqok P.out
          have pc8 := pa.c8
          have ca := pa.ca 21 _ HA.out
          have HB := Lib.hid fun w' => Sig.block_any q.mask w' HQM.out
          have HH := Lib.hid fun w' => Sig.has_any (Sig.blockL q.mask) 21 w' (Sig.blockL_bd _)
          have E08 := E07.trans E8
          clear pc2 pc3 k2 k3 k7 kb pa
          go_wp2_with fail
          refine (HB.out _).mono ?_
          rintro e w9 ⟨rfl, E9⟩
          go_wp2_with fail
          refine (HH.out _).mono ?_
          rw [HDH.out]
          rintro e w10 ⟨rfl, E10⟩
          go_wp2
          go_ret
          exact ⟨rfl, E08.trans (E9.trans E10)⟩
        · cases he
          obtain ⟨a, ha⟩ : ∃ a, q.acts[22]? = some a := ⟨_, List.getElem?_eq_getElem (by rw [hqok]; decide)⟩
          obtain ⟨hd1, hd2⟩ := deaf_not (sig := 22) (by rfl) ha hdf
          have hd3 : ¬ a = 1 := by simpa using hd1
          have hd4 : (a != 1) = true := by simpa using hd1
          have HDH := Lib.hid hd2
          have HA := Lib.hid ha
          clear hdf hd2 ha
          go_wp2_with fail
          refine HO.out.mono ?_
          rintro e w8 ⟨rfl, E8⟩
          have P := Lib.hid (P.out.ext E8)
          have pa := prAt_blk hqok P.out
          have pc8 := pa.c8
          have ca := pa.ca 22 _ HA.out
          have HB := Lib.hid fun w' => Sig.block_any q.mask w' HQM.out
          have HH := Lib.hid fun w' => Sig.has_any (Sig.blockL q.mask) 22 w' (Sig.blockL_bd _)
          have E08 := E07.trans E8
          clear pc2 pc3 k2 k3 k7 kb pa
          go_wp2_with fail
          refine (HB.out _).mono ?_
          rintro e w9 ⟨rfl, E9⟩
          go_wp2_with fail
          refine (HH.out _).mono ?_
          rw [HDH.out]
          rintro e w10 ⟨rfl, E10⟩
          go_wp2
          go_ret
          exact ⟨rfl, E08.trans (E9.trans E10)⟩
end Go.Proofs.Ytcncacllaonplaa
