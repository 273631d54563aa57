/- The document's tables: what is wrong with a call, and zombies freed (a function that calls itself), by contract. Condition: few processes. -/
import Derived.Test.YteljobleojhgmaaGreatTA21
import Derived.Test.YteljobleojhgmaaGreatS21
import Derived.IntWalk
namespace Go.Proofs.YteljobleojhgmaaGreat
open Go.RowKit Go.Kb

set_option maxRecDepth 100000 in
set_option maxHeartbeats 800000 in
theorem rfault_any {A : Nat → Prop} (Ad : Option Addr) (c : Nat) (l : List Pr) (nx pid : Int) (w : World) (h : RdY Rp A w (.slice Ad l.length c) l) :
    Calls Tryz.prog 109 #[tv Ad l.length c nx, .int .i64 pid] w fun e w' => e = .returned (.int .i64 (askL l nx [pid])) ∧ Ext w w' := by
  have H := Lib.hid (rdy_pr (B := fun _ => False) h)
  obtain ⟨W, hW⟩ : ∃ W, W = w.alloc (.cells #[.slice Ad l.length c, .int .i64 nx] 33) := ⟨_, rfl⟩
  have hbox := Lib.hid (show Blk W w.heap.size 33 #[.slice Ad l.length c, .int .i64 nx] by rw [hW]; exact Blk.new w _ _)
  have E0 : Ext w W := by rw [hW]; exact (Ext.refl _).alloc _
  have HW := Lib.hid hW
  have HA := Lib.hid (show askL l nx [pid] = if rightL l nx = true then (if liveL l nx pid = true then 0 else 8) else 4 by
    unfold askL
    simp only [List.all_cons, List.all_nil, Bool.and_true])
  have HR := Lib.hid (rright_any (A := fun _ => False) Ad c l nx W (H.out.ext E0))
  have HL := Lib.hid (fun w' E => rlive_any (A := fun _ => False) Ad c l nx pid w' (H.out.ext (w' := w') E))
  clear h hW
  go_enter Tryz.func109, Tryz.ntmps109
  go_wp2_with fail
  rw [← HW.out]
  have kb := hbox.out.two
  cases hr : rightL l nx
  · rw [hr] at HR HA
    clear hr HL
    go_wp2_with fail
    refine HR.out.mono ?_
    rintro e w1 ⟨rfl, E1⟩
    go_wp2
    go_ret
    exact ⟨by rw [HA.out]; rfl, E0.trans E1⟩
  rw [hr] at HR HA
  clear hr
  go_wp2_with fail
  refine HR.out.mono ?_
  rintro e w1 ⟨rfl, E1⟩
  have E01 := E0.trans E1
  have kb := (hbox.out.ext E1).two
  have HL := Lib.hid (HL.out w1 E01)
  cases hl : liveL l nx pid
  · rw [hl] at HL HA
    clear hl
    go_wp2_with fail
    refine HL.out.mono ?_
    rintro e w2 ⟨rfl, E2⟩
    go_wp2
    go_ret
    exact ⟨by rw [HA.out]; rfl, E01.trans E2⟩
  · rw [hl] at HL HA
    clear hl
    go_wp2_with fail
    refine HL.out.mono ?_
    rintro e w2 ⟨rfl, E2⟩
    go_wp2
    go_ret
    exact ⟨by rw [HA.out]; rfl, E01.trans E2⟩
/-- the slice that was handed in, or one in new memory, of whatever length -/
def TabR (Ad : Option Addr) (c : Nat) (l0 : List Pr) (base : Nat) (w : World) (A' : Option Addr) (c' : Nat) (l : List Pr) : Prop :=
  (A' = Ad ∧ c' = c ∧ l = l0) ∨ OwnS Rp 64 base (fun _ => False) w (.slice A' l.length c') l
theorem own_tabR {b base : Nat} {Ad A' : Option Addr} {c c' : Nat} {l0 l : List Pr} {w w' : World} (T : TabR Ad c l0 base w' A' c' l) (O : OwnS Rp 64 b (fun _ => False) w (.slice Ad l0.length c) l0) (E : Ext w w') (hb : b ≤ base) : OwnS Rp 64 b (fun _ => False) w' (.slice A' l.length c') l := by
  rcases T with ⟨rfl, rfl, rfl⟩ | T
  · exact O.ext E
  · exact T.lower hb
theorem own_tbl {b k : Nat} {v : Value} {l : List Pr} {w w' : World} {cs : Array Value} (O : OwnS Rp 64 b (fun _ => False) w v l) (M : Mod (fun j => j = k) w w') (hb : Blk w k 33 cs) : OwnS Rp 64 b (fun _ => False) w' v l :=
  O.mod M (fun j hj he => own_blk_ne O.choose_spec.1 hb (by decide) (by rw [← he]; exact hj)) (fun _ _ hk _ => hk)
set_option maxRecDepth 100000 in
set_option maxHeartbeats 3000000 in
theorem rfree_any : ∀ (n : Nat), n ≤ 100000 → ∀ (Ad : Option Addr) (c : Nat) (l : List Pr) (nx : Int) (w : World), l.length < n → RdY Rp (fun _ => False) w (.slice Ad l.length c) l →
    Calls Tryz.prog 111 #[tv Ad l.length c nx] w fun e w' => ∃ A' c', e = .returned (tv A' (freeL l).length c' nx) ∧ TabR Ad c l w.heap.size w' A' c' (freeL l) ∧ Ext w w' := by
  intro n
  induction n with
  | zero => exact fun _ _ _ _ _ _ hl _ => absurd hl (by omega)
  | succ n ih =>
    intro hn1 Ad c l nx w hl h
    have ih := Lib.hid (ih (by omega))
    have H := Lib.hid h
    obtain ⟨_, _, hv, hc1, hc2⟩ := h.shape
    simp only [Value.slice.injEq] at hv
    obtain ⟨-, -, rfl⟩ := hv
    obtain ⟨N, hN⟩ : ∃ N, l.length = N := ⟨_, rfl⟩
    have HN := Lib.hid hN
    rw [hN] at H hc1 hl ⊢
    obtain ⟨W, hW⟩ : ∃ W, W = (w.alloc (.cells #[.slice Ad N c, .int .i64 nx] 33)).alloc (.cells #[.slice none 0 0, .int .i64 0] 33) := ⟨_, rfl⟩
    have hres := Lib.hid (show Blk W (w.heap.size + 1) 33 #[.slice none 0 0, .int .i64 0] by rw [hW]; exact Blk.at_ _ _ (by simp))
    have hbox := Lib.hid (show Blk W w.heap.size 33 #[.slice Ad N c, .int .i64 nx] by rw [hW]; exact (Blk.new w _ _).alloc _)
    have E0 : Ext w W := by rw [hW]; exact (by repeat (first | with_reducible exact Ext.refl _ | refine Ext.drewN ?_ _ | refine Ext.drew ?_ | refine Ext.alloc ?_ _ | assumption | (refine Below.trans ?_ (by assumption)) | (refine Ext.trans ?_ (by assumption)) | (refine Below.trans ?_ (Below.mono (by assumption) (by omega)))))
    have HW2 := Lib.hid (show W.heap.size = w.heap.size + 2 by rw [hW]; simp)
    have HW := Lib.hid hW
    clear h hW hN
    go_enter Tryz.func111, Tryz.ntmps111
    go_upto_region 1 with fail
    rw [← HW.out]
    have kb := hbox.out.two
    go_wp2
    clear kb
    go_loopw [9] (fun i wr => ∃ m : Nat, m ≤ N ∧ i = .int .i64 m ∧ Hid (∀ p ∈ l.take m, idleL l p = false) ∧ Hid (Ext W wr)) (fun i _ => N - (intOf i).toNat)
    case atStart => exact ⟨0, Nat.zero_le _, rfl, Lib.hid (by simp), Lib.hid (Ext.refl _)⟩
    case round =>
      obtain ⟨m, hm, rfl, HD, hE⟩ := hrel
      by_cases hlt : m < N
      · obtain ⟨b, off, p, rfl, hd, hok, hcell⟩ := pr_at (H.out.ext (E0.trans hE.out)) hlt
        have HNXT := Lib.hid (fun (hi : idleL l p = false) => show ∀ q ∈ l.take (m + 1), idleL l q = false by
          rw [List.take_add_one, hd.out]
          intro q hq
          rcases List.mem_append.1 hq with h | h
          · exact HD.out q h
          · simp at h; rw [h]; exact hi)
        have HID := Lib.hid (show idleL l p = (!liveP p && match l.find? (fun q => q.pid == p.parent) with | none => true | some up => up.acts.getD 17 0 == 1) from rfl)
        go_upto_region 4 with (first
          | (refine wpList_load_mid rfl 64 _ rfl b (off + m * 43) rfl p.cells _ hcell.out Tryz.underlying64 rfl (i43r' hok) ?_)
          | ((refine wpList_store_A rfl 64 _ _ rfl (wr.heap.size) _ rfl rfl 64 _ (zero_rowR wr _ rfl) (by rw [List.size_toArray]; exact i43r' hok) (Eq.trans (b := 43) (by rfl) (Eq.symm (show (p).cells.toArray.size = 43 from Pr.size hok))) (Pr.one hok) ?_); intro w4 H2 E4; have E4 : Ext wr w4 := E4 wr.heap.size wr ((Ext.refl wr).alloc _) (Nat.le_refl _); have P4 := Lib.hid H2))
        have pc4 := (prAt_blk hok P4.out).c4
        rw [Nat.zero_add] at pc4
        have EW4 := hE.out.trans E4
        by_cases hs3 : p.state = 3
        case neg =>
          have h3b : (p.state != 3) = true := by simpa using hs3
          have hi : idleL l p = false := by rw [HID.out]; unfold liveP; rw [h3b]; rfl
          have HNX := Lib.hid (HNXT.out hi)
          clear hs3 hi
          go_wp2
          go_roundw
          case rel => exact ⟨m + 1, by omega, by go_num, HNX, Lib.hid EW4⟩
          case measure => simp [intOf]; omega
        have h3b : (p.state != 3) = false := by simpa using hs3
        have HID := Lib.hid (show idleL l p = (match l.find? (fun q => q.pid == p.parent) with | none => true | some up => up.acts.getD 17 0 == 1) by rw [HID.out]; unfold liveP; rw [h3b]; rfl)
        have pc1 := (prAt_blk hok P4.out).c1
        rw [Nat.zero_add] at pc1
        have kb := (hbox.out.ext EW4).two
        have HPL := Lib.hid (place_any (A := fun _ => False) (some ⟨b, off, none⟩) c l nx p.parent w4 (by rw [HN.out]; exact H.out.ext (E0.trans EW4)))
        rw [HN.out] at HPL
        clear hs3
        go_wp2_with fail
        refine HPL.out.mono ?_
        rintro e w5 ⟨rfl, E5⟩
        have EW5 := EW4.trans E5
        have kb := (hbox.out.ext EW5).two
        clear HPL E5 E4 pc4 pc1
        rcases idx_any (f := fun q => q.pid == p.parent) (l := l) with ⟨hx, hx2⟩ | ⟨j, up, hx, hj, hup, _, hfd⟩
        · have hidle : idleL l p = true := by
            rw [HID.out, find_none hx]
          rw [hx]
          clear hx hx2
          have HFR := Lib.hid (freeL_some (idx_some hd.out HD.out hidle) (by have := HN.out; omega))
          obtain ⟨WW, hWW⟩ : ∃ WW, WW = w5 := ⟨_, rfl⟩
          subst hWW
          obtain ⟨k, hk⟩ : ∃ k, k = m + 1 := ⟨_, rfl⟩
          have HS0 := Lib.hid (show RdS Rp (fun _ => True) WW (.slice (some ⟨b, off, none⟩) N c) l from ⟨RdY.mono (H.out.ext (E0.trans EW5)) (fun _ _ _ => trivial), fun _ _ _ => trivial⟩)
          have HT := Lib.hid (show RdY Rp (fun _ => False) WW (.slice (some ⟨b, off, none⟩) m c) (l.take m) from rdy_pr ((RdS.to_ (n := N) HS0.out (by omega)).y : RdY Rp _ _ _ _))
          have HR := Lib.hid (show RdY Rp (fun _ => False) WW (.slice (if c = k then some ⟨b, off, none⟩ else some ⟨b, off + k * 43, none⟩) (N - k) (c - k)) (l.drop k) from by
            have h0 : RdY Rp (fun _ => True) WW (.slice (if c = k then some ⟨b, off, none⟩ else (some ⟨b, off, none⟩ : Option Addr).map (·.add (k * 43))) (N - k) (c - k)) (l.drop k) := (RdS.from_ (n := N) HS0.out (by omega)).y
            exact rdy_pr (by simpa [Addr.add_lit] using h0))
          have HTL := Lib.hid (show (l.take m).length = m by rw [List.length_take, HN.out]; omega)
          have HDL := Lib.hid (show (l.drop k).length = N - k by rw [List.length_drop, HN.out])
          have HE := Lib.hid (show l.take m ++ l.drop k = l.eraseIdx m by rw [hk, List.eraseIdx_eq_take_drop_succ])
          obtain ⟨L2, hL2⟩ : ∃ L2, l.eraseIdx m = L2 := ⟨_, rfl⟩
          obtain ⟨N2, hN2⟩ : ∃ N2, L2.length = N2 := ⟨_, rfl⟩
          have HLN := Lib.hid (show N2 = m + (N - k) by rw [← hN2, ← hL2, ← HE.out, List.length_append, HTL.out, HDL.out])
          rw [hL2] at HFR HE
          have HN2 := Lib.hid hN2
          have hwk : IntKind.i64.wrap ((m : Int) + 1) = (k : Int) := by rw [hk]; exact IntWalk.i64_in _ (by omega)
          have i1 : (0 : Int) ≤ (m : Int) := by omega
          have i2 : (m : Int) ≤ (N : Int) := by omega
          have i3 : (N : Int) ≤ (c : Int) := by omega
          have i4 : (m : Int) ≤ (c : Int) := by omega
          have i5 : (0 : Int) ≤ (k : Int) := by omega
          have i6 : (k : Int) ≤ (N : Int) := by omega
          have i7 : (k : Int) ≤ (c : Int) := by omega
          have HK := Lib.hid hk
          have HIH := Lib.hid (fun A9 c9 w9 h => ih A9 c9 L2 nx w9 (by rw [hN2, HLN.out]; omega) h)
          rw [hN2] at HIH
          have HB2 := Lib.hid (hbox.out.ext EW5)
          have HR2 := Lib.hid (hres.out.ext EW5)
          have EW := Lib.hid (E0.trans EW5)
          have HSZ := Lib.hid (show w.heap.size + 2 ≤ WW.heap.size by have := HW2.out; have := Below.size EW5; omega)
          clear hL2 hN2 hk HS0 hd HD
          go_upto_region 7 with fail
          refine wp_region_held_drew (S := fun w' => Mod (fun k => k = w.heap.size + 1) WW w') (by kernel_rfl) (Mod.of_ext (Ext.drew (Ext.refl _))) (fun hHeld => ?_)
          obtain ⟨D, hDr⟩ : ∃ D, D = WW.drew := ⟨_, rfl⟩
          have ED : Ext WW D := by rw [hDr]; exact (Ext.refl _).drew
          rw [← hDr] at hHeld ⊢
          clear hDr
          (refine wpAnyH_take (i := 1) (v := ?_) rfl (by kernel_rfl) (by kernel_rfl) (by kernel_rfl) (fun _ _ _ h => h) (Or.inl ⟨by rfl, ?_⟩) (by assumption) ?_; rotate_left; (focus (intro w' hSw; go_simp; try with_reducible rfl)); (try simp only [List.getElem_toArray]); (try simp only [List.getElem_cons_succ]); (try simp only [List.getElem_cons_zero]); (try simp only [Act.put]); (try simp only [List.setIfInBounds_toArray]); (try simp only [List.set_cons_succ]); (try simp only [List.set_cons_zero]))
          (refine wpAnyH_take (i := 2) (v := ?_) rfl (by kernel_rfl) (by kernel_rfl) (by kernel_rfl) (fun _ _ _ h => h) (Or.inl ⟨by rfl, ?_⟩) (by assumption) ?_; rotate_left; (focus (intro w' hSw; have kc := (HB2.out.mod hSw (by omega)).two; go_simp; try with_reducible rfl)); (try simp only [List.getElem_toArray]); (try simp only [List.getElem_cons_succ]); (try simp only [List.getElem_cons_zero]); (try simp only [Act.put]); (try simp only [List.setIfInBounds_toArray]); (try simp only [List.set_cons_succ]); (try simp only [List.set_cons_zero]))
          (refine wpAnyH_take (i := 3) (v := ?_) rfl (by kernel_rfl) (by kernel_rfl) (by kernel_rfl) (fun _ _ _ h => h) (Or.inl ⟨by rfl, ?_⟩) (by assumption) ?_; rotate_left; (focus (intro w' hSw; go_simp; try with_reducible rfl)); (try simp only [List.getElem_toArray]); (try simp only [List.getElem_cons_succ]); (try simp only [List.getElem_cons_zero]); (try simp only [Act.put]); (try simp only [List.setIfInBounds_toArray]); (try simp only [List.set_cons_succ]); (try simp only [List.set_cons_zero]))
          (refine wpAnyH_take (i := 4) (v := ?_) rfl (by kernel_rfl) (by kernel_rfl) (by kernel_rfl) (fun _ _ _ h => h) (Or.inl ⟨by rfl, ?_⟩) (by assumption) ?_; rotate_left; (focus (intro w' hSw; go_simp; try with_reducible rfl)); (try simp only [List.getElem_toArray]); (try simp only [List.getElem_cons_succ]); (try simp only [List.getElem_cons_zero]); (try simp only [Act.put]); (try simp only [List.setIfInBounds_toArray]); (try simp only [List.set_cons_succ]); (try simp only [List.set_cons_zero]))
          (refine wpAnyH_take (i := 6) (v := ?_) rfl (by kernel_rfl) (by kernel_rfl) (by kernel_rfl) (fun _ _ _ h => h) (Or.inl ⟨by rfl, ?_⟩) (by assumption) ?_; rotate_left; (focus (intro w' hSw; go_simp; try with_reducible rfl)); (try simp only [List.getElem_toArray]); (try simp only [List.getElem_cons_succ]); (try simp only [List.getElem_cons_zero]); (try simp only [Act.put]); (try simp only [List.setIfInBounds_toArray]); (try simp only [List.set_cons_succ]); (try simp only [List.set_cons_zero]))
          (refine wpAnyH_take (i := 7) (v := ?_) rfl (by kernel_rfl) (by kernel_rfl) (by kernel_rfl) (fun _ _ _ h => h) (Or.inl ⟨by rfl, ?_⟩) (by assumption) ?_; rotate_left; (focus (intro w' hSw; have kc := (HB2.out.mod hSw (by omega)).two; go_simp; try with_reducible rfl)); (try simp only [List.getElem_toArray]); (try simp only [List.getElem_cons_succ]); (try simp only [List.getElem_cons_zero]); (try simp only [Act.put]); (try simp only [List.setIfInBounds_toArray]); (try simp only [List.set_cons_succ]); (try simp only [List.set_cons_zero]))
          (refine wpAnyH_take (i := 8) (v := ?_) rfl (by kernel_rfl) (by kernel_rfl) (by kernel_rfl) (fun _ _ _ h => h) (Or.inl ⟨by rfl, ?_⟩) (by assumption) ?_; rotate_left; (focus (intro w' hSw; go_simp; try with_reducible rfl)); (try simp only [List.getElem_toArray]); (try simp only [List.getElem_cons_succ]); (try simp only [List.getElem_cons_zero]); (try simp only [Act.put]); (try simp only [List.setIfInBounds_toArray]); (try simp only [List.set_cons_succ]); (try simp only [List.set_cons_zero]))
          (refine wpAnyH_take (i := 9) (v := ?_) rfl (by kernel_rfl) (by kernel_rfl) (by kernel_rfl) (fun _ _ _ h => h) (Or.inl ⟨by rfl, ?_⟩) (by assumption) ?_; rotate_left; (focus (intro w' hSw; go_simp; try with_reducible rfl)); (try simp only [List.getElem_toArray]); (try simp only [List.getElem_cons_succ]); (try simp only [List.getElem_cons_zero]); (try simp only [Act.put]); (try simp only [List.setIfInBounds_toArray]); (try simp only [List.set_cons_succ]); (try simp only [List.set_cons_zero]))
          (refine wpAnyH_take (i := 10) (v := ?_) rfl (by kernel_rfl) (by kernel_rfl) (by kernel_rfl) (fun _ _ _ h => h) (Or.inl ⟨by rfl, ?_⟩) (by assumption) ?_; rotate_left; (focus (intro w' hSw; go_simp; try with_reducible rfl)); (try simp only [List.getElem_toArray]); (try simp only [List.getElem_cons_succ]); (try simp only [List.getElem_cons_zero]); (try simp only [Act.put]); (try simp only [List.setIfInBounds_toArray]); (try simp only [List.set_cons_succ]); (try simp only [List.set_cons_zero]))
          (refine wpAnyH_take (i := 12) (v := ?_) rfl (by kernel_rfl) (by kernel_rfl) (by kernel_rfl) (fun _ _ _ h => h) (Or.inl ⟨by rfl, ?_⟩) (by assumption) ?_; rotate_left; (focus (intro w' hSw; go_simp; try with_reducible rfl)); (try simp only [List.getElem_toArray]); (try simp only [List.getElem_cons_succ]); (try simp only [List.getElem_cons_zero]); (try simp only [Act.put]); (try simp only [List.setIfInBounds_toArray]); (try simp only [List.set_cons_succ]); (try simp only [List.set_cons_zero]))
          (refine wpAnyH_take (i := 13) (v := ?_) rfl (by kernel_rfl) (by kernel_rfl) (by kernel_rfl) (fun _ _ _ h => h) (Or.inl ⟨by rfl, ?_⟩) (by assumption) ?_; rotate_left; (focus (intro w' hSw; have kc := (HB2.out.mod hSw (by omega)).two; go_simp; try with_reducible rfl)); (try simp only [List.getElem_toArray]); (try simp only [List.getElem_cons_succ]); (try simp only [List.getElem_cons_zero]); (try simp only [Act.put]); (try simp only [List.setIfInBounds_toArray]); (try simp only [List.set_cons_succ]); (try simp only [List.set_cons_zero]))
          (refine wpAnyH_ready (rs := [0]) (by kernel_rfl) (by simp) ?_; refine AllReadyH.cons rfl (fun K hK => ?_) AllReadyH.nil; go_simp; refine hK.out _ _ (Mod.of_ext (Ext.alloc ED _)) (fun hHeld => ?_); clear hK K; (try simp only [Act.put]); (try simp only [List.getElem_toArray]); (try simp only [List.getElem_cons_succ]); (try simp only [List.getElem_cons_zero]); (try simp only [List.setIfInBounds_toArray]); (try simp only [List.set_cons_succ]); (try simp only [List.set_cons_zero]))
          have E1 : Ext WW (D.alloc (.cells #[] 64)) := ED.alloc _
          refine wpAnyH_ready (rs := [5]) (by kernel_rfl) (by simp) ?_
          refine AllReadyH.cons rfl (fun K hK => ?_) AllReadyH.nil
          refine step_app0 (e := Rp) (A := fun _ => False) (n := D.heap.size) rfl (.tmp 33) (.tmp 37) rfl Tryz.underlying22 info_rp rfl (Blk.new D _ _) rfl (HT.out.ext E1) rfl (fun _ _ h => h.elim) (by rw [HTL.out]; simp [maxLen]; omega) (by rw [HTL.out]; omega) ?_
          intro A5 c5 x5 o5 M5 D5
          have E5 : Ext WW x5 := Below.trans E1 (D5.mono ED.size)
          refine hK.out _ _ (Mod.of_ext E5) (fun hHeld => ?_)
          clear hK K
          (try simp only [List.getElem_toArray]); (try simp only [List.getElem_cons_succ]); (try simp only [List.getElem_cons_zero]); (try simp only [Act.put]); (try simp only [List.setIfInBounds_toArray]); (try simp only [List.set_cons_succ]); (try simp only [List.set_cons_zero])
          have O5 := Lib.hid o5
          have HSD := Lib.hid (show D.heap.size ≤ x5.heap.size by have := M5.size; simp at this; omega)
          clear M5 D5 o5
          refine wpAnyH_ready (rs := [11]) (by kernel_rfl) (by simp) ?_
          refine AllReadyH.cons rfl (fun K hK => ?_) AllReadyH.nil
          refine step_app (e := Rp) (base := D.heap.size) (B := fun _ => False) (A := fun _ => False) rfl (.tmp 38) (.tmp 43) rfl Tryz.underlying22 info_rp rfl O5.out rfl (HR.out.ext E5) rfl (fun _ _ h => h.elim) (N := N2) (by rw [HTL.out, HDL.out, HLN.out]) (by have := HLN.out; simp [maxLen]; omega) (by have := HLN.out; omega) HSD.out ?_
          intro A9 c9 x9 o9 M9 D9
          have E9 : Ext WW x9 := Below.trans E5 (D9.mono ED.size)
          refine hK.out _ _ (Mod.of_ext E9) (fun hHeld => ?_)
          clear hK K
          (try simp only [List.getElem_toArray]); (try simp only [List.getElem_cons_succ]); (try simp only [List.getElem_cons_zero]); (try simp only [Act.put]); (try simp only [List.setIfInBounds_toArray]); (try simp only [List.set_cons_succ]); (try simp only [List.set_cons_zero])
          rw [HE.out] at o9
          have O9 := Lib.hid o9
          have HSX := Lib.hid (show D.heap.size ≤ x9.heap.size from Nat.le_trans HSD.out M9.size)
          clear M9 D9 o9 O5 E5 E1
          (refine wpAnyH_take (i := 14) (v := ?_) rfl (by kernel_rfl) (by kernel_rfl) (by kernel_rfl) (fun _ _ _ h => h) (Or.inl ⟨by rfl, ?_⟩) (by assumption) ?_; rotate_left; (focus (intro w' hSw; go_simp; try with_reducible rfl)); (try simp only [List.getElem_toArray]); (try simp only [List.getElem_cons_succ]); (try simp only [List.getElem_cons_zero]); (try simp only [Act.put]); (try simp only [List.setIfInBounds_toArray]); (try simp only [List.set_cons_succ]); (try simp only [List.set_cons_zero]))
          obtain ⟨N3, hN3⟩ : ∃ N3, (freeL L2).length = N3 := ⟨_, rfl⟩
          rw [hN3] at HIH
          (refine wpAnyH_ready (rs := [15]) (by kernel_rfl) (by simp) ?_; refine AllReadyH.cons rfl (fun K hK => ?_) AllReadyH.nil; go_simp; go_at_call 111; refine (HIH.out A9 c9 _ (rdy_pr (B := fun _ => False) O9.out.y)).mono ?_; rintro e w10 ⟨A10, c10, rfl, T10, E10⟩; (try dsimp only); refine hK.out _ _ (Mod.of_ext (E9.trans E10)) (fun hHeld => ?_); clear hK K; (try simp only [Act.put]); (try simp only [List.getElem_toArray]); (try simp only [List.getElem_cons_succ]); (try simp only [List.getElem_cons_zero]); (try simp only [List.setIfInBounds_toArray]); (try simp only [List.set_cons_succ]); (try simp only [List.set_cons_zero]))
          have E910 := E9.trans E10
          have kr := (HR2.out.ext E910).two
          have O10 := own_tabR T10 (by rw [HN2.out]; exact O9.out) E10 HSX.out
          rw [hN3] at O10
          have hM7 : Mod (fun k => k = w.heap.size + 1) w10 _ := ((Mod.refl _ w10).set1 (.slice A10 N3 c10) (o := 0)).set1 (.int .i64 nx) (o := 1)
          have O11 := Lib.hid ((own_tbl O10 hM7 (HR2.out.ext E910)).lower (base' := w.heap.size) (by have := HSZ.out; have := ED.size; omega))
          have EE := Lib.hid (Mod.toExt (EW.out.trans E910) hM7 (by intro k hk he; omega))
          (refine wpAnyH_ready (rs := [16]) (by kernel_rfl) (by simp) ?_; refine AllReadyH.cons rfl (fun K hK => ?_) AllReadyH.nil; go_simp; refine hK.out _ _ ((Mod.of_ext E910).trans hM7) (fun hHeld => ?_); clear hK K; (try simp only [Act.put]); (try simp only [List.getElem_toArray]); (try simp only [List.getElem_cons_succ]); (try simp only [List.getElem_cons_zero]); (try simp only [List.setIfInBounds_toArray]); (try simp only [List.set_cons_succ]); (try simp only [List.set_cons_zero]))
          refine wpAnyH_done (by kernel_rfl) ?_ _
          obtain ⟨q0, q1, _, _⟩ := ((HR2.out.ext E910).put2 (.slice A10 N3 c10) (.int .i64 nx)).two
          have HN3 := Lib.hid hN3
          clear hM7 O10 kr T10 hN3
          generalize (if c = k then (some ⟨b, off, none⟩ : Option Addr) else some ⟨b, off + k * 43, none⟩) = AK
          go_wp2
          refine bodyPost_ret (v := tv A10 N3 c10 nx) (by simp [results, Tryz.results111, go_sem, q0, q1]) rfl ?_
          rw [HFR.out, HN3.out]
          refine ⟨A10, c10, rfl, .inr ?_, EE.out⟩
          rw [HN3.out]
          exact O11.out
        · obtain ⟨b2, off2, u2, hA2, hd2, huok, hcell2⟩ := pr_at (H.out.ext (E0.trans EW5)) (show j < N by have := (List.getElem?_eq_some_iff.1 hj).1; have := HN.out; omega)
          simp only [Option.some.injEq, Addr.mk.injEq, and_true] at hA2
          obtain ⟨rfl, rfl⟩ := hA2
          have hue : u2 = up := by have := hd2.out; rw [hj] at this; cases this; rfl
          subst hue
          have uca := (prAt_of huok hcell2.out).ca 17 (u2.acts.getD 17 0) (by
            have : 17 < u2.acts.length := by unfold Pr.ok at huok; omega
            rw [List.getD_eq_getElem?_getD, List.getElem?_eq_getElem this]; rfl)
          have HID := Lib.hid (show idleL l p = (u2.acts.getD 17 0 == 1) by rw [HID.out, hfd])
          have hjN : j < N := by have := (List.getElem?_eq_some_iff.1 hj).1; have := HN.out; omega
          have hj0 : ¬ ((j : Int) < 0) := by omega
          have hadd : off + j * 43 + 9 + 17 = off + j * 43 + 26 := by omega
          rw [hadd] at uca
          rw [hx]
          generalize u2.acts.getD 17 0 = a17 at uca HID
          clear hx hj hup hfd hd2 hcell2 huok hadd
          cases ha : (a17 == 1)
          · have hi : idleL l p = false := by rw [HID.out, ha]
            have HNX := Lib.hid (HNXT.out hi)
            clear hi
            go_wp2
            go_roundw
            case rel => exact ⟨m + 1, by omega, by go_num, HNX, Lib.hid EW5⟩
            case measure => simp [intOf]; omega
          · have hidle : idleL l p = true := by rw [HID.out, ha]
            have HFR := Lib.hid (freeL_some (idx_some hd.out HD.out hidle) (by have := HN.out; omega))
            obtain ⟨WW, hWW⟩ : ∃ WW, WW = w5 := ⟨_, rfl⟩
            subst hWW
            obtain ⟨k, hk⟩ : ∃ k, k = m + 1 := ⟨_, rfl⟩
            have HS0 := Lib.hid (show RdS Rp (fun _ => True) WW (.slice (some ⟨b, off, none⟩) N c) l from ⟨RdY.mono (H.out.ext (E0.trans EW5)) (fun _ _ _ => trivial), fun _ _ _ => trivial⟩)
            have HT := Lib.hid (show RdY Rp (fun _ => False) WW (.slice (some ⟨b, off, none⟩) m c) (l.take m) from rdy_pr ((RdS.to_ (n := N) HS0.out (by omega)).y : RdY Rp _ _ _ _))
            have HR := Lib.hid (show RdY Rp (fun _ => False) WW (.slice (if c = k then some ⟨b, off, none⟩ else some ⟨b, off + k * 43, none⟩) (N - k) (c - k)) (l.drop k) from by
              have h0 : RdY Rp (fun _ => True) WW (.slice (if c = k then some ⟨b, off, none⟩ else (some ⟨b, off, none⟩ : Option Addr).map (·.add (k * 43))) (N - k) (c - k)) (l.drop k) := (RdS.from_ (n := N) HS0.out (by omega)).y
              exact rdy_pr (by simpa [Addr.add_lit] using h0))
            have HTL := Lib.hid (show (l.take m).length = m by rw [List.length_take, HN.out]; omega)
            have HDL := Lib.hid (show (l.drop k).length = N - k by rw [List.length_drop, HN.out])
            have HE := Lib.hid (show l.take m ++ l.drop k = l.eraseIdx m by rw [hk, List.eraseIdx_eq_take_drop_succ])
            obtain ⟨L2, hL2⟩ : ∃ L2, l.eraseIdx m = L2 := ⟨_, rfl⟩
            obtain ⟨N2, hN2⟩ : ∃ N2, L2.length = N2 := ⟨_, rfl⟩
            have HLN := Lib.hid (show N2 = m + (N - k) by rw [← hN2, ← hL2, ← HE.out, List.length_append, HTL.out, HDL.out])
            rw [hL2] at HFR HE
            have HN2 := Lib.hid hN2
            have hwk : IntKind.i64.wrap ((m : Int) + 1) = (k : Int) := by rw [hk]; exact IntWalk.i64_in _ (by omega)
            have i1 : (0 : Int) ≤ (m : Int) := by omega
            have i2 : (m : Int) ≤ (N : Int) := by omega
            have i3 : (N : Int) ≤ (c : Int) := by omega
            have i4 : (m : Int) ≤ (c : Int) := by omega
            have i5 : (0 : Int) ≤ (k : Int) := by omega
            have i6 : (k : Int) ≤ (N : Int) := by omega
            have i7 : (k : Int) ≤ (c : Int) := by omega
            have HK := Lib.hid hk
            have HIH := Lib.hid (fun A9 c9 w9 h => ih A9 c9 L2 nx w9 (by rw [hN2, HLN.out]; omega) h)
            rw [hN2] at HIH
            have HB2 := Lib.hid (hbox.out.ext EW5)
            have HR2 := Lib.hid (hres.out.ext EW5)
            have EW := Lib.hid (E0.trans EW5)
            have HSZ := Lib.hid (show w.heap.size + 2 ≤ WW.heap.size by have := HW2.out; have := Below.size EW5; omega)
            clear hL2 hN2 hk HS0 hd HD
            go_upto_region 7 with fail
            refine wp_region_held_drew (S := fun w' => Mod (fun k => k = w.heap.size + 1) WW w') (by kernel_rfl) (Mod.of_ext (Ext.drew (Ext.refl _))) (fun hHeld => ?_)
            obtain ⟨D, hDr⟩ : ∃ D, D = WW.drew := ⟨_, rfl⟩
            have ED : Ext WW D := by rw [hDr]; exact (Ext.refl _).drew
            rw [← hDr] at hHeld ⊢
            clear hDr
            (refine wpAnyH_take (i := 1) (v := ?_) rfl (by kernel_rfl) (by kernel_rfl) (by kernel_rfl) (fun _ _ _ h => h) (Or.inl ⟨by rfl, ?_⟩) (by assumption) ?_; rotate_left; (focus (intro w' hSw; go_simp; try with_reducible rfl)); (try simp only [List.getElem_toArray]); (try simp only [List.getElem_cons_succ]); (try simp only [List.getElem_cons_zero]); (try simp only [Act.put]); (try simp only [List.setIfInBounds_toArray]); (try simp only [List.set_cons_succ]); (try simp only [List.set_cons_zero]))
            (refine wpAnyH_take (i := 2) (v := ?_) rfl (by kernel_rfl) (by kernel_rfl) (by kernel_rfl) (fun _ _ _ h => h) (Or.inl ⟨by rfl, ?_⟩) (by assumption) ?_; rotate_left; (focus (intro w' hSw; have kc := (HB2.out.mod hSw (by omega)).two; go_simp; try with_reducible rfl)); (try simp only [List.getElem_toArray]); (try simp only [List.getElem_cons_succ]); (try simp only [List.getElem_cons_zero]); (try simp only [Act.put]); (try simp only [List.setIfInBounds_toArray]); (try simp only [List.set_cons_succ]); (try simp only [List.set_cons_zero]))
            (refine wpAnyH_take (i := 3) (v := ?_) rfl (by kernel_rfl) (by kernel_rfl) (by kernel_rfl) (fun _ _ _ h => h) (Or.inl ⟨by rfl, ?_⟩) (by assumption) ?_; rotate_left; (focus (intro w' hSw; go_simp; try with_reducible rfl)); (try simp only [List.getElem_toArray]); (try simp only [List.getElem_cons_succ]); (try simp only [List.getElem_cons_zero]); (try simp only [Act.put]); (try simp only [List.setIfInBounds_toArray]); (try simp only [List.set_cons_succ]); (try simp only [List.set_cons_zero]))
            (refine wpAnyH_take (i := 4) (v := ?_) rfl (by kernel_rfl) (by kernel_rfl) (by kernel_rfl) (fun _ _ _ h => h) (Or.inl ⟨by rfl, ?_⟩) (by assumption) ?_; rotate_left; (focus (intro w' hSw; go_simp; try with_reducible rfl)); (try simp only [List.getElem_toArray]); (try simp only [List.getElem_cons_succ]); (try simp only [List.getElem_cons_zero]); (try simp only [Act.put]); (try simp only [List.setIfInBounds_toArray]); (try simp only [List.set_cons_succ]); (try simp only [List.set_cons_zero]))
            (refine wpAnyH_take (i := 6) (v := ?_) rfl (by kernel_rfl) (by kernel_rfl) (by kernel_rfl) (fun _ _ _ h => h) (Or.inl ⟨by rfl, ?_⟩) (by assumption) ?_; rotate_left; (focus (intro w' hSw; go_simp; try with_reducible rfl)); (try simp only [List.getElem_toArray]); (try simp only [List.getElem_cons_succ]); (try simp only [List.getElem_cons_zero]); (try simp only [Act.put]); (try simp only [List.setIfInBounds_toArray]); (try simp only [List.set_cons_succ]); (try simp only [List.set_cons_zero]))
            (refine wpAnyH_take (i := 7) (v := ?_) rfl (by kernel_rfl) (by kernel_rfl) (by kernel_rfl) (fun _ _ _ h => h) (Or.inl ⟨by rfl, ?_⟩) (by assumption) ?_; rotate_left; (focus (intro w' hSw; have kc := (HB2.out.mod hSw (by omega)).two; go_simp; try with_reducible rfl)); (try simp only [List.getElem_toArray]); (try simp only [List.getElem_cons_succ]); (try simp only [List.getElem_cons_zero]); (try simp only [Act.put]); (try simp only [List.setIfInBounds_toArray]); (try simp only [List.set_cons_succ]); (try simp only [List.set_cons_zero]))
            (refine wpAnyH_take (i := 8) (v := ?_) rfl (by kernel_rfl) (by kernel_rfl) (by kernel_rfl) (fun _ _ _ h => h) (Or.inl ⟨by rfl, ?_⟩) (by assumption) ?_; rotate_left; (focus (intro w' hSw; go_simp; try with_reducible rfl)); (try simp only [List.getElem_toArray]); (try simp only [List.getElem_cons_succ]); (try simp only [List.getElem_cons_zero]); (try simp only [Act.put]); (try simp only [List.setIfInBounds_toArray]); (try simp only [List.set_cons_succ]); (try simp only [List.set_cons_zero]))
            (refine wpAnyH_take (i := 9) (v := ?_) rfl (by kernel_rfl) (by kernel_rfl) (by kernel_rfl) (fun _ _ _ h => h) (Or.inl ⟨by rfl, ?_⟩) (by assumption) ?_; rotate_left; (focus (intro w' hSw; go_simp; try with_reducible rfl)); (try simp only [List.getElem_toArray]); (try simp only [List.getElem_cons_succ]); (try simp only [List.getElem_cons_zero]); (try simp only [Act.put]); (try simp only [List.setIfInBounds_toArray]); (try simp only [List.set_cons_succ]); (try simp only [List.set_cons_zero]))
            (refine wpAnyH_take (i := 10) (v := ?_) rfl (by kernel_rfl) (by kernel_rfl) (by kernel_rfl) (fun _ _ _ h => h) (Or.inl ⟨by rfl, ?_⟩) (by assumption) ?_; rotate_left; (focus (intro w' hSw; go_simp; try with_reducible rfl)); (try simp only [List.getElem_toArray]); (try simp only [List.getElem_cons_succ]); (try simp only [List.getElem_cons_zero]); (try simp only [Act.put]); (try simp only [List.setIfInBounds_toArray]); (try simp only [List.set_cons_succ]); (try simp only [List.set_cons_zero]))
            (refine wpAnyH_take (i := 12) (v := ?_) rfl (by kernel_rfl) (by kernel_rfl) (by kernel_rfl) (fun _ _ _ h => h) (Or.inl ⟨by rfl, ?_⟩) (by assumption) ?_; rotate_left; (focus (intro w' hSw; go_simp; try with_reducible rfl)); (try simp only [List.getElem_toArray]); (try simp only [List.getElem_cons_succ]); (try simp only [List.getElem_cons_zero]); (try simp only [Act.put]); (try simp only [List.setIfInBounds_toArray]); (try simp only [List.set_cons_succ]); (try simp only [List.set_cons_zero]))
            (refine wpAnyH_take (i := 13) (v := ?_) rfl (by kernel_rfl) (by kernel_rfl) (by kernel_rfl) (fun _ _ _ h => h) (Or.inl ⟨by rfl, ?_⟩) (by assumption) ?_; rotate_left; (focus (intro w' hSw; have kc := (HB2.out.mod hSw (by omega)).two; go_simp; try with_reducible rfl)); (try simp only [List.getElem_toArray]); (try simp only [List.getElem_cons_succ]); (try simp only [List.getElem_cons_zero]); (try simp only [Act.put]); (try simp only [List.setIfInBounds_toArray]); (try simp only [List.set_cons_succ]); (try simp only [List.set_cons_zero]))
            (refine wpAnyH_ready (rs := [0]) (by kernel_rfl) (by simp) ?_; refine AllReadyH.cons rfl (fun K hK => ?_) AllReadyH.nil; go_simp; refine hK.out _ _ (Mod.of_ext (Ext.alloc ED _)) (fun hHeld => ?_); clear hK K; (try simp only [Act.put]); (try simp only [List.getElem_toArray]); (try simp only [List.getElem_cons_succ]); (try simp only [List.getElem_cons_zero]); (try simp only [List.setIfInBounds_toArray]); (try simp only [List.set_cons_succ]); (try simp only [List.set_cons_zero]))
            have E1 : Ext WW (D.alloc (.cells #[] 64)) := ED.alloc _
            refine wpAnyH_ready (rs := [5]) (by kernel_rfl) (by simp) ?_
            refine AllReadyH.cons rfl (fun K hK => ?_) AllReadyH.nil
            refine step_app0 (e := Rp) (A := fun _ => False) (n := D.heap.size) rfl (.tmp 33) (.tmp 37) rfl Tryz.underlying22 info_rp rfl (Blk.new D _ _) rfl (HT.out.ext E1) rfl (fun _ _ h => h.elim) (by rw [HTL.out]; simp [maxLen]; omega) (by rw [HTL.out]; omega) ?_
            intro A5 c5 x5 o5 M5 D5
            have E5 : Ext WW x5 := Below.trans E1 (D5.mono ED.size)
            refine hK.out _ _ (Mod.of_ext E5) (fun hHeld => ?_)
            clear hK K
            (try simp only [List.getElem_toArray]); (try simp only [List.getElem_cons_succ]); (try simp only [List.getElem_cons_zero]); (try simp only [Act.put]); (try simp only [List.setIfInBounds_toArray]); (try simp only [List.set_cons_succ]); (try simp only [List.set_cons_zero])
            have O5 := Lib.hid o5
            have HSD := Lib.hid (show D.heap.size ≤ x5.heap.size by have := M5.size; simp at this; omega)
            clear M5 D5 o5
            refine wpAnyH_ready (rs := [11]) (by kernel_rfl) (by simp) ?_
            refine AllReadyH.cons rfl (fun K hK => ?_) AllReadyH.nil
            refine step_app (e := Rp) (base := D.heap.size) (B := fun _ => False) (A := fun _ => False) rfl (.tmp 38) (.tmp 43) rfl Tryz.underlying22 info_rp rfl O5.out rfl (HR.out.ext E5) rfl (fun _ _ h => h.elim) (N := N2) (by rw [HTL.out, HDL.out, HLN.out]) (by have := HLN.out; simp [maxLen]; omega) (by have := HLN.out; omega) HSD.out ?_
            intro A9 c9 x9 o9 M9 D9
            have E9 : Ext WW x9 := Below.trans E5 (D9.mono ED.size)
            refine hK.out _ _ (Mod.of_ext E9) (fun hHeld => ?_)
            clear hK K
            (try simp only [List.getElem_toArray]); (try simp only [List.getElem_cons_succ]); (try simp only [List.getElem_cons_zero]); (try simp only [Act.put]); (try simp only [List.setIfInBounds_toArray]); (try simp only [List.set_cons_succ]); (try simp only [List.set_cons_zero])
            rw [HE.out] at o9
            have O9 := Lib.hid o9
            have HSX := Lib.hid (show D.heap.size ≤ x9.heap.size from Nat.le_trans HSD.out M9.size)
            clear M9 D9 o9 O5 E5 E1
            (refine wpAnyH_take (i := 14) (v := ?_) rfl (by kernel_rfl) (by kernel_rfl) (by kernel_rfl) (fun _ _ _ h => h) (Or.inl ⟨by rfl, ?_⟩) (by assumption) ?_; rotate_left; (focus (intro w' hSw; go_simp; try with_reducible rfl)); (try simp only [List.getElem_toArray]); (try simp only [List.getElem_cons_succ]); (try simp only [List.getElem_cons_zero]); (try simp only [Act.put]); (try simp only [List.setIfInBounds_toArray]); (try simp only [List.set_cons_succ]); (try simp only [List.set_cons_zero]))
            obtain ⟨N3, hN3⟩ : ∃ N3, (freeL L2).length = N3 := ⟨_, rfl⟩
            rw [hN3] at HIH
            (refine wpAnyH_ready (rs := [15]) (by kernel_rfl) (by simp) ?_; refine AllReadyH.cons rfl (fun K hK => ?_) AllReadyH.nil; go_simp; go_at_call 111; refine (HIH.out A9 c9 _ (rdy_pr (B := fun _ => False) O9.out.y)).mono ?_; rintro e w10 ⟨A10, c10, rfl, T10, E10⟩; (try dsimp only); refine hK.out _ _ (Mod.of_ext (E9.trans E10)) (fun hHeld => ?_); clear hK K; (try simp only [Act.put]); (try simp only [List.getElem_toArray]); (try simp only [List.getElem_cons_succ]); (try simp only [List.getElem_cons_zero]); (try simp only [List.setIfInBounds_toArray]); (try simp only [List.set_cons_succ]); (try simp only [List.set_cons_zero]))
            have E910 := E9.trans E10
            have kr := (HR2.out.ext E910).two
            have O10 := own_tabR T10 (by rw [HN2.out]; exact O9.out) E10 HSX.out
            rw [hN3] at O10
            have hM7 : Mod (fun k => k = w.heap.size + 1) w10 _ := ((Mod.refl _ w10).set1 (.slice A10 N3 c10) (o := 0)).set1 (.int .i64 nx) (o := 1)
            have O11 := Lib.hid ((own_tbl O10 hM7 (HR2.out.ext E910)).lower (base' := w.heap.size) (by have := HSZ.out; have := ED.size; omega))
            have EE := Lib.hid (Mod.toExt (EW.out.trans E910) hM7 (by intro k hk he; omega))
            (refine wpAnyH_ready (rs := [16]) (by kernel_rfl) (by simp) ?_; refine AllReadyH.cons rfl (fun K hK => ?_) AllReadyH.nil; go_simp; refine hK.out _ _ ((Mod.of_ext E910).trans hM7) (fun hHeld => ?_); clear hK K; (try simp only [Act.put]); (try simp only [List.getElem_toArray]); (try simp only [List.getElem_cons_succ]); (try simp only [List.getElem_cons_zero]); (try simp only [List.setIfInBounds_toArray]); (try simp only [List.set_cons_succ]); (try simp only [List.set_cons_zero]))
            refine wpAnyH_done (by kernel_rfl) ?_ _
            obtain ⟨q0, q1, _, _⟩ := ((HR2.out.ext E910).put2 (.slice A10 N3 c10) (.int .i64 nx)).two
            have HN3 := Lib.hid hN3
            clear hM7 O10 kr T10 hN3
            generalize (if c = k then (some ⟨b, off, none⟩ : Option Addr) else some ⟨b, off + k * 43, none⟩) = AK
            go_wp2
            refine bodyPost_ret (v := tv A10 N3 c10 nx) (by simp [results, Tryz.results111, go_sem, q0, q1]) rfl ?_
            rw [HFR.out, HN3.out]
            refine ⟨A10, c10, rfl, .inr ?_, EE.out⟩
            rw [HN3.out]
            exact O11.out
      · obtain rfl : m = N := by omega
        have hfl : freeL l = l := freeL_none (by
          rw [List.any_eq_false]
          intro q hq
          have := HD.out q (by rw [List.take_of_length_le (by have := HN.out; omega)]; exact hq)
          rw [this]; simp)
        have HFL := Lib.hid hfl
        have kb := (hbox.out.ext hE.out).two
        have ks := (hres.out.ext hE.out).two
        have hM7 : Mod (fun k => k = w.heap.size + 1) wr _ := ((Mod.refl _ wr).set1 (.slice Ad m c) (o := 0)).set1 (.int .i64 nx) (o := 1)
        obtain ⟨q0, q1, _, _⟩ := ((hres.out.ext hE.out).put2 (.slice Ad m c) (.int .i64 nx)).two
        have EE := Lib.hid (Mod.toExt (E0.trans hE.out) hM7 (by intro k hk he; omega))
        clear hfl hM7
        go_wp2
        refine bodyPost_ret (v := tv Ad m c nx) (by simp [results, Tryz.results111, go_sem, q0, q1]) rfl ?_
        rw [HFL.out, HN.out]
        exact ⟨Ad, c, rfl, .inl ⟨rfl, rfl, rfl⟩, EE.out⟩
end Go.Proofs.YteljobleojhgmaaGreat
