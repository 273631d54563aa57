/- TableStays: for every argument the law answers true, and leaves its arguments as they were. No condition. -/
import Derived.Test.YtmpmnikgbepphaaRB20
import Derived.Deep.DeepCutAuto
import Derived.Test.YtmpmnikgbepphaaRows
/- Numbers, parents and groups stay right through any steps: walked; the law answers true. No condition. -/
namespace Go.Proofs.Ytmpmnikgbepphaa
open Go.RowKit Go.Kb Go.Maps

set_option maxRecDepth 100000 in
set_option maxHeartbeats 4000000 in


theorem tableStays_walk {A : Nat → Prop} (v : Value) (ops : List (Int × Int × Int × Int)) (w : World) (h : RdY Rep.op4 A w v ops) :
    Calls Try.prog 7 #[v] w fun e w' => e = .returned (.bool true) ∧ Ext w w' := by
  have hmm := @run_makeMap Try.prog
  obtain ⟨Ad, c, rfl, hc1, hc2⟩ := h.shape
  obtain ⟨K, hK⟩ : ∃ K, ops.length = K := ⟨_, rfl⟩
  have H := Lib.hid (h.mono (B := fun _ => True) fun _ _ _ => trivial)
  rw [hK] at H hc1 ⊢
  have HK := Lib.hid hK
  clear h hK
  go_enter Try.func7, Try.ntmps7
  go_wp2_with fail
  refine (alive_any _).mono ?_
  rintro e w1 ⟨rfl, E1⟩
  by_cases hg : 100 < K
  · have hg2 : (100 : Int) < (K : Int) := by omega
    go_wp2
    go_ret
    exact ⟨rfl, E1⟩
  have hg2 : ¬ ((100 : Int) < (K : Int)) := by omega
  have hK100 : K ≤ 100 := by omega
  obtain ⟨W, hW⟩ : ∃ W, W = (w1.alloc (.cells #[.slice none 0 0, .int .i64 1] 29)).alloc (.map #[] 0) := ⟨_, rfl⟩
  have B3 := Lib.hid (show Blk W w1.heap.size 29 #[.slice none 0 0, .int .i64 1] by rw [hW]; exact (Blk.new _ _ _).alloc _)
  have OG := Lib.hid (show W.ownsMap Try.prog 3 (plainElem Try.prog 4) (w1.heap.size + 1) 0 (upD []) by
    have := World.ownsMap_made (w1.alloc (.cells #[.slice none 0 0, .int .i64 1] 29)) Try.prog 3 (plainElem (H := Unit) Try.prog 4)
    rw [World.size_alloc] at this
    rw [hW]
    exact this)
  have E0 : Ext w W := by rw [hW]; exact (E1.alloc _).alloc _
  have hwz := Lib.hid E1.size
  have HW := Lib.hid hW
  clear hg hW E1
  go_wp2
  rw [← HW.out]
  go_loopw [22] (fun i wr => ∃ (m : Nat) (l : List Pr) (nx : Int) (A' : Option Addr) (c' n : Nat) (G : List Int), m ≤ K ∧ i = .int .i64 m ∧ Hid (Blk wr w1.heap.size 29 #[.slice A' n c', .int .i64 nx]) ∧ Hid (l.length = n) ∧ Hid (RdY Rp (fun _ => False) wr (.slice A' n c') l) ∧ Hid (Inv l nx ∧ Fits l) ∧ Hid (nx ≤ m + 1) ∧ Hid (wr.ownsMap Try.prog 3 (plainElem Try.prog 4) (w1.heap.size + 1) m (upD G)) ∧ Hid ((∀ p ∈ l, p.pid ∈ G) ∧ ∀ x ∈ G, x < nx) ∧ Hid (Ext w wr)) (fun i _ => K - (intOf i).toNat)
  case atStart => exact ⟨0, [], 1, none, 0, 0, [], Nat.zero_le _, rfl, B3, Lib.hid rfl, Lib.hid (RdS.nil _ _ _).y, Lib.hid ⟨inv_start, fun p hp => by cases hp⟩, Lib.hid (by omega), OG, Lib.hid ⟨by simp, by simp⟩, Lib.hid E0⟩
  case round =>
    clear B3 OG E0 HW
    obtain ⟨m, l, nx, A', c', n, G, hm, rfl, B3, HL, RT, HI, HN, OG, HG, hE⟩ := hrel
    by_cases hmn : m < K
    · obtain ⟨b, off, c9, d9, cs, hv, hd, hr, hl, hcl⟩ := RdY.cells (H.out.ext hE.out) (show m < ops.length by have := HK.out; omega)
      obtain ⟨k, a, b9, d⟩ := d9
      have hr : cs = [.int .i64 k, .int .i64 a, .int .i64 b9, .int .i64 d] := hr.out
      subst hr
      cases hv
      have d0 : wr.cell? ⟨b, off + m * 4, none⟩ = some (.int .i64 k) := hcl 0 _ rfl
      have d1 : wr.cell? ⟨b, off + m * 4 + 1, none⟩ = some (.int .i64 a) := hcl 1 _ rfl
      have d2 : wr.cell? ⟨b, off + m * 4 + 2, none⟩ = some (.int .i64 b9) := hcl 2 _ rfl
      have d3 : wr.cell? ⟨b, off + m * 4 + 3, none⟩ = some (.int .i64 d) := hcl 3 _ rfl
      obtain ⟨W6, hW6⟩ : ∃ W6, W6 = (wr.alloc (.cells #[.int .i64 k, .int .i64 a, .int .i64 b9, .int .i64 d] 72)).alloc (.cells #[.int .i64 0, .int .i64 0, .int .i64 0] 74) := ⟨_, rfl⟩
      have E6 : Ext wr W6 := by rw [hW6]; exact ((Ext.refl _).alloc _).alloc _
      have B6 := Lib.hid (show Blk W6 wr.heap.size 72 #[.int .i64 k, .int .i64 a, .int .i64 b9, .int .i64 d] by rw [hW6]; exact (Blk.new _ _ _).alloc _)
      have B7 := Lib.hid (show Blk W6 (wr.heap.size + 1) 74 #[.int .i64 0, .int .i64 0, .int .i64 0] by rw [hW6]; exact Blk.at_ _ _ (by simp))
      have kb := B3.out.two
      have kb6 := (B3.out.ext E6).two
      rw [hW6] at kb6
      have hdo := do_any (A := fun _ => False) A' c' l nx k a b9 d W6 (by rw [HL.out]; exact RT.out.ext E6)
      rw [HL.out] at hdo
      have HDO := Lib.hid hdo
      have h31 := B3.out.lt
      have h3G := OG.out.lt
      have HW6 := Lib.hid hW6
      clear hdo hW6 hd hl hcl
      go_wp2_with fail
      rw [← HW6.out]
      refine HDO.out.mono ?_
      rintro e w7 ⟨L, nx', A2, c2', n2, N, S, E, rfl, hL, RR, E7, SS⟩
      clear d0 d1 d2 d3 kb kb6
      have M8 : Mod (fun k => k = w1.heap.size ∨ k = wr.heap.size + 1) w7 (((((w7.setCell ⟨w1.heap.size, 0, none⟩ (.slice A2 n2 c2')).setCell ⟨w1.heap.size, 1, none⟩ (.int .i64 nx')).setCell ⟨wr.heap.size + 1, 0, none⟩ (.int .i64 N)).setCell ⟨wr.heap.size + 1, 1, none⟩ (.int .i64 S)).setCell ⟨wr.heap.size + 1, 2, none⟩ (.int .i64 E)) :=
        (((((Mod.refl _ w7).set_ (.inr (.inl rfl)) _).set_ (.inr (.inl rfl)) _).set_ (.inr (.inr rfl)) _).set_ (.inr (.inr rfl)) _).set_ (.inr (.inr rfl)) _
      have E67 := E6.trans E7
      have k3 := (B3.out.ext E67).two
      have G3 := ((((B3.out.ext E67).put2 (.slice A2 n2 c2') (.int .i64 nx')).far (p := ⟨wr.heap.size + 1, 0, none⟩) (by show w1.heap.size ≠ wr.heap.size + 1; omega) (.int .i64 N)).far (p := ⟨wr.heap.size + 1, 1, none⟩) (by show w1.heap.size ≠ wr.heap.size + 1; omega) (.int .i64 S)).far (p := ⟨wr.heap.size + 1, 2, none⟩) (by show w1.heap.size ≠ wr.heap.size + 1; omega) (.int .i64 E)
      have G70 := ((B7.out.ext E7).far (p := ⟨w1.heap.size, 0, none⟩) (by show wr.heap.size + 1 ≠ w1.heap.size; omega) (.slice A2 n2 c2')).far (p := ⟨w1.heap.size, 1, none⟩) (by show wr.heap.size + 1 ≠ w1.heap.size; omega) (.int .i64 nx')
      have g0 := G70.cell 0
      have g1 := G70.cell 1
      have g2 := G70.cell 2
      have f0 := G70.frozen 0
      have f1 := G70.frozen 1
      have f2 := G70.frozen 2
      have G7 := ((G70.set_ 0 (.int .i64 N)).set_ 1 (.int .i64 S)).set_ 2 (.int .i64 E)
      rw [show (((#[.int .i64 0, .int .i64 0, .int .i64 0] : Array Value).setIfInBounds 0 (.int .i64 N)).setIfInBounds 1 (.int .i64 S)).setIfInBounds 2 (.int .i64 E) = #[.int .i64 N, .int .i64 S, .int .i64 E] by simp] at G7
      have G6 := (B6.out.ext E7).mod M8 (by show ¬ (_ ∨ _); omega)
      have R8 := rdy_mod RR M8 (fun k hk o ho => by
        rcases hk with rfl | rfl
        · rw [(B3.out.ext E67).cell]; exact Array.getElem?_eq_none (by simp; omega)
        · rw [(B7.out.ext E7).cell]; exact Array.getElem?_eq_none (by simp; omega))
      have O8 := owns_mod (owns_ext OG.out E67) M8 (by show ¬ (_ ∨ _); omega)
      have E8 := Mod.toExt (hE.out.trans E67) M8 (fun k hk he => by have := hwz.out; have := hE.out.size; rcases he with he | he <;> omega)
      have G3 := Lib.hid G3
      have G7 := Lib.hid G7
      have G6 := Lib.hid G6
      have R8 := Lib.hid R8
      have O8 := Lib.hid O8
      have E8 := Lib.hid E8
      have HLL := Lib.hid hL
      have HSS := Lib.hid SS
      have hz8 := Lib.hid (show wr.heap.size + 2 ≤ w7.heap.size by have := (B7.out.ext E7).lt; omega)
      clear M8 G70 E67 RR hL SS E7 E6 B6 B7 B3 RT OG hE HDO
      go_upto_region 12 with fail
      generalize ((((w7.setCell _ _).setCell _ _).setCell _ _).setCell _ _).setCell _ _ = w8 at *
      obtain ⟨nb, hnb⟩ : ∃ nb, nb = ((k == 1 || k == 2) && E == 0) := ⟨_, rfl⟩
      have HNB := Lib.hid hnb
      clear k3 g0 g1 g2 f0 f1 f2 hnb
      go_cut [44] (fun s wx => s = .bool nb ∧ wx = w8)
      case first =>
        have c60 := G6.out.cell 0
        have c72 := G7.out.cell 2
        cases h1 : (k == 1) <;> cases h2 : (k == 2) <;> cases h3 : (E == 0)
        all_goals
          go_wp2_with fail
          go_meet
          exact ⟨by rw [HNB.out, h1, h2, h3]; rfl, rfl⟩
      case rest =>
        obtain ⟨rfl, hwc⟩ := hcut
        have hwc := hwc.symm
        subst hwc
        obtain ⟨HI1, HI2⟩ := HI.out
        have hK1 := hmn
        have hsp := stp_pids HI1.right HSS.out
        have hnn : nextNo nx = nx + 1 := by
          unfold nextNo
          have := (right_rise HI1.right).1
          have := HN.out
          exact IntWalk.i64_in _ (by omega)
        have hnx := HN.out
        have hIL := Lib.hid (show Inv L nx' ∧ Fits L from ⟨inv_step HI1 hnn HSS.out, fit_step HI1 (by omega) HSS.out HI2⟩)
        have hL32 := (right_rise hIL.out.1.right).2.1
        rw [HLL.out] at hL32
        have hn2 : ¬ ((32 : Int) < (n2 : Int)) := by omega
        have kA := (G3.out.alloc (.map #[] 0)).two
        have kb := G3.out.two
        cases nb
        · obtain ⟨h1, e0, _⟩ | ⟨_, e1, h2⟩ := hsp
          · exfalso
            have := HNB.out
            rcases h1 with rfl | rfl <;> simp [e0] at this
          have HG9 := Lib.hid (show (∀ p ∈ L, p.pid ∈ G) ∧ ∀ x ∈ G, x < nx' from ⟨fun p hp => by obtain ⟨q, hq, e⟩ := h2 p hp; rw [← e]; exact HG.out.1 q hq, fun x hx => by rw [e1]; exact HG.out.2 x hx⟩)
          have OG9 := Lib.hid (O8.out.mono (show m ≤ m + 1 by omega))
          have HN9 := Lib.hid (show nx' ≤ ((m + 1 : Nat) : Int) + 1 by rw [e1]; omega)
          clear h2 e1
          go_wp2
          obtain ⟨wq, hwq⟩ : ∃ wq, wq = wr := ⟨_, rfl⟩
          subst hwq
          have OS0 := Lib.hid (World.ownsMap_made w8 Try.prog 3 (plainElem (H := Unit) Try.prog 3))
          go_loopw [60] (fun i wr => ∃ (j : Nat) (D : DataW Unit), j ≤ n2 ∧ i = .int .i64 j ∧ Hid (wr.ownsMap Try.prog 3 (plainElem Try.prog 3) (w8).heap.size j D) ∧ Hid (Ses D (L.take j)) ∧ Hid (Ext w8 wr)) (fun i _ => n2 - (intOf i).toNat)
          case atStart => exact ⟨0, _, Nat.zero_le _, rfl, OS0, Lib.hid (by simpa using ses_start), Lib.hid ((Ext.refl _).alloc _)⟩
          case round =>
            clear OS0
            obtain ⟨j, D, hj, rfl, OS, HS, E1r⟩ := hrel
            by_cases hjn : j < n2
            · obtain ⟨pb, poff, p, rfl, hd, hok, hcell⟩ := pr_at (R8.out.ext E1r.out) hjn
              have hpl := List.mem_of_getElem? hd.out
              have b3 := Lib.hid (G3.out.ext E1r.out)
              have og := Lib.hid (owns_ext OG9.out E1r.out)
              have rl := Lib.hid (R8.out.ext E1r.out)
              have hin := HG9.out.1 p hpl
              obtain ⟨I1, I2⟩ := hIL.out
              have hbd := rise_mem (right_rise I1.right).2.2 p hpl
              have hpw : Wf p.pid := wf_small (by omega) (by have := (HN9).out; omega)
              obtain ⟨hgw, hsw⟩ := I2 p hpl
              have hge : ¬ (nx' ≤ p.pid) := by omega
              have HD := Lib.hid hd.out
              obtain ⟨n10, hn10⟩ : ∃ n10, wr.heap.size = n10 := ⟨_, rfl⟩
              clear hd hbd
              go_wp2_with (first
                | (refine wpList_load_mid rfl 43 _ rfl pb (poff + j * 43) rfl p.cells _ hcell.out Try.underlying43 rfl (i43' hok) ?_)
                | ((refine wpList_store_A rfl 43 _ _ rfl (n10) _ rfl rfl 43 _ (zero_row wr n10 hn10) (by rw [List.size_toArray]; exact i43' hok) (Eq.trans (b := 43) (by rfl) (Eq.symm (show (p).cells.toArray.size = 43 from Pr.size hok))) (Pr.one hok) ?_); intro w11 H11 E11; have Er : Ext wr w11 := E11 wr.heap.size wr ((Ext.refl wr).alloc _) (by omega); have b10 := Lib.hid H11; clear E11 H11))
              have c0 := (prAt_blk hok b10.out).c0
              have b3 := Lib.hid (b3.out.ext Er)
              have og := Lib.hid (owns_ext og.out Er)
              have rl := Lib.hid (rl.out.ext Er)
              have OS := Lib.hid (owns_ext OS.out Er)
              have E11 := Lib.hid (E1r.out.trans Er)
              clear hn10
              go_cut [92] (fun s wx => s = .bool false ∧ Ext w11 wx)
              case first =>
                rcases j with _ | t
                · refine wp_region_held_drew (S := fun w' => Ext w11 w') (by kernel_rfl) (Ext.drew (Ext.refl _)) (fun hHeld => ?_)
                  (refine wpAnyH_take (i := 0) (v := ?_) rfl (by kernel_rfl) (by kernel_rfl) (by kernel_rfl) (fun _ _ _ h => h) (Or.inl ⟨by rfl, ?_⟩) (by assumption) ?_; rotate_left; (focus (intro w' hSw; go_simp; try with_reducible rfl)); (try simp only [List.getElem_toArray]); (try simp only [List.getElem_cons_succ]); (try simp only [List.getElem_cons_zero]); (try simp only [Act.put]); (try simp only [List.setIfInBounds_toArray]); (try simp only [List.set_cons_succ]); (try simp only [List.set_cons_zero]))
                  (refine wpAnyH_take (i := 1) (v := ?_) rfl (by kernel_rfl) (by kernel_rfl) (by kernel_rfl) (fun _ _ _ h => h) (Or.inl ⟨by rfl, ?_⟩) (by assumption) ?_; rotate_left; (focus (intro w' hSw; go_simp; try with_reducible rfl)); (try simp only [List.getElem_toArray]); (try simp only [List.getElem_cons_succ]); (try simp only [List.getElem_cons_zero]); (try simp only [Act.put]); (try simp only [List.setIfInBounds_toArray]); (try simp only [List.set_cons_succ]); (try simp only [List.set_cons_zero]))
                  (refine wpAnyH_take (i := 2) (v := ?_) rfl (by kernel_rfl) (by kernel_rfl) (by kernel_rfl) (fun _ _ _ h => h) (Or.inl ⟨by rfl, ?_⟩) (by assumption) ?_; rotate_left; (focus (intro w' hSw; have kc := cell_ext hSw c0; go_simp; try with_reducible rfl)); (try simp only [List.getElem_toArray]); (try simp only [List.getElem_cons_succ]); (try simp only [List.getElem_cons_zero]); (try simp only [Act.put]); (try simp only [List.setIfInBounds_toArray]); (try simp only [List.set_cons_succ]); (try simp only [List.set_cons_zero]))
                  (refine wpAnyH_take (i := 3) (v := ?_) rfl (by kernel_rfl) (by kernel_rfl) (by kernel_rfl) (fun _ _ _ h => h) (Or.inl ⟨by rfl, ?_⟩) (by assumption) ?_; rotate_left; (focus (intro w' hSw; have kc := up_look (owns_ext og.out hSw) hpw; rw [decide_eq_true hin] at kc; go_simp; try with_reducible rfl)); (try simp only [List.getElem_toArray]); (try simp only [List.getElem_cons_succ]); (try simp only [List.getElem_cons_zero]); (try simp only [Act.put]); (try simp only [List.setIfInBounds_toArray]); (try simp only [List.set_cons_succ]); (try simp only [List.set_cons_zero]))
                  (refine wpAnyH_take (i := 4) (v := ?_) rfl (by kernel_rfl) (by kernel_rfl) (by kernel_rfl) (fun _ _ _ h => h) (Or.inl ⟨by rfl, ?_⟩) (by assumption) ?_; rotate_left; (focus (intro w' hSw; go_simp; try with_reducible rfl)); (try simp only [List.getElem_toArray]); (try simp only [List.getElem_cons_succ]); (try simp only [List.getElem_cons_zero]); (try simp only [Act.put]); (try simp only [List.setIfInBounds_toArray]); (try simp only [List.set_cons_succ]); (try simp only [List.set_cons_zero]))
                  (refine wpAnyH_take (i := 5) (v := ?_) rfl (by kernel_rfl) (by kernel_rfl) (by kernel_rfl) (fun _ _ _ h => h) (Or.inl ⟨by rfl, ?_⟩) (by assumption) ?_; rotate_left; (focus (intro w' hSw; go_simp; try with_reducible rfl)); (try simp only [List.getElem_toArray]); (try simp only [List.getElem_cons_succ]); (try simp only [List.getElem_cons_zero]); (try simp only [Act.put]); (try simp only [List.setIfInBounds_toArray]); (try simp only [List.set_cons_succ]); (try simp only [List.set_cons_zero]))
                  (refine wpAnyH_take (i := 6) (v := ?_) rfl (by kernel_rfl) (by kernel_rfl) (by kernel_rfl) (fun _ _ _ h => h) (Or.inl ⟨by rfl, ?_⟩) (by assumption) ?_; rotate_left; (focus (intro w' hSw; go_simp; try with_reducible rfl)); (try simp only [List.getElem_toArray]); (try simp only [List.getElem_cons_succ]); (try simp only [List.getElem_cons_zero]); (try simp only [Act.put]); (try simp only [List.setIfInBounds_toArray]); (try simp only [List.set_cons_succ]); (try simp only [List.set_cons_zero]))
                  (refine wpAnyH_take (i := 7) (v := ?_) rfl (by kernel_rfl) (by kernel_rfl) (by kernel_rfl) (fun _ _ _ h => h) (Or.inl ⟨by rfl, ?_⟩) (by assumption) ?_; rotate_left; (focus (intro w' hSw; go_simp; try with_reducible rfl)); (try simp only [List.getElem_toArray]); (try simp only [List.getElem_cons_succ]); (try simp only [List.getElem_cons_zero]); (try simp only [Act.put]); (try simp only [List.setIfInBounds_toArray]); (try simp only [List.set_cons_succ]); (try simp only [List.set_cons_zero]))
                  (refine wpAnyH_take (i := 8) (v := ?_) rfl (by kernel_rfl) (by kernel_rfl) (by kernel_rfl) (fun _ _ _ h => h) (Or.inl ⟨by rfl, ?_⟩) (by assumption) ?_; rotate_left; (focus (intro w' hSw; go_simp; try with_reducible rfl)); (try simp only [List.getElem_toArray]); (try simp only [List.getElem_cons_succ]); (try simp only [List.getElem_cons_zero]); (try simp only [Act.put]); (try simp only [List.setIfInBounds_toArray]); (try simp only [List.set_cons_succ]); (try simp only [List.set_cons_zero]))
                  (refine wpAnyH_take (i := 9) (v := undef) rfl (by kernel_rfl) (by kernel_rfl) (by kernel_rfl) (fun _ _ _ h => h) (Or.inr ⟨by rfl, rfl⟩) (by assumption) ?_; (try simp only [List.getElem_toArray]); (try simp only [List.getElem_cons_succ]); (try simp only [List.getElem_cons_zero]); (try simp only [Act.put]); (try simp only [List.setIfInBounds_toArray]); (try simp only [List.set_cons_succ]); (try simp only [List.set_cons_zero]))
                  (refine wpAnyH_take (i := 10) (v := undef) rfl (by kernel_rfl) (by kernel_rfl) (by kernel_rfl) (fun _ _ _ h => h) (Or.inr ⟨by rfl, rfl⟩) (by assumption) ?_; (try simp only [List.getElem_toArray]); (try simp only [List.getElem_cons_succ]); (try simp only [List.getElem_cons_zero]); (try simp only [Act.put]); (try simp only [List.setIfInBounds_toArray]); (try simp only [List.set_cons_succ]); (try simp only [List.set_cons_zero]))
                  (refine wpAnyH_take (i := 11) (v := undef) rfl (by kernel_rfl) (by kernel_rfl) (by kernel_rfl) (fun _ _ _ h => h) (Or.inr ⟨by rfl, rfl⟩) (by assumption) ?_; (try simp only [List.getElem_toArray]); (try simp only [List.getElem_cons_succ]); (try simp only [List.getElem_cons_zero]); (try simp only [Act.put]); (try simp only [List.setIfInBounds_toArray]); (try simp only [List.set_cons_succ]); (try simp only [List.set_cons_zero]))
                  (refine wpAnyH_take (i := 12) (v := undef) rfl (by kernel_rfl) (by kernel_rfl) (by kernel_rfl) (fun _ _ _ h => h) (Or.inr ⟨by rfl, rfl⟩) (by assumption) ?_; (try simp only [List.getElem_toArray]); (try simp only [List.getElem_cons_succ]); (try simp only [List.getElem_cons_zero]); (try simp only [Act.put]); (try simp only [List.setIfInBounds_toArray]); (try simp only [List.set_cons_succ]); (try simp only [List.set_cons_zero]))
                  (refine wpAnyH_take (i := 13) (v := undef) rfl (by kernel_rfl) (by kernel_rfl) (by kernel_rfl) (fun _ _ _ h => h) (Or.inr ⟨by rfl, rfl⟩) (by assumption) ?_; (try simp only [List.getElem_toArray]); (try simp only [List.getElem_cons_succ]); (try simp only [List.getElem_cons_zero]); (try simp only [Act.put]); (try simp only [List.setIfInBounds_toArray]); (try simp only [List.set_cons_succ]); (try simp only [List.set_cons_zero]))
                  (refine wpAnyH_take (i := 14) (v := undef) rfl (by kernel_rfl) (by kernel_rfl) (by kernel_rfl) (fun _ _ _ h => h) (Or.inr ⟨by rfl, rfl⟩) (by assumption) ?_; (try simp only [List.getElem_toArray]); (try simp only [List.getElem_cons_succ]); (try simp only [List.getElem_cons_zero]); (try simp only [Act.put]); (try simp only [List.setIfInBounds_toArray]); (try simp only [List.set_cons_succ]); (try simp only [List.set_cons_zero]))
                  (refine wpAnyH_take (i := 15) (v := undef) rfl (by kernel_rfl) (by kernel_rfl) (by kernel_rfl) (fun _ _ _ h => h) (Or.inr ⟨by rfl, rfl⟩) (by assumption) ?_; (try simp only [List.getElem_toArray]); (try simp only [List.getElem_cons_succ]); (try simp only [List.getElem_cons_zero]); (try simp only [Act.put]); (try simp only [List.setIfInBounds_toArray]); (try simp only [List.set_cons_succ]); (try simp only [List.set_cons_zero]))
                  (refine wpAnyH_take (i := 16) (v := undef) rfl (by kernel_rfl) (by kernel_rfl) (by kernel_rfl) (fun _ _ _ h => h) (Or.inr ⟨by rfl, rfl⟩) (by assumption) ?_; (try simp only [List.getElem_toArray]); (try simp only [List.getElem_cons_succ]); (try simp only [List.getElem_cons_zero]); (try simp only [Act.put]); (try simp only [List.setIfInBounds_toArray]); (try simp only [List.set_cons_succ]); (try simp only [List.set_cons_zero]))
                  (refine wpAnyH_take (i := 17) (v := undef) rfl (by kernel_rfl) (by kernel_rfl) (by kernel_rfl) (fun _ _ _ h => h) (Or.inr ⟨by rfl, rfl⟩) (by assumption) ?_; (try simp only [List.getElem_toArray]); (try simp only [List.getElem_cons_succ]); (try simp only [List.getElem_cons_zero]); (try simp only [Act.put]); (try simp only [List.setIfInBounds_toArray]); (try simp only [List.set_cons_succ]); (try simp only [List.set_cons_zero]))
                  (refine wpAnyH_take (i := 18) (v := undef) rfl (by kernel_rfl) (by kernel_rfl) (by kernel_rfl) (fun _ _ _ h => h) (Or.inr ⟨by rfl, rfl⟩) (by assumption) ?_; (try simp only [List.getElem_toArray]); (try simp only [List.getElem_cons_succ]); (try simp only [List.getElem_cons_zero]); (try simp only [Act.put]); (try simp only [List.setIfInBounds_toArray]); (try simp only [List.set_cons_succ]); (try simp only [List.set_cons_zero]))
                  (refine wpAnyH_take (i := 19) (v := ?_) rfl (by kernel_rfl) (by kernel_rfl) (by kernel_rfl) (fun _ _ _ h => h) (Or.inl ⟨by rfl, ?_⟩) (by assumption) ?_; rotate_left; (focus (intro w' hSw; go_simp; try with_reducible rfl)); (try simp only [List.getElem_toArray]); (try simp only [List.getElem_cons_succ]); (try simp only [List.getElem_cons_zero]); (try simp only [Act.put]); (try simp only [List.setIfInBounds_toArray]); (try simp only [List.set_cons_succ]); (try simp only [List.set_cons_zero]))
                  (refine wpAnyH_take (i := 20) (v := ?_) rfl (by kernel_rfl) (by kernel_rfl) (by kernel_rfl) (fun _ _ _ h => h) (Or.inl ⟨by rfl, ?_⟩) (by assumption) ?_; rotate_left; (focus (intro w' hSw; go_simp; try with_reducible rfl)); (try simp only [List.getElem_toArray]); (try simp only [List.getElem_cons_succ]); (try simp only [List.getElem_cons_zero]); (try simp only [Act.put]); (try simp only [List.setIfInBounds_toArray]); (try simp only [List.set_cons_succ]); (try simp only [List.set_cons_zero]))
                  (refine wpAnyH_take (i := 21) (v := ?_) rfl (by kernel_rfl) (by kernel_rfl) (by kernel_rfl) (fun _ _ _ h => h) (Or.inl ⟨by rfl, ?_⟩) (by assumption) ?_; rotate_left; (focus (intro w' hSw; go_simp; try with_reducible rfl)); (try simp only [List.getElem_toArray]); (try simp only [List.getElem_cons_succ]); (try simp only [List.getElem_cons_zero]); (try simp only [Act.put]); (try simp only [List.setIfInBounds_toArray]); (try simp only [List.set_cons_succ]); (try simp only [List.set_cons_zero]))
                  (refine wpAnyH_take (i := 22) (v := ?_) rfl (by kernel_rfl) (by kernel_rfl) (by kernel_rfl) (fun _ _ _ h => h) (Or.inl ⟨by rfl, ?_⟩) (by assumption) ?_; rotate_left; (focus (intro w' hSw; go_simp; try with_reducible rfl)); (try simp only [List.getElem_toArray]); (try simp only [List.getElem_cons_succ]); (try simp only [List.getElem_cons_zero]); (try simp only [Act.put]); (try simp only [List.setIfInBounds_toArray]); (try simp only [List.set_cons_succ]); (try simp only [List.set_cons_zero]))
                  (refine wpAnyH_take (i := 23) (v := ?_) rfl (by kernel_rfl) (by kernel_rfl) (by kernel_rfl) (fun _ _ _ h => h) (Or.inl ⟨by rfl, ?_⟩) (by assumption) ?_; rotate_left; (focus (intro w' hSw; have kc := cell_ext hSw c0; go_simp; try with_reducible rfl)); (try simp only [List.getElem_toArray]); (try simp only [List.getElem_cons_succ]); (try simp only [List.getElem_cons_zero]); (try simp only [Act.put]); (try simp only [List.setIfInBounds_toArray]); (try simp only [List.set_cons_succ]); (try simp only [List.set_cons_zero]))
                  (refine wpAnyH_take (i := 24) (v := ?_) rfl (by kernel_rfl) (by kernel_rfl) (by kernel_rfl) (fun _ _ _ h => h) (Or.inl ⟨by rfl, ?_⟩) (by assumption) ?_; rotate_left; (focus (intro w' hSw; go_simp; try with_reducible rfl)); (try simp only [List.getElem_toArray]); (try simp only [List.getElem_cons_succ]); (try simp only [List.getElem_cons_zero]); (try simp only [Act.put]); (try simp only [List.setIfInBounds_toArray]); (try simp only [List.set_cons_succ]); (try simp only [List.set_cons_zero]))
                  (refine wpAnyH_take (i := 25) (v := ?_) rfl (by kernel_rfl) (by kernel_rfl) (by kernel_rfl) (fun _ _ _ h => h) (Or.inl ⟨by rfl, ?_⟩) (by assumption) ?_; rotate_left; (focus (intro w' hSw; have kc := (b3.out.ext hSw).two; go_simp; try with_reducible rfl)); (try simp only [List.getElem_toArray]); (try simp only [List.getElem_cons_succ]); (try simp only [List.getElem_cons_zero]); (try simp only [Act.put]); (try simp only [List.setIfInBounds_toArray]); (try simp only [List.set_cons_succ]); (try simp only [List.set_cons_zero]))
                  (refine wpAnyH_take (i := 26) (v := ?_) rfl (by kernel_rfl) (by kernel_rfl) (by kernel_rfl) (fun _ _ _ h => h) (Or.inl ⟨by rfl, ?_⟩) (by assumption) ?_; rotate_left; (focus (intro w' hSw; go_simp; try with_reducible rfl)); (try simp only [List.getElem_toArray]); (try simp only [List.getElem_cons_succ]); (try simp only [List.getElem_cons_zero]); (try simp only [Act.put]); (try simp only [List.setIfInBounds_toArray]); (try simp only [List.set_cons_succ]); (try simp only [List.set_cons_zero]))
                  (refine wpAnyH_take (i := 27) (v := ?_) rfl (by kernel_rfl) (by kernel_rfl) (by kernel_rfl) (fun _ _ _ h => h) (Or.inl ⟨by rfl, ?_⟩) (by assumption) ?_; rotate_left; (focus (intro w' hSw; go_simp; try with_reducible rfl)); (try simp only [List.getElem_toArray]); (try simp only [List.getElem_cons_succ]); (try simp only [List.getElem_cons_zero]); (try simp only [Act.put]); (try simp only [List.setIfInBounds_toArray]); (try simp only [List.set_cons_succ]); (try simp only [List.set_cons_zero]))
                  refine wpAnyH_done (by kernel_rfl) ?_ _
                  go_wp2_with fail
                  go_meet
                  exact ⟨by rw [decide_eq_false (by omega)], hHeld⟩
                · obtain ⟨p1, hp1⟩ : ∃ p1, L[t]? = some p1 := ⟨_, List.getElem?_eq_getElem (by have := HLL.out; omega)⟩
                  obtain ⟨b', off', p', hAd, hd', hok', hcell'⟩ := pr_at (R8.out.ext E1r.out) (show t < n2 by omega)
                  cases hAd
                  obtain rfl : p' = p1 := by have := hd'.out; rw [hp1] at this; exact (Option.some.inj this).symm
                  have d0 := (prAt_of hok' hcell'.out).c0
                  have hlt : ¬ (p.pid ≤ p'.pid) := by
                    have := rise_at (right_rise I1.right).2.2 hp1 HD.out
                    omega
                  have hkw2 : IntKind.i64.wrap ((t : Int) + 1 - 1) = (t : Int) := by rw [show (t : Int) + 1 - 1 = (t : Int) by omega]; exact IntWalk.i64_in _ (by omega)
                  have hkw3 : IntKind.i64.wrap (t : Int) = (t : Int) := IntWalk.i64_in _ (by omega)
                  have hk1 : (t : Int) < (n2 : Int) := by omega
                  have hk0 : (0 : Int) < (t : Int) + 1 := by omega
                  clear hp1 hd' hcell'
                  refine wp_region_held_drew (S := fun w' => Ext w11 w') (by kernel_rfl) (Ext.drew (Ext.refl _)) (fun hHeld => ?_)
                  (refine wpAnyH_take (i := 0) (v := ?_) rfl (by kernel_rfl) (by kernel_rfl) (by kernel_rfl) (fun _ _ _ h => h) (Or.inl ⟨by rfl, ?_⟩) (by assumption) ?_; rotate_left; (focus (intro w' hSw; go_simp; try with_reducible rfl)); (try simp only [List.getElem_toArray]); (try simp only [List.getElem_cons_succ]); (try simp only [List.getElem_cons_zero]); (try simp only [Act.put]); (try simp only [List.setIfInBounds_toArray]); (try simp only [List.set_cons_succ]); (try simp only [List.set_cons_zero]))
                  (refine wpAnyH_take (i := 1) (v := ?_) rfl (by kernel_rfl) (by kernel_rfl) (by kernel_rfl) (fun _ _ _ h => h) (Or.inl ⟨by rfl, ?_⟩) (by assumption) ?_; rotate_left; (focus (intro w' hSw; go_simp; try with_reducible rfl)); (try simp only [List.getElem_toArray]); (try simp only [List.getElem_cons_succ]); (try simp only [List.getElem_cons_zero]); (try simp only [Act.put]); (try simp only [List.setIfInBounds_toArray]); (try simp only [List.set_cons_succ]); (try simp only [List.set_cons_zero]))
                  (refine wpAnyH_take (i := 2) (v := ?_) rfl (by kernel_rfl) (by kernel_rfl) (by kernel_rfl) (fun _ _ _ h => h) (Or.inl ⟨by rfl, ?_⟩) (by assumption) ?_; rotate_left; (focus (intro w' hSw; have kc := cell_ext hSw c0; go_simp; try with_reducible rfl)); (try simp only [List.getElem_toArray]); (try simp only [List.getElem_cons_succ]); (try simp only [List.getElem_cons_zero]); (try simp only [Act.put]); (try simp only [List.setIfInBounds_toArray]); (try simp only [List.set_cons_succ]); (try simp only [List.set_cons_zero]))
                  (refine wpAnyH_take (i := 3) (v := ?_) rfl (by kernel_rfl) (by kernel_rfl) (by kernel_rfl) (fun _ _ _ h => h) (Or.inl ⟨by rfl, ?_⟩) (by assumption) ?_; rotate_left; (focus (intro w' hSw; have kc := up_look (owns_ext og.out hSw) hpw; rw [decide_eq_true hin] at kc; go_simp; try with_reducible rfl)); (try simp only [List.getElem_toArray]); (try simp only [List.getElem_cons_succ]); (try simp only [List.getElem_cons_zero]); (try simp only [Act.put]); (try simp only [List.setIfInBounds_toArray]); (try simp only [List.set_cons_succ]); (try simp only [List.set_cons_zero]))
                  (refine wpAnyH_take (i := 4) (v := ?_) rfl (by kernel_rfl) (by kernel_rfl) (by kernel_rfl) (fun _ _ _ h => h) (Or.inl ⟨by rfl, ?_⟩) (by assumption) ?_; rotate_left; (focus (intro w' hSw; go_simp; try with_reducible rfl)); (try simp only [List.getElem_toArray]); (try simp only [List.getElem_cons_succ]); (try simp only [List.getElem_cons_zero]); (try simp only [Act.put]); (try simp only [List.setIfInBounds_toArray]); (try simp only [List.set_cons_succ]); (try simp only [List.set_cons_zero]))
                  (refine wpAnyH_take (i := 5) (v := ?_) rfl (by kernel_rfl) (by kernel_rfl) (by kernel_rfl) (fun _ _ _ h => h) (Or.inl ⟨by rfl, ?_⟩) (by assumption) ?_; rotate_left; (focus (intro w' hSw; go_simp; try with_reducible rfl)); (try simp only [List.getElem_toArray]); (try simp only [List.getElem_cons_succ]); (try simp only [List.getElem_cons_zero]); (try simp only [Act.put]); (try simp only [List.setIfInBounds_toArray]); (try simp only [List.set_cons_succ]); (try simp only [List.set_cons_zero]))
                  (refine wpAnyH_take (i := 6) (v := ?_) rfl (by kernel_rfl) (by kernel_rfl) (by kernel_rfl) (fun _ _ _ h => h) (Or.inl ⟨by rfl, ?_⟩) (by assumption) ?_; rotate_left; (focus (intro w' hSw; go_simp; try with_reducible rfl)); (try simp only [List.getElem_toArray]); (try simp only [List.getElem_cons_succ]); (try simp only [List.getElem_cons_zero]); (try simp only [Act.put]); (try simp only [List.setIfInBounds_toArray]); (try simp only [List.set_cons_succ]); (try simp only [List.set_cons_zero]))
                  (refine wpAnyH_take (i := 7) (v := ?_) rfl (by kernel_rfl) (by kernel_rfl) (by kernel_rfl) (fun _ _ _ h => h) (Or.inl ⟨by rfl, ?_⟩) (by assumption) ?_; rotate_left; (focus (intro w' hSw; go_simp; try with_reducible rfl)); (try simp only [List.getElem_toArray]); (try simp only [List.getElem_cons_succ]); (try simp only [List.getElem_cons_zero]); (try simp only [Act.put]); (try simp only [List.setIfInBounds_toArray]); (try simp only [List.set_cons_succ]); (try simp only [List.set_cons_zero]))
                  (refine wpAnyH_take (i := 8) (v := ?_) rfl (by kernel_rfl) (by kernel_rfl) (by kernel_rfl) (fun _ _ _ h => h) (Or.inl ⟨by rfl, ?_⟩) (by assumption) ?_; rotate_left; (focus (intro w' hSw; go_simp; try with_reducible rfl)); (try simp only [List.getElem_toArray]); (try simp only [List.getElem_cons_succ]); (try simp only [List.getElem_cons_zero]); (try simp only [Act.put]); (try simp only [List.setIfInBounds_toArray]); (try simp only [List.set_cons_succ]); (try simp only [List.set_cons_zero]))
                  (refine wpAnyH_take (i := 9) (v := ?_) rfl (by kernel_rfl) (by kernel_rfl) (by kernel_rfl) (fun _ _ _ h => h) (Or.inl ⟨by rfl, ?_⟩) (by assumption) ?_; rotate_left; (focus (intro w' hSw; go_simp; try with_reducible rfl)); (try simp only [List.getElem_toArray]); (try simp only [List.getElem_cons_succ]); (try simp only [List.getElem_cons_zero]); (try simp only [Act.put]); (try simp only [List.setIfInBounds_toArray]); (try simp only [List.set_cons_succ]); (try simp only [List.set_cons_zero]))
                  (refine wpAnyH_take (i := 10) (v := ?_) rfl (by kernel_rfl) (by kernel_rfl) (by kernel_rfl) (fun _ _ _ h => h) (Or.inl ⟨by rfl, ?_⟩) (by assumption) ?_; rotate_left; (focus (intro w' hSw; have kc := cell_ext hSw c0; go_simp; try with_reducible rfl)); (try simp only [List.getElem_toArray]); (try simp only [List.getElem_cons_succ]); (try simp only [List.getElem_cons_zero]); (try simp only [Act.put]); (try simp only [List.setIfInBounds_toArray]); (try simp only [List.set_cons_succ]); (try simp only [List.set_cons_zero]))
                  (refine wpAnyH_take (i := 11) (v := ?_) rfl (by kernel_rfl) (by kernel_rfl) (by kernel_rfl) (fun _ _ _ h => h) (Or.inl ⟨by rfl, ?_⟩) (by assumption) ?_; rotate_left; (focus (intro w' hSw; go_simp; try with_reducible rfl)); (try simp only [List.getElem_toArray]); (try simp only [List.getElem_cons_succ]); (try simp only [List.getElem_cons_zero]); (try simp only [Act.put]); (try simp only [List.setIfInBounds_toArray]); (try simp only [List.set_cons_succ]); (try simp only [List.set_cons_zero]))
                  (refine wpAnyH_take (i := 12) (v := ?_) rfl (by kernel_rfl) (by kernel_rfl) (by kernel_rfl) (fun _ _ _ h => h) (Or.inl ⟨by rfl, ?_⟩) (by assumption) ?_; rotate_left; (focus (intro w' hSw; have kc := (b3.out.ext hSw).two; go_simp; try with_reducible rfl)); (try simp only [List.getElem_toArray]); (try simp only [List.getElem_cons_succ]); (try simp only [List.getElem_cons_zero]); (try simp only [Act.put]); (try simp only [List.setIfInBounds_toArray]); (try simp only [List.set_cons_succ]); (try simp only [List.set_cons_zero]))
                  (refine wpAnyH_take (i := 13) (v := ?_) rfl (by kernel_rfl) (by kernel_rfl) (by kernel_rfl) (fun _ _ _ h => h) (Or.inl ⟨by rfl, ?_⟩) (by assumption) ?_; rotate_left; (focus (intro w' hSw; go_simp; try with_reducible rfl)); (try simp only [List.getElem_toArray]); (try simp only [List.getElem_cons_succ]); (try simp only [List.getElem_cons_zero]); (try simp only [Act.put]); (try simp only [List.setIfInBounds_toArray]); (try simp only [List.set_cons_succ]); (try simp only [List.set_cons_zero]))
                  (refine wpAnyH_take (i := 14) (v := ?_) rfl (by kernel_rfl) (by kernel_rfl) (by kernel_rfl) (fun _ _ _ h => h) (Or.inl ⟨by rfl, ?_⟩) (by assumption) ?_; rotate_left; (focus (intro w' hSw; go_simp; try with_reducible rfl)); (try simp only [List.getElem_toArray]); (try simp only [List.getElem_cons_succ]); (try simp only [List.getElem_cons_zero]); (try simp only [Act.put]); (try simp only [List.setIfInBounds_toArray]); (try simp only [List.set_cons_succ]); (try simp only [List.set_cons_zero]))
                  (refine wpAnyH_take (i := 15) (v := ?_) rfl (by kernel_rfl) (by kernel_rfl) (by kernel_rfl) (fun _ _ _ h => h) (Or.inl ⟨by rfl, ?_⟩) (by assumption) ?_; rotate_left; (focus (intro w' hSw; go_simp; try with_reducible rfl)); (try simp only [List.getElem_toArray]); (try simp only [List.getElem_cons_succ]); (try simp only [List.getElem_cons_zero]); (try simp only [Act.put]); (try simp only [List.setIfInBounds_toArray]); (try simp only [List.set_cons_succ]); (try simp only [List.set_cons_zero]))
                  (refine wpAnyH_take (i := 16) (v := ?_) rfl (by kernel_rfl) (by kernel_rfl) (by kernel_rfl) (fun _ _ _ h => h) (Or.inl ⟨by rfl, ?_⟩) (by assumption) ?_; rotate_left; (focus (intro w' hSw; go_simp; try with_reducible rfl)); (try simp only [List.getElem_toArray]); (try simp only [List.getElem_cons_succ]); (try simp only [List.getElem_cons_zero]); (try simp only [Act.put]); (try simp only [List.setIfInBounds_toArray]); (try simp only [List.set_cons_succ]); (try simp only [List.set_cons_zero]))
                  (refine wpAnyH_take (i := 17) (v := ?_) rfl (by kernel_rfl) (by kernel_rfl) (by kernel_rfl) (fun _ _ _ h => h) (Or.inl ⟨by rfl, ?_⟩) (by assumption) ?_; rotate_left; (focus (intro w' hSw; have kc := cell_ext (Ext.trans Er hSw) d0; go_simp; try with_reducible rfl)); (try simp only [List.getElem_toArray]); (try simp only [List.getElem_cons_succ]); (try simp only [List.getElem_cons_zero]); (try simp only [Act.put]); (try simp only [List.setIfInBounds_toArray]); (try simp only [List.set_cons_succ]); (try simp only [List.set_cons_zero]))
                  (refine wpAnyH_take (i := 18) (v := ?_) rfl (by kernel_rfl) (by kernel_rfl) (by kernel_rfl) (fun _ _ _ h => h) (Or.inl ⟨by rfl, ?_⟩) (by assumption) ?_; rotate_left; (focus (intro w' hSw; go_simp; try with_reducible rfl)); (try simp only [List.getElem_toArray]); (try simp only [List.getElem_cons_succ]); (try simp only [List.getElem_cons_zero]); (try simp only [Act.put]); (try simp only [List.setIfInBounds_toArray]); (try simp only [List.set_cons_succ]); (try simp only [List.set_cons_zero]))
                  (refine wpAnyH_take (i := 19) (v := ?_) rfl (by kernel_rfl) (by kernel_rfl) (by kernel_rfl) (fun _ _ _ h => h) (Or.inl ⟨by rfl, ?_⟩) (by assumption) ?_; rotate_left; (focus (intro w' hSw; go_simp; try with_reducible rfl)); (try simp only [List.getElem_toArray]); (try simp only [List.getElem_cons_succ]); (try simp only [List.getElem_cons_zero]); (try simp only [Act.put]); (try simp only [List.setIfInBounds_toArray]); (try simp only [List.set_cons_succ]); (try simp only [List.set_cons_zero]))
                  (refine wpAnyH_take (i := 20) (v := ?_) rfl (by kernel_rfl) (by kernel_rfl) (by kernel_rfl) (fun _ _ _ h => h) (Or.inl ⟨by rfl, ?_⟩) (by assumption) ?_; rotate_left; (focus (intro w' hSw; go_simp; try with_reducible rfl)); (try simp only [List.getElem_toArray]); (try simp only [List.getElem_cons_succ]); (try simp only [List.getElem_cons_zero]); (try simp only [Act.put]); (try simp only [List.setIfInBounds_toArray]); (try simp only [List.set_cons_succ]); (try simp only [List.set_cons_zero]))
                  (refine wpAnyH_take (i := 21) (v := ?_) rfl (by kernel_rfl) (by kernel_rfl) (by kernel_rfl) (fun _ _ _ h => h) (Or.inl ⟨by rfl, ?_⟩) (by assumption) ?_; rotate_left; (focus (intro w' hSw; go_simp; try with_reducible rfl)); (try simp only [List.getElem_toArray]); (try simp only [List.getElem_cons_succ]); (try simp only [List.getElem_cons_zero]); (try simp only [Act.put]); (try simp only [List.setIfInBounds_toArray]); (try simp only [List.set_cons_succ]); (try simp only [List.set_cons_zero]))
                  (refine wpAnyH_take (i := 22) (v := ?_) rfl (by kernel_rfl) (by kernel_rfl) (by kernel_rfl) (fun _ _ _ h => h) (Or.inl ⟨by rfl, ?_⟩) (by assumption) ?_; rotate_left; (focus (intro w' hSw; go_simp; try with_reducible rfl)); (try simp only [List.getElem_toArray]); (try simp only [List.getElem_cons_succ]); (try simp only [List.getElem_cons_zero]); (try simp only [Act.put]); (try simp only [List.setIfInBounds_toArray]); (try simp only [List.set_cons_succ]); (try simp only [List.set_cons_zero]))
                  (refine wpAnyH_take (i := 23) (v := ?_) rfl (by kernel_rfl) (by kernel_rfl) (by kernel_rfl) (fun _ _ _ h => h) (Or.inl ⟨by rfl, ?_⟩) (by assumption) ?_; rotate_left; (focus (intro w' hSw; have kc := cell_ext hSw c0; go_simp; try with_reducible rfl)); (try simp only [List.getElem_toArray]); (try simp only [List.getElem_cons_succ]); (try simp only [List.getElem_cons_zero]); (try simp only [Act.put]); (try simp only [List.setIfInBounds_toArray]); (try simp only [List.set_cons_succ]); (try simp only [List.set_cons_zero]))
                  (refine wpAnyH_take (i := 24) (v := ?_) rfl (by kernel_rfl) (by kernel_rfl) (by kernel_rfl) (fun _ _ _ h => h) (Or.inl ⟨by rfl, ?_⟩) (by assumption) ?_; rotate_left; (focus (intro w' hSw; go_simp; try with_reducible rfl)); (try simp only [List.getElem_toArray]); (try simp only [List.getElem_cons_succ]); (try simp only [List.getElem_cons_zero]); (try simp only [Act.put]); (try simp only [List.setIfInBounds_toArray]); (try simp only [List.set_cons_succ]); (try simp only [List.set_cons_zero]))
                  (refine wpAnyH_take (i := 25) (v := ?_) rfl (by kernel_rfl) (by kernel_rfl) (by kernel_rfl) (fun _ _ _ h => h) (Or.inl ⟨by rfl, ?_⟩) (by assumption) ?_; rotate_left; (focus (intro w' hSw; have kc := (b3.out.ext hSw).two; go_simp; try with_reducible rfl)); (try simp only [List.getElem_toArray]); (try simp only [List.getElem_cons_succ]); (try simp only [List.getElem_cons_zero]); (try simp only [Act.put]); (try simp only [List.setIfInBounds_toArray]); (try simp only [List.set_cons_succ]); (try simp only [List.set_cons_zero]))
                  (refine wpAnyH_take (i := 26) (v := ?_) rfl (by kernel_rfl) (by kernel_rfl) (by kernel_rfl) (fun _ _ _ h => h) (Or.inl ⟨by rfl, ?_⟩) (by assumption) ?_; rotate_left; (focus (intro w' hSw; go_simp; try with_reducible rfl)); (try simp only [List.getElem_toArray]); (try simp only [List.getElem_cons_succ]); (try simp only [List.getElem_cons_zero]); (try simp only [Act.put]); (try simp only [List.setIfInBounds_toArray]); (try simp only [List.set_cons_succ]); (try simp only [List.set_cons_zero]))
                  (refine wpAnyH_take (i := 27) (v := ?_) rfl (by kernel_rfl) (by kernel_rfl) (by kernel_rfl) (fun _ _ _ h => h) (Or.inl ⟨by rfl, ?_⟩) (by assumption) ?_; rotate_left; (focus (intro w' hSw; go_simp; try with_reducible rfl)); (try simp only [List.getElem_toArray]); (try simp only [List.getElem_cons_succ]); (try simp only [List.getElem_cons_zero]); (try simp only [Act.put]); (try simp only [List.setIfInBounds_toArray]); (try simp only [List.set_cons_succ]); (try simp only [List.set_cons_zero]))
                  refine wpAnyH_done (by kernel_rfl) ?_ _
                  go_wp2_with fail
                  go_meet
                  exact ⟨by rw [decide_eq_false (by omega)], hHeld⟩
              case rest =>
                obtain ⟨rfl, Ec⟩ := hcut
                obtain ⟨w12, hw12⟩ : ∃ w12, w12 = wc := ⟨_, rfl⟩
                subst hw12
                have b3 := Lib.hid (b3.out.ext Ec)
                have b10 := Lib.hid (b10.out.ext Ec)
                have rl := Lib.hid (rl.out.ext Ec)
                have OS := Lib.hid (owns_ext OS.out Ec)
                have E12 := Lib.hid (E11.out.trans Ec)
                have hat := prAt_blk hok b10.out
                have c1 := hat.c1
                have c2 := hat.c2
                have c3 := hat.c3
                have c4 := hat.c4
                have kb := b3.out.two
                have hLiv := live_any (A := fun _ => False) _ c2' L nx' p.parent w12 (by rw [HLL.out]; exact rl.out)
                rw [HLL.out] at hLiv
                have HLIV := Lib.hid hLiv
                clear Ec hat hLiv og E11 c0
                clear b10
                go_upto_region 24 with fail
                go_cut [112] (fun s wx => s = .bool false ∧ Ext w12 wx)
                case first =>
                  by_cases h0 : p.parent = 0
                  · have h3 : ¬ p.state = 3 := fun h3 => absurd h0 (I1.zom p hpl (by unfold liveP; rw [h3]; rfl))
                    have h3b : (p.state == 3) = false := by simpa using h3
                    go_wp2_with fail
                    go_meet
                    exact ⟨rfl, Ext.refl _⟩
                  · have hlive : liveL L nx' p.parent = true := by
                      rcases I1.par p hpl with he | ⟨q, hq, he, hl⟩
                      · exact absurd he h0
                      · unfold liveL
                        rw [I1.right, Bool.true_and, List.any_eq_true]
                        exact ⟨q, hq, by rw [hl, he]; simp⟩
                    rw [hlive] at HLIV
                    have h0b : (p.parent == 0) = false := by simpa using h0
                    by_cases h3 : p.state = 3
                    · go_wp2_with fail
                      refine HLIV.out.mono ?_
                      rintro e w13 ⟨rfl, E13⟩
                      have c1 := cell_ext E13 c1
                      have c4 := cell_ext E13 c4
                      go_wp2_with fail
                      go_meet
                      exact ⟨rfl, E13⟩
                    · have h3b : (p.state == 3) = false := by simpa using h3
                      go_wp2_with fail
                      refine HLIV.out.mono ?_
                      rintro e w13 ⟨rfl, E13⟩
                      have c1 := cell_ext E13 c1
                      have c4 := cell_ext E13 c4
                      go_wp2_with fail
                      go_meet
                      exact ⟨rfl, E13⟩
                case rest =>
                  obtain ⟨rfl, Ec⟩ := hcut
                  obtain ⟨w14, hw14⟩ : ∃ w14, w14 = wc := ⟨_, rfl⟩
                  subst hw14
                  have b3 := Lib.hid (b3.out.ext Ec)
                  have rl := Lib.hid (rl.out.ext Ec)
                  have OS := Lib.hid (owns_ext OS.out Ec)
                  have E14 := Lib.hid (E12.out.trans Ec)
                  have c2 := cell_ext Ec c2
                  have c3 := cell_ext Ec c3
                  have c4 := cell_ext Ec c4
                  have htk : L.take (j + 1) = L.take j ++ [p] := by rw [List.take_add_one, HD.out]; rfl
                  have HTK := Lib.hid htk
                  clear Ec E12 HLIV c1 kb htk
                  by_cases h3 : ¬ p.state = 3
                  · have h3b : (p.state == 3) = false := by simpa using h3
                    have HLP := Lib.hid (show liveP p = true by unfold liveP; rw [bne, h3b]; rfl)
                    cases hh : Maps.has D (.int .i64 p.group)
                    · go_wp2_with (first
                        | (at_lookup; refine wpList_lookup_own_ok_int _ rfl _ _ 77 rfl 3 3 .i64 keyed_int Try.underlying77 Try.underlying3 (zero_int _) (w8).heap.size j D rfl OS.out _ _ rfl (keyOf_int_mk Try.underlying3 hgw) ?_; intro cv hat hwc; clear hat hwc)
                        | (at_mapUpdate; refine wpList_mapUpdate_own _ rfl _ _ _ 77 rfl 3 3 keyed_int Try.underlying77 _ (w8).heap.size j _ rfl OS.out (by unfold maxLen; omega) _ _ _ rfl rfl (keyOf_int_mk Try.underlying3 hgw) _ [] (plainElem_int Try.underlying3 hsw) ?_; intro w15 own15 grow15; have OS := Lib.hid own15; have E15 := Lib.hid (Ext.grownNew E14.out grow15 (fun k hk => by cases hk; exact Nat.le_refl _)); clear grow15 own15 E14 b3 rl))
                      go_roundw
                      case rel => exact ⟨j + 1, _, by omega, by go_num, OS, Lib.hid (by rw [HTK.out]; exact ses_put HS.out HLP.out), E15⟩
                      case measure => simp [intOf]; omega
                    · go_wp2_with (first
                        | (at_lookup; refine wpList_lookup_own_ok_int _ rfl _ _ 77 rfl 3 3 .i64 keyed_int Try.underlying77 Try.underlying3 (zero_int _) (w8).heap.size j D rfl OS.out _ _ rfl (keyOf_int_mk Try.underlying3 hgw) ?_; intro cv hat hwc; obtain rfl : cv = p.session := (by obtain ⟨q, hq, hql, hqg, hqa⟩ := HS.out.2 _ hh; rw [hqa] at hat; cases hat; exact I1.ses q (List.mem_of_mem_take hq) p hpl hql HLP.out hqg); clear hat hwc)
                        | (at_mapUpdate; refine wpList_mapUpdate_own _ rfl _ _ _ 77 rfl 3 3 keyed_int Try.underlying77 _ (w8).heap.size j _ rfl OS.out (by unfold maxLen; omega) _ _ _ rfl rfl (keyOf_int_mk Try.underlying3 hgw) _ [] (plainElem_int Try.underlying3 hsw) ?_; intro w15 own15 grow15; have OS := Lib.hid own15; have E15 := Lib.hid (Ext.grownNew E14.out grow15 (fun k hk => by cases hk; exact Nat.le_refl _)); clear grow15 own15 E14 b3 rl))
                      go_roundw
                      case rel => exact ⟨j + 1, _, by omega, by go_num, OS, Lib.hid (by rw [HTK.out]; exact ses_put HS.out HLP.out), E15⟩
                      case measure => simp [intOf]; omega
                  · have h3 : p.state = 3 := by omega
                    cases hh : Maps.has D (.int .i64 p.group)
                    all_goals
                      go_wp2_with (at_lookup; refine wpList_lookup_own_ok_int _ rfl _ _ 77 rfl 3 3 .i64 keyed_int Try.underlying77 Try.underlying3 (zero_int _) (w8).heap.size j D rfl OS.out _ _ rfl (keyOf_int_mk Try.underlying3 hgw) ?_; intro cv hat hwc; clear hat hwc)
                      go_roundw
                      case rel => exact ⟨j + 1, _, by omega, by go_num, Lib.hid (OS.out.mono (by omega)), Lib.hid (by rw [HTK.out]; exact ses_more HS.out), E14⟩
                      case measure => simp [intOf]; omega
            · go_wp2
              go_roundw
              case rel => exact ⟨m + 1, L, nx', A2, c2', n2, G, by omega, by go_num, Lib.hid (G3.out.ext E1r.out), HLL, Lib.hid (R8.out.ext E1r.out), hIL, HN9, Lib.hid (owns_ext OG9.out E1r.out), HG9, Lib.hid (E8.out.trans E1r.out)⟩
              case measure => simp [intOf]; omega
        · replace hsp := hsp.resolve_right (fun h => h.1 (by simpa using HNB.out.symm))
          obtain ⟨h1, e0, hN, e1, h2⟩ := hsp
          replace hN := hN.symm
          subst hN
          replace e1 := e1.trans hnn
          have hnin : decide (nx ∈ G) = false := decide_eq_false fun hi => by have := HG.out.2 nx hi; omega
          have hnw : Wf nx := wf_small (by have := (right_rise HI1.right).1; omega) (by omega)
          have hlk := up_look O8.out hnw
          rw [hnin] at hlk
          have HG9 := Lib.hid (show (∀ p ∈ L, p.pid ∈ G ++ [nx]) ∧ ∀ x ∈ G ++ [nx], x < nx' from ⟨fun p hp => by
            rcases h2 p hp with he | ⟨q, hq, he⟩
            · rw [he]; simp
            · rw [← he]; exact List.mem_append.2 (.inl (HG.out.1 q hq)), fun x hx => by
            rcases List.mem_append.1 hx with hx | hx
            · have := HG.out.2 x hx; omega
            · simp at hx; omega⟩)
          have HN9 := Lib.hid (show nx' ≤ ((m + 1 : Nat) : Int) + 1 by rw [e1]; omega)
          have c70 := G7.out.cell 0
          clear h1 e0 h2 e1 hnn hnin kA HNB HSS
          go_wp2_with (at_mapUpdate; refine wpList_mapUpdate_own _ rfl _ _ _ 52 rfl 3 4 keyed_int Try.underlying52 _ (w1.heap.size + 1) m _ rfl O8.out (by unfold maxLen; omega) _ _ _ rfl rfl (keyOf_int_mk Try.underlying3 hnw) _ [] (plainElem_bool Try.underlying4 true) ?_; intro w9 own9 grow9; have M9 := Lib.hid (grown_to_mod grow9); have G3 := Lib.hid (G3.out.mod M9.out (by show ¬ (_ = _); omega)); have kb := G3.out.two; have kA := (G3.out.alloc (.map #[] 0)).two; have R9 := Lib.hid (rdy_mod R8.out M9.out (fun k hk o _ => by cases hk; exact map_cells O8.out o)); have OG9 := Lib.hid (show w9.ownsMap Try.prog 3 (plainElem Try.prog 4) (w1.heap.size + 1) (m + 1) (upD (G ++ [nx])) by rw [upD_snoc]; exact own9); have E9 := Lib.hid (Ext.grownNew E8.out grow9 (fun k hk => by cases hk; have := hwz.out; omega)); clear own9 grow9 M9 hlk c70 O8 R8 E8 G7 G6)
          obtain ⟨wq, hwq⟩ : ∃ wq, wq = wr := ⟨_, rfl⟩
          subst hwq
          have OS0 := Lib.hid (World.ownsMap_made w9 Try.prog 3 (plainElem (H := Unit) Try.prog 3))
          go_loopw [60] (fun i wr => ∃ (j : Nat) (D : DataW Unit), j ≤ n2 ∧ i = .int .i64 j ∧ Hid (wr.ownsMap Try.prog 3 (plainElem Try.prog 3) (w9).heap.size j D) ∧ Hid (Ses D (L.take j)) ∧ Hid (Ext w9 wr)) (fun i _ => n2 - (intOf i).toNat)
          case atStart => exact ⟨0, _, Nat.zero_le _, rfl, OS0, Lib.hid (by simpa using ses_start), Lib.hid ((Ext.refl _).alloc _)⟩
          case round =>
            clear OS0
            obtain ⟨j, D, hj, rfl, OS, HS, E1r⟩ := hrel
            by_cases hjn : j < n2
            · obtain ⟨pb, poff, p, rfl, hd, hok, hcell⟩ := pr_at (R9.out.ext E1r.out) hjn
              have hpl := List.mem_of_getElem? hd.out
              have b3 := Lib.hid (G3.out.ext E1r.out)
              have og := Lib.hid (owns_ext OG9.out E1r.out)
              have rl := Lib.hid (R9.out.ext E1r.out)
              have hin := HG9.out.1 p hpl
              obtain ⟨I1, I2⟩ := hIL.out
              have hbd := rise_mem (right_rise I1.right).2.2 p hpl
              have hpw : Wf p.pid := wf_small (by omega) (by have := (HN9).out; omega)
              obtain ⟨hgw, hsw⟩ := I2 p hpl
              have hge : ¬ (nx' ≤ p.pid) := by omega
              have HD := Lib.hid hd.out
              obtain ⟨n10, hn10⟩ : ∃ n10, wr.heap.size = n10 := ⟨_, rfl⟩
              clear hd hbd
              go_wp2_with (first
                | (refine wpList_load_mid rfl 43 _ rfl pb (poff + j * 43) rfl p.cells _ hcell.out Try.underlying43 rfl (i43' hok) ?_)
                | ((refine wpList_store_A rfl 43 _ _ rfl (n10) _ rfl rfl 43 _ (zero_row wr n10 hn10) (by rw [List.size_toArray]; exact i43' hok) (Eq.trans (b := 43) (by rfl) (Eq.symm (show (p).cells.toArray.size = 43 from Pr.size hok))) (Pr.one hok) ?_); intro w11 H11 E11; have Er : Ext wr w11 := E11 wr.heap.size wr ((Ext.refl wr).alloc _) (by omega); have b10 := Lib.hid H11; clear E11 H11))
              have c0 := (prAt_blk hok b10.out).c0
              have b3 := Lib.hid (b3.out.ext Er)
              have og := Lib.hid (owns_ext og.out Er)
              have rl := Lib.hid (rl.out.ext Er)
              have OS := Lib.hid (owns_ext OS.out Er)
              have E11 := Lib.hid (E1r.out.trans Er)
              clear hn10
              go_cut [92] (fun s wx => s = .bool false ∧ Ext w11 wx)
              case first =>
                rcases j with _ | t
                · refine wp_region_held_drew (S := fun w' => Ext w11 w') (by kernel_rfl) (Ext.drew (Ext.refl _)) (fun hHeld => ?_)
                  (refine wpAnyH_take (i := 0) (v := ?_) rfl (by kernel_rfl) (by kernel_rfl) (by kernel_rfl) (fun _ _ _ h => h) (Or.inl ⟨by rfl, ?_⟩) (by assumption) ?_; rotate_left; (focus (intro w' hSw; go_simp; try with_reducible rfl)); (try simp only [List.getElem_toArray]); (try simp only [List.getElem_cons_succ]); (try simp only [List.getElem_cons_zero]); (try simp only [Act.put]); (try simp only [List.setIfInBounds_toArray]); (try simp only [List.set_cons_succ]); (try simp only [List.set_cons_zero]))
                  (refine wpAnyH_take (i := 1) (v := ?_) rfl (by kernel_rfl) (by kernel_rfl) (by kernel_rfl) (fun _ _ _ h => h) (Or.inl ⟨by rfl, ?_⟩) (by assumption) ?_; rotate_left; (focus (intro w' hSw; go_simp; try with_reducible rfl)); (try simp only [List.getElem_toArray]); (try simp only [List.getElem_cons_succ]); (try simp only [List.getElem_cons_zero]); (try simp only [Act.put]); (try simp only [List.setIfInBounds_toArray]); (try simp only [List.set_cons_succ]); (try simp only [List.set_cons_zero]))
                  (refine wpAnyH_take (i := 2) (v := ?_) rfl (by kernel_rfl) (by kernel_rfl) (by kernel_rfl) (fun _ _ _ h => h) (Or.inl ⟨by rfl, ?_⟩) (by assumption) ?_; rotate_left; (focus (intro w' hSw; have kc := cell_ext hSw c0; go_simp; try with_reducible rfl)); (try simp only [List.getElem_toArray]); (try simp only [List.getElem_cons_succ]); (try simp only [List.getElem_cons_zero]); (try simp only [Act.put]); (try simp only [List.setIfInBounds_toArray]); (try simp only [List.set_cons_succ]); (try simp only [List.set_cons_zero]))
                  (refine wpAnyH_take (i := 3) (v := ?_) rfl (by kernel_rfl) (by kernel_rfl) (by kernel_rfl) (fun _ _ _ h => h) (Or.inl ⟨by rfl, ?_⟩) (by assumption) ?_; rotate_left; (focus (intro w' hSw; have kc := up_look (owns_ext og.out hSw) hpw; rw [decide_eq_true hin] at kc; go_simp; try with_reducible rfl)); (try simp only [List.getElem_toArray]); (try simp only [List.getElem_cons_succ]); (try simp only [List.getElem_cons_zero]); (try simp only [Act.put]); (try simp only [List.setIfInBounds_toArray]); (try simp only [List.set_cons_succ]); (try simp only [List.set_cons_zero]))
                  (refine wpAnyH_take (i := 4) (v := ?_) rfl (by kernel_rfl) (by kernel_rfl) (by kernel_rfl) (fun _ _ _ h => h) (Or.inl ⟨by rfl, ?_⟩) (by assumption) ?_; rotate_left; (focus (intro w' hSw; go_simp; try with_reducible rfl)); (try simp only [List.getElem_toArray]); (try simp only [List.getElem_cons_succ]); (try simp only [List.getElem_cons_zero]); (try simp only [Act.put]); (try simp only [List.setIfInBounds_toArray]); (try simp only [List.set_cons_succ]); (try simp only [List.set_cons_zero]))
                  (refine wpAnyH_take (i := 5) (v := ?_) rfl (by kernel_rfl) (by kernel_rfl) (by kernel_rfl) (fun _ _ _ h => h) (Or.inl ⟨by rfl, ?_⟩) (by assumption) ?_; rotate_left; (focus (intro w' hSw; go_simp; try with_reducible rfl)); (try simp only [List.getElem_toArray]); (try simp only [List.getElem_cons_succ]); (try simp only [List.getElem_cons_zero]); (try simp only [Act.put]); (try simp only [List.setIfInBounds_toArray]); (try simp only [List.set_cons_succ]); (try simp only [List.set_cons_zero]))
                  (refine wpAnyH_take (i := 6) (v := ?_) rfl (by kernel_rfl) (by kernel_rfl) (by kernel_rfl) (fun _ _ _ h => h) (Or.inl ⟨by rfl, ?_⟩) (by assumption) ?_; rotate_left; (focus (intro w' hSw; go_simp; try with_reducible rfl)); (try simp only [List.getElem_toArray]); (try simp only [List.getElem_cons_succ]); (try simp only [List.getElem_cons_zero]); (try simp only [Act.put]); (try simp only [List.setIfInBounds_toArray]); (try simp only [List.set_cons_succ]); (try simp only [List.set_cons_zero]))
                  (refine wpAnyH_take (i := 7) (v := ?_) rfl (by kernel_rfl) (by kernel_rfl) (by kernel_rfl) (fun _ _ _ h => h) (Or.inl ⟨by rfl, ?_⟩) (by assumption) ?_; rotate_left; (focus (intro w' hSw; go_simp; try with_reducible rfl)); (try simp only [List.getElem_toArray]); (try simp only [List.getElem_cons_succ]); (try simp only [List.getElem_cons_zero]); (try simp only [Act.put]); (try simp only [List.setIfInBounds_toArray]); (try simp only [List.set_cons_succ]); (try simp only [List.set_cons_zero]))
                  (refine wpAnyH_take (i := 8) (v := ?_) rfl (by kernel_rfl) (by kernel_rfl) (by kernel_rfl) (fun _ _ _ h => h) (Or.inl ⟨by rfl, ?_⟩) (by assumption) ?_; rotate_left; (focus (intro w' hSw; go_simp; try with_reducible rfl)); (try simp only [List.getElem_toArray]); (try simp only [List.getElem_cons_succ]); (try simp only [List.getElem_cons_zero]); (try simp only [Act.put]); (try simp only [List.setIfInBounds_toArray]); (try simp only [List.set_cons_succ]); (try simp only [List.set_cons_zero]))
                  (refine wpAnyH_take (i := 9) (v := undef) rfl (by kernel_rfl) (by kernel_rfl) (by kernel_rfl) (fun _ _ _ h => h) (Or.inr ⟨by rfl, rfl⟩) (by assumption) ?_; (try simp only [List.getElem_toArray]); (try simp only [List.getElem_cons_succ]); (try simp only [List.getElem_cons_zero]); (try simp only [Act.put]); (try simp only [List.setIfInBounds_toArray]); (try simp only [List.set_cons_succ]); (try simp only [List.set_cons_zero]))
                  (refine wpAnyH_take (i := 10) (v := undef) rfl (by kernel_rfl) (by kernel_rfl) (by kernel_rfl) (fun _ _ _ h => h) (Or.inr ⟨by rfl, rfl⟩) (by assumption) ?_; (try simp only [List.getElem_toArray]); (try simp only [List.getElem_cons_succ]); (try simp only [List.getElem_cons_zero]); (try simp only [Act.put]); (try simp only [List.setIfInBounds_toArray]); (try simp only [List.set_cons_succ]); (try simp only [List.set_cons_zero]))
                  (refine wpAnyH_take (i := 11) (v := undef) rfl (by kernel_rfl) (by kernel_rfl) (by kernel_rfl) (fun _ _ _ h => h) (Or.inr ⟨by rfl, rfl⟩) (by assumption) ?_; (try simp only [List.getElem_toArray]); (try simp only [List.getElem_cons_succ]); (try simp only [List.getElem_cons_zero]); (try simp only [Act.put]); (try simp only [List.setIfInBounds_toArray]); (try simp only [List.set_cons_succ]); (try simp only [List.set_cons_zero]))
                  (refine wpAnyH_take (i := 12) (v := undef) rfl (by kernel_rfl) (by kernel_rfl) (by kernel_rfl) (fun _ _ _ h => h) (Or.inr ⟨by rfl, rfl⟩) (by assumption) ?_; (try simp only [List.getElem_toArray]); (try simp only [List.getElem_cons_succ]); (try simp only [List.getElem_cons_zero]); (try simp only [Act.put]); (try simp only [List.setIfInBounds_toArray]); (try simp only [List.set_cons_succ]); (try simp only [List.set_cons_zero]))
                  (refine wpAnyH_take (i := 13) (v := undef) rfl (by kernel_rfl) (by kernel_rfl) (by kernel_rfl) (fun _ _ _ h => h) (Or.inr ⟨by rfl, rfl⟩) (by assumption) ?_; (try simp only [List.getElem_toArray]); (try simp only [List.getElem_cons_succ]); (try simp only [List.getElem_cons_zero]); (try simp only [Act.put]); (try simp only [List.setIfInBounds_toArray]); (try simp only [List.set_cons_succ]); (try simp only [List.set_cons_zero]))
                  (refine wpAnyH_take (i := 14) (v := undef) rfl (by kernel_rfl) (by kernel_rfl) (by kernel_rfl) (fun _ _ _ h => h) (Or.inr ⟨by rfl, rfl⟩) (by assumption) ?_; (try simp only [List.getElem_toArray]); (try simp only [List.getElem_cons_succ]); (try simp only [List.getElem_cons_zero]); (try simp only [Act.put]); (try simp only [List.setIfInBounds_toArray]); (try simp only [List.set_cons_succ]); (try simp only [List.set_cons_zero]))
                  (refine wpAnyH_take (i := 15) (v := undef) rfl (by kernel_rfl) (by kernel_rfl) (by kernel_rfl) (fun _ _ _ h => h) (Or.inr ⟨by rfl, rfl⟩) (by assumption) ?_; (try simp only [List.getElem_toArray]); (try simp only [List.getElem_cons_succ]); (try simp only [List.getElem_cons_zero]); (try simp only [Act.put]); (try simp only [List.setIfInBounds_toArray]); (try simp only [List.set_cons_succ]); (try simp only [List.set_cons_zero]))
                  (refine wpAnyH_take (i := 16) (v := undef) rfl (by kernel_rfl) (by kernel_rfl) (by kernel_rfl) (fun _ _ _ h => h) (Or.inr ⟨by rfl, rfl⟩) (by assumption) ?_; (try simp only [List.getElem_toArray]); (try simp only [List.getElem_cons_succ]); (try simp only [List.getElem_cons_zero]); (try simp only [Act.put]); (try simp only [List.setIfInBounds_toArray]); (try simp only [List.set_cons_succ]); (try simp only [List.set_cons_zero]))
                  (refine wpAnyH_take (i := 17) (v := undef) rfl (by kernel_rfl) (by kernel_rfl) (by kernel_rfl) (fun _ _ _ h => h) (Or.inr ⟨by rfl, rfl⟩) (by assumption) ?_; (try simp only [List.getElem_toArray]); (try simp only [List.getElem_cons_succ]); (try simp only [List.getElem_cons_zero]); (try simp only [Act.put]); (try simp only [List.setIfInBounds_toArray]); (try simp only [List.set_cons_succ]); (try simp only [List.set_cons_zero]))
                  (refine wpAnyH_take (i := 18) (v := undef) rfl (by kernel_rfl) (by kernel_rfl) (by kernel_rfl) (fun _ _ _ h => h) (Or.inr ⟨by rfl, rfl⟩) (by assumption) ?_; (try simp only [List.getElem_toArray]); (try simp only [List.getElem_cons_succ]); (try simp only [List.getElem_cons_zero]); (try simp only [Act.put]); (try simp only [List.setIfInBounds_toArray]); (try simp only [List.set_cons_succ]); (try simp only [List.set_cons_zero]))
                  (refine wpAnyH_take (i := 19) (v := ?_) rfl (by kernel_rfl) (by kernel_rfl) (by kernel_rfl) (fun _ _ _ h => h) (Or.inl ⟨by rfl, ?_⟩) (by assumption) ?_; rotate_left; (focus (intro w' hSw; go_simp; try with_reducible rfl)); (try simp only [List.getElem_toArray]); (try simp only [List.getElem_cons_succ]); (try simp only [List.getElem_cons_zero]); (try simp only [Act.put]); (try simp only [List.setIfInBounds_toArray]); (try simp only [List.set_cons_succ]); (try simp only [List.set_cons_zero]))
                  (refine wpAnyH_take (i := 20) (v := ?_) rfl (by kernel_rfl) (by kernel_rfl) (by kernel_rfl) (fun _ _ _ h => h) (Or.inl ⟨by rfl, ?_⟩) (by assumption) ?_; rotate_left; (focus (intro w' hSw; go_simp; try with_reducible rfl)); (try simp only [List.getElem_toArray]); (try simp only [List.getElem_cons_succ]); (try simp only [List.getElem_cons_zero]); (try simp only [Act.put]); (try simp only [List.setIfInBounds_toArray]); (try simp only [List.set_cons_succ]); (try simp only [List.set_cons_zero]))
                  (refine wpAnyH_take (i := 21) (v := ?_) rfl (by kernel_rfl) (by kernel_rfl) (by kernel_rfl) (fun _ _ _ h => h) (Or.inl ⟨by rfl, ?_⟩) (by assumption) ?_; rotate_left; (focus (intro w' hSw; go_simp; try with_reducible rfl)); (try simp only [List.getElem_toArray]); (try simp only [List.getElem_cons_succ]); (try simp only [List.getElem_cons_zero]); (try simp only [Act.put]); (try simp only [List.setIfInBounds_toArray]); (try simp only [List.set_cons_succ]); (try simp only [List.set_cons_zero]))
                  (refine wpAnyH_take (i := 22) (v := ?_) rfl (by kernel_rfl) (by kernel_rfl) (by kernel_rfl) (fun _ _ _ h => h) (Or.inl ⟨by rfl, ?_⟩) (by assumption) ?_; rotate_left; (focus (intro w' hSw; go_simp; try with_reducible rfl)); (try simp only [List.getElem_toArray]); (try simp only [List.getElem_cons_succ]); (try simp only [List.getElem_cons_zero]); (try simp only [Act.put]); (try simp only [List.setIfInBounds_toArray]); (try simp only [List.set_cons_succ]); (try simp only [List.set_cons_zero]))
                  (refine wpAnyH_take (i := 23) (v := ?_) rfl (by kernel_rfl) (by kernel_rfl) (by kernel_rfl) (fun _ _ _ h => h) (Or.inl ⟨by rfl, ?_⟩) (by assumption) ?_; rotate_left; (focus (intro w' hSw; have kc := cell_ext hSw c0; go_simp; try with_reducible rfl)); (try simp only [List.getElem_toArray]); (try simp only [List.getElem_cons_succ]); (try simp only [List.getElem_cons_zero]); (try simp only [Act.put]); (try simp only [List.setIfInBounds_toArray]); (try simp only [List.set_cons_succ]); (try simp only [List.set_cons_zero]))
                  (refine wpAnyH_take (i := 24) (v := ?_) rfl (by kernel_rfl) (by kernel_rfl) (by kernel_rfl) (fun _ _ _ h => h) (Or.inl ⟨by rfl, ?_⟩) (by assumption) ?_; rotate_left; (focus (intro w' hSw; go_simp; try with_reducible rfl)); (try simp only [List.getElem_toArray]); (try simp only [List.getElem_cons_succ]); (try simp only [List.getElem_cons_zero]); (try simp only [Act.put]); (try simp only [List.setIfInBounds_toArray]); (try simp only [List.set_cons_succ]); (try simp only [List.set_cons_zero]))
                  (refine wpAnyH_take (i := 25) (v := ?_) rfl (by kernel_rfl) (by kernel_rfl) (by kernel_rfl) (fun _ _ _ h => h) (Or.inl ⟨by rfl, ?_⟩) (by assumption) ?_; rotate_left; (focus (intro w' hSw; have kc := (b3.out.ext hSw).two; go_simp; try with_reducible rfl)); (try simp only [List.getElem_toArray]); (try simp only [List.getElem_cons_succ]); (try simp only [List.getElem_cons_zero]); (try simp only [Act.put]); (try simp only [List.setIfInBounds_toArray]); (try simp only [List.set_cons_succ]); (try simp only [List.set_cons_zero]))
                  (refine wpAnyH_take (i := 26) (v := ?_) rfl (by kernel_rfl) (by kernel_rfl) (by kernel_rfl) (fun _ _ _ h => h) (Or.inl ⟨by rfl, ?_⟩) (by assumption) ?_; rotate_left; (focus (intro w' hSw; go_simp; try with_reducible rfl)); (try simp only [List.getElem_toArray]); (try simp only [List.getElem_cons_succ]); (try simp only [List.getElem_cons_zero]); (try simp only [Act.put]); (try simp only [List.setIfInBounds_toArray]); (try simp only [List.set_cons_succ]); (try simp only [List.set_cons_zero]))
                  (refine wpAnyH_take (i := 27) (v := ?_) rfl (by kernel_rfl) (by kernel_rfl) (by kernel_rfl) (fun _ _ _ h => h) (Or.inl ⟨by rfl, ?_⟩) (by assumption) ?_; rotate_left; (focus (intro w' hSw; go_simp; try with_reducible rfl)); (try simp only [List.getElem_toArray]); (try simp only [List.getElem_cons_succ]); (try simp only [List.getElem_cons_zero]); (try simp only [Act.put]); (try simp only [List.setIfInBounds_toArray]); (try simp only [List.set_cons_succ]); (try simp only [List.set_cons_zero]))
                  refine wpAnyH_done (by kernel_rfl) ?_ _
                  go_wp2_with fail
                  go_meet
                  exact ⟨by rw [decide_eq_false (by omega)], hHeld⟩
                · obtain ⟨p1, hp1⟩ : ∃ p1, L[t]? = some p1 := ⟨_, List.getElem?_eq_getElem (by have := HLL.out; omega)⟩
                  obtain ⟨b', off', p', hAd, hd', hok', hcell'⟩ := pr_at (R9.out.ext E1r.out) (show t < n2 by omega)
                  cases hAd
                  obtain rfl : p' = p1 := by have := hd'.out; rw [hp1] at this; exact (Option.some.inj this).symm
                  have d0 := (prAt_of hok' hcell'.out).c0
                  have hlt : ¬ (p.pid ≤ p'.pid) := by
                    have := rise_at (right_rise I1.right).2.2 hp1 HD.out
                    omega
                  have hkw2 : IntKind.i64.wrap ((t : Int) + 1 - 1) = (t : Int) := by rw [show (t : Int) + 1 - 1 = (t : Int) by omega]; exact IntWalk.i64_in _ (by omega)
                  have hkw3 : IntKind.i64.wrap (t : Int) = (t : Int) := IntWalk.i64_in _ (by omega)
                  have hk1 : (t : Int) < (n2 : Int) := by omega
                  have hk0 : (0 : Int) < (t : Int) + 1 := by omega
                  clear hp1 hd' hcell'
                  refine wp_region_held_drew (S := fun w' => Ext w11 w') (by kernel_rfl) (Ext.drew (Ext.refl _)) (fun hHeld => ?_)
                  (refine wpAnyH_take (i := 0) (v := ?_) rfl (by kernel_rfl) (by kernel_rfl) (by kernel_rfl) (fun _ _ _ h => h) (Or.inl ⟨by rfl, ?_⟩) (by assumption) ?_; rotate_left; (focus (intro w' hSw; go_simp; try with_reducible rfl)); (try simp only [List.getElem_toArray]); (try simp only [List.getElem_cons_succ]); (try simp only [List.getElem_cons_zero]); (try simp only [Act.put]); (try simp only [List.setIfInBounds_toArray]); (try simp only [List.set_cons_succ]); (try simp only [List.set_cons_zero]))
                  (refine wpAnyH_take (i := 1) (v := ?_) rfl (by kernel_rfl) (by kernel_rfl) (by kernel_rfl) (fun _ _ _ h => h) (Or.inl ⟨by rfl, ?_⟩) (by assumption) ?_; rotate_left; (focus (intro w' hSw; go_simp; try with_reducible rfl)); (try simp only [List.getElem_toArray]); (try simp only [List.getElem_cons_succ]); (try simp only [List.getElem_cons_zero]); (try simp only [Act.put]); (try simp only [List.setIfInBounds_toArray]); (try simp only [List.set_cons_succ]); (try simp only [List.set_cons_zero]))
                  (refine wpAnyH_take (i := 2) (v := ?_) rfl (by kernel_rfl) (by kernel_rfl) (by kernel_rfl) (fun _ _ _ h => h) (Or.inl ⟨by rfl, ?_⟩) (by assumption) ?_; rotate_left; (focus (intro w' hSw; have kc := cell_ext hSw c0; go_simp; try with_reducible rfl)); (try simp only [List.getElem_toArray]); (try simp only [List.getElem_cons_succ]); (try simp only [List.getElem_cons_zero]); (try simp only [Act.put]); (try simp only [List.setIfInBounds_toArray]); (try simp only [List.set_cons_succ]); (try simp only [List.set_cons_zero]))
                  (refine wpAnyH_take (i := 3) (v := ?_) rfl (by kernel_rfl) (by kernel_rfl) (by kernel_rfl) (fun _ _ _ h => h) (Or.inl ⟨by rfl, ?_⟩) (by assumption) ?_; rotate_left; (focus (intro w' hSw; have kc := up_look (owns_ext og.out hSw) hpw; rw [decide_eq_true hin] at kc; go_simp; try with_reducible rfl)); (try simp only [List.getElem_toArray]); (try simp only [List.getElem_cons_succ]); (try simp only [List.getElem_cons_zero]); (try simp only [Act.put]); (try simp only [List.setIfInBounds_toArray]); (try simp only [List.set_cons_succ]); (try simp only [List.set_cons_zero]))
                  (refine wpAnyH_take (i := 4) (v := ?_) rfl (by kernel_rfl) (by kernel_rfl) (by kernel_rfl) (fun _ _ _ h => h) (Or.inl ⟨by rfl, ?_⟩) (by assumption) ?_; rotate_left; (focus (intro w' hSw; go_simp; try with_reducible rfl)); (try simp only [List.getElem_toArray]); (try simp only [List.getElem_cons_succ]); (try simp only [List.getElem_cons_zero]); (try simp only [Act.put]); (try simp only [List.setIfInBounds_toArray]); (try simp only [List.set_cons_succ]); (try simp only [List.set_cons_zero]))
                  (refine wpAnyH_take (i := 5) (v := ?_) rfl (by kernel_rfl) (by kernel_rfl) (by kernel_rfl) (fun _ _ _ h => h) (Or.inl ⟨by rfl, ?_⟩) (by assumption) ?_; rotate_left; (focus (intro w' hSw; go_simp; try with_reducible rfl)); (try simp only [List.getElem_toArray]); (try simp only [List.getElem_cons_succ]); (try simp only [List.getElem_cons_zero]); (try simp only [Act.put]); (try simp only [List.setIfInBounds_toArray]); (try simp only [List.set_cons_succ]); (try simp only [List.set_cons_zero]))
                  (refine wpAnyH_take (i := 6) (v := ?_) rfl (by kernel_rfl) (by kernel_rfl) (by kernel_rfl) (fun _ _ _ h => h) (Or.inl ⟨by rfl, ?_⟩) (by assumption) ?_; rotate_left; (focus (intro w' hSw; go_simp; try with_reducible rfl)); (try simp only [List.getElem_toArray]); (try simp only [List.getElem_cons_succ]); (try simp only [List.getElem_cons_zero]); (try simp only [Act.put]); (try simp only [List.setIfInBounds_toArray]); (try simp only [List.set_cons_succ]); (try simp only [List.set_cons_zero]))
                  (refine wpAnyH_take (i := 7) (v := ?_) rfl (by kernel_rfl) (by kernel_rfl) (by kernel_rfl) (fun _ _ _ h => h) (Or.inl ⟨by rfl, ?_⟩) (by assumption) ?_; rotate_left; (focus (intro w' hSw; go_simp; try with_reducible rfl)); (try simp only [List.getElem_toArray]); (try simp only [List.getElem_cons_succ]); (try simp only [List.getElem_cons_zero]); (try simp only [Act.put]); (try simp only [List.setIfInBounds_toArray]); (try simp only [List.set_cons_succ]); (try simp only [List.set_cons_zero]))
                  (refine wpAnyH_take (i := 8) (v := ?_) rfl (by kernel_rfl) (by kernel_rfl) (by kernel_rfl) (fun _ _ _ h => h) (Or.inl ⟨by rfl, ?_⟩) (by assumption) ?_; rotate_left; (focus (intro w' hSw; go_simp; try with_reducible rfl)); (try simp only [List.getElem_toArray]); (try simp only [List.getElem_cons_succ]); (try simp only [List.getElem_cons_zero]); (try simp only [Act.put]); (try simp only [List.setIfInBounds_toArray]); (try simp only [List.set_cons_succ]); (try simp only [List.set_cons_zero]))
                  (refine wpAnyH_take (i := 9) (v := ?_) rfl (by kernel_rfl) (by kernel_rfl) (by kernel_rfl) (fun _ _ _ h => h) (Or.inl ⟨by rfl, ?_⟩) (by assumption) ?_; rotate_left; (focus (intro w' hSw; go_simp; try with_reducible rfl)); (try simp only [List.getElem_toArray]); (try simp only [List.getElem_cons_succ]); (try simp only [List.getElem_cons_zero]); (try simp only [Act.put]); (try simp only [List.setIfInBounds_toArray]); (try simp only [List.set_cons_succ]); (try simp only [List.set_cons_zero]))
                  (refine wpAnyH_take (i := 10) (v := ?_) rfl (by kernel_rfl) (by kernel_rfl) (by kernel_rfl) (fun _ _ _ h => h) (Or.inl ⟨by rfl, ?_⟩) (by assumption) ?_; rotate_left; (focus (intro w' hSw; have kc := cell_ext hSw c0; go_simp; try with_reducible rfl)); (try simp only [List.getElem_toArray]); (try simp only [List.getElem_cons_succ]); (try simp only [List.getElem_cons_zero]); (try simp only [Act.put]); (try simp only [List.setIfInBounds_toArray]); (try simp only [List.set_cons_succ]); (try simp only [List.set_cons_zero]))
                  (refine wpAnyH_take (i := 11) (v := ?_) rfl (by kernel_rfl) (by kernel_rfl) (by kernel_rfl) (fun _ _ _ h => h) (Or.inl ⟨by rfl, ?_⟩) (by assumption) ?_; rotate_left; (focus (intro w' hSw; go_simp; try with_reducible rfl)); (try simp only [List.getElem_toArray]); (try simp only [List.getElem_cons_succ]); (try simp only [List.getElem_cons_zero]); (try simp only [Act.put]); (try simp only [List.setIfInBounds_toArray]); (try simp only [List.set_cons_succ]); (try simp only [List.set_cons_zero]))
                  (refine wpAnyH_take (i := 12) (v := ?_) rfl (by kernel_rfl) (by kernel_rfl) (by kernel_rfl) (fun _ _ _ h => h) (Or.inl ⟨by rfl, ?_⟩) (by assumption) ?_; rotate_left; (focus (intro w' hSw; have kc := (b3.out.ext hSw).two; go_simp; try with_reducible rfl)); (try simp only [List.getElem_toArray]); (try simp only [List.getElem_cons_succ]); (try simp only [List.getElem_cons_zero]); (try simp only [Act.put]); (try simp only [List.setIfInBounds_toArray]); (try simp only [List.set_cons_succ]); (try simp only [List.set_cons_zero]))
                  (refine wpAnyH_take (i := 13) (v := ?_) rfl (by kernel_rfl) (by kernel_rfl) (by kernel_rfl) (fun _ _ _ h => h) (Or.inl ⟨by rfl, ?_⟩) (by assumption) ?_; rotate_left; (focus (intro w' hSw; go_simp; try with_reducible rfl)); (try simp only [List.getElem_toArray]); (try simp only [List.getElem_cons_succ]); (try simp only [List.getElem_cons_zero]); (try simp only [Act.put]); (try simp only [List.setIfInBounds_toArray]); (try simp only [List.set_cons_succ]); (try simp only [List.set_cons_zero]))
                  (refine wpAnyH_take (i := 14) (v := ?_) rfl (by kernel_rfl) (by kernel_rfl) (by kernel_rfl) (fun _ _ _ h => h) (Or.inl ⟨by rfl, ?_⟩) (by assumption) ?_; rotate_left; (focus (intro w' hSw; go_simp; try with_reducible rfl)); (try simp only [List.getElem_toArray]); (try simp only [List.getElem_cons_succ]); (try simp only [List.getElem_cons_zero]); (try simp only [Act.put]); (try simp only [List.setIfInBounds_toArray]); (try simp only [List.set_cons_succ]); (try simp only [List.set_cons_zero]))
                  (refine wpAnyH_take (i := 15) (v := ?_) rfl (by kernel_rfl) (by kernel_rfl) (by kernel_rfl) (fun _ _ _ h => h) (Or.inl ⟨by rfl, ?_⟩) (by assumption) ?_; rotate_left; (focus (intro w' hSw; go_simp; try with_reducible rfl)); (try simp only [List.getElem_toArray]); (try simp only [List.getElem_cons_succ]); (try simp only [List.getElem_cons_zero]); (try simp only [Act.put]); (try simp only [List.setIfInBounds_toArray]); (try simp only [List.set_cons_succ]); (try simp only [List.set_cons_zero]))
                  (refine wpAnyH_take (i := 16) (v := ?_) rfl (by kernel_rfl) (by kernel_rfl) (by kernel_rfl) (fun _ _ _ h => h) (Or.inl ⟨by rfl, ?_⟩) (by assumption) ?_; rotate_left; (focus (intro w' hSw; go_simp; try with_reducible rfl)); (try simp only [List.getElem_toArray]); (try simp only [List.getElem_cons_succ]); (try simp only [List.getElem_cons_zero]); (try simp only [Act.put]); (try simp only [List.setIfInBounds_toArray]); (try simp only [List.set_cons_succ]); (try simp only [List.set_cons_zero]))
                  (refine wpAnyH_take (i := 17) (v := ?_) rfl (by kernel_rfl) (by kernel_rfl) (by kernel_rfl) (fun _ _ _ h => h) (Or.inl ⟨by rfl, ?_⟩) (by assumption) ?_; rotate_left; (focus (intro w' hSw; have kc := cell_ext (Ext.trans Er hSw) d0; go_simp; try with_reducible rfl)); (try simp only [List.getElem_toArray]); (try simp only [List.getElem_cons_succ]); (try simp only [List.getElem_cons_zero]); (try simp only [Act.put]); (try simp only [List.setIfInBounds_toArray]); (try simp only [List.set_cons_succ]); (try simp only [List.set_cons_zero]))
                  (refine wpAnyH_take (i := 18) (v := ?_) rfl (by kernel_rfl) (by kernel_rfl) (by kernel_rfl) (fun _ _ _ h => h) (Or.inl ⟨by rfl, ?_⟩) (by assumption) ?_; rotate_left; (focus (intro w' hSw; go_simp; try with_reducible rfl)); (try simp only [List.getElem_toArray]); (try simp only [List.getElem_cons_succ]); (try simp only [List.getElem_cons_zero]); (try simp only [Act.put]); (try simp only [List.setIfInBounds_toArray]); (try simp only [List.set_cons_succ]); (try simp only [List.set_cons_zero]))
                  (refine wpAnyH_take (i := 19) (v := ?_) rfl (by kernel_rfl) (by kernel_rfl) (by kernel_rfl) (fun _ _ _ h => h) (Or.inl ⟨by rfl, ?_⟩) (by assumption) ?_; rotate_left; (focus (intro w' hSw; go_simp; try with_reducible rfl)); (try simp only [List.getElem_toArray]); (try simp only [List.getElem_cons_succ]); (try simp only [List.getElem_cons_zero]); (try simp only [Act.put]); (try simp only [List.setIfInBounds_toArray]); (try simp only [List.set_cons_succ]); (try simp only [List.set_cons_zero]))
                  (refine wpAnyH_take (i := 20) (v := ?_) rfl (by kernel_rfl) (by kernel_rfl) (by kernel_rfl) (fun _ _ _ h => h) (Or.inl ⟨by rfl, ?_⟩) (by assumption) ?_; rotate_left; (focus (intro w' hSw; go_simp; try with_reducible rfl)); (try simp only [List.getElem_toArray]); (try simp only [List.getElem_cons_succ]); (try simp only [List.getElem_cons_zero]); (try simp only [Act.put]); (try simp only [List.setIfInBounds_toArray]); (try simp only [List.set_cons_succ]); (try simp only [List.set_cons_zero]))
                  (refine wpAnyH_take (i := 21) (v := ?_) rfl (by kernel_rfl) (by kernel_rfl) (by kernel_rfl) (fun _ _ _ h => h) (Or.inl ⟨by rfl, ?_⟩) (by assumption) ?_; rotate_left; (focus (intro w' hSw; go_simp; try with_reducible rfl)); (try simp only [List.getElem_toArray]); (try simp only [List.getElem_cons_succ]); (try simp only [List.getElem_cons_zero]); (try simp only [Act.put]); (try simp only [List.setIfInBounds_toArray]); (try simp only [List.set_cons_succ]); (try simp only [List.set_cons_zero]))
                  (refine wpAnyH_take (i := 22) (v := ?_) rfl (by kernel_rfl) (by kernel_rfl) (by kernel_rfl) (fun _ _ _ h => h) (Or.inl ⟨by rfl, ?_⟩) (by assumption) ?_; rotate_left; (focus (intro w' hSw; go_simp; try with_reducible rfl)); (try simp only [List.getElem_toArray]); (try simp only [List.getElem_cons_succ]); (try simp only [List.getElem_cons_zero]); (try simp only [Act.put]); (try simp only [List.setIfInBounds_toArray]); (try simp only [List.set_cons_succ]); (try simp only [List.set_cons_zero]))
                  (refine wpAnyH_take (i := 23) (v := ?_) rfl (by kernel_rfl) (by kernel_rfl) (by kernel_rfl) (fun _ _ _ h => h) (Or.inl ⟨by rfl, ?_⟩) (by assumption) ?_; rotate_left; (focus (intro w' hSw; have kc := cell_ext hSw c0; go_simp; try with_reducible rfl)); (try simp only [List.getElem_toArray]); (try simp only [List.getElem_cons_succ]); (try simp only [List.getElem_cons_zero]); (try simp only [Act.put]); (try simp only [List.setIfInBounds_toArray]); (try simp only [List.set_cons_succ]); (try simp only [List.set_cons_zero]))
                  (refine wpAnyH_take (i := 24) (v := ?_) rfl (by kernel_rfl) (by kernel_rfl) (by kernel_rfl) (fun _ _ _ h => h) (Or.inl ⟨by rfl, ?_⟩) (by assumption) ?_; rotate_left; (focus (intro w' hSw; go_simp; try with_reducible rfl)); (try simp only [List.getElem_toArray]); (try simp only [List.getElem_cons_succ]); (try simp only [List.getElem_cons_zero]); (try simp only [Act.put]); (try simp only [List.setIfInBounds_toArray]); (try simp only [List.set_cons_succ]); (try simp only [List.set_cons_zero]))
                  (refine wpAnyH_take (i := 25) (v := ?_) rfl (by kernel_rfl) (by kernel_rfl) (by kernel_rfl) (fun _ _ _ h => h) (Or.inl ⟨by rfl, ?_⟩) (by assumption) ?_; rotate_left; (focus (intro w' hSw; have kc := (b3.out.ext hSw).two; go_simp; try with_reducible rfl)); (try simp only [List.getElem_toArray]); (try simp only [List.getElem_cons_succ]); (try simp only [List.getElem_cons_zero]); (try simp only [Act.put]); (try simp only [List.setIfInBounds_toArray]); (try simp only [List.set_cons_succ]); (try simp only [List.set_cons_zero]))
                  (refine wpAnyH_take (i := 26) (v := ?_) rfl (by kernel_rfl) (by kernel_rfl) (by kernel_rfl) (fun _ _ _ h => h) (Or.inl ⟨by rfl, ?_⟩) (by assumption) ?_; rotate_left; (focus (intro w' hSw; go_simp; try with_reducible rfl)); (try simp only [List.getElem_toArray]); (try simp only [List.getElem_cons_succ]); (try simp only [List.getElem_cons_zero]); (try simp only [Act.put]); (try simp only [List.setIfInBounds_toArray]); (try simp only [List.set_cons_succ]); (try simp only [List.set_cons_zero]))
                  (refine wpAnyH_take (i := 27) (v := ?_) rfl (by kernel_rfl) (by kernel_rfl) (by kernel_rfl) (fun _ _ _ h => h) (Or.inl ⟨by rfl, ?_⟩) (by assumption) ?_; rotate_left; (focus (intro w' hSw; go_simp; try with_reducible rfl)); (try simp only [List.getElem_toArray]); (try simp only [List.getElem_cons_succ]); (try simp only [List.getElem_cons_zero]); (try simp only [Act.put]); (try simp only [List.setIfInBounds_toArray]); (try simp only [List.set_cons_succ]); (try simp only [List.set_cons_zero]))
                  refine wpAnyH_done (by kernel_rfl) ?_ _
                  go_wp2_with fail
                  go_meet
                  exact ⟨by rw [decide_eq_false (by omega)], hHeld⟩
              case rest =>
                obtain ⟨rfl, Ec⟩ := hcut
                obtain ⟨w12, hw12⟩ : ∃ w12, w12 = wc := ⟨_, rfl⟩
                subst hw12
                have b3 := Lib.hid (b3.out.ext Ec)
                have b10 := Lib.hid (b10.out.ext Ec)
                have rl := Lib.hid (rl.out.ext Ec)
                have OS := Lib.hid (owns_ext OS.out Ec)
                have E12 := Lib.hid (E11.out.trans Ec)
                have hat := prAt_blk hok b10.out
                have c1 := hat.c1
                have c2 := hat.c2
                have c3 := hat.c3
                have c4 := hat.c4
                have kb := b3.out.two
                have hLiv := live_any (A := fun _ => False) _ c2' L nx' p.parent w12 (by rw [HLL.out]; exact rl.out)
                rw [HLL.out] at hLiv
                have HLIV := Lib.hid hLiv
                clear Ec hat hLiv og E11 c0
                clear b10
                go_upto_region 24 with fail
                go_cut [112] (fun s wx => s = .bool false ∧ Ext w12 wx)
                case first =>
                  by_cases h0 : p.parent = 0
                  · have h3 : ¬ p.state = 3 := fun h3 => absurd h0 (I1.zom p hpl (by unfold liveP; rw [h3]; rfl))
                    have h3b : (p.state == 3) = false := by simpa using h3
                    go_wp2_with fail
                    go_meet
                    exact ⟨rfl, Ext.refl _⟩
                  · have hlive : liveL L nx' p.parent = true := by
                      rcases I1.par p hpl with he | ⟨q, hq, he, hl⟩
                      · exact absurd he h0
                      · unfold liveL
                        rw [I1.right, Bool.true_and, List.any_eq_true]
                        exact ⟨q, hq, by rw [hl, he]; simp⟩
                    rw [hlive] at HLIV
                    have h0b : (p.parent == 0) = false := by simpa using h0
                    by_cases h3 : p.state = 3
                    · go_wp2_with fail
                      refine HLIV.out.mono ?_
                      rintro e w13 ⟨rfl, E13⟩
                      have c1 := cell_ext E13 c1
                      have c4 := cell_ext E13 c4
                      go_wp2_with fail
                      go_meet
                      exact ⟨rfl, E13⟩
                    · have h3b : (p.state == 3) = false := by simpa using h3
                      go_wp2_with fail
                      refine HLIV.out.mono ?_
                      rintro e w13 ⟨rfl, E13⟩
                      have c1 := cell_ext E13 c1
                      have c4 := cell_ext E13 c4
                      go_wp2_with fail
                      go_meet
                      exact ⟨rfl, E13⟩
                case rest =>
                  obtain ⟨rfl, Ec⟩ := hcut
                  obtain ⟨w14, hw14⟩ : ∃ w14, w14 = wc := ⟨_, rfl⟩
                  subst hw14
                  have b3 := Lib.hid (b3.out.ext Ec)
                  have rl := Lib.hid (rl.out.ext Ec)
                  have OS := Lib.hid (owns_ext OS.out Ec)
                  have E14 := Lib.hid (E12.out.trans Ec)
                  have c2 := cell_ext Ec c2
                  have c3 := cell_ext Ec c3
                  have c4 := cell_ext Ec c4
                  have htk : L.take (j + 1) = L.take j ++ [p] := by rw [List.take_add_one, HD.out]; rfl
                  have HTK := Lib.hid htk
                  clear Ec E12 HLIV c1 kb htk
                  by_cases h3 : ¬ p.state = 3
                  · have h3b : (p.state == 3) = false := by simpa using h3
                    have HLP := Lib.hid (show liveP p = true by unfold liveP; rw [bne, h3b]; rfl)
                    cases hh : Maps.has D (.int .i64 p.group)
                    · go_wp2_with (first
                        | (at_lookup; refine wpList_lookup_own_ok_int _ rfl _ _ 77 rfl 3 3 .i64 keyed_int Try.underlying77 Try.underlying3 (zero_int _) (w9).heap.size j D rfl OS.out _ _ rfl (keyOf_int_mk Try.underlying3 hgw) ?_; intro cv hat hwc; clear hat hwc)
                        | (at_mapUpdate; refine wpList_mapUpdate_own _ rfl _ _ _ 77 rfl 3 3 keyed_int Try.underlying77 _ (w9).heap.size j _ rfl OS.out (by unfold maxLen; omega) _ _ _ rfl rfl (keyOf_int_mk Try.underlying3 hgw) _ [] (plainElem_int Try.underlying3 hsw) ?_; intro w15 own15 grow15; have OS := Lib.hid own15; have E15 := Lib.hid (Ext.grownNew E14.out grow15 (fun k hk => by cases hk; exact Nat.le_refl _)); clear grow15 own15 E14 b3 rl))
                      go_roundw
                      case rel => exact ⟨j + 1, _, by omega, by go_num, OS, Lib.hid (by rw [HTK.out]; exact ses_put HS.out HLP.out), E15⟩
                      case measure => simp [intOf]; omega
                    · go_wp2_with (first
                        | (at_lookup; refine wpList_lookup_own_ok_int _ rfl _ _ 77 rfl 3 3 .i64 keyed_int Try.underlying77 Try.underlying3 (zero_int _) (w9).heap.size j D rfl OS.out _ _ rfl (keyOf_int_mk Try.underlying3 hgw) ?_; intro cv hat hwc; obtain rfl : cv = p.session := (by obtain ⟨q, hq, hql, hqg, hqa⟩ := HS.out.2 _ hh; rw [hqa] at hat; cases hat; exact I1.ses q (List.mem_of_mem_take hq) p hpl hql HLP.out hqg); clear hat hwc)
                        | (at_mapUpdate; refine wpList_mapUpdate_own _ rfl _ _ _ 77 rfl 3 3 keyed_int Try.underlying77 _ (w9).heap.size j _ rfl OS.out (by unfold maxLen; omega) _ _ _ rfl rfl (keyOf_int_mk Try.underlying3 hgw) _ [] (plainElem_int Try.underlying3 hsw) ?_; intro w15 own15 grow15; have OS := Lib.hid own15; have E15 := Lib.hid (Ext.grownNew E14.out grow15 (fun k hk => by cases hk; exact Nat.le_refl _)); clear grow15 own15 E14 b3 rl))
                      go_roundw
                      case rel => exact ⟨j + 1, _, by omega, by go_num, OS, Lib.hid (by rw [HTK.out]; exact ses_put HS.out HLP.out), E15⟩
                      case measure => simp [intOf]; omega
                  · have h3 : p.state = 3 := by omega
                    cases hh : Maps.has D (.int .i64 p.group)
                    all_goals
                      go_wp2_with (at_lookup; refine wpList_lookup_own_ok_int _ rfl _ _ 77 rfl 3 3 .i64 keyed_int Try.underlying77 Try.underlying3 (zero_int _) (w9).heap.size j D rfl OS.out _ _ rfl (keyOf_int_mk Try.underlying3 hgw) ?_; intro cv hat hwc; clear hat hwc)
                      go_roundw
                      case rel => exact ⟨j + 1, _, by omega, by go_num, Lib.hid (OS.out.mono (by omega)), Lib.hid (by rw [HTK.out]; exact ses_more HS.out), E14⟩
                      case measure => simp [intOf]; omega
            · go_wp2
              go_roundw
              case rel => exact ⟨m + 1, L, nx', A2, c2', n2, (G ++ [nx]), by omega, by go_num, Lib.hid (G3.out.ext E1r.out), HLL, Lib.hid (R9.out.ext E1r.out), hIL, HN9, Lib.hid (owns_ext OG9.out E1r.out), HG9, Lib.hid (E9.out.trans E1r.out)⟩
              case measure => simp [intOf]; omega
    · go_wp2
      go_ret
      exact ⟨rfl, hE.out⟩
end Go.Proofs.Ytmpmnikgbepphaa
namespace Go.Proofs.Ytmpmnikgbepphaa
open Go.RowKit Go.Kb Go.ChangeShapes Go.WideShapes Go.ChangeAt Go.Deep

set_option maxHeartbeats 800000 in
set_option maxRecDepth 100000 in
theorem tableStays_lifted (os : Os) (started : os.Started) (H : Type) (enc : TypeId × Value → H) :
    ReturnsInHanded {} Try.checked os 7 .any (Rows.tableStaysSpec.pre6 enc Try.prog Try.f7 Rows.tableStaysRow.domain false) (Rows.tableStaysSpec.post enc Try.prog Try.f7 false true false false) := by
  refine returnsInHanded_of_change_sized (C := Try.checked) (by kernel_rfl) started (by kernel_rfl) Try.func7
    (ChangeSpec.witness6 (enc := enc) (C := Try.checked) false ⟨#[], #[.slice none 0 0], []⟩ 8 (by kernel_rfl) (by kernel_rfl) (by kernel_rfl) (by kernel_rfl)) ?_
  intro W base args ds gs before hval0 hW _ hsz0 _
  have hsz : (DataW.weightsEach Try.prog (Try.f7.params.toList ++ Rows.tableStaysSpec.plain.varTypes Try.prog) (ds ++ gs)).all (· ≤ reachBytes) = true := hsz0
  clear hsz0
  have hval : ∀ (j : Nat) t v, Try.f7.params[j]? = some t → args[j]? = some v → Value.okWide Try.prog W .any base t v := hval0
  have hW' := hW
  obtain ⟨p, q, hA0, hV, rfl, _, _⟩ := hW
  have hA : DataW.TrodAll enc Try.prog W 0 (fun _ => true) true Try.f7.params.toList args.toList ds p := hA0
  rw [Try.params7] at hA hval hsz
  obtain ⟨rfl, rfl⟩ := trodVars_none hV
  have hkeep := hA
  have hlt : ∀ x ∈ p, x.block < W.heap.size := fun x hx => hW'.lt x (by simpa using hx)
  clear hA0 hval0
  obtain ⟨v0, vs0, d0, ds0, p0, q0, hargs, rfl, rfl, h0, r0⟩ := trodAll_cons hA
  obtain ⟨rfl, rfl, rfl⟩ := trodAll_nil r0
  obtain rfl : args = #[v0] := by cases args; simp_all
  simp only [List.cons_append, List.nil_append, DataW.weightsEach, List.all_append, Bool.and_eq_true] at hsz
  obtain ⟨l, hl, _⟩ := Opens.slice (opens_slice Try.underlying70 (by kernel_rfl) (opens_op W)) Try.underlying70 (hval 0 70 v0 rfl rfl) h0 hsz.1
  refine (tableStays_walk v0 l W hl.y).mono fun e W' ⟨he, hE⟩ => ?_
  subst he
  exact ⟨_, rfl, _, _, _, [], _, [], hW', trodAll_mk1 (shut_bool Try.underlying4 _), trodAll_stays (by kernel_rfl) (by kernel_rfl) hkeep hE hlt, rfl, hE.frame _, fun h => by cases h⟩
/-- THE STATEMENT -/
theorem tableStays_holds : Rows.TableStaysSaid :=
  OpenClaim.holds_of_wide 7 Try.f7 rfl rfl rfl rfl rfl rfl rfl ⟨rfl, rfl, rfl, rfl, rfl⟩ rfl rfl rfl rfl rfl (by kernel_rfl) Try.func7 (by kernel_rfl)
    (of_decide_eq_true (by kernel_rfl)) (by unfold Func.isWrapper; first | (rw [if_pos (by decide +kernel)]; kernel_rfl) | (rw [if_neg (by decide +kernel)]; exact ⟨rfl, rfl⟩))
    (fun os started H enc _ => tableStays_lifted os started H enc)
end Go.Proofs.Ytmpmnikgbepphaa
