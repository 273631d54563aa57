/- The document's answer: what is sent to a process, and to a group; by contract. Conditions: sets have 64 bits; the signals that deliveries send. -/
import Derived.Test.YteljobleojhgmaaGreatTA21
import Derived.Test.YteljobleojhgmaaGreatM21
namespace Go.Proofs.YteljobleojhgmaaGreat
open Go.RowKit Go.Kb

theorem sig_known18 {sig : Int} (hs : sig = 1 ∨ sig = 17 ∨ sig = 18) : Sig.isL sig = true := by
  rcases hs with rfl | rfl | rfl <;> rfl
set_option maxHeartbeats 800000 in
theorem rstop_any (sig : Int) (hs : sig = 1 ∨ sig = 17) (w : World) : Calls Tryz.prog 112 #[.int .i64 sig] w fun e w' => e = .returned (.bool false) ∧ Ext w w' := by
  rcases hs with rfl | rfl
  all_goals
    go_enter Tryz.func112, Tryz.ntmps112
    go_wp2
    go_ret
    exact ⟨rfl, (by repeat (first | with_reducible exact Ext.refl _ | refine Ext.drewN ?_ _ | refine Ext.drew ?_ | refine Ext.alloc ?_ _ | assumption | (refine Below.trans ?_ (by assumption)) | (refine Ext.trans ?_ (by assumption)) | (refine Below.trans ?_ (Below.mono (by assumption) (by omega)))))⟩
def stops4 : List Int := [19, 20, 21, 22]
set_option maxRecDepth 100000 in
set_option maxHeartbeats 3000000 in
theorem rsent_any (p : Pr) (sig : Int) (hs : sig = 1 ∨ sig = 17 ∨ sig = 18) (w : World) (hok : p.ok) (hb : Sig.U64 p.pending) :
    Calls Tryz.prog 101 #[.agg p.cells.toArray, .int .i64 sig] w fun e w' => e = .returned (.agg (sentP sig p).cells.toArray) ∧ Ext w w' := by
  obtain ⟨W, hW⟩ : ∃ W, W = (w.alloc (.cells p.cells.toArray 64)).alloc (.cells #[.int .i64 0, .int .i64 0, .int .i64 0, .int .i64 0, .int .i64 0, .int .i64 0, .int .i64 0, .int .u64 0, .int .u64 0, .int .i64 0, .int .i64 0, .int .i64 0, .int .i64 0, .int .i64 0, .int .i64 0, .int .i64 0, .int .i64 0, .int .i64 0, .int .i64 0, .int .i64 0, .int .i64 0, .int .i64 0, .int .i64 0, .int .i64 0, .int .i64 0, .int .i64 0, .int .i64 0, .int .i64 0, .int .i64 0, .int .i64 0, .int .i64 0, .int .i64 0, .int .i64 0, .int .i64 0, .int .i64 0, .int .i64 0, .int .i64 0, .int .i64 0, .int .i64 0, .int .i64 0, .int .i64 0, .int .i64 0, .bool false] 64) := ⟨_, rfl⟩
  have Z := Lib.hid (show Blk W (w.heap.size + 1) 64 zeroP.cells.toArray by rw [hW]; exact zero_rowR _ _ (by simp))
  have B := Lib.hid (show Blk W w.heap.size 64 p.cells.toArray by rw [hW]; exact (Blk.new w _ _).alloc _)
  have E0 : Ext w W := by rw [hW]; exact (by repeat (first | with_reducible exact Ext.refl _ | refine Ext.drewN ?_ _ | refine Ext.drew ?_ | refine Ext.alloc ?_ _ | assumption | (refine Below.trans ?_ (by assumption)) | (refine Ext.trans ?_ (by assumption)) | (refine Below.trans ?_ (Below.mono (by assumption) (by omega)))))
  have HW := Lib.hid hW
  clear hW
  by_cases h18 : sig = 18
  · subst h18
    have HQ0 := Lib.hid (show sentP 18 p = { contP p with pending := Sig.addL (contP p).pending 18 } from rfl)
    clear hs
    go_enter Tryz.func101, Tryz.ntmps101
    go_upto_block 1 with fail
    rw [← HW.out]
    have B0 := B
    have Z0 := Z
    have E00 := E0
    clear B Z E0 HW
    go_wp2
    go_loopw [5] (fun i wr => ∃ m : Nat, m ≤ 4 ∧ i = .int .i64 (19 + m) ∧ Hid (Blk wr w.heap.size 64 (Pr.cells { p with pending := (stopsL.take m).foldl Sig.delL p.pending }).toArray) ∧ Hid (Blk wr (w.heap.size + 1) 64 zeroP.cells.toArray) ∧ Ext w wr) (fun i _ => 30 - (intOf i).toNat)
    case atStart => exact ⟨0, Nat.zero_le _, rfl, B0, Z0, E00⟩
    case round =>
      clear B0 Z0 E00
      obtain ⟨m, hm, rfl, BM, Z, E0⟩ := hrel
      obtain ⟨q, hq⟩ : ∃ q : Pr, q = { p with pending := (stopsL.take m).foldl Sig.delL p.pending } := ⟨_, rfl⟩
      rw [← hq] at BM
      have hqok : q.ok := by rw [hq]; exact hok
      have hqb : Sig.U64 q.pending := by rw [hq]; exact fold_del64 _ hb
      by_cases hmn : m < 4
      · have hx : stopsL[m]? = some (19 + m : Int) := by
          obtain rfl | rfl | rfl | rfl : m = 0 ∨ m = 1 ∨ m = 2 ∨ m = 3 := by omega
          all_goals rfl
        have HN := Lib.hid (show { q with pending := Sig.delL q.pending (19 + m) } = { p with pending := (stopsL.take (m + 1)).foldl Sig.delL p.pending } by rw [hq, List.take_add_one, hx, List.foldl_append]; rfl)
        have i2 : (19 : Int) + (m : Int) ≤ 22 := by omega
        have pc7 := (prAt_blk hqok BM.out).c7
        clear hx hq
        go_wp2_with fail
        refine (Sig.rdel_any q.pending (19 + m) _ hqb).mono ?_
        rintro e w3 ⟨rfl, E3⟩
        have B3 := Lib.hid (BM.out.ext E3)
        have Z3 := Lib.hid (Z.out.ext E3)
        have E03 := E0.trans E3
        have pc7 := (prAt_blk hqok B3.out).c7
        have pf7 := B3.out.frozen 7
        clear E3 E0
        have B4 := B3.out.set_ 7 (.int .u64 (Sig.delL q.pending (19 + m)))
        rw [pend_cells, HN.out] at B4
        have B4 := Lib.hid B4
        have M4 : Mod (fun k => k = w.heap.size) w3 _ := (Mod.refl _ w3).set1 (.int .u64 (Sig.delL q.pending (19 + m))) (o := 7)
        have Z4 := Lib.hid (Z3.out.mod M4 (by omega))
        have E04 := Mod.toExt E03 M4 (by intro k hk he; omega)
        clear M4
        go_wp2
        go_roundw
        case rel => exact ⟨m + 1, by omega, by go_num, B4, Z4, E04⟩
        case measure => simp [intOf]; omega
      · have HF := Lib.hid (show q = fallP p by rw [hq]; obtain rfl : m = 4 := (by omega); rfl)
        have HST := Lib.hid (show q.state = p.state by rw [hq])
        have pc4 := (prAt_blk hqok BM.out).c4
        have pc7 := (prAt_blk hqok BM.out).c7
        have pf4 := BM.out.frozen 4
        have pc42 := (prAt_blk hqok BM.out).c42
        have pf42 := BM.out.frozen 42
        have i2 : ¬ ((19 : Int) + (m : Int) ≤ 22) := by omega
        rw [Nat.zero_add] at pc4 pc42 pc7
        clear hq
        by_cases h2 : q.state = 2
        · have h2b : (q.state == 2) = true := by simpa using h2
          have hc : contP p = { q with state := 1, told := false } := by
            unfold contP
            rw [if_pos (by rw [← HST.out]; exact h2), ← HF.out]
            unfold wakeP
            rw [if_pos h2]
          have HQ := Lib.hid (show sentP 18 p = { ({ q with state := 1, told := false } : Pr) with pending := Sig.addL q.pending 18 } by rw [HQ0.out, hc])
          have B5 := BM.out.set_ 4 (.int .i64 1)
          rw [stat_cells] at B5
          have B6 := B5.set_ 42 (.bool false)
          rw [told_cells (p := { q with state := 1 }) hqok] at B6
          have M6 : Mod (fun k => k = w.heap.size) wr _ := ((Mod.refl _ wr).set1 (.int .i64 1) (o := 4)).set1 (.bool false) (o := 42)
          have B := Lib.hid B6
          have Z := Lib.hid (Z.out.mod M6 (by omega))
          have E06 := Mod.toExt E0 M6 (by intro k hk he; omega)
          clear h2 HQ0 HST HF B5 B6 M6 E0 hc hm hmn
          go_upto_region 12 with fail
          generalize (wr.setCell _ _).setCell _ _ = w6 at *
          obtain ⟨y, hy⟩ : ∃ y : Pr, y = { q with state := 1, told := false } := ⟨_, rfl⟩
          have hyok : y.ok := by rw [hy]; exact hqok
          have hyb : Sig.U64 y.pending := by rw [hy]; exact hqb
          have HQ := Lib.hid (show sentP 18 p = { y with pending := Sig.addL y.pending 18 } by rw [hy]; exact HQ.out)
          have B := Lib.hid (show Blk w6 w.heap.size 64 y.cells.toArray by rw [hy]; exact B.out)
          have pc7 := (prAt_blk hyok B.out).c7
          clear hy hqok hqb BM
          go_wp2_with fail
          refine (Sig.radd_any y.pending 18 _ hyb).mono ?_
          rintro e w5 ⟨rfl, E5⟩
          have B := Lib.hid (B.out.ext (Ext.trans (Ext.refl _) E5))
          have Z := Lib.hid (Z.out.ext (Ext.trans (Ext.refl _) E5))
          have pc7 := (prAt_blk hyok B.out).c7
          have pf7 := B.out.frozen 7
          have E05 := E06.trans E5
          go_upto_region 13 with fail
          obtain ⟨z, hz⟩ : ∃ z : Pr, z = { y with pending := Sig.addL y.pending 18 } := ⟨_, rfl⟩
          have M6 : Mod (fun k => k = w.heap.size) w5 (w5.setCell ⟨w.heap.size, 7, none⟩ (.int .u64 (Sig.addL y.pending 18))) := (Mod.refl _ _).set1 _
          have B := Lib.hid (show Blk (w5.setCell ⟨w.heap.size, 7, none⟩ (.int .u64 (Sig.addL y.pending 18))) w.heap.size 64 z.cells.toArray by rw [hz, ← pend_cells]; exact B.out.set_ 7 _)
          have Z := Lib.hid (Z.out.mod M6 (by omega))
          have E06 := Mod.toExt E05 M6 (by intro k hk he; omega)
          have hzok : z.ok := by rw [hz]; exact hyok
          have HZ := Lib.hid (HQ.out.trans hz.symm)
          clear hz M6 pc7 pf7
          generalize w5.setCell _ _ = w6 at *
          go_wp2_with (first
            | (refine wpList_load_row rfl 64 _ rfl _ rfl 64 _ _ _ B.out Tryz.underlying64 rfl (by rw [List.size_toArray]; exact i43r' hzok) ?_)
            | ((refine wpList_store_A rfl 64 _ _ rfl (w.heap.size + 1) _ rfl rfl 64 _ Z.out (by rw [List.size_toArray]; exact i43r' hzok) (Eq.trans (b := 43) (by rfl) (Eq.symm (show (z).cells.toArray.size = 43 from Pr.size hzok))) (Pr.one hzok) ?_); intro w7 H7 E7; have E7 : Ext w w7 := E7 w.heap.size w E06 (by omega)))
          refine bodyPost_ret_by (results_cell_row Tryz.results101 _ _ (w.heap.size + 1) 64 _ _ _ rfl H7 Tryz.underlying64 rfl (by rw [List.size_toArray]; exact i43r' hzok)) rfl ?_
          rw [HZ.out]
          exact ⟨rfl, E7⟩
        · have h2b : (q.state == 2) = false := by simpa using h2
          have hc : contP p = q := by
            unfold contP
            rw [if_neg (by rw [← HST.out]; exact h2), ← HF.out]
            unfold wakeP
            rw [if_neg h2]
          have HQ := Lib.hid (show sentP 18 p = { q with pending := Sig.addL q.pending 18 } by rw [HQ0.out, hc])
          have B := BM
          clear h2 HQ0 HST HF hc hm hmn pc42 pf42 BM pf4
          go_upto_region 12 with fail
          go_wp2_with fail
          refine (Sig.radd_any q.pending 18 _ hqb).mono ?_
          rintro e w5 ⟨rfl, E5⟩
          have B := Lib.hid (B.out.ext (Ext.trans (Ext.refl _) E5))
          have Z := Lib.hid (Z.out.ext (Ext.trans (Ext.refl _) E5))
          have pc7 := (prAt_blk hqok B.out).c7
          have pf7 := B.out.frozen 7
          have E05 := E0.trans E5
          go_upto_region 13 with fail
          obtain ⟨z, hz⟩ : ∃ z : Pr, z = { q with pending := Sig.addL q.pending 18 } := ⟨_, rfl⟩
          have M6 : Mod (fun k => k = w.heap.size) w5 (w5.setCell ⟨w.heap.size, 7, none⟩ (.int .u64 (Sig.addL q.pending 18))) := (Mod.refl _ _).set1 _
          have B := Lib.hid (show Blk (w5.setCell ⟨w.heap.size, 7, none⟩ (.int .u64 (Sig.addL q.pending 18))) w.heap.size 64 z.cells.toArray by rw [hz, ← pend_cells]; exact B.out.set_ 7 _)
          have Z := Lib.hid (Z.out.mod M6 (by omega))
          have E06 := Mod.toExt E05 M6 (by intro k hk he; omega)
          have hzok : z.ok := by rw [hz]; exact hqok
          have HZ := Lib.hid (HQ.out.trans hz.symm)
          clear hz M6 pc7 pf7
          generalize w5.setCell _ _ = w6 at *
          go_wp2_with (first
            | (refine wpList_load_row rfl 64 _ rfl _ rfl 64 _ _ _ B.out Tryz.underlying64 rfl (by rw [List.size_toArray]; exact i43r' hzok) ?_)
            | ((refine wpList_store_A rfl 64 _ _ rfl (w.heap.size + 1) _ rfl rfl 64 _ Z.out (by rw [List.size_toArray]; exact i43r' hzok) (Eq.trans (b := 43) (by rfl) (Eq.symm (show (z).cells.toArray.size = 43 from Pr.size hzok))) (Pr.one hzok) ?_); intro w7 H7 E7; have E7 : Ext w w7 := E7 w.heap.size w E06 (by omega)))
          refine bodyPost_ret_by (results_cell_row Tryz.results101 _ _ (w.heap.size + 1) 64 _ _ _ rfl H7 Tryz.underlying64 rfl (by rw [List.size_toArray]; exact i43r' hzok)) rfl ?_
          rw [HZ.out]
          exact ⟨rfl, E7⟩
  · have hs2 : sig = 1 ∨ sig = 17 := by omega
    have HST := Lib.hid fun w' => rstop_any sig hs2 w'
    have n18 : (sig == 18) = false := by simpa using h18
    have n9 : (sig == 9) = false := by rcases hs2 with rfl | rfl <;> rfl
    have HQ := Lib.hid (show sentP sig p = { p with pending := Sig.addL p.pending sig } by rcases hs2 with rfl | rfl <;> rfl)
    clear hs hs2
    go_enter Tryz.func101, Tryz.ntmps101
    go_upto_region 8 with fail
    rw [← HW.out]
    go_wp2_with fail
    refine (HST.out _).mono ?_
    rintro e w1 ⟨rfl, E1⟩
    have pc7 := (prAt_blk hok (B.out.ext E1)).c7
    have E01 := E0.trans E1
    go_wp2_with fail
    refine (Sig.radd_any p.pending sig _ hb).mono ?_
    rintro e w5 ⟨rfl, E5⟩
    have B := Lib.hid (B.out.ext (Ext.trans E1 E5))
    have Z := Lib.hid (Z.out.ext (Ext.trans E1 E5))
    have pc7 := (prAt_blk hok B.out).c7
    have pf7 := B.out.frozen 7
    have E05 := E01.trans E5
    go_upto_region 13 with fail
    obtain ⟨z, hz⟩ : ∃ z : Pr, z = { p with pending := Sig.addL p.pending sig } := ⟨_, rfl⟩
    have M6 : Mod (fun k => k = w.heap.size) w5 (w5.setCell ⟨w.heap.size, 7, none⟩ (.int .u64 (Sig.addL p.pending sig))) := (Mod.refl _ _).set1 _
    have B := Lib.hid (show Blk (w5.setCell ⟨w.heap.size, 7, none⟩ (.int .u64 (Sig.addL p.pending sig))) w.heap.size 64 z.cells.toArray by rw [hz, ← pend_cells]; exact B.out.set_ 7 _)
    have Z := Lib.hid (Z.out.mod M6 (by omega))
    have E06 := Mod.toExt E05 M6 (by intro k hk he; omega)
    have hzok : z.ok := by rw [hz]; exact hok
    have HZ := Lib.hid (HQ.out.trans hz.symm)
    clear hz M6 pc7 pf7
    generalize w5.setCell _ _ = w6 at *
    go_wp2_with (first
      | (refine wpList_load_row rfl 64 _ rfl _ rfl 64 _ _ _ B.out Tryz.underlying64 rfl (by rw [List.size_toArray]; exact i43r' hzok) ?_)
      | ((refine wpList_store_A rfl 64 _ _ rfl (w.heap.size + 1) _ rfl rfl 64 _ Z.out (by rw [List.size_toArray]; exact i43r' hzok) (Eq.trans (b := 43) (by rfl) (Eq.symm (show (z).cells.toArray.size = 43 from Pr.size hzok))) (Pr.one hzok) ?_); intro w7 H7 E7; have E7 : Ext w w7 := E7 w.heap.size w E06 (by omega)))
    refine bodyPost_ret_by (results_cell_row Tryz.results101 _ _ (w.heap.size + 1) 64 _ _ _ rfl H7 Tryz.underlying64 rfl (by rw [List.size_toArray]; exact i43r' hzok)) rfl ?_
    rw [HZ.out]
    exact ⟨rfl, E7⟩
theorem sentL_err {l : List Pr} {nx k sig : Int} (h : (sentL l nx k sig).2 ≠ 0) : (sentL l nx k sig).1 = l := by
  unfold sentL at h ⊢
  by_cases h1 : rightL l nx = true
  · by_cases h2 : Sig.isL sig = true
    · by_cases h3 : liveL l nx k = true
      · rw [if_pos h1, if_pos h2, if_pos h3] at h
        exact absurd rfl h
      · rw [if_pos h1, if_pos h2, if_neg h3]
    · rw [if_pos h1, if_neg h2]
  · rw [if_neg h1]
theorem rset_ok {A : Nat → Prop} (Ad : Option Addr) (c : Nat) (l : List Pr) (nx : Int) (q : Pr) (w : World) (h : RdY Rp A w (.slice Ad l.length c) l) (hq : q.ok) (hr : rightL l nx = true) :
    Calls Tryz.prog 60 #[tv Ad l.length c nx, .agg q.cells.toArray] w fun e w' => ∃ A' c', e = .returned (tv A' l.length c' nx) ∧ OwnS Rp 64 w.heap.size (fun _ => False) w' (.slice A' l.length c') (changeL (fun _ => q) q.pid l) ∧ Ext w w' := by
  refine (rset_any Ad c l nx q w h hq).mono ?_
  rintro e w' ⟨E, ⟨h1, _⟩ | ⟨_, A', c', rfl, O⟩⟩
  · rw [hr] at h1; cases h1
  · exact ⟨A', c', rfl, O, E⟩
def RSentPost (Ad : Option Addr) (c : Nat) (l : List Pr) (nx pid sig : Int) (w : World) (e : Ending) (w' : World) : Prop :=
  ∃ A' c', e = .returned (.tuple #[tv A' l.length c' nx, .int .i64 (sentL l nx pid sig).2]) ∧ TabS 64 Ad c l w.heap.size w' A' c' (sentL l nx pid sig).1 ∧ Ext w w'
set_option maxRecDepth 100000 in
set_option maxHeartbeats 800000 in
theorem rsent_to {A : Nat → Prop} (Ad : Option Addr) (c : Nat) (l : List Pr) (nx pid sig : Int) (hs : sig = 1 ∨ sig = 17 ∨ sig = 18) (w : World) (h : RdY Rp A w (.slice Ad l.length c) l) (hb : ∀ p ∈ l, Sig.U64 p.pending) :
    Calls Tryz.prog 64 #[tv Ad l.length c nx, .int .i64 pid, .int .i64 sig] w (RSentPost Ad c l nx pid sig w) := by
  have H := Lib.hid (rdy_pr (B := fun _ => False) h)
  have hoks := Lib.hid (RdY.oks h)
  obtain ⟨W, hW⟩ : ∃ W, W = (w.alloc (.cells #[.slice Ad l.length c, .int .i64 nx] 33)).alloc (.cells #[.slice none 0 0, .int .i64 0] 33) := ⟨_, rfl⟩
  have hres := Lib.hid (show Blk W (w.heap.size + 1) 33 #[.slice none 0 0, .int .i64 0] by rw [hW]; exact Blk.at_ _ _ (by simp))
  have hbox := Lib.hid (show Blk W w.heap.size 33 #[.slice Ad l.length c, .int .i64 nx] by rw [hW]; exact (Blk.new w _ _).alloc _)
  have E0 : Ext w W := by rw [hW]; exact (by repeat (first | with_reducible exact Ext.refl _ | refine Ext.drewN ?_ _ | refine Ext.drew ?_ | refine Ext.alloc ?_ _ | assumption | (refine Below.trans ?_ (by assumption)) | (refine Ext.trans ?_ (by assumption)) | (refine Below.trans ?_ (Below.mono (by assumption) (by omega)))))
  have HW := Lib.hid hW
  have HB := Lib.hid hb
  have hkn := sig_known18 hs
  have HNM := Lib.hid fun w' => Sig.rname_any sig w'
  rw [hkn] at HNM
  have HS := Lib.hid hs
  have hsl : sentL l nx pid sig = if rightL l nx = true then if liveL l nx pid = true then (changeL (fun _ => sentP sig (getL l nx pid).1) (getL l nx pid).1.pid l, 0) else (l, 8) else (l, 4) := by
    unfold sentL
    rw [hkn]
    rfl
  have HSL := Lib.hid hsl
  clear h hW hb hs hkn hsl
  unfold RSentPost
  go_enter Tryz.func64, Tryz.ntmps64
  go_wp2_with fail
  rw [← HW.out]
  have kb := hbox.out.two
  have ks := hres.out.two
  have HR := Lib.hid (rright_any (A := fun _ => False) Ad c l nx W (H.out.ext E0))
  go_wp2_with fail
  refine HR.out.mono ?_
  rintro e w1 ⟨rfl, E1⟩
  have E01 := E0.trans E1
  have kb := (hbox.out.ext E1).two
  have ks := (hres.out.ext E1).two
  clear HR HW
  cases hr : rightL l nx
  · have HR := Lib.hid hr
    clear hr
    have hM8 : Mod (fun k => k = w.heap.size + 1) w1 _ := ((Mod.refl _ w1).set1 (.slice Ad l.length c) (o := 0)).set1 (.int .i64 nx) (o := 1)
    obtain ⟨q0, q1, _, _⟩ := ((hres.out.ext E1).put2 (.slice Ad l.length c) (.int .i64 nx)).two
    go_wp2
    refine bodyPost_ret (v := .tuple #[tv Ad l.length c nx, .int .i64 4]) (by simp [results, Tryz.results64, go_sem, q0, q1]) rfl ?_
    rw [HSL.out, HR.out]
    have EE : Ext w _ := Mod.toExt E01 hM8 (by intro k hk he; omega)
    exact ⟨Ad, c, rfl, .inl ⟨rfl, rfl, rfl⟩, EE⟩
  · have HR := Lib.hid hr
    clear hr
    go_wp2_with fail
    refine (HNM.out _).mono ?_
    rintro e w2 ⟨rfl, E2⟩
    have E12 := E1.trans E2
    have E02 := E01.trans E2
    generalize (Sig.rowL sig).2.1 = nm at *
    have kb := (hbox.out.ext E12).two
    have HL := Lib.hid (rlive_any (A := fun _ => False) Ad c l nx pid w2 (H.out.ext E02))
    clear ks HNM
    go_wp2_with fail
    refine HL.out.mono ?_
    rintro e w3 ⟨rfl, E3⟩
    have E13 := E12.trans E3
    have E03 := E02.trans E3
    have kb := (hbox.out.ext E13).two
    have ks := (hres.out.ext E13).two
    clear HL E3
    cases hl : liveL l nx pid
    · have HL := Lib.hid hl
      clear hl
      have hM8 : Mod (fun k => k = w.heap.size + 1) w3 _ := ((Mod.refl _ w3).set1 (.slice Ad l.length c) (o := 0)).set1 (.int .i64 nx) (o := 1)
      obtain ⟨q0, q1, _, _⟩ := ((hres.out.ext E13).put2 (.slice Ad l.length c) (.int .i64 nx)).two
      go_wp2
      refine bodyPost_ret (v := .tuple #[tv Ad l.length c nx, .int .i64 8]) (by simp [results, Tryz.results64, go_sem, q0, q1]) rfl ?_
      rw [HSL.out, HR.out, HL.out]
      have EE : Ext w _ := Mod.toExt E03 hM8 (by intro k hk he; omega)
      exact ⟨Ad, c, rfl, .inl ⟨rfl, rfl, rfl⟩, EE⟩
    · obtain ⟨_, p, hgp, hpl, _⟩ := askL_live (live_ask hl)
      have HL := Lib.hid hl
      have hpok := hoks.out p hpl
      have hpp := HB.out p hpl
      have hG := rget_any (A := fun _ => False) Ad c l nx pid w3 (H.out.ext E03)
      rw [hgp] at hG
      have HG := Lib.hid hG
      have HSL := Lib.hid (HSL.out.trans (by rw [HR.out, HL.out, hgp]; rfl) : sentL l nx pid sig = (changeL (fun _ => sentP sig p) p.pid l, 0))
      have HPP := Lib.hid hpp
      clear hl hgp hG ks hpp hpl
      go_wp2_with fail
      refine HG.out.mono ?_
      rintro e w4 ⟨rfl, E4⟩
      have E14 := E13.trans E4
      have E04 := E03.trans E4
      obtain ⟨n10, hn10⟩ : ∃ n10, w4.heap.size = n10 := ⟨_, rfl⟩
      clear kb HG E4
      go_upto_region 9 with ((refine wpList_store_A rfl 64 _ _ rfl (n10) _ rfl rfl 64 _ (zero_rowR w4 n10 hn10) (by rw [List.size_toArray]; exact i43r' hpok) (Eq.trans (b := 43) (by rfl) (Eq.symm (show (p).cells.toArray.size = 43 from Pr.size hpok))) (Pr.one hpok) ?_); intro w5 H5 E5; have E45 : Ext w4 w5 := E5 w4.heap.size w4 ((Ext.refl w4).alloc _) (by omega); have b10 := Lib.hid H5; clear E5 H5)
      have E15 := E14.trans E45
      have E05 := E04.trans E45
      have hres0 := Lib.hid (hres.out.ext E14)
      have hbox := Lib.hid (hbox.out.ext E15)
      have hres := Lib.hid (hres.out.ext E15)
      have HNT := Lib.hid fun w' => rsent_any p sig HS.out w' hpok HPP.out
      have hqok : (sentP sig p).ok := preP_ok hpok
      have hqp : (sentP sig p).pid = p.pid := sentP_pid
      generalize sentP sig p = q at *
      have R5 := Lib.hid (H.out.ext E05)
      have HN10 := Lib.hid (show w.heap.size + 1 < n10 by rw [← hn10]; exact (hres0.out).lt)
      clear hn10 E14 E04 E45
      refine wp_region_held_drew (S := fun w' => Mod (fun k => k = w.heap.size + 1) w5 w') (by kernel_rfl) ((Mod.refl _ _).drew) (fun hHeld => ?_)
      (refine wpAnyH_take (i := 0) (v := ?_) rfl (by kernel_rfl) (by kernel_rfl) (by kernel_rfl) (fun _ _ _ h => h) (Or.inl ⟨by rfl, ?_⟩) (by assumption) ?_; rotate_left; (focus (intro w' hSw; have kc := (hbox.out.mod hSw (by omega)).two; go_simp; try with_reducible rfl)); (try simp only [List.getElem_toArray]); (try simp only [List.getElem_cons_succ]); (try simp only [List.getElem_cons_zero]); (try simp only [Act.put]); (try simp only [List.setIfInBounds_toArray]); (try simp only [List.set_cons_succ]); (try simp only [List.set_cons_zero]))
      (refine wpAnyH_take (i := 1) (v := .agg p.cells.toArray) rfl (by kernel_rfl) (by kernel_rfl) (by kernel_rfl) (fun _ _ _ h => h) (yieldsIf_load_mid (by rfl) 64 _ rfl _ _ rfl p.cells _ (fun w' hSw => (fun i u hu => by rw [(b10.out.mod hSw (by have := HN10.out; omega)).cell, List.getElem?_toArray, Nat.zero_add]; exact hu)) Tryz.underlying64 rfl (i43r' hpok)) (by assumption) ?_; (try simp only [List.getElem_toArray]); (try simp only [List.getElem_cons_succ]); (try simp only [List.getElem_cons_zero]); (try simp only [Act.put]); (try simp only [List.setIfInBounds_toArray]); (try simp only [List.set_cons_succ]); (try simp only [List.set_cons_zero]))
      (refine wpAnyH_take (i := 2) (v := ?_) rfl (by kernel_rfl) (by kernel_rfl) (by kernel_rfl) (fun _ _ _ h => h) (Or.inl ⟨by rfl, ?_⟩) (by assumption) ?_; rotate_left; (focus (intro w' hSw; go_simp; try with_reducible rfl)); (try simp only [List.getElem_toArray]); (try simp only [List.getElem_cons_succ]); (try simp only [List.getElem_cons_zero]); (try simp only [Act.put]); (try simp only [List.setIfInBounds_toArray]); (try simp only [List.set_cons_succ]); (try simp only [List.set_cons_zero]))
      obtain ⟨D, hD⟩ : ∃ D, D = w5.drew := ⟨_, rfl⟩
      have ED : Ext w5 D := by rw [hD]; exact (Ext.refl _).drew
      rw [← hD]
      clear hD
      (refine wpAnyH_ready (rs := [3]) (by kernel_rfl) (by simp) ?_; refine AllReadyH.cons rfl (fun K hK => ?_) AllReadyH.nil; go_simp; go_at_call 101; refine (HNT.out _).mono ?_; rintro e w6 ⟨rfl, E6⟩; (try dsimp only); refine hK.out _ _ (Mod.of_ext (ED.trans E6)) (fun hHeld => ?_); clear hK K; (try simp only [Act.put]); (try simp only [List.getElem_toArray]); (try simp only [List.getElem_cons_succ]); (try simp only [List.getElem_cons_zero]); (try simp only [List.setIfInBounds_toArray]); (try simp only [List.set_cons_succ]); (try simp only [List.set_cons_zero]))
      have E56 := ED.trans E6
      (refine wpAnyH_ready (rs := [4]) (by kernel_rfl) (by simp) ?_; refine AllReadyH.cons rfl (fun K hK => ?_) AllReadyH.nil; go_simp; go_at_call 60; refine (rset_ok Ad c l nx q _ (R5.out.ext E56) hqok HR.out).mono ?_; rintro e w7 ⟨A7, c7, rfl, O7, E7⟩; (try dsimp only); refine hK.out _ _ (Mod.of_ext (E56.trans E7)) (fun hHeld => ?_); clear hK K; (try simp only [Act.put]); (try simp only [List.getElem_toArray]); (try simp only [List.getElem_cons_succ]); (try simp only [List.getElem_cons_zero]); (try simp only [List.setIfInBounds_toArray]); (try simp only [List.set_cons_succ]); (try simp only [List.set_cons_zero]))
      have E57 := E56.trans E7
      have ks := (hres.out.ext E57).two
      have hM8 : Mod (fun k => k = w.heap.size + 1) w7 _ := ((Mod.refl _ w7).set1 (.slice A7 l.length c7) (o := 0)).set1 (.int .i64 nx) (o := 1)
      (refine wpAnyH_ready (rs := [5]) (by kernel_rfl) (by simp) ?_; refine AllReadyH.cons rfl (fun K hK => ?_) AllReadyH.nil; go_simp; refine hK.out _ _ ((Mod.of_ext E57).trans hM8) (fun hHeld => ?_); clear hK K; (try simp only [Act.put]); (try simp only [List.getElem_toArray]); (try simp only [List.getElem_cons_succ]); (try simp only [List.getElem_cons_zero]); (try simp only [List.setIfInBounds_toArray]); (try simp only [List.set_cons_succ]); (try simp only [List.set_cons_zero]))
      (refine wpAnyH_take (i := 6) (v := ?_) rfl (by kernel_rfl) (by kernel_rfl) (by kernel_rfl) (fun _ _ _ h => h) (Or.inl ⟨by rfl, ?_⟩) (by assumption) ?_; rotate_left; (focus (intro w' hSw; go_simp; try with_reducible rfl)); (try simp only [List.getElem_toArray]); (try simp only [List.getElem_cons_succ]); (try simp only [List.getElem_cons_zero]); (try simp only [Act.put]); (try simp only [List.setIfInBounds_toArray]); (try simp only [List.set_cons_succ]); (try simp only [List.set_cons_zero]))
      refine wpAnyH_done (by kernel_rfl) ?_ _
      obtain ⟨q0, q1, _, _⟩ := ((hres.out.ext E57).put2 (.slice A7 l.length c7) (.int .i64 nx)).two
      have O8 := Lib.hid ((O7.lower (E05.trans E56).size).mod hM8 (fun k hk he => own_blk_ne O7.choose_spec.1 (hres.out.ext E57) (by decide) (by rw [← he]; exact hk)) (fun k _ hk _ => hk))
      clear O7 ks
      have E07 := E05.trans E57
      go_wp2
      refine bodyPost_ret (v := .tuple #[tv A7 l.length c7 nx, .int .i64 0]) (by simp [results, Tryz.results64, go_sem, q0, q1]) rfl ?_
      rw [HSL.out, ← hqp]
      exact ⟨A7, c7, rfl, .inr O8.out, Mod.toExt E07 hM8 (by intro k hk he; omega)⟩
set_option maxRecDepth 100000 in
set_option maxHeartbeats 3000000 in
theorem rsgroup_any {A : Nat → Prop} (Ad : Option Addr) (c : Nat) (l : List Pr) (nx g sig : Int) (hs : sig = 1 ∨ sig = 17 ∨ sig = 18) (w : World) (h : RdY Rp A w (.slice Ad l.length c) l) (hb : ∀ p ∈ l, Sig.U64 p.pending) :
    Calls Tryz.prog 98 #[tv Ad l.length c nx, .int .i64 g, .int .i64 sig] w fun e w' => ∃ A' c' k, e = .returned (.tuple #[tv A' l.length c' nx, .int .i64 k]) ∧ TabS 64 Ad c l w.heap.size w' A' c' (sgrpL l nx g sig) ∧ Ext w w' := by
  have H := Lib.hid (rdy_pr (B := fun _ => False) h)
  obtain ⟨W, hW⟩ : ∃ W, W = (w.alloc (.cells #[.slice Ad l.length c, .int .i64 nx] 33)).alloc (.cells #[.slice none 0 0, .int .i64 0] 33) := ⟨_, rfl⟩
  have hres := Lib.hid (show Blk W (w.heap.size + 1) 33 #[.slice none 0 0, .int .i64 0] by rw [hW]; exact Blk.at_ _ _ (by simp))
  have hbox := Lib.hid (show Blk W w.heap.size 33 #[.slice Ad l.length c, .int .i64 nx] by rw [hW]; exact (Blk.new w _ _).alloc _)
  have E0 : Ext w W := by rw [hW]; exact (by repeat (first | with_reducible exact Ext.refl _ | refine Ext.drewN ?_ _ | refine Ext.drew ?_ | refine Ext.alloc ?_ _ | assumption | (refine Below.trans ?_ (by assumption)) | (refine Ext.trans ?_ (by assumption)) | (refine Below.trans ?_ (Below.mono (by assumption) (by omega)))))
  have HW := Lib.hid hW
  have HB := Lib.hid hb
  have HS := Lib.hid hs
  clear h hW hb hs
  go_enter Tryz.func98, Tryz.ntmps98
  go_wp2_with fail
  rw [← HW.out]
  have kb := hbox.out.two
  go_wp2_with fail
  refine (rmembers_any (A := fun _ => False) Ad c l nx g W (H.out.ext E0)).mono ?_
  rintro e w1 ⟨A1, c1, rfl, O1, E1⟩
  have E01 := E0.trans E1
  have hbox := Lib.hid (hbox.out.ext E1)
  have hres := Lib.hid (hres.out.ext E1)
  obtain ⟨M, hM⟩ : ∃ M, memL l nx g = M := ⟨_, rfl⟩
  have HG := Lib.hid (show sgrpL l nx g sig = sentsL l nx sig M by unfold sgrpL; rw [hM])
  rw [hM] at O1 ⊢
  obtain ⟨K, hK⟩ : ∃ K, M.length = K := ⟨_, rfl⟩
  have hK32 : K ≤ 100000 := by
    rw [← hK, ← hM]
    unfold memL
    split
    · rename_i hr
      have := (right_len hr).1
      have := List.length_filter_le (ofP g) l
      simp only [List.length_map]
      omega
    · simp
  rw [hK] at O1 ⊢
  have HM := Lib.hid hM
  have HK := Lib.hid hK
  have O1 := Lib.hid O1
  obtain ⟨N, hN⟩ : ∃ N, l.length = N := ⟨_, rfl⟩
  rw [hN] at H hbox ⊢
  have HN := Lib.hid hN
  have hlt1 := hres.out.lt
  have HLT := Lib.hid hlt1
  have HW2 := Lib.hid (show W.heap.size = w.heap.size + 2 by rw [HW.out]; simp)
  clear hM hK kb hN hlt1 HW
  go_wp2
  go_loopw [8, 17] (fun n i wr => ∃ (m : Nat) (k : Int) (A' : Option Addr) (c' : Nat), m ≤ K ∧ n = .int .i64 k ∧ i = .int .i64 m ∧ Hid (Blk wr w.heap.size 33 #[.slice A' N c', .int .i64 nx]) ∧ Hid (Blk wr (w.heap.size + 1) 33 #[.slice none 0 0, .int .i64 0]) ∧ Hid (TabS 64 Ad c l w.heap.size wr A' c' (sentsL l nx sig (M.take m))) ∧ Hid (OwnS Ib 3 W.heap.size (fun _ => False) wr (.slice A1 K c1) M) ∧ Ext w wr) (fun _ i _ => K - (intOf i).toNat)
  case atStart => exact ⟨0, 0, Ad, c, Nat.zero_le _, rfl, rfl, hbox, hres, Lib.hid (.inl ⟨rfl, rfl, rfl⟩), O1, E01⟩
  case round =>
    clear hbox hres O1 E01 E1 E0
    obtain ⟨m, k, A', c', hm, rfl, rfl, hbox, hres, HR, HY, hE⟩ := hrel
    by_cases hmn : m < K
    · obtain ⟨b, off, u, x, rfl, hc, hd, hu⟩ := RdY.at1 HY.out.y rfl hmn
      have hu : [u] = [Value.int .i64 x] := hu.out
      cases hu
      have kb := hbox.out.two
      have HT := Lib.hid (sentsL_take (l := l) (nx := nx) (sig := sig) hd.out)
      have hln : (sentsL l nx sig (M.take m)).length = N := by rw [sentsL_len, HN.out]
      have hst := rsent_to (A := fun _ => False) A' c' (sentsL l nx sig (M.take m)) nx x sig HS.out wr (by rw [hln, ← HN.out]; exact HR.out.y (by rw [HN.out]; exact H.out) hE) (sentsL_bd HB.out)
      unfold RSentPost at hst
      rw [hln] at hst
      have HST := Lib.hid hst
      have HLN := Lib.hid hln
      have hSZ := hE.size
      clear hst hln hd
      have Hc := hc
      go_wp2_with fail
      refine HST.out.mono ?_
      rintro e w2 ⟨A2, c2, rfl, R2, E2⟩
      rw [← HT.out] at R2
      have hee := sentL_err (l := sentsL l nx sig (M.take m)) (nx := nx) (k := x) (sig := sig)
      rw [← HT.out] at hee
      generalize (sentL (sentsL l nx sig (M.take m)) nx x sig).2 = er at *
      have HEE := Lib.hid hee
      have R2 := Lib.hid R2
      have hbx2 := Lib.hid (hbox.out.ext E2)
      have hlt2 := Lib.hid (hbox.out.ext E2).lt
      obtain ⟨n3, hn3⟩ : ∃ n, w2.heap.size = n := ⟨_, rfl⟩
      have hn3w := Lib.hid (show w.heap.size < n3 by have := hlt2.out; omega)
      have hn3w1 := Lib.hid (show w.heap.size + 1 < n3 by have := (hres.out.ext E2).lt; omega)
      obtain ⟨W3, hW3⟩ : ∃ W, W = w2.alloc (.cells #[.slice A2 N c2, .int .i64 nx] 33) := ⟨_, rfl⟩
      have B3 := Lib.hid (show Blk W3 n3 33 #[.slice A2 N c2, .int .i64 nx] by rw [hW3]; exact Blk.at_ _ _ hn3)
      have E23 : Ext w2 W3 := by rw [hW3]; exact (Ext.refl _).alloc _
      have HW3 := Lib.hid hW3
      have E3 := E2.trans E23
      clear hW3 hee kb
      go_upto_region 6 with fail

      rw [← HW3.out]
      clear HW3 hn3
      have hbox := Lib.hid (hbox.out.ext E3)
      have hres := Lib.hid (hres.out.ext E3)
      have HR := Lib.hid (HR.out.ext E3)
      have R2 := Lib.hid (R2.out.ext E23)
      have HY := Lib.hid (HY.out.ext E3)
      have hE := hE.trans E3
      by_cases he0 : er = 0
      · have heb : (er == 0) = true := by simpa using he0
        have k3 := B3.out.two
        have kb := hbox.out.two
        have MM : Mod (fun k => k = w.heap.size) W3 _ := ((Mod.refl _ W3).set1 (.slice A2 N c2) (o := 0)).set1 (.int .i64 nx) (o := 1)
        have B4 := Lib.hid (hbox.out.put2 (.slice A2 N c2) (.int .i64 nx))
        have S4 := Lib.hid (hres.out.mod MM (by show ¬ _ = _; omega))
        have EE := Mod.toExt hE MM (by intro k hk he; omega)
        have Y4 := Lib.hid (HY.out.mod MM (fun j hj he => by have := (HY.out.row j hj).1; have := HW2.out; omega) (fun k _ hk _ => hk))
        have R4 := Lib.hid ((HR.out.trans R2.out (by rw [HLN.out, HN.out]) (Ext.refl W3) hSZ).mod MM hbox.out (by decide))
        clear he0
        go_wp2
        all_goals go_roundw
        all_goals first
          | (case rel => exact ⟨m + 1, _, A2, c2, by omega, rfl, by go_num, B4, S4, R4, Y4, EE⟩)
          | (case measure => simp [intOf]; omega)
      · have heb : (er == 0) = false := by simpa using he0
        have R4 := Lib.hid (show TabS 64 Ad c l w.heap.size W3 A' c' (sentsL l nx sig (M.take (m + 1))) by rw [HEE.out he0]; exact HR.out)
        clear he0
        go_wp2
        all_goals go_roundw
        all_goals first
          | (case rel => exact ⟨m + 1, k, A', c', by omega, rfl, by go_num, hbox, hres, R4, HY, hE⟩)
          | (case measure => simp [intOf]; omega)
    · obtain rfl : m = K := by omega
      have kb := hbox.out.two
      have ks := hres.out.two
      have hM7 : Mod (fun k => k = w.heap.size + 1) wr _ := ((Mod.refl _ wr).set1 (.slice A' N c') (o := 0)).set1 (.int .i64 nx) (o := 1)
      obtain ⟨q0, q1, _, _⟩ := (hres.out.put2 (.slice A' N c') (.int .i64 nx)).two
      go_wp2
      refine bodyPost_ret (v := .tuple #[tv A' N c' nx, .int .i64 k]) (by simp [results, Tryz.results98, go_sem, q0, q1]) rfl ?_
      have hf : sgrpL l nx g sig = sentsL l nx sig (M.take m) := by rw [HG.out, List.take_of_length_le (by have := HK.out; omega)]
      rw [hf, HN.out]
      exact ⟨A', c', k, rfl, HR.out.mod hM7 hres.out (by decide), Mod.toExt hE hM7 (by intro k hk he; omega)⟩
end Go.Proofs.YteljobleojhgmaaGreat
