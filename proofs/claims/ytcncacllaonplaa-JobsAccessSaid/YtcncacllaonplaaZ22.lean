/- The document's answer: what is sent to a process, and to a group; by contract. Conditions: sets have 64 bits; the signals that jobs send. -/
import Derived.Test.YtcncacllaonplaaS22
import Derived.Test.YtcncacllaonplaaAA22
namespace Go.Proofs.Ytcncacllaonplaa
open Go.RowKit Go.Kb

set_option maxHeartbeats 800000 in
theorem stop_any (sig : Int) (hs : sig = 1 ∨ sig = 21 ∨ sig = 22) (w : World) : Calls Try.prog 89 #[.int .i64 sig] w fun e w' => e = .returned (.bool (!(sig == 1))) ∧ Ext w w' := by
  rcases hs with rfl | rfl | rfl
  all_goals
    go_enter Try.func89, Try.ntmps89
    go_wp2
    go_ret
    exact ⟨rfl, (by repeat (first | with_reducible exact Ext.refl _ | refine Ext.drewN ?_ _ | refine Ext.drew ?_ | refine Ext.alloc ?_ _ | assumption | (refine Below.trans ?_ (by assumption)) | (refine Ext.trans ?_ (by assumption)) | (refine Below.trans ?_ (Below.mono (by assumption) (by omega)))))⟩
set_option maxRecDepth 100000 in
set_option maxHeartbeats 800000 in
theorem sent_any (p : Pr) (sig : Int) (hs : sig = 1 ∨ sig = 21 ∨ sig = 22) (w : World) (hok : p.ok) (hb : Sig.U64 p.pending) :
    Calls Try.prog 83 #[.agg p.cells.toArray, .int .i64 sig] w fun e w' => e = .returned (.agg (sendP sig p).cells.toArray) ∧ Ext w w' := by
  obtain ⟨W, hW⟩ : ∃ W, W = (w.alloc (.cells p.cells.toArray 86)).alloc (.cells #[.int .i64 0, .int .i64 0, .int .i64 0, .int .i64 0, .int .i64 0, .int .i64 0, .int .i64 0, .int .u64 0, .int .u64 0, .int .i64 0, .int .i64 0, .int .i64 0, .int .i64 0, .int .i64 0, .int .i64 0, .int .i64 0, .int .i64 0, .int .i64 0, .int .i64 0, .int .i64 0, .int .i64 0, .int .i64 0, .int .i64 0, .int .i64 0, .int .i64 0, .int .i64 0, .int .i64 0, .int .i64 0, .int .i64 0, .int .i64 0, .int .i64 0, .int .i64 0, .int .i64 0, .int .i64 0, .int .i64 0, .int .i64 0, .int .i64 0, .int .i64 0, .int .i64 0, .int .i64 0, .int .i64 0, .int .i64 0, .bool false] 86) := ⟨_, rfl⟩
  have Z := Lib.hid (show Blk W (w.heap.size + 1) 86 zeroP.cells.toArray by rw [hW]; exact zero_rowR _ _ (by simp))
  have B := Lib.hid (show Blk W w.heap.size 86 p.cells.toArray by rw [hW]; exact (Blk.new w _ _).alloc _)
  have E0 : Ext w W := by rw [hW]; exact (by repeat (first | with_reducible exact Ext.refl _ | refine Ext.drewN ?_ _ | refine Ext.drew ?_ | refine Ext.alloc ?_ _ | assumption | (refine Below.trans ?_ (by assumption)) | (refine Ext.trans ?_ (by assumption)) | (refine Below.trans ?_ (Below.mono (by assumption) (by omega)))))
  have HW := Lib.hid hW
  clear hW
  have hst := stop_any sig hs
  by_cases h1 : sig = 1
  · subst h1
    have HST := Lib.hid hst
    have HQ := Lib.hid (show sendP 1 p = { p with pending := Sig.addL p.pending 1 } from rfl)
    clear hst hs
    go_enter Try.func83, Try.ntmps83
    go_upto_region 8 with fail
    rw [← HW.out]
    go_wp2_with fail
    refine (HST.out _).mono ?_
    rintro e w1 ⟨rfl, E1⟩
    have pc7 := (prAt_blk hok (B.out.ext E1)).c7
    have E01 := E0.trans E1
    go_wp2_with fail
    refine (Sig.radd_any p.pending 1 _ hb).mono ?_
    rintro e w5 ⟨rfl, E5⟩
    have B := Lib.hid (B.out.ext (Ext.trans E1 E5))
    have Z := Lib.hid (Z.out.ext (Ext.trans E1 E5))
    have pc7 := (prAt_blk hok B.out).c7
    have pf7 := B.out.frozen 7
    have E05 := E01.trans E5
    go_upto_region 13 with fail
    obtain ⟨z, hz⟩ : ∃ z : Pr, z = { p with pending := Sig.addL p.pending 1 } := ⟨_, rfl⟩
    have M6 : Mod (fun k => k = w.heap.size) w5 (w5.setCell ⟨w.heap.size, 7, none⟩ (.int .u64 (Sig.addL p.pending 1))) := (Mod.refl _ _).set1 _
    have B := Lib.hid (show Blk (w5.setCell ⟨w.heap.size, 7, none⟩ (.int .u64 (Sig.addL p.pending 1))) w.heap.size 86 z.cells.toArray by rw [hz, ← pend_cells]; exact B.out.set_ 7 _)
    have Z := Lib.hid (Z.out.mod M6 (by omega))
    have E06 := Mod.toExt E05 M6 (by intro k hk he; omega)
    have hzok : z.ok := by rw [hz]; exact hok
    have HZ := Lib.hid (HQ.out.trans hz.symm)
    clear hz M6 pc7 pf7
    generalize w5.setCell _ _ = w6 at *
    go_wp2_with (first
      | (refine wpList_load_row rfl 86 _ rfl _ rfl 86 _ _ _ B.out Try.underlying86 rfl (by rw [List.size_toArray]; exact i43r' hzok) ?_)
      | ((refine wpList_store_A rfl 86 _ _ rfl (w.heap.size + 1) _ rfl rfl 86 _ Z.out (by rw [List.size_toArray]; exact i43r' hzok) (Eq.trans (b := 43) (by rfl) (Eq.symm (show (z).cells.toArray.size = 43 from Pr.size hzok))) (Pr.one hzok) ?_); intro w7 H7 E7; have E7 : Ext w w7 := E7 w.heap.size w E06 (by omega)))
    refine bodyPost_ret_by (results_cell_row Try.results83 _ _ (w.heap.size + 1) 86 _ _ _ rfl H7 Try.underlying86 rfl (by rw [List.size_toArray]; exact i43r' hzok)) rfl ?_
    rw [HZ.out]
    exact ⟨rfl, E7⟩
  · have hb1 : (sig == 1) = false := by simpa using h1
    rw [hb1] at hst
    have HST := Lib.hid hst
    have h18 : (sig == 18) = false := by rcases hs with rfl | rfl | rfl <;> rfl
    have HQ := Lib.hid (show sendP sig p = { p with pending := Sig.addL (Sig.delL p.pending 18) sig } by unfold sendP; rw [if_neg h1])
    have n18 : ¬ sig = 18 := by simpa using h18
    have HD := Lib.hid fun w' => Sig.rdel_any p.pending 18 w' hb
    clear hst hb1 h1 hs
    go_enter Try.func83, Try.ntmps83
    go_upto_region 8 with fail
    rw [← HW.out]
    go_wp2_with fail
    refine (HST.out _).mono ?_
    rintro e w1 ⟨rfl, E1⟩
    have B := Lib.hid (B.out.ext E1)
    have pc7 := (prAt_blk hok B.out).c7
    have Z := Lib.hid (Z.out.ext E1)
    have E01 := E0.trans E1
    go_wp2_with fail
    refine (HD.out _).mono ?_
    rintro e w2 ⟨rfl, E2⟩
    have B := Lib.hid (B.out.ext E2)
    have pc7 := (prAt_blk hok B.out).c7
    have pf7 := B.out.frozen 7
    have E02 := E01.trans E2
    go_upto_region 12 with fail
    have M3 : Mod (fun k => k = w.heap.size) w2 (w2.setCell ⟨w.heap.size, 7, none⟩ (.int .u64 (Sig.delL p.pending 18))) := (Mod.refl _ _).set1 _
    obtain ⟨q, hq⟩ : ∃ q : Pr, q = { p with pending := Sig.delL p.pending 18 } := ⟨_, rfl⟩
    have B := Lib.hid (show Blk (w2.setCell ⟨w.heap.size, 7, none⟩ (.int .u64 (Sig.delL p.pending 18))) w.heap.size 86 q.cells.toArray by rw [hq, ← pend_cells]; exact B.out.set_ 7 _)
    have Z := Lib.hid ((Z.out.ext E2).mod M3 (by omega))
    have E03 := Mod.toExt E02 M3 (by intro k hk he; omega)
    have hqok : q.ok := by rw [hq]; exact hok
    have hqb : Sig.U64 q.pending := by rw [hq]; exact Sig.delL_bd hb 18
    have HQ := Lib.hid (show sendP sig p = { q with pending := Sig.addL q.pending sig } by rw [HQ.out, hq])
    clear hq M3 pc7 pf7 HD
    generalize w2.setCell _ _ = w3 at *
    have pc7 := (prAt_blk hqok B.out).c7
    go_wp2_with fail
    refine (Sig.radd_any q.pending sig _ hqb).mono ?_
    rintro e w5 ⟨rfl, E5⟩
    have B := Lib.hid (B.out.ext (Ext.trans (Ext.refl w3) E5))
    have Z := Lib.hid (Z.out.ext (Ext.trans (Ext.refl w3) E5))
    have pc7 := (prAt_blk hqok B.out).c7
    have pf7 := B.out.frozen 7
    have E05 := E03.trans E5
    go_upto_region 13 with fail
    obtain ⟨z, hz⟩ : ∃ z : Pr, z = { q with pending := Sig.addL q.pending sig } := ⟨_, rfl⟩
    have M6 : Mod (fun k => k = w.heap.size) w5 (w5.setCell ⟨w.heap.size, 7, none⟩ (.int .u64 (Sig.addL q.pending sig))) := (Mod.refl _ _).set1 _
    have B := Lib.hid (show Blk (w5.setCell ⟨w.heap.size, 7, none⟩ (.int .u64 (Sig.addL q.pending sig))) w.heap.size 86 z.cells.toArray by rw [hz, ← pend_cells]; exact B.out.set_ 7 _)
    have Z := Lib.hid (Z.out.mod M6 (by omega))
    have E06 := Mod.toExt E05 M6 (by intro k hk he; omega)
    have hzok : z.ok := by rw [hz]; exact hqok
    have HZ := Lib.hid (HQ.out.trans hz.symm)
    clear hz M6 pc7 pf7
    generalize w5.setCell _ _ = w6 at *
    go_wp2_with (first
      | (refine wpList_load_row rfl 86 _ rfl _ rfl 86 _ _ _ B.out Try.underlying86 rfl (by rw [List.size_toArray]; exact i43r' hzok) ?_)
      | ((refine wpList_store_A rfl 86 _ _ rfl (w.heap.size + 1) _ rfl rfl 86 _ Z.out (by rw [List.size_toArray]; exact i43r' hzok) (Eq.trans (b := 43) (by rfl) (Eq.symm (show (z).cells.toArray.size = 43 from Pr.size hzok))) (Pr.one hzok) ?_); intro w7 H7 E7; have E7 : Ext w w7 := E7 w.heap.size w E06 (by omega)))
    refine bodyPost_ret_by (results_cell_row Try.results83 _ _ (w.heap.size + 1) 86 _ _ _ rfl H7 Try.underlying86 rfl (by rw [List.size_toArray]; exact i43r' hzok)) rfl ?_
    rw [HZ.out]
    exact ⟨rfl, E7⟩
end Go.Proofs.Ytcncacllaonplaa
