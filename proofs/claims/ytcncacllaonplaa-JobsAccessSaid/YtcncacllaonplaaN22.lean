/- Whether numbers hold one; what is sent to a process; by contract. Conditions: sets have 64 bits; the signals that jobs send. -/
import Derived.Test.YtcncacllaonplaaH22
namespace Go.Proofs.Ytcncacllaonplaa
open Go.RowKit Go.Kb

theorem RI.ofBlk {w : World} {g : Nat} {t : TypeId} {l : List Int} (h : Blk w g t (l.map (Value.int .i64)).toArray) (hm : l.length ≤ maxLen) : RI .i64 w (.slice (some ⟨g, 0, none⟩) l.length l.length) l :=
  ⟨by simp, _, _, rfl, Nat.le_refl _, hm, .inr ⟨g, 0, rfl, fun j u hu => by rw [Nat.zero_add, h.cell, List.getElem?_toArray]; exact hu⟩⟩
set_option maxHeartbeats 800000 in
theorem indexI_any (v : Value) (l : List Int) (x : Int) (w : World) (hl : RI .i64 w v l) : Calls Try.prog 96 #[v, .int .i64 x] w fun e w' => (∃ i : Int, e = .returned (.int .i64 i) ∧ decide (0 ≤ i) = decide (x ∈ l)) ∧ Ext w w' := by
  obtain ⟨Ad, c, rfl, hc1, hc2⟩ := hl.shape
  have HL := Lib.hid hl
  obtain ⟨n, hn⟩ : ∃ n, l.length = n := ⟨_, rfl⟩
  rw [hn] at HL hc1 ⊢
  have HN := Lib.hid hn
  clear hl hn
  go_enter Try.func96, Try.ntmps96
  go_wp2
  go_loopw [8] (fun i wr => ∃ m : Nat, m ≤ n ∧ i = .int .i64 m ∧ Hid (¬ x ∈ l.take m) ∧ Ext w wr) (fun i _ => n - (intOf i).toNat)
  case atStart => exact ⟨0, Nat.zero_le _, rfl, Lib.hid (by simp), (by repeat (first | with_reducible exact Ext.refl _ | refine Ext.drewN ?_ _ | refine Ext.drew ?_ | refine Ext.alloc ?_ _ | assumption | (refine Below.trans ?_ (by assumption)) | (refine Ext.trans ?_ (by assumption)) | (refine Below.trans ?_ (Below.mono (by assumption) (by omega)))))⟩
  case round =>
    obtain ⟨m, hm, rfl, HD, hE⟩ := hrel
    by_cases hlt : m < n
    · have Ha := RdN.ext HL.out hE
      obtain ⟨b, off, y, rfl, hc1, hy⟩ := RdN.icell Ha hlt
      have k1 : (m : Int) < (n : Int) := by omega
      have k2 : (0 : Int) ≤ (m : Int) := by omega
      clear Ha
      by_cases hxy : x = y
      · have hb : (x == y) = true := by simpa using hxy
        have HX := Lib.hid hxy
        clear hxy
        go_wp2
        go_ret
        exact ⟨⟨m, rfl, by rw [decide_eq_true k2, decide_eq_true]; rw [HX.out]; exact List.mem_of_getElem? hy.out⟩, hE⟩
      · have hb : (x == y) = false := by simpa using hxy
        go_wp2
        go_roundw
        case rel => exact ⟨m + 1, by omega, by go_num, Lib.hid (by
          rw [List.take_add_one, hy.out]
          intro hq
          rcases List.mem_append.1 hq with h | h
          · exact HD.out h
          · simp at h; exact hxy h), hE⟩
        case measure => simp [intOf]; omega
    · obtain rfl : m = n := by omega
      have ht : l.take m = l := List.take_of_length_le (by have := HN.out; omega)
      rw [ht] at HD
      have HD := Lib.hid HD.out
      go_wp2
      go_ret
      exact ⟨⟨-1, rfl, by rw [decide_eq_false HD.out]; rfl⟩, hE⟩
set_option maxHeartbeats 800000 in
theorem hasI_any (v : Value) (l : List Int) (x : Int) (w : World) (hl : RI .i64 w v l) : Calls Try.prog 95 #[v, .int .i64 x] w fun e w' => e = .returned (.bool (decide (x ∈ l))) ∧ Ext w w' := by
  have HI := Lib.hid (indexI_any v l x w hl)
  clear hl
  generalize decide (x ∈ l) = d at *
  go_enter Try.func95, Try.ntmps95
  go_wp2_with fail
  refine HI.out.mono ?_
  rintro e w1 ⟨⟨i, rfl, hi⟩, E1⟩
  cases d
  · have hi2 : ¬ (0 : Int) ≤ i := of_decide_eq_false hi
    clear hi
    go_wp2
    go_ret
    exact ⟨by show Ending.returned (.bool (decide (0 ≤ i))) = _; rw [decide_eq_false (by omega)], E1⟩
  · have hi2 : (0 : Int) ≤ i := of_decide_eq_true hi
    clear hi
    go_wp2
    go_ret
    exact ⟨rfl, E1⟩
def stopsL : List Int := [19, 20, 21, 22]
theorem stops_any (w : World) : Calls Try.prog 93 #[] w fun e w' => ∃ v, e = .returned v ∧ RI .i64 w' v stopsL ∧ Ext w w' := by
  go_enter Try.func93, Try.ntmps93
  go_wp2
  go_ret
  exact ⟨_, rfl, RI.ofBlk (l := stopsL) (Blk.at_ _ _ rfl) (by decide), (by repeat (first | with_reducible exact Ext.refl _ | refine Ext.drewN ?_ _ | refine Ext.drew ?_ | refine Ext.alloc ?_ _ | assumption | (refine Below.trans ?_ (by assumption)) | (refine Ext.trans ?_ (by assumption)) | (refine Below.trans ?_ (Below.mono (by assumption) (by omega)))))⟩
/-- a process that is sent a signal of those that jobs send -/
def sendP (sig : Int) (p : Pr) : Pr := { p with pending := Sig.addL (if sig = 1 then p.pending else Sig.delL p.pending 18) sig }
theorem pend_cells {p : Pr} {x : Int} : p.cells.toArray.setIfInBounds 7 (.int .u64 x) = (Pr.cells { p with pending := x }).toArray := by
  simp [Pr.cells]
set_option maxRecDepth 100000 in
set_option maxHeartbeats 800000 in
theorem send_any (p : Pr) (sig : Int) (hs : sig = 1 ∨ sig = 21 ∨ sig = 22) (n : Nat) (w : World) (h : Blk w n 40 p.cells.toArray) (hok : p.ok) (hb : Sig.U64 p.pending) :
    Calls Try.prog 92 #[.pointer (some ⟨n, 0, none⟩), .int .i64 sig] w fun e w' => e = .returned (.tuple #[]) ∧ Blk w' n 40 (sendP sig p).cells.toArray ∧ Mod (fun k => k = n) w w' := by
  have B := Lib.hid h
  clear h
  rcases hs with rfl | rfl | rfl
  ·
    go_enter Try.func92, Try.ntmps92
    go_wp2_with fail
    refine (stops_any _).mono ?_
    rintro e w1 ⟨v, rfl, R1, E1⟩
    have R1 := Lib.hid R1
    have B := Lib.hid (B.out.ext E1)
    go_wp2_with fail
    refine (hasI_any v stopsL 1 _ R1.out).mono ?_
    rw [show decide ((1 : Int) ∈ stopsL) = false by decide]
    rintro e w2 ⟨rfl, E2⟩
    have B := Lib.hid (B.out.ext E2)
    have E12 := E1.trans E2
    have pc7 := (prAt_blk hok B.out).c7
    have pf7 := B.out.frozen 7
    clear R1 E1 E2
    go_wp2_with fail
    refine (Sig.add_any p.pending 1 _ hb).mono ?_
    rintro e w3 ⟨rfl, Ew3⟩
    have B := Lib.hid (B.out.ext Ew3)
    have pc7 := (prAt_blk hok B.out).c7
    have pf7 := B.out.frozen 7
    go_wp2
    go_end0
    exact ⟨rfl, by rw [← pend_cells]; exact B.out.set_ 7 _, (Mod.of_ext (E12.trans Ew3)).set1 _⟩
  ·
    go_enter Try.func92, Try.ntmps92
    go_wp2_with fail
    refine (stops_any _).mono ?_
    rintro e w1 ⟨v, rfl, R1, E1⟩
    have R1 := Lib.hid R1
    have B := Lib.hid (B.out.ext E1)
    go_wp2_with fail
    refine (hasI_any v stopsL 21 _ R1.out).mono ?_
    rw [show decide ((21 : Int) ∈ stopsL) = true by decide]
    rintro e w2 ⟨rfl, E2⟩
    have B := Lib.hid (B.out.ext E2)
    have E12 := E1.trans E2
    have pc7 := (prAt_blk hok B.out).c7
    have pf7 := B.out.frozen 7
    clear R1 E1 E2
    go_wp2_with fail
    refine (Sig.del_any p.pending 18 _ hb).mono ?_
    rintro e w3 ⟨rfl, E3⟩
    have B := Lib.hid (B.out.ext E3)
    have E13 := E12.trans E3
    have pc7 := (prAt_blk hok B.out).c7
    have pf7 := B.out.frozen 7
    go_wp2_with fail
    obtain ⟨q, hq⟩ : ∃ q : Pr, q = { p with pending := Sig.delL p.pending 18 } := ⟨_, rfl⟩
    have M4 : Mod (fun k => k = n) w (w3.setCell ⟨n, 7, none⟩ (.int .u64 (Sig.delL p.pending 18))) := (Mod.of_ext E13).set1 _
    have B := Lib.hid (show Blk (w3.setCell ⟨n, 7, none⟩ (.int .u64 (Sig.delL p.pending 18))) n 40 q.cells.toArray by rw [hq, ← pend_cells]; exact B.out.set_ 7 _)
    have hqok : q.ok := by rw [hq]; exact hok
    have hqp : Sig.delL p.pending 18 = q.pending := by rw [hq]
    have hqb : Sig.U64 q.pending := by rw [hq]; exact Sig.delL_bd hb 18
    have HQ := Lib.hid (show sendP 21 p = { q with pending := Sig.addL q.pending 21 } by rw [hq]; rfl)
    rw [hqp] at B M4 ⊢
    clear hq pc7 pf7 hqp
    generalize w3.setCell _ _ = w4 at *
    refine (Sig.add_any q.pending 21 _ hqb).mono ?_
    rintro e w5 ⟨rfl, E5⟩
    have B := Lib.hid (B.out.ext E5)
    have pc7 := (prAt_blk hqok B.out).c7
    have pf7 := B.out.frozen 7
    go_wp2
    go_end0
    exact ⟨rfl, by rw [HQ.out, ← pend_cells]; exact B.out.set_ 7 _, (M4.ext E5).set1 _⟩
  ·
    go_enter Try.func92, Try.ntmps92
    go_wp2_with fail
    refine (stops_any _).mono ?_
    rintro e w1 ⟨v, rfl, R1, E1⟩
    have R1 := Lib.hid R1
    have B := Lib.hid (B.out.ext E1)
    go_wp2_with fail
    refine (hasI_any v stopsL 22 _ R1.out).mono ?_
    rw [show decide ((22 : Int) ∈ stopsL) = true by decide]
    rintro e w2 ⟨rfl, E2⟩
    have B := Lib.hid (B.out.ext E2)
    have E12 := E1.trans E2
    have pc7 := (prAt_blk hok B.out).c7
    have pf7 := B.out.frozen 7
    clear R1 E1 E2
    go_wp2_with fail
    refine (Sig.del_any p.pending 18 _ hb).mono ?_
    rintro e w3 ⟨rfl, E3⟩
    have B := Lib.hid (B.out.ext E3)
    have E13 := E12.trans E3
    have pc7 := (prAt_blk hok B.out).c7
    have pf7 := B.out.frozen 7
    go_wp2_with fail
    obtain ⟨q, hq⟩ : ∃ q : Pr, q = { p with pending := Sig.delL p.pending 18 } := ⟨_, rfl⟩
    have M4 : Mod (fun k => k = n) w (w3.setCell ⟨n, 7, none⟩ (.int .u64 (Sig.delL p.pending 18))) := (Mod.of_ext E13).set1 _
    have B := Lib.hid (show Blk (w3.setCell ⟨n, 7, none⟩ (.int .u64 (Sig.delL p.pending 18))) n 40 q.cells.toArray by rw [hq, ← pend_cells]; exact B.out.set_ 7 _)
    have hqok : q.ok := by rw [hq]; exact hok
    have hqp : Sig.delL p.pending 18 = q.pending := by rw [hq]
    have hqb : Sig.U64 q.pending := by rw [hq]; exact Sig.delL_bd hb 18
    have HQ := Lib.hid (show sendP 22 p = { q with pending := Sig.addL q.pending 22 } by rw [hq]; rfl)
    rw [hqp] at B M4 ⊢
    clear hq pc7 pf7 hqp
    generalize w3.setCell _ _ = w4 at *
    refine (Sig.add_any q.pending 22 _ hqb).mono ?_
    rintro e w5 ⟨rfl, E5⟩
    have B := Lib.hid (B.out.ext E5)
    have pc7 := (prAt_blk hqok B.out).c7
    have pf7 := B.out.frozen 7
    go_wp2
    go_end0
    exact ⟨rfl, by rw [HQ.out, ← pend_cells]; exact B.out.set_ 7 _, (M4.ext E5).set1 _⟩
end Go.Proofs.Ytcncacllaonplaa
