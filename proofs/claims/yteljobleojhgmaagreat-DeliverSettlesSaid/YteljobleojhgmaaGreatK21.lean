/- A process is sent any signal, by contract. Condition: its pending signals have 64 bits. -/
import Derived.Test.YteljobleojhgmaaGreatJ21
import Derived.Deep.CutBlock
namespace Go.Proofs.YteljobleojhgmaaGreat
open Go.RowKit Go.Kb

def fallP (p : Pr) : Pr := { p with pending := stopsL.foldl Sig.delL p.pending }
def contP (p : Pr) : Pr := wakeP (if p.state = 2 then { fallP p with told := false } else fallP p)
def preP (sig : Int) (p : Pr) : Pr := if sig = 18 then contP p else if sig = 9 then wakeP p else if sig ∈ stopsL then { p with pending := Sig.delL p.pending 18 } else p
/-- a process that is sent a signal -/
def sentP (sig : Int) (p : Pr) : Pr := { preP sig p with pending := Sig.addL (preP sig p).pending sig }
theorem wakeP_ok {p : Pr} (h : p.ok) : (wakeP p).ok := by unfold wakeP; split <;> exact h
theorem wakeP_pend {p : Pr} : (wakeP p).pending = p.pending := by unfold wakeP; split <;> rfl
theorem fold_del64 : ∀ (l : List Int) {s : Int}, Sig.U64 s → Sig.U64 (l.foldl Sig.delL s)
  | [], _, h => h
  | x :: r, _, h => fold_del64 r (Sig.delL_bd h x)
theorem preP_ok {sig : Int} {p : Pr} (h : p.ok) : (preP sig p).ok := by
  unfold preP contP fallP
  split
  · exact wakeP_ok (by split <;> exact h)
  · split
    · exact wakeP_ok h
    · split <;> exact h
theorem preP_bd {sig : Int} {p : Pr} (h : Sig.U64 p.pending) : Sig.U64 (preP sig p).pending := by
  unfold preP contP
  split
  · rw [wakeP_pend]
    split <;> exact fold_del64 _ h
  · split
    · rw [wakeP_pend]; exact h
    · split
      · exact Sig.delL_bd h 18
      · exact h
theorem told_cells {p : Pr} (h : p.ok) {b : Bool} : p.cells.toArray.setIfInBounds 42 (.bool b) = (Pr.cells { p with told := b }).toArray := by
  unfold Pr.ok at h
  simp [Pr.cells, h]
theorem stops_at (w : World) : Calls Tryz.prog 70 #[] w fun e w' => ∃ g, e = .returned (.slice (some ⟨g, 0, none⟩) 4 4) ∧ Blk w' g 3 (stopsL.map (Value.int .i64)).toArray ∧ w.heap.size ≤ g ∧ Ext w w' := by
  go_enter Tryz.func70, Tryz.ntmps70
  go_wp2
  go_ret
  exact ⟨_, rfl, Blk.at_ _ _ rfl, Nat.le_refl _, (by repeat (first | with_reducible exact Ext.refl _ | refine Ext.drewN ?_ _ | refine Ext.drew ?_ | refine Ext.alloc ?_ _ | assumption | (refine Below.trans ?_ (by assumption)) | (refine Ext.trans ?_ (by assumption)) | (refine Below.trans ?_ (Below.mono (by assumption) (by omega)))))⟩
set_option maxRecDepth 100000 in
set_option maxHeartbeats 3000000 in
theorem sent_any (p : Pr) (sig : Int) (n : Nat) (w : World) (h : Blk w n 42 p.cells.toArray) (hok : p.ok) (hb : Sig.U64 p.pending) :
    Calls Tryz.prog 42 #[.pointer (some ⟨n, 0, none⟩), .int .i64 sig] w fun e w' => e = .returned (.tuple #[]) ∧ Blk w' n 42 (sentP sig p).cells.toArray ∧ Mod (fun k => k = n) w w' := by
  have B := Lib.hid h
  clear h
  go_enter Tryz.func42, Tryz.ntmps42
  go_upto_block 0 with fail
  go_cut [18] (fun _ wx => Hid (Blk wx n 42 (preP sig p).cells.toArray) ∧ Hid (Mod (fun k => k = n) w wx))
  case first =>
    by_cases h18 : sig = 18
    · have h18b : (sig == 18) = true := by simpa using h18
      have HP := Lib.hid (show preP sig p = contP p by unfold preP; rw [if_pos h18])
      have hnl := B.out.lt
      clear h18
      go_wp2_with fail
      refine (stops_at _).mono ?_
      rintro e w1 ⟨g, rfl, G, hg, E1⟩
      have G := Lib.hid G
      have B := Lib.hid (B.out.ext E1)
      have HNG := Lib.hid (show g ≠ n by omega)
      have E1 := Lib.hid E1
      clear hnl hg
      go_wp2
      go_loopw [22] (fun i wr => ∃ m : Nat, m ≤ 4 ∧ i = .int .i64 m ∧ Hid (Blk wr n 42 (Pr.cells { p with pending := (stopsL.take m).foldl Sig.delL p.pending }).toArray) ∧ Hid (Mod (fun k => k = n) w1 wr)) (fun i _ => 4 - (intOf i).toNat)
      case atStart => exact ⟨0, Nat.zero_le _, rfl, B, Lib.hid (Mod.refl _ _)⟩
      case round =>
        obtain ⟨m, hm, rfl, BM, HM⟩ := hrel
        obtain ⟨q, hq⟩ : ∃ q : Pr, q = { p with pending := (stopsL.take m).foldl Sig.delL p.pending } := ⟨_, rfl⟩
        rw [← hq] at BM
        have hqok : q.ok := by rw [hq]; exact hok
        have hqb : Sig.U64 q.pending := by rw [hq]; exact fold_del64 _ hb
        by_cases hmn : m < 4
        · obtain ⟨x, hx⟩ : ∃ x, stopsL[m]? = some x := ⟨_, List.getElem?_eq_getElem (by simpa [stopsL] using hmn)⟩
          have kx : wr.cell? ⟨g, m, none⟩ = some (.int .i64 x) := by rw [(G.out.mod HM.out HNG.out).cell, List.getElem?_toArray, List.getElem?_map, hx]; rfl
          have HN := Lib.hid (show { q with pending := Sig.delL q.pending x } = { p with pending := (stopsL.take (m + 1)).foldl Sig.delL p.pending } by rw [hq, List.take_add_one, hx, List.foldl_append]; rfl)
          have i1 : (0 : Int) ≤ (m : Int) := by omega
          have i2 : (m : Int) < 4 := by omega
          have pc7 := (prAt_blk hqok BM.out).c7
          clear hx hq
          go_wp2_with fail
          refine (Sig.del_any q.pending x _ hqb).mono ?_
          rintro e w3 ⟨rfl, E3⟩
          have B3 := Lib.hid (BM.out.ext E3)
          have HM3 := Lib.hid (HM.out.ext E3)
          have pc7 := (prAt_blk hqok B3.out).c7
          have pf7 := B3.out.frozen 7
          clear kx E3
          go_wp2
          have B4 := B3.out.set_ 7 (.int .u64 (Sig.delL q.pending x))
          rw [pend_cells, HN.out] at B4
          have B4 := Lib.hid B4
          have HM4 := Lib.hid (Mod.trans HM3.out ((Mod.refl (fun k => k = n) w3).set1 (.int .u64 (Sig.delL q.pending x)) (o := 7)))
          go_roundw
          case rel => exact ⟨m + 1, by omega, by go_num, B4, HM4⟩
          case measure => simp [intOf]; omega
        · obtain rfl : m = 4 := by omega
          have HF := Lib.hid (show q = fallP p from hq)
          have HST := Lib.hid (show q.state = p.state by rw [hq])
          have pc4 := (prAt_blk hqok BM.out).c4
          have pc42 := (prAt_blk hqok BM.out).c42
          have pf42 := BM.out.frozen 42
          rw [Nat.zero_add] at pc4 pc42
          clear hq
          by_cases h2 : q.state = 2
          · have h2b : (q.state == 2) = true := by simpa using h2
            have HP := Lib.hid (show preP sig p = wakeP { q with told := false } by rw [HP.out]; unfold contP; rw [if_pos (by rw [← HST.out]; exact h2), HF.out])
            clear h2
            go_upto_region 11 with fail
            have B4 := BM.out.set_ 42 (.bool false)
            rw [told_cells hqok] at B4
            have M4 : Mod (fun k => k = n) wr _ := (Mod.refl (fun k => k = n) wr).set1 (.bool false) (o := 42)
            have HM4 := Lib.hid (HM.out.trans M4)
            have HW := Lib.hid (wake_any { q with told := false } hqok n _ B4)
            clear B4 M4 pc4 pc42 pf42
            go_wp2_with fail
            refine HW.out.mono ?_
            rintro e w5 ⟨rfl, B5, M5⟩
            go_wp2
            go_meet
            exact ⟨by rw [HP.out]; exact Lib.hid B5, Lib.hid ((Mod.of_ext E1.out).trans (HM4.out.trans M5))⟩
          · have h2b : (q.state == 2) = false := by simpa using h2
            have HP := Lib.hid (show preP sig p = wakeP q by rw [HP.out]; unfold contP; rw [if_neg (by rw [← HST.out]; exact h2), HF.out])
            have HW := Lib.hid (wake_any q hqok n _ BM.out)
            clear h2 pc42 pf42
            go_wp2_with fail
            refine HW.out.mono ?_
            rintro e w5 ⟨rfl, B5, M5⟩
            go_wp2
            go_meet
            exact ⟨by rw [HP.out]; exact Lib.hid B5, Lib.hid ((Mod.of_ext E1.out).trans (HM.out.trans M5))⟩
    have h18b : (sig == 18) = false := by simpa using h18
    by_cases h9 : sig = 9
    · have h9b : (sig == 9) = true := by simpa using h9
      have HP := Lib.hid (show preP sig p = wakeP p by unfold preP; rw [if_neg h18, if_pos h9])
      have HW := Lib.hid (wake_any p hok n w B.out)
      clear h9 h18
      go_wp2_with fail
      refine HW.out.mono ?_
      rintro e w1 ⟨rfl, B1, M1⟩
      go_wp2
      go_meet
      exact ⟨by rw [HP.out]; exact Lib.hid B1, Lib.hid M1⟩
    have h9b : (sig == 9) = false := by simpa using h9
    go_wp2_with fail
    refine (stops_any _).mono ?_
    rintro e w1 ⟨v, rfl, R1, E1⟩
    have R1 := Lib.hid R1
    have B := Lib.hid (B.out.ext E1)
    have HI := Lib.hid (hasI_any v stopsL sig _ R1.out)
    by_cases hin : sig ∈ stopsL
    · have HP := Lib.hid (show preP sig p = { p with pending := Sig.delL p.pending 18 } by unfold preP; rw [if_neg h18, if_neg h9, if_pos hin])
      have HD := Lib.hid (decide_eq_true hin)
      clear h18 h9 hin
      go_wp2_with fail
      refine HI.out.mono ?_
      rw [HD.out]
      rintro e w2 ⟨rfl, E2⟩
      have B := Lib.hid (B.out.ext E2)
      have pc7 := (prAt_blk hok B.out).c7
      have E12 := E1.trans E2
      clear E1 E2 R1 HI
      go_wp2_with fail
      refine (Sig.del_any p.pending 18 _ hb).mono ?_
      rintro e w3 ⟨rfl, E3⟩
      have B := Lib.hid (B.out.ext E3)
      have E13 := E12.trans E3
      have pc7 := (prAt_blk hok B.out).c7
      have pf7 := B.out.frozen 7
      go_wp2
      go_meet
      exact ⟨Lib.hid (by rw [HP.out, ← pend_cells]; exact B.out.set_ 7 _), Lib.hid ((Mod.of_ext E13).set1 _)⟩
    · have HP := Lib.hid (show preP sig p = p by unfold preP; rw [if_neg h18, if_neg h9, if_neg hin])
      have HD := Lib.hid (decide_eq_false hin)
      clear h18 h9 hin
      go_wp2_with fail
      refine HI.out.mono ?_
      rw [HD.out]
      rintro e w2 ⟨rfl, E2⟩
      have B := Lib.hid (B.out.ext E2)
      have E12 := E1.trans E2
      clear E1 E2 R1 HI
      go_wp2
      go_meet
      exact ⟨by rw [HP.out]; exact B, Lib.hid (Mod.of_ext E12)⟩
  case rest =>
    obtain ⟨B, M⟩ := hcut
    have hqok : (preP sig p).ok := preP_ok hok
    have hqb := preP_bd (sig := sig) hb
    have HS := Lib.hid (show sentP sig p = { preP sig p with pending := Sig.addL (preP sig p).pending sig } from rfl)
    obtain ⟨q, hq⟩ : ∃ q, preP sig p = q := ⟨_, rfl⟩
    rw [hq] at B hqok hqb HS
    have pc7 := (prAt_blk hqok B.out).c7
    clear hq
    go_wp2_with fail
    refine (Sig.add_any q.pending sig _ hqb).mono ?_
    rintro e w5 ⟨rfl, E5⟩
    have B := Lib.hid (B.out.ext E5)
    have pc7 := (prAt_blk hqok B.out).c7
    have pf7 := B.out.frozen 7
    go_wp2
    go_end0
    exact ⟨rfl, by rw [HS.out, ← pend_cells]; exact B.out.set_ 7 _, (M.out.ext E5).set1 _⟩
end Go.Proofs.YteljobleojhgmaaGreat
