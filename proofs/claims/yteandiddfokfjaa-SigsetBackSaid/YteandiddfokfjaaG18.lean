/- The document's number of a name; its sets of signals: asked, with one, without one; by contract. Conditions: the set has 64 bits. -/
import Derived.Test.YteandiddfokfjaaF18
namespace Go.Proofs.Yteandiddfokfjaa
open Go.RowKit Go.Kb Go.Kb.Bits

set_option maxRecDepth 100000 in
set_option maxHeartbeats 800000 in
theorem rnumber_any (name : ByteArray) (w : World) : Calls Try.prog 31 #[.string name] w fun e w' => e = .returned (.tuple #[.int .i64 (rnumL name).1, .bool (rnumL name).2]) ∧ Ext w w' := by
  have HS := Lib.hid fun k hk h hn => rnum_some (name := name) (k := k) hk h hn
  have HN := Lib.hid fun hn => rnum_none (name := name) hn
  generalize rnumL name = rl at *
  go_enter Try.func31, Try.ntmps31
  go_wp2_with ((go_at_call 37; (with_reducible refine (rows_any _).mono ?_); rintro e w1 ⟨rfl, hB, E1⟩))
  have HB := Lib.hid hB
  clear hB
  go_loopw [8] (fun i wr => ∃ k : Nat, k ≤ 22 ∧ i = .int .i64 k ∧ Hid (∀ j : Nat, j < k → ((rowAt j).2.1.toList == name.toList) = false) ∧ Ext w1 wr) (fun i _ => 22 - (intOf i).toNat)
  case atStart => exact ⟨0, by omega, rfl, Lib.hid fun j hj => by omega, Ext.refl _⟩
  case round =>
    obtain ⟨k, hk, rfl, hj, hE⟩ := hrel
    by_cases hlt : k < 22
    · have k1 : (k : Int) < 22 := by omega
      have k2 : (0 : Int) ≤ (k : Int) := by omega
      obtain ⟨r0, r1, r2, r3⟩ := rowsA_at k hlt
      have hBr := HB.out.ext hE
      have c0 := hBr.cell (k * 4)
      have c1 := hBr.cell (k * 4 + 1)
      have c2 := hBr.cell (k * 4 + 2)
      have c3 := hBr.cell (k * 4 + 3)
      rw [r0] at c0
      rw [r1] at c1
      rw [r2] at c2
      rw [r3] at c3
      have HJ := Lib.hid fun (h : ((rowAt k).2.1.toList == name.toList) = false) (j : Nat) (hjk : j < k + 1) => show ((rowAt j).2.1.toList == name.toList) = false by
        rcases Nat.lt_succ_iff_lt_or_eq.1 hjk with h1 | h1
        · exact hj.out j h1
        · rw [h1]; exact h
      have HSk := Lib.hid fun h => HS.out k hlt h hj.out
      clear r0 r1 r2 r3
      generalize rowAt k = row at *
      obtain ⟨n, s, d, wi⟩ := row
      simp only at c0 c1 c2 c3 HSk HJ
      have hq0 : ∃ q, (s.toList == name.toList) = q := ⟨_, rfl⟩
      obtain ⟨q, hq⟩ := hq0
      have HQ := Lib.hid hq
      cases q
      · go_wp2
        go_roundw
        case rel => exact ⟨k + 1, by omega, by simp, Lib.hid (HJ.out HQ.out), (by repeat (first | with_reducible exact Ext.refl _ | refine Ext.drewN ?_ _ | refine Ext.drew ?_ | refine Ext.alloc ?_ _ | assumption | (refine Below.trans ?_ (by assumption)) | (refine Ext.trans ?_ (by assumption)) | (refine Below.trans ?_ (Below.mono (by assumption) (by omega)))))⟩
        case measure => first | (simp [intOf]; omega) | (show 22 - _ < _; simp [intOf]; omega)
      · have hrl := HSk.out HQ.out
        have HRL := Lib.hid hrl
        clear hrl
        go_wp2
        go_ret2
        exact ⟨by rw [HRL.out]; rfl, Ext.trans E1 (by repeat (first | with_reducible exact Ext.refl _ | refine Ext.drewN ?_ _ | refine Ext.drew ?_ | refine Ext.alloc ?_ _ | assumption | (refine Below.trans ?_ (by assumption)) | (refine Ext.trans ?_ (by assumption)) | (refine Below.trans ?_ (Below.mono (by assumption) (by omega)))))⟩
    · obtain rfl : k = 22 := by omega
      have hrl := HN.out hj.out
      subst hrl
      go_wp2
      go_ret2
      exact ⟨rfl, Ext.trans E1 hE⟩
theorem pw_succ {op : Int} (h : 0 ≤ op) : pw (op + 1) = 2 * pw op := by
  unfold pw
  rw [show (op + 1).toNat = op.toNat + 1 by omega, Int.pow_succ, Int.mul_comm]
set_option maxHeartbeats 800000 in
theorem rbit_any (op : Int) (w : World) (h : isL op = true) : Calls Try.prog 36 #[.int .i64 op] w fun e w' => e = .returned (.int .u64 (pw op)) ∧ Ext w w' := by
  obtain ⟨h1, h2⟩ := isL_bd h
  clear h
  go_enter Try.func36, Try.ntmps36
  go_wp2
  go_loopw [3, 4] (fun n i wr => ∃ k : Int, 0 ≤ k ∧ k ≤ op ∧ i = .int .i64 k ∧ n = .int .u64 (pw k) ∧ Ext w wr) (fun _ i _ => (op - intOf i).toNat)
  case atStart => exact ⟨0, by omega, by omega, rfl, rfl, (by repeat (first | with_reducible exact Ext.refl _ | refine Ext.drewN ?_ _ | refine Ext.drew ?_ | refine Ext.alloc ?_ _ | assumption | (refine Below.trans ?_ (by assumption)) | (refine Ext.trans ?_ (by assumption)) | (refine Below.trans ?_ (Below.mono (by assumption) (by omega)))))⟩
  case round =>
    obtain ⟨k, hk0, hk, rfl, rfl, hE⟩ := hrel
    have h3 : IntKind.i64.wrap (k + 1) = k + 1 := IntWalk.i64_in _ (by omega)
    by_cases hlt : k < op
    · have h4 := pw_succ hk0
      have h5 := pw_bd (op := k + 1) (by omega)
      have h6 : IntKind.u64.wrap (2 * pw k) = pw (k + 1) := by
        rw [← h4, IntKind.wrap_u64]
        omega
      clear h4 h5
      go_wp2
      go_roundw
      case rel => exact ⟨k + 1, by omega, by omega, by simp, by simp, (by repeat (first | with_reducible exact Ext.refl _ | refine Ext.drewN ?_ _ | refine Ext.drew ?_ | refine Ext.alloc ?_ _ | assumption | (refine Below.trans ?_ (by assumption)) | (refine Ext.trans ?_ (by assumption)) | (refine Below.trans ?_ (Below.mono (by assumption) (by omega)))))⟩
      case measure => simp [intOf]; omega
    · obtain rfl : k = op := by omega
      go_wp2
      go_ret
      exact ⟨rfl, (by repeat (first | with_reducible exact Ext.refl _ | refine Ext.drewN ?_ _ | refine Ext.drew ?_ | refine Ext.alloc ?_ _ | assumption | (refine Below.trans ?_ (by assumption)) | (refine Ext.trans ?_ (by assumption)) | (refine Below.trans ?_ (Below.mono (by assumption) (by omega)))))⟩
set_option maxHeartbeats 800000 in
theorem rhas_any (s sig : Int) (w : World) (h : U64 s) : Calls Try.prog 10 #[.int .u64 s, .int .i64 sig] w fun e w' => e = .returned (.bool (hasL s sig)) ∧ Ext w w' := by
  have hO := fun w' => of_any sig w'
  generalize rowL sig = rr at *
  obtain ⟨n, nm, d, wi⟩ := rr
  simp only [rowV] at hO
  unfold hasL
  cases hs : isL sig
  · rw [hs] at hO
    have HO := Lib.hid hO
    clear hO
    go_enter Try.func10, Try.ntmps10
    go_wp2_with ((go_at_call 35; (with_reducible refine (HO.out _).mono ?_); rintro e w1 ⟨rfl, E1⟩))
    go_ret
    exact ⟨rfl, (by repeat (first | with_reducible exact Ext.refl _ | refine Ext.drewN ?_ _ | refine Ext.drew ?_ | refine Ext.alloc ?_ _ | assumption | (refine Below.trans ?_ (by assumption)) | (refine Ext.trans ?_ (by assumption)) | (refine Below.trans ?_ (Below.mono (by assumption) (by omega)))))⟩
  · rw [hs] at hO
    have HO := Lib.hid hO
    have HB := Lib.hid fun w' => rbit_any sig w' hs
    have hd := div_pw h (sig_bd hs)
    have hp := pw_bd (sig_bd hs)
    have hne : ¬ pw sig = 0 := by omega
    have hon : onL s sig = (s / pw sig % 2 == 1) := by unfold onL; rw [Bool.eq_iff_iff]; simp
    rw [hon]
    obtain ⟨d1, d2, d3, d4⟩ := hd
    clear hO hon hs
    obtain ⟨h0, h1⟩ := h
    obtain ⟨p0, p1⟩ := hp
    go_enter Try.func10, Try.ntmps10
    go_wp2_with (first | ((go_at_call 35; (with_reducible refine (HO.out _).mono ?_); rintro e w1 ⟨rfl, E1⟩)) | ((go_at_call 36; (with_reducible refine (HB.out _).mono ?_); rintro e w2 ⟨rfl, E2⟩)))
    go_ret
    refine ⟨?_, (by repeat (first | with_reducible exact Ext.refl _ | refine Ext.drewN ?_ _ | refine Ext.drew ?_ | refine Ext.alloc ?_ _ | assumption | (refine Below.trans ?_ (by assumption)) | (refine Ext.trans ?_ (by assumption)) | (refine Below.trans ?_ (Below.mono (by assumption) (by omega)))))⟩
    trace_state
    simp
end Go.Proofs.Yteandiddfokfjaa
