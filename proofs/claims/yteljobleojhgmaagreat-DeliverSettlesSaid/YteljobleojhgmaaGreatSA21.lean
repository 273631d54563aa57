/- Written by chain.py of +DA21 C18[rowV,rowsA,rows_any]@Sig D18[rowsA_at,rowL_some,rowL_none,rowAt_is,isL_row,of_any]@Sig E18[rowL_name,rname_any]@Sig G18[pw_succ,rbit_any,rhas_any]@Sig H18[radd_any,rdel_any]@Sig I18[rowsN,rowsK,rowsN_at,rowsK_succ,rowsK_len,rows_list,rlist_any]@Sig J18[rof_any,rblock_any]@Sig L18[okP,rpickL,pick_eq,reffect_any]@Sig M18[rpick_some,rpick_none,rpick_any]@Sig. No condition. -/
import Derived.Test.YteljobleojhgmaaGreatQ21
import Derived.Deep.QuietTactic
namespace Go.Proofs.YteljobleojhgmaaGreat.Sig
open Go.RowKit Go.Kb Go.Kb.Bits

def rowV (r : Int × ByteArray × Int × Bool) : List Value := [.int .i64 r.1, .string r.2.1, .int .i64 r.2.2.1, .bool r.2.2.2]
def rowsA : Array Value := (rowsT.flatMap rowV).toArray
set_option maxRecDepth 100000 in
set_option maxHeartbeats 800000 in
theorem rows_any (w : World) : Calls Tryz.prog 107 #[] w fun e w' => e = .returned (.slice (some ⟨w.heap.size, 0, none⟩) 22 22) ∧ Blk w' w.heap.size 129 rowsA ∧ Ext w w' := by
  go_enter Tryz.func107, Tryz.ntmps107
  go_wp2
  go_ret
  exact ⟨rfl, Blk.at_ _ _ rfl, (by repeat (first | with_reducible exact Ext.refl _ | refine Ext.drewN ?_ _ | refine Ext.drew ?_ | refine Ext.alloc ?_ _ | assumption | (refine Below.trans ?_ (by assumption)) | (refine Ext.trans ?_ (by assumption)) | (refine Below.trans ?_ (Below.mono (by assumption) (by omega)))))⟩
end Go.Proofs.YteljobleojhgmaaGreat.Sig
namespace Go.Proofs.YteljobleojhgmaaGreat.Sig
open Go.RowKit Go.Kb Go.Kb.Bits

theorem rowsA_at (k : Nat) (hk : k < 22) : rowsA[k * 4]? = some (.int .i64 (rowAt k).1) ∧ rowsA[k * 4 + 1]? = some (.string (rowAt k).2.1) ∧ rowsA[k * 4 + 2]? = some (.int .i64 (rowAt k).2.2.1) ∧ rowsA[k * 4 + 3]? = some (.bool (rowAt k).2.2.2) := by
  rcases k with _ | _ | _ | _ | _ | _ | _ | _ | _ | _ | _ | _ | _ | _ | _ | _ | _ | _ | _ | _ | _ | _ | k
  all_goals first | exact ⟨rfl, rfl, rfl, rfl⟩ | omega
theorem rowL_some {sig : Int} {k : Nat} (hk : k < 22) (h : (rowAt k).1 = sig) (hn : ∀ j : Nat, j < k → ¬ (rowAt j).1 = sig) : rowL sig = rowAt k := by
  unfold rowL
  rw [find_some hk (by simpa using h) fun j hj => by simpa using hn j hj]
  rfl
theorem rowL_none {sig : Int} (hn : ∀ j : Nat, j < 22 → ¬ (rowAt j).1 = sig) : rowL sig = row0 := by
  unfold rowL
  rw [find_none fun j hj => by simpa using hn j hj]
  rfl
theorem rowAt_is (k : Nat) (hk : k < 22) : isL (rowAt k).1 = true := by
  have : ∀ k : Nat, k < 22 → isL (rowAt k).1 = true := by decide +kernel
  exact this k hk
theorem isL_row {sig : Int} (h : isL sig = true) : ∃ j : Nat, j < 22 ∧ (rowAt j).1 = sig := by
  have hb := isL_bd h
  have : ∀ k : Nat, k < 29 → isL (k : Int) = true → ∃ j : Nat, j < 22 ∧ (rowAt j).1 = (k : Int) := by decide +kernel
  obtain ⟨j, h1, h2⟩ := this sig.toNat (by omega) (by rw [show ((sig.toNat : Nat) : Int) = sig by omega]; exact h)
  exact ⟨j, h1, by omega⟩
set_option maxRecDepth 100000 in
set_option maxHeartbeats 800000 in
theorem of_any (sig : Int) (w : World) : Calls Tryz.prog 95 #[.int .i64 sig] w fun e w' => e = .returned (.tuple #[.agg (rowV (rowL sig)).toArray, .bool (isL sig)]) ∧ Ext w w' := by
  have HS := Lib.hid fun k hk h hn => rowL_some (sig := sig) (k := k) hk h hn
  have HN := Lib.hid fun hn => rowL_none (sig := sig) hn
  have HI := Lib.hid fun j hj => rowAt_is j hj
  have HR := Lib.hid fun h => isL_row (sig := sig) h
  generalize hrl : rowL sig = rl at *
  generalize hil : isL sig = il at *
  have HIL := Lib.hid hil
  clear hrl hil
  go_enter Tryz.func95, Tryz.ntmps95
  go_wp2_with ((go_at_call 107; (with_reducible refine (rows_any _).mono ?_); rintro e w1 ⟨rfl, hB, E1⟩))
  simp only [World.size_alloc] at hB
  have hE0 : Ext (w.alloc (.cells #[.int .i64 0, .string ⟨#[]⟩, .int .i64 0, .bool false] 129)) w1 := E1
  have hZ := (Blk.new w 129 #[.int .i64 0, .string ⟨#[]⟩, .int .i64 0, .bool false]).ext hE0
  have hE1 : Ext w w1 := Ext.trans ((Ext.refl w).alloc _) hE0
  have HB := Lib.hid hB
  have HZ := Lib.hid hZ
  clear hB hZ E1 hE0
  go_loopw [8] (fun i wr => ∃ k : Nat, k ≤ 22 ∧ i = .int .i64 k ∧ Hid (∀ j : Nat, j < k → ¬ (rowAt j).1 = sig) ∧ Ext w1 wr) (fun i _ => 22 - (intOf i).toNat)
  case atStart => exact ⟨0, by omega, rfl, Lib.hid fun j hj => by omega, Ext.refl _⟩
  case round =>
    obtain ⟨k, hk, rfl, hj, hE⟩ := hrel
    have hZr := HZ.out.ext hE
    have z0 := hZr.cell 0
    have z1 := hZr.cell 1
    have z2 := hZr.cell 2
    have z3 := hZr.cell 3
    have y0 := hZr.frozen 0
    have y1 := hZr.frozen 1
    have y2 := hZr.frozen 2
    have y3 := hZr.frozen 3
    by_cases hlt : k < 22
    · have k1 : (k : Int) < 22 := by omega
      have k2 : (0 : Int) ≤ (k : Int) := by omega
      obtain ⟨r0, r1, r2, r3⟩ := rowsA_at k hlt
      have hBr := HB.out.ext hE
      have c0 := hBr.cell (k * 4)
      have c1 := hBr.cell (k * 4 + 1)
      have c2 := hBr.cell (k * 4 + 2)
      have c3 := hBr.cell (k * 4 + 3)
      rw [r0] at c0
      rw [r1] at c1
      rw [r2] at c2
      rw [r3] at c3
      have HJ := Lib.hid fun (h : ¬ (rowAt k).1 = sig) (j : Nat) (hjk : j < k + 1) => show ¬ (rowAt j).1 = sig by
        rcases Nat.lt_succ_iff_lt_or_eq.1 hjk with h1 | h1
        · exact hj.out j h1
        · rw [h1]; exact h
      have HSk := Lib.hid fun h => HS.out k hlt h hj.out
      have hik := HI.out k hlt
      have HIK := Lib.hid hik
      clear r0 r1 r2 r3 hik
      generalize hrow : rowAt k = row at *
      have HRW := Lib.hid hrow
      clear hrow
      obtain ⟨n, s, d, wi⟩ := row
      simp only at c0 c1 c2 c3 HSk HIK HJ
      by_cases hns : n = sig
      · have hrl := HSk.out hns
        have hil : true = il := by rw [← HIL.out, ← hns]; exact HIK.out.symm
        subst hns hil
        have HRL := Lib.hid hrl
        clear hrl HSk HJ HRW HIK HIL HS HN HI HR
        have z0 := fun o => (hZr.alloc o).cell 0
        have z1 := fun o => (hZr.alloc o).cell 1
        have z2 := fun o => (hZr.alloc o).cell 2
        have z3 := fun o => (hZr.alloc o).cell 3
        have y0 := fun o => (hZr.alloc o).frozen 0
        have y1 := fun o => (hZr.alloc o).frozen 1
        have y2 := fun o => (hZr.alloc o).frozen 2
        have y3 := fun o => (hZr.alloc o).frozen 3
        go_wp2
        refine bodyPost_ret_by (Go.Kb.results_cell_tmp Tryz.results95 _ _ w.heap.size 129 #[.int .i64 n, .string s, .int .i64 d, .bool wi] _ _ rfl (.bool true) rfl (((((hZr.alloc _).set_ 0 (.int .i64 n)).set_ 1 (.string s)).set_ 2 (.int .i64 d)).set_ 3 (.bool wi)) Tryz.underlying129 rfl (by kernel_rfl)) rfl ?_
        refine ⟨by rw [HRL.out]; rfl, ?_⟩
        refine Ext.setNew (Ext.setNew (Ext.setNew (Ext.setNew (Ext.trans hE1 (by repeat (first | with_reducible exact Ext.refl _ | refine Ext.drewN ?_ _ | refine Ext.drew ?_ | refine Ext.alloc ?_ _ | assumption | (refine Below.trans ?_ (by assumption)) | (refine Ext.trans ?_ (by assumption)) | (refine Below.trans ?_ (Below.mono (by assumption) (by omega)))))) ?_ _) ?_ _) ?_ _) ?_ _ <;> exact Nat.le_refl _
      · have hns' : (n == sig) = false := by simpa using hns
        go_wp2
        go_roundw
        case rel => exact ⟨k + 1, by omega, by simp, Lib.hid (HJ.out hns), (by repeat (first | with_reducible exact Ext.refl _ | refine Ext.drewN ?_ _ | refine Ext.drew ?_ | refine Ext.alloc ?_ _ | assumption | (refine Below.trans ?_ (by assumption)) | (refine Ext.trans ?_ (by assumption)) | (refine Below.trans ?_ (Below.mono (by assumption) (by omega)))))⟩
        case measure => first | (simp [intOf]; omega) | (show 22 - _ < _; simp [intOf]; omega)
    · obtain rfl : k = 22 := by omega
      have hrl := HN.out hj.out
      have hil : il = false := by
        cases hq : il
        · rfl
        · obtain ⟨j, h1, h2⟩ := HR.out hq
          exact absurd h2 (hj.out j h1)
      subst hrl hil
      clear HS HN HI HR HIL hj
      go_wp2
      refine bodyPost_ret_by (Go.Kb.results_cell_tmp Tryz.results95 _ _ w.heap.size 129 #[.int .i64 0, .string ⟨#[]⟩, .int .i64 0, .bool false] _ _ rfl (.bool false) rfl ((((hZr.set_ 0 (.int .i64 0)).set_ 1 (.string ⟨#[]⟩)).set_ 2 (.int .i64 0)).set_ 3 (.bool false)) Tryz.underlying129 rfl (by kernel_rfl)) rfl ?_
      refine ⟨rfl, ?_⟩
      refine Ext.setNew (Ext.setNew (Ext.setNew (Ext.setNew (Ext.trans hE1 (by repeat (first | with_reducible exact Ext.refl _ | refine Ext.drewN ?_ _ | refine Ext.drew ?_ | refine Ext.alloc ?_ _ | assumption | (refine Below.trans ?_ (by assumption)) | (refine Ext.trans ?_ (by assumption)) | (refine Below.trans ?_ (Below.mono (by assumption) (by omega)))))) ?_ _) ?_ _) ?_ _) ?_ _ <;> exact Nat.le_refl _
end Go.Proofs.YteljobleojhgmaaGreat.Sig
namespace Go.Proofs.YteljobleojhgmaaGreat.Sig
open Go.RowKit Go.Kb Go.Kb.Bits

theorem rowL_name (sig : Int) : (rowL sig).2.1 = if isL sig then nameB sig.toNat else ⟨#[]⟩ := by
  by_cases hs : isL sig = true
  · rw [if_pos hs]
    have hb := isL_bd hs
    have : ∀ k : Nat, k < 29 → isL (k : Int) = true → (rowL (k : Int)).2.1 = nameB k := by decide +kernel
    obtain ⟨k, rfl⟩ := Int.eq_ofNat_of_zero_le (show 0 ≤ sig by omega)
    exact this k (by omega) hs
  · rw [if_neg hs, rowL_none fun j hj h => hs (by rw [← h]; exact rowAt_is j hj)]
    rfl
set_option maxRecDepth 100000 in
set_option maxHeartbeats 800000 in
theorem rname_any (sig : Int) (w : World) : Calls Tryz.prog 100 #[.int .i64 sig] w fun e w' => e = .returned (.tuple #[.string (if isL sig then nameB sig.toNat else ⟨#[]⟩), .bool (isL sig)]) ∧ Ext w w' := by
  have hO := fun w' => of_any sig w'
  have hn := rowL_name sig
  generalize (if isL sig then nameB sig.toNat else ⟨#[]⟩) = s0 at *
  generalize rowL sig = rr at *
  obtain ⟨n, s, d, wi⟩ := rr
  simp only [rowV] at hO
  simp only at hn
  subst hn
  generalize isL sig = il at *
  have HO := Lib.hid hO
  clear hO
  go_enter Tryz.func100, Tryz.ntmps100
  go_wp2_with ((go_at_call 95; (with_reducible refine (HO.out _).mono ?_); rintro e w1 ⟨rfl, E1⟩))
  go_ret2
  exact ⟨rfl, (by repeat (first | with_reducible exact Ext.refl _ | refine Ext.drewN ?_ _ | refine Ext.drew ?_ | refine Ext.alloc ?_ _ | assumption | (refine Below.trans ?_ (by assumption)) | (refine Ext.trans ?_ (by assumption)) | (refine Below.trans ?_ (Below.mono (by assumption) (by omega)))))⟩
end Go.Proofs.YteljobleojhgmaaGreat.Sig
namespace Go.Proofs.YteljobleojhgmaaGreat.Sig
open Go.RowKit Go.Kb Go.Kb.Bits

theorem pw_succ {op : Int} (h : 0 ≤ op) : pw (op + 1) = 2 * pw op := by
  unfold pw
  rw [show (op + 1).toNat = op.toNat + 1 by omega, Int.pow_succ, Int.mul_comm]
set_option maxHeartbeats 800000 in
theorem rbit_any (op : Int) (w : World) (h : isL op = true) : Calls Tryz.prog 93 #[.int .i64 op] w fun e w' => e = .returned (.int .u64 (pw op)) ∧ Ext w w' := by
  obtain ⟨h1, h2⟩ := isL_bd h
  clear h
  go_enter Tryz.func93, Tryz.ntmps93
  go_wp2
  go_loopw [3, 4] (fun n i wr => ∃ k : Int, 0 ≤ k ∧ k ≤ op ∧ i = .int .i64 k ∧ n = .int .u64 (pw k) ∧ Ext w wr) (fun _ i _ => (op - intOf i).toNat)
  case atStart => exact ⟨0, by omega, by omega, rfl, rfl, (by repeat (first | with_reducible exact Ext.refl _ | refine Ext.drewN ?_ _ | refine Ext.drew ?_ | refine Ext.alloc ?_ _ | assumption | (refine Below.trans ?_ (by assumption)) | (refine Ext.trans ?_ (by assumption)) | (refine Below.trans ?_ (Below.mono (by assumption) (by omega)))))⟩
  case round =>
    obtain ⟨k, hk0, hk, rfl, rfl, hE⟩ := hrel
    have h3 : IntKind.i64.wrap (k + 1) = k + 1 := IntWalk.i64_in _ (by omega)
    by_cases hlt : k < op
    · have h4 := pw_succ hk0
      have h5 := pw_bd (op := k + 1) (by omega)
      have h6 : IntKind.u64.wrap (2 * pw k) = pw (k + 1) := by
        rw [← h4, IntKind.wrap_u64]
        omega
      clear h4 h5
      go_wp2
      go_roundw
      case rel => exact ⟨k + 1, by omega, by omega, by simp, by simp, (by repeat (first | with_reducible exact Ext.refl _ | refine Ext.drewN ?_ _ | refine Ext.drew ?_ | refine Ext.alloc ?_ _ | assumption | (refine Below.trans ?_ (by assumption)) | (refine Ext.trans ?_ (by assumption)) | (refine Below.trans ?_ (Below.mono (by assumption) (by omega)))))⟩
      case measure => simp [intOf]; omega
    · obtain rfl : k = op := by omega
      go_wp2
      go_ret
      exact ⟨rfl, (by repeat (first | with_reducible exact Ext.refl _ | refine Ext.drewN ?_ _ | refine Ext.drew ?_ | refine Ext.alloc ?_ _ | assumption | (refine Below.trans ?_ (by assumption)) | (refine Ext.trans ?_ (by assumption)) | (refine Below.trans ?_ (Below.mono (by assumption) (by omega)))))⟩
set_option maxHeartbeats 800000 in
theorem rhas_any (s sig : Int) (w : World) (h : U64 s) : Calls Tryz.prog 91 #[.int .u64 s, .int .i64 sig] w fun e w' => e = .returned (.bool (hasL s sig)) ∧ Ext w w' := by
  have hO := fun w' => of_any sig w'
  generalize rowL sig = rr at *
  obtain ⟨n, nm, d, wi⟩ := rr
  simp only [rowV] at hO
  unfold hasL
  cases hs : isL sig
  · rw [hs] at hO
    have HO := Lib.hid hO
    clear hO
    go_enter Tryz.func91, Tryz.ntmps91
    go_wp2_with ((go_at_call 95; (with_reducible refine (HO.out _).mono ?_); rintro e w1 ⟨rfl, E1⟩))
    go_ret
    exact ⟨rfl, (by repeat (first | with_reducible exact Ext.refl _ | refine Ext.drewN ?_ _ | refine Ext.drew ?_ | refine Ext.alloc ?_ _ | assumption | (refine Below.trans ?_ (by assumption)) | (refine Ext.trans ?_ (by assumption)) | (refine Below.trans ?_ (Below.mono (by assumption) (by omega)))))⟩
  · rw [hs] at hO
    have HO := Lib.hid hO
    have HB := Lib.hid fun w' => rbit_any sig w' hs
    have hd := div_pw h (sig_bd hs)
    have hp := pw_bd (sig_bd hs)
    have hne : ¬ pw sig = 0 := by omega
    have hon : onL s sig = (s / pw sig % 2 == 1) := by unfold onL; rw [Bool.eq_iff_iff]; simp
    rw [hon]
    obtain ⟨d1, d2, d3, d4⟩ := hd
    clear hO hon hs
    obtain ⟨h0, h1⟩ := h
    obtain ⟨p0, p1⟩ := hp
    go_enter Tryz.func91, Tryz.ntmps91
    go_wp2_with (first | ((go_at_call 95; (with_reducible refine (HO.out _).mono ?_); rintro e w1 ⟨rfl, E1⟩)) | ((go_at_call 93; (with_reducible refine (HB.out _).mono ?_); rintro e w2 ⟨rfl, E2⟩)))
    go_ret
    refine ⟨?_, (by repeat (first | with_reducible exact Ext.refl _ | refine Ext.drewN ?_ _ | refine Ext.drew ?_ | refine Ext.alloc ?_ _ | assumption | (refine Below.trans ?_ (by assumption)) | (refine Ext.trans ?_ (by assumption)) | (refine Below.trans ?_ (Below.mono (by assumption) (by omega)))))⟩
    trace_state
    simp
end Go.Proofs.YteljobleojhgmaaGreat.Sig
namespace Go.Proofs.YteljobleojhgmaaGreat.Sig
open Go.RowKit Go.Kb Go.Kb.Bits

set_option maxHeartbeats 800000 in
theorem radd_any (s sig : Int) (w : World) (h : U64 s) : Calls Tryz.prog 110 #[.int .u64 s, .int .i64 sig] w fun e w' => e = .returned (.int .u64 (addL s sig)) ∧ Ext w w' := by
  have hO := fun w' => of_any sig w'
  have HH := Lib.hid fun w' => rhas_any s sig w' h
  have hb := addL_bd h sig
  generalize rowL sig = rr at *
  obtain ⟨n, nm, d, wi⟩ := rr
  simp only [rowV] at hO
  cases hs : isL sig
  · have ha : addL s sig = s := by unfold addL; rw [hs]; rfl
    rw [ha]
    rw [hs] at hO
    have HO := Lib.hid hO
    clear hO ha hb hs
    go_enter Tryz.func110, Tryz.ntmps110
    go_wp2_with ((go_at_call 95; (with_reducible refine (HO.out _).mono ?_); rintro e w1 ⟨rfl, E1⟩))
    go_ret
    exact ⟨rfl, (by repeat (first | with_reducible exact Ext.refl _ | refine Ext.drewN ?_ _ | refine Ext.drew ?_ | refine Ext.alloc ?_ _ | assumption | (refine Below.trans ?_ (by assumption)) | (refine Ext.trans ?_ (by assumption)) | (refine Below.trans ?_ (Below.mono (by assumption) (by omega)))))⟩
  · rw [hs] at hO
    have HO := Lib.hid hO
    have HB := Lib.hid fun w' => rbit_any sig w' hs
    have hh : hasL s sig = onL s sig := by unfold hasL; rw [hs]; rfl
    rw [hh] at HH
    have ha : addL s sig = if onL s sig then s else s + pw sig := by unfold addL; rw [hs]; rfl
    rw [ha] at hb ⊢
    generalize onL s sig = on at *
    clear hO hh hs ha
    cases on
    · have hw : IntKind.u64.wrap (s + pw sig) = s + pw sig := by rw [IntKind.wrap_u64]; simp at hb; omega
      clear hb
      go_enter Tryz.func110, Tryz.ntmps110
      go_wp2_with (first | ((go_at_call 95; (with_reducible refine (HO.out _).mono ?_); rintro e w1 ⟨rfl, E1⟩)) | ((go_at_call 91; (with_reducible refine (HH.out _).mono ?_); rintro e w2 ⟨rfl, E2⟩)) | ((go_at_call 93; (with_reducible refine (HB.out _).mono ?_); rintro e w3 ⟨rfl, E3⟩)))
      go_ret
      exact ⟨by simp, (by repeat (first | with_reducible exact Ext.refl _ | refine Ext.drewN ?_ _ | refine Ext.drew ?_ | refine Ext.alloc ?_ _ | assumption | (refine Below.trans ?_ (by assumption)) | (refine Ext.trans ?_ (by assumption)) | (refine Below.trans ?_ (Below.mono (by assumption) (by omega)))))⟩
    · clear hb
      go_enter Tryz.func110, Tryz.ntmps110
      go_wp2_with (first | ((go_at_call 95; (with_reducible refine (HO.out _).mono ?_); rintro e w1 ⟨rfl, E1⟩)) | ((go_at_call 91; (with_reducible refine (HH.out _).mono ?_); rintro e w2 ⟨rfl, E2⟩)))
      go_ret
      exact ⟨by simp, (by repeat (first | with_reducible exact Ext.refl _ | refine Ext.drewN ?_ _ | refine Ext.drew ?_ | refine Ext.alloc ?_ _ | assumption | (refine Below.trans ?_ (by assumption)) | (refine Ext.trans ?_ (by assumption)) | (refine Below.trans ?_ (Below.mono (by assumption) (by omega)))))⟩
set_option maxHeartbeats 800000 in
theorem rdel_any (s sig : Int) (w : World) (h : U64 s) : Calls Tryz.prog 59 #[.int .u64 s, .int .i64 sig] w fun e w' => e = .returned (.int .u64 (delL s sig)) ∧ Ext w w' := by
  have HH := Lib.hid fun w' => rhas_any s sig w' h
  have hb := delL_bd h sig
  cases hs : hasL s sig
  · have ha : delL s sig = s := by
      unfold delL
      by_cases hi : isL sig = true
      · rw [if_pos hi]
        refine fset_own ?_
        unfold hasL at hs
        rw [hi, Bool.true_and] at hs
        exact hs
      · rw [if_neg hi]
    rw [ha]
    rw [hs] at HH
    clear ha hb hs
    go_enter Tryz.func59, Tryz.ntmps59
    go_wp2_with ((go_at_call 91; (with_reducible refine (HH.out _).mono ?_); rintro e w2 ⟨rfl, E2⟩))
    go_ret
    exact ⟨rfl, (by repeat (first | with_reducible exact Ext.refl _ | refine Ext.drewN ?_ _ | refine Ext.drew ?_ | refine Ext.alloc ?_ _ | assumption | (refine Below.trans ?_ (by assumption)) | (refine Ext.trans ?_ (by assumption)) | (refine Below.trans ?_ (Below.mono (by assumption) (by omega)))))⟩
  · rw [hs] at HH
    have hi : isL sig = true := by unfold hasL at hs; simp at hs; exact hs.1
    have ho : onL s sig = true := by unfold hasL at hs; simp at hs; exact hs.2
    have HB := Lib.hid fun w' => rbit_any sig w' hi
    have ha : delL s sig = s - pw sig := by unfold delL fset; rw [hi, ho]; rfl
    rw [ha] at hb ⊢
    have hw : IntKind.u64.wrap (s - pw sig) = s - pw sig := by rw [IntKind.wrap_u64]; omega
    clear hb hs hi ho ha
    go_enter Tryz.func59, Tryz.ntmps59
    go_wp2_with (first | ((go_at_call 91; (with_reducible refine (HH.out _).mono ?_); rintro e w2 ⟨rfl, E2⟩)) | ((go_at_call 93; (with_reducible refine (HB.out _).mono ?_); rintro e w3 ⟨rfl, E3⟩)))
    go_ret
    exact ⟨by simp, (by repeat (first | with_reducible exact Ext.refl _ | refine Ext.drewN ?_ _ | refine Ext.drew ?_ | refine Ext.alloc ?_ _ | assumption | (refine Below.trans ?_ (by assumption)) | (refine Ext.trans ?_ (by assumption)) | (refine Below.trans ?_ (Below.mono (by assumption) (by omega)))))⟩
end Go.Proofs.YteljobleojhgmaaGreat.Sig
namespace Go.Proofs.YteljobleojhgmaaGreat.Sig
open Go.RowKit Go.Kb Go.Kb.Bits

def rowsN : List Int := rowsT.map (·.1)
def rowsK (s : Int) (k : Nat) : List Int := (rowsN.take k).filter (hasL s)
theorem rowsN_at (k : Nat) (hk : k < 22) : rowsN[k]? = some (rowAt k).1 := by
  have hl : k < rowsT.length := hk
  unfold rowsN rowAt
  simp [hl]
theorem rowsK_succ (s : Int) (k : Nat) (hk : k < 22) : rowsK s (k + 1) = rowsK s k ++ if hasL s (rowAt k).1 then [(rowAt k).1] else [] := by
  unfold rowsK
  rw [take_succ_of (rowsN_at k hk), List.filter_append]
  cases h : hasL s (rowAt k).1 <;> simp [h]
theorem rowsK_len (s : Int) (k : Nat) : (rowsK s k).length ≤ 22 := by
  have h1 := List.length_filter_le (hasL s) (rowsN.take k)
  have h2 : (rowsN.take k).length ≤ 22 := by rw [List.length_take]; exact Nat.min_le_right _ _
  unfold rowsK
  omega
theorem rows_list (s : Int) : rowsK s 22 = listL s := by
  have h1 : rowsN.take 22 = rowsN := by decide +kernel
  have h2 : rowsN = sigs29.filter isL := by decide +kernel
  unfold rowsK listL
  rw [h1, h2, List.filter_filter]
  congr 1
  funext x
  unfold hasL
  cases isL x <;> simp
set_option maxRecDepth 100000 in
set_option maxHeartbeats 800000 in
theorem rlist_any (s : Int) (w : World) (h : U64 s) : Calls Tryz.prog 90 #[.int .u64 s] w fun e w' => ∃ A c, e = .returned (.slice A (listL s).length c) ∧ RI .i64 w' (.slice A (listL s).length c) (listL s) ∧ Ext w w' := by
  have HH := Lib.hid fun sig w' => rhas_any s sig w' h
  have HS := Lib.hid fun k hk => rowsK_succ s k hk
  have HN := Lib.hid fun k => rowsK_len s k
  have HA := Lib.hid (rows_list s)
  clear h
  go_enter Tryz.func90, Tryz.ntmps90
  go_wp2_with ((go_at_call 107; (with_reducible refine (rows_any _).mono ?_); rintro e w1 ⟨rfl, hB, E1⟩))
  have HB := Lib.hid hB
  clear hB
  go_loopw [3, 8] (fun o i wr => ∃ (k n c : Nat) (A : Option Addr), k ≤ 22 ∧ i = .int .i64 k ∧ o = .slice A n c ∧ Hid ((rowsK s k).length = n) ∧ Hid (OwnS Ib 3 w1.heap.size (fun _ => False) wr (.slice A n c) (rowsK s k)) ∧ Ext w1 wr) (fun _ i _ => 22 - (intOf i).toNat)
  case atStart => exact ⟨0, 0, 0, none, by omega, rfl, rfl, Lib.hid rfl, Lib.hid (OwnS.nil _ _ _ _ _), Ext.refl _⟩
  case round =>
    obtain ⟨k, n, c, A, hk, rfl, rfl, hn, hO, hE⟩ := hrel
    have hn22 := HN.out k
    rw [hn.out] at hn22
    by_cases hlt : k < 22
    · have k1 : (k : Int) < 22 := by omega
      have k2 : (0 : Int) ≤ (k : Int) := by omega
      obtain ⟨r0, r1, r2, r3⟩ := rowsA_at k hlt
      have hBr := HB.out.ext hE
      have c0 := hBr.cell (k * 4)
      have c1 := hBr.cell (k * 4 + 1)
      have c2 := hBr.cell (k * 4 + 2)
      have c3 := hBr.cell (k * 4 + 3)
      rw [r0] at c0
      rw [r1] at c1
      rw [r2] at c2
      rw [r3] at c3
      clear r0 r1 r2 r3
      have hst := HS.out k hlt
      generalize rowAt k = row at *
      obtain ⟨x, nm, d, wi⟩ := row
      simp only at c0 c1 c2 c3 hst
      have hH := Lib.hid fun w' => HH.out x w'
      cases hq : hasL s x
      · rw [hq] at hH hst
        simp only [Bool.false_eq_true, if_false, List.append_nil] at hst
        go_wp2_with ((go_at_call 91; (with_reducible refine (hH.out _).mono ?_); rintro e w3 ⟨rfl, E3⟩))
        have E3' : Ext wr w3 := (by repeat (first | with_reducible exact Ext.refl _ | refine Ext.drewN ?_ _ | refine Ext.drew ?_ | refine Ext.alloc ?_ _ | assumption | (refine Below.trans ?_ (by assumption)) | (refine Ext.trans ?_ (by assumption)) | (refine Below.trans ?_ (Below.mono (by assumption) (by omega)))))
        go_roundw
        case rel => exact ⟨k + 1, n, c, A, by omega, by first | rfl | go_num | simp, rfl, Lib.hid (by rw [hst]; exact hn.out), Lib.hid (by rw [hst]; exact hO.out.ext E3'), hE.trans E3'⟩
        case measure => first | (simp [intOf]; omega) | (show 22 - _ < _; simp [intOf]; omega)
      · rw [hq] at hH hst
        simp only [if_true] at hst
        have hbx : ∀ o, (wr.alloc (.cells #[.int .i64 x, .string nm, .int .i64 d, .bool wi] 129)).cell? ⟨wr.heap.size, o, none⟩ = (#[.int .i64 x, .string nm, .int .i64 d, .bool wi] : Array Value)[o]? := fun o => (Blk.new wr _ _).cell o
        go_wp2_with fail
        (with_reducible refine (hH.out _).mono ?_); rintro e w3 ⟨rfl, E3⟩
        have hc3 := (Blk.ext (Blk.new wr 129 #[.int .i64 x, .string nm, .int .i64 d, .bool wi]) E3).cell 0
        have E3' : Ext wr w3 := (by repeat (first | with_reducible exact Ext.refl _ | refine Ext.drewN ?_ _ | refine Ext.drew ?_ | refine Ext.alloc ?_ _ | assumption | (refine Below.trans ?_ (by assumption)) | (refine Ext.trans ?_ (by assumption)) | (refine Below.trans ?_ (Below.mono (by assumption) (by omega)))))
        go_wp2_with (at_builtin; refine wpList_app (e := Ib) (base := w1.heap.size) (B := fun _ => False) (A := fun _ => False) rfl _ (.tmp 19) rfl Tryz.underlying62 info_i64 rfl (OwnS.ext hO.out (by repeat (first | with_reducible exact Ext.refl _ | refine Ext.drewN ?_ _ | refine Ext.drew ?_ | refine Ext.alloc ?_ _ | assumption | (refine Below.trans ?_ (by assumption)) | (refine Ext.trans ?_ (by assumption)) | (refine Below.trans ?_ (Below.mono (by assumption) (by omega)))))) rfl (RI.y (RI.lit .i64 [x] _ rfl (by simp))) rfl (fun _ _ h => h.elim) (N := n + 1) (by rw [hn.out]; rfl) (by simp [maxLen]; omega) (by omega) (by have := hE.size; have := E3'.size; simp; omega) ?_; intro A5 c5 w5 o5 M5 B5; have E5 : Ext w1 w5 := Ext.trans_below (show Ext w1 _ from (hE.trans E3').alloc _) B5 (Nat.le_refl _))
        go_roundw
        case rel => exact ⟨k + 1, n + 1, c5, A5, by omega, by first | rfl | go_num | simp, rfl, Lib.hid (by rw [hst, List.length_append, hn.out]; rfl), Lib.hid (by rw [hst]; exact o5), E5⟩
        case measure => first | (simp [intOf]; omega) | (show 22 - _ < _; simp [intOf]; omega)
    · obtain rfl : k = 22 := by omega
      have hOk := hO.out.rdT.ri
      rw [HA.out] at hOk
      have hnn := hn.out
      rw [HA.out] at hnn
      go_wp2
      go_ret
      exact ⟨A, c, by rw [hnn]; rfl, by rw [hnn]; exact hOk, E1.trans hE⟩
end Go.Proofs.YteljobleojhgmaaGreat.Sig
namespace Go.Proofs.YteljobleojhgmaaGreat.Sig
open Go.RowKit Go.Kb Go.Kb.Bits

set_option maxHeartbeats 800000 in
theorem rof_any (v : Value) (l : List Int) (w : World) (hl : RI .i64 w v l) : Calls Tryz.prog 108 #[v] w fun e w' => e = .returned (.int .u64 (ofL l)) ∧ Ext w w' := by
  obtain ⟨Ad, c, rfl, hc1, hc2⟩ := hl.shape
  have HL := Lib.hid hl
  have ho : ofL l = l.foldl addL 0 := rfl
  have HOF := Lib.hid ho
  clear hl ho
  have hlen : l.length ≤ 9223372036854775807 := by omega
  go_enter Tryz.func108, Tryz.ntmps108
  go_wp2
  go_loopw [3, 8] (fun a i wr => ∃ k : Nat, k ≤ l.length ∧ a = .int .u64 ((l.take k).foldl addL 0) ∧ i = .int .i64 k ∧ Ext w wr) (fun _ i _ => l.length - (intOf i).toNat)
  case atStart => exact ⟨0, by omega, by simp, rfl, (by repeat (first | with_reducible exact Ext.refl _ | refine Ext.drewN ?_ _ | refine Ext.drew ?_ | refine Ext.alloc ?_ _ | assumption | (refine Below.trans ?_ (by assumption)) | (refine Ext.trans ?_ (by assumption)) | (refine Below.trans ?_ (Below.mono (by assumption) (by omega)))))⟩
  case round =>
    obtain ⟨k, hk, rfl, rfl, hE⟩ := hrel
    by_cases hlt : k < l.length
    · have Ha := RdN.ext HL.out hE
      obtain ⟨b, off, x, rfl, hc1, hx⟩ := RdN.icell Ha hlt
      have k1 : (k : Int) < (l.length : Int) := by omega
      have k2 : (0 : Int) ≤ (k : Int) := by omega
      have k3 : IntKind.i64.wrap ((k : Int) + 1) = (k : Int) + 1 := IntWalk.i64_in _ (by omega)
      have hbd := fold_add_bd (l.take k) (s := 0) ⟨by decide, by decide⟩
      have hst := fold_take (f := addL) (s := 0) hx.out
      have HST := Lib.hid hst
      have HC := Lib.hid fun w' => radd_any ((l.take k).foldl addL 0) x w' hbd
      clear hbd hst Ha
      generalize (l.take k).foldl addL 0 = z at *
      go_wp2_with ((go_at_call 110; (with_reducible refine (HC.out _).mono ?_); rintro e w1 ⟨rfl, E1⟩))
      go_roundw
      case rel => exact ⟨k + 1, by omega, by rw [HST.out], by first | rfl | go_num | simp, (by repeat (first | with_reducible exact Ext.refl _ | refine Ext.drewN ?_ _ | refine Ext.drew ?_ | refine Ext.alloc ?_ _ | assumption | (refine Below.trans ?_ (by assumption)) | (refine Ext.trans ?_ (by assumption)) | (refine Below.trans ?_ (Below.mono (by assumption) (by omega)))))⟩
      case measure => simp [intOf]; omega
    · obtain rfl : k = l.length := by omega
      have ht : l.take l.length = l := List.take_length
      rw [ht]
      go_wp2
      go_ret
      exact ⟨by rw [HOF.out]; rfl, hE⟩
set_option maxHeartbeats 800000 in
theorem rblock_any (s : Int) (w : World) (h : U64 s) : Calls Tryz.prog 92 #[.int .u64 s] w fun e w' => e = .returned (.int .u64 (blockL s)) ∧ Ext w w' := by
  have HL := Lib.hid fun w' => rlist_any s w' h
  have HO := Lib.hid fun v w' hv => rof_any v (listL s) w' hv
  have HD1 := Lib.hid fun w' => rdel_any (ofL (listL s)) 9 w' (ofL_bd _)
  have HD2 := Lib.hid fun w' => rdel_any (delL (ofL (listL s)) 9) 19 w' (delL_bd (ofL_bd _) _)
  have hb : blockL s = delL (delL (ofL (listL s)) 9) 19 := rfl
  rw [← hb] at HD2
  generalize blockL s = r at *
  generalize delL (ofL (listL s)) 9 = q at *
  generalize ofL (listL s) = o at *
  generalize listL s = l at *
  clear h hb
  go_enter Tryz.func92, Tryz.ntmps92
  go_wp2_with fail
  (with_reducible refine (HL.out _).mono ?_); rintro e w1 ⟨A1, c1, rfl, r1, E1⟩
  have R1 := Lib.hid r1
  clear r1
  go_wp2_with fail
  (with_reducible refine (HO.out _ _ R1.out).mono ?_); rintro e w2 ⟨rfl, E2⟩
  go_wp2_with fail
  (with_reducible refine (HD1.out _).mono ?_); rintro e w3 ⟨rfl, E3⟩
  go_wp2_with fail
  (with_reducible refine (HD2.out _).mono ?_); rintro e w4 ⟨rfl, E4⟩
  go_wp2
  go_ret
  exact ⟨rfl, (by repeat (first | with_reducible exact Ext.refl _ | refine Ext.drewN ?_ _ | refine Ext.drew ?_ | refine Ext.alloc ?_ _ | assumption | (refine Below.trans ?_ (by assumption)) | (refine Ext.trans ?_ (by assumption)) | (refine Below.trans ?_ (Below.mono (by assumption) (by omega)))))⟩
end Go.Proofs.YteljobleojhgmaaGreat.Sig
namespace Go.Proofs.YteljobleojhgmaaGreat.Sig
open Go.RowKit Go.Kb Go.Kb.Bits

def okP (p m x : Int) : Bool := hasL p x && !hasL (blockL m) x
def rpickL (p m : Int) : Int × Bool := match ([9, 19, 18] ++ listL p).find? (okP p m) with | some x => (x, true) | none => (0, false)
theorem pick_eq {p : Int} (hp : U64 p) (m : Int) : rpickL p m = pickL p m := by
  have ho : ∀ x, hasL (openL p m) x = okP p m x := fun x => hasL_open hp m x
  have hl : (listL p).find? (okP p m) = (listL (openL p m)).head? := by
    unfold listL
    rw [List.head?_filter, List.find?_filter]
    congr 1
    funext x
    rw [ho]
    unfold okP
    cases hasL p x <;> simp
  unfold rpickL pickL
  rw [ho, ho, ho]
  simp only [List.cons_append, List.nil_append, List.find?_cons]
  cases okP p m 9
  · cases okP p m 19
    · cases okP p m 18
      · simp only [hl]
        cases listL (openL p m) <;> rfl
      · rfl
    · rfl
  · rfl
set_option maxRecDepth 100000 in
set_option maxHeartbeats 800000 in
theorem reffect_any (a : List Int) (sig : Int) (w : World) (ha : a.length = 32) : Calls Tryz.prog 61 #[.agg (arrV a), .int .i64 sig] w fun e w' => e = .returned (.int .i64 (effL a sig)) ∧ Ext w w' := by
  have hO := fun w' => of_any sig w'
  have heff : effL a sig = if !isL sig then 0 else if sig == 9 || sig == 19 then doesL sig else if a.getD sig.toNat 0 = 1 then (if sig = 18 then 5 else 3) else if a.getD sig.toNat 0 = 2 then 6 else doesL sig := rfl
  obtain ⟨x, hxx⟩ : ∃ x, a.getD sig.toNat 0 = x := ⟨_, rfl⟩
  rw [hxx] at heff
  have hat : ∀ k : Nat, k < 32 → (arrV a)[k]? = some (.int .i64 (a.getD k 0)) := fun k hk => arrV_at (by omega)
  have hz := arrV_size ha
  generalize effL a sig = ef at *
  have hbd : isL sig = true → 1 ≤ sig ∧ sig ≤ 28 := isL_bd
  have hds : doesL sig = (rowL sig).2.2.1 := rfl
  generalize doesL sig = ds at *
  generalize rowL sig = rr at *
  obtain ⟨n, nm, d, wi⟩ := rr
  simp only [rowV] at hO
  simp only at hds
  subst hds
  generalize isL sig = il at *
  generalize arrV a = cs at *
  have hB := Blk.new w 39 cs
  have HO := Lib.hid hO
  clear hO
  cases il
  · have he : ef = 0 := by rw [heff]; rfl
    subst he
    clear heff hat
    go_enter Tryz.func61, Tryz.ntmps61
    go_wp2_with ((go_at_call 95; (with_reducible refine (HO.out _).mono ?_); rintro e w1 ⟨rfl, E1⟩))
    go_ret
    exact ⟨rfl, (by repeat (first | with_reducible exact Ext.refl _ | refine Ext.drewN ?_ _ | refine Ext.drew ?_ | refine Ext.alloc ?_ _ | assumption | (refine Below.trans ?_ (by assumption)) | (refine Ext.trans ?_ (by assumption)) | (refine Below.trans ?_ (Below.mono (by assumption) (by omega)))))⟩
  · obtain ⟨hs1, hs2⟩ := hbd rfl
    by_cases h9 : sig = 9
    · have he : ef = ds := by rw [heff, h9]; rfl
      subst h9 he
      clear heff hat hxx
      go_enter Tryz.func61, Tryz.ntmps61
      go_wp2_with ((go_at_call 95; (with_reducible refine (HO.out _).mono ?_); rintro e w1 ⟨rfl, E1⟩))
      go_ret
      exact ⟨rfl, (by repeat (first | with_reducible exact Ext.refl _ | refine Ext.drewN ?_ _ | refine Ext.drew ?_ | refine Ext.alloc ?_ _ | assumption | (refine Below.trans ?_ (by assumption)) | (refine Ext.trans ?_ (by assumption)) | (refine Below.trans ?_ (Below.mono (by assumption) (by omega)))))⟩
    · have b9 : (sig == 9) = false := by simpa using h9
      by_cases h19 : sig = 19
      · have he : ef = ds := by rw [heff, h19]; rfl
        subst h19 he
        clear heff hat hxx h9
        go_enter Tryz.func61, Tryz.ntmps61
        go_wp2_with ((go_at_call 95; (with_reducible refine (HO.out _).mono ?_); rintro e w1 ⟨rfl, E1⟩))
        go_ret
        exact ⟨rfl, (by repeat (first | with_reducible exact Ext.refl _ | refine Ext.drewN ?_ _ | refine Ext.drew ?_ | refine Ext.alloc ?_ _ | assumption | (refine Below.trans ?_ (by assumption)) | (refine Ext.trans ?_ (by assumption)) | (refine Below.trans ?_ (Below.mono (by assumption) (by omega)))))⟩
      · have b19 : (sig == 19) = false := by simpa using h19
        rw [b9, b19] at heff
        clear h9 h19
        obtain ⟨k, rfl⟩ := Int.eq_ofNat_of_zero_le (show 0 ≤ sig by omega)
        have hxk : a.getD k 0 = x := hxx
        have hc := hB.cell k
        rw [hat k (by omega), hxk] at hc
        have HC := Lib.hid fun w' (h : Ext (w.alloc (.cells cs 39)) w') => cell_ext h hc
        have k1 : (k : Int) < 32 := by omega
        have k2 : (0 : Int) ≤ (k : Int) := by omega
        clear hat hc hbd hxx hxk
        by_cases h1 : x = 1
        · subst h1
          by_cases hk : k = 18
          · have he : ef = 5 := by rw [heff, if_neg (by simp), if_neg (by simp), if_pos rfl, if_pos (by omega)]
            have b18 : ((k : Int) == 18) = true := by rw [beq_iff_eq]; omega
            subst he
            clear heff hk
            go_enter Tryz.func61, Tryz.ntmps61
            go_wp2_with fail
            (with_reducible refine (HO.out _).mono ?_); rintro e w1 ⟨rfl, E1⟩
            have c := HC.out w1 E1
            have cn : ∀ o, (w1.alloc o).cell? ⟨w.heap.size, k, none⟩ = some (.int .i64 _) := fun o => cell_ext (show Ext w1 (w1.alloc o) from (Ext.refl w1).alloc o) c
            go_wp2
            go_ret
            exact ⟨rfl, (by repeat (first | with_reducible exact Ext.refl _ | refine Ext.drewN ?_ _ | refine Ext.drew ?_ | refine Ext.alloc ?_ _ | assumption | (refine Below.trans ?_ (by assumption)) | (refine Ext.trans ?_ (by assumption)) | (refine Below.trans ?_ (Below.mono (by assumption) (by omega)))))⟩
          · have he : ef = 3 := by rw [heff, if_neg (by simp), if_neg (by simp), if_pos rfl, if_neg (by omega)]
            have b18 : ((k : Int) == 18) = false := by rw [beq_eq_false_iff_ne]; omega
            subst he
            clear heff hk
            go_enter Tryz.func61, Tryz.ntmps61
            go_wp2_with fail
            (with_reducible refine (HO.out _).mono ?_); rintro e w1 ⟨rfl, E1⟩
            have c := HC.out w1 E1
            have cn : ∀ o, (w1.alloc o).cell? ⟨w.heap.size, k, none⟩ = some (.int .i64 _) := fun o => cell_ext (show Ext w1 (w1.alloc o) from (Ext.refl w1).alloc o) c
            go_wp2
            go_ret
            exact ⟨rfl, (by repeat (first | with_reducible exact Ext.refl _ | refine Ext.drewN ?_ _ | refine Ext.drew ?_ | refine Ext.alloc ?_ _ | assumption | (refine Below.trans ?_ (by assumption)) | (refine Ext.trans ?_ (by assumption)) | (refine Below.trans ?_ (Below.mono (by assumption) (by omega)))))⟩
        · have b1 : (x == 1) = false := by simpa using h1
          by_cases h2 : x = 2
          · subst h2
            have he : ef = 6 := by rw [heff, if_neg (by simp), if_neg (by simp), if_neg h1, if_pos rfl]
            subst he
            clear heff h1
            go_enter Tryz.func61, Tryz.ntmps61
            go_wp2_with fail
            (with_reducible refine (HO.out _).mono ?_); rintro e w1 ⟨rfl, E1⟩
            have c := HC.out w1 E1
            have cn : ∀ o, (w1.alloc o).cell? ⟨w.heap.size, k, none⟩ = some (.int .i64 _) := fun o => cell_ext (show Ext w1 (w1.alloc o) from (Ext.refl w1).alloc o) c
            go_wp2
            go_ret
            exact ⟨rfl, (by repeat (first | with_reducible exact Ext.refl _ | refine Ext.drewN ?_ _ | refine Ext.drew ?_ | refine Ext.alloc ?_ _ | assumption | (refine Below.trans ?_ (by assumption)) | (refine Ext.trans ?_ (by assumption)) | (refine Below.trans ?_ (Below.mono (by assumption) (by omega)))))⟩
          · have b2 : (x == 2) = false := by simpa using h2
            have he : ef = ds := by rw [heff, if_neg (by simp), if_neg (by simp), if_neg h1, if_neg h2]
            subst he
            clear heff h1 h2
            go_enter Tryz.func61, Tryz.ntmps61
            go_wp2_with fail
            (with_reducible refine (HO.out _).mono ?_); rintro e w1 ⟨rfl, E1⟩
            have c := HC.out w1 E1
            have cn : ∀ o, (w1.alloc o).cell? ⟨w.heap.size, k, none⟩ = some (.int .i64 _) := fun o => cell_ext (show Ext w1 (w1.alloc o) from (Ext.refl w1).alloc o) c
            go_wp2
            go_ret
            exact ⟨rfl, (by repeat (first | with_reducible exact Ext.refl _ | refine Ext.drewN ?_ _ | refine Ext.drew ?_ | refine Ext.alloc ?_ _ | assumption | (refine Below.trans ?_ (by assumption)) | (refine Ext.trans ?_ (by assumption)) | (refine Below.trans ?_ (Below.mono (by assumption) (by omega)))))⟩
end Go.Proofs.YteljobleojhgmaaGreat.Sig
namespace Go.Proofs.YteljobleojhgmaaGreat.Sig
open Go.RowKit Go.Kb Go.Kb.Bits

theorem rpick_some {p m : Int} {l : List Int} (hl : [9, 19, 18] ++ listL p = l) {k : Nat} {x : Int} (hx : l[k]? = some x) (h : okP p m x = true) (hn : ∀ (j : Nat) y, j < k → l[j]? = some y → okP p m y = false) : rpickL p m = (x, true) := by
  subst hl
  have : ([9, 19, 18] ++ listL p).find? (okP p m) = some x := by
    rw [List.find?_eq_some_iff_getElem]
    obtain ⟨hk, hxx⟩ := List.getElem?_eq_some_iff.1 hx
    exact ⟨h, k, hk, hxx, fun j hj => by rw [hn j _ hj (List.getElem?_eq_getElem (by omega))]; rfl⟩
  unfold rpickL
  rw [this]
theorem rpick_none {p m : Int} {l : List Int} (hl : [9, 19, 18] ++ listL p = l) (hn : ∀ (j : Nat) y, j < l.length → l[j]? = some y → okP p m y = false) : rpickL p m = (0, false) := by
  subst hl
  have : ([9, 19, 18] ++ listL p).find? (okP p m) = none := by
    rw [List.find?_eq_none]
    intro x hx
    obtain ⟨j, hj, rfl⟩ := List.getElem_of_mem hx
    rw [hn j _ hj (List.getElem?_eq_getElem hj)]
    decide
  unfold rpickL
  rw [this]
set_option maxRecDepth 100000 in
set_option maxHeartbeats 800000 in
theorem rpick_any (p m : Int) (w : World) (hp : U64 p) (hm : U64 m) : Calls Tryz.prog 58 #[.int .u64 p, .int .u64 m] w fun e w' => e = .returned (.tuple #[.int .i64 (rpickL p m).1, .bool (rpickL p m).2]) ∧ Ext w w' := by
  have HB := Lib.hid fun w' => rblock_any m w' hm
  have HL := Lib.hid fun w' => rlist_any p w' hp
  have HH := Lib.hid fun sig w' => rhas_any p sig w' hp
  have HH2 := Lib.hid fun sig w' => rhas_any (blockL m) sig w' (blockL_bd m)
  have hok0 : ∀ x, okP p m x = (hasL p x && !hasL (blockL m) x) := fun _ => rfl
  have HOK := Lib.hid hok0
  clear hok0
  have HS := Lib.hid fun l hl k x hx h hn => rpick_some (p := p) (m := m) (l := l) hl (k := k) (x := x) hx h hn
  have HN := Lib.hid fun l hl hn => rpick_none (p := p) (m := m) (l := l) hl hn
  have hll := listK_len p 29
  have hlo : listK p 29 = listL p := rfl
  rw [hlo] at hll
  generalize rpickL p m = r at *
  generalize blockL m = b at *
  generalize listL p = lp at *
  clear hp hm hlo
  go_enter Tryz.func58, Tryz.ntmps58
  go_wp2_with fail
  (with_reducible refine (HL.out _).mono ?_); rintro e w1 ⟨A1, c1, rfl, r1, E1⟩
  have R1 := Lib.hid r1
  have HBk := Lib.hid (Blk.ext (Blk.new w 3 #[.int .i64 9, .int .i64 19, .int .i64 18]) E1)
  have E01 : Ext w w1 := (by repeat (first | with_reducible exact Ext.refl _ | refine Ext.drewN ?_ _ | refine Ext.drew ?_ | refine Ext.alloc ?_ _ | assumption | (refine Below.trans ?_ (by assumption)) | (refine Ext.trans ?_ (by assumption)) | (refine Below.trans ?_ (Below.mono (by assumption) (by omega)))))
  have hlw : w.heap.size < w1.heap.size := HBk.out.lt
  clear r1
  have hOl : OwnS Ib 3 w.heap.size (fun _ => False) w1 (.slice (some ⟨w.heap.size, 0, none⟩) 3 3) [9, 19, 18] := OwnS.litB (A := fun _ => False) (RdE.ints (l := [9, 19, 18])) HBk.out (fun _ _ h => h.elim) (Nat.le_refl _) rfl (by decide)
  have HOl := Lib.hid hOl
  have hl3 : ([9, 19, 18] ++ lp).length = lp.length + 3 := by simp
  clear hOl
  go_wp2_with (at_builtin; refine wpList_app (e := Ib) (base := w.heap.size) (B := fun _ => False) (A := fun _ => False) rfl (.tmp 8) (.tmp 10) rfl Tryz.underlying62 info_i64 rfl HOl.out rfl (RI.y R1.out) rfl (fun _ _ h => h.elim) (N := lp.length + 3) (by simp; omega) (by simp [maxLen]; omega) (by omega) (by omega) ?_; intro A5 c5 w5 o5 M5 B5; have O5 := Lib.hid o5.rdT.ri; have E5 : Ext w w5 := Ext.trans_below E01 B5 (Nat.le_refl _); clear o5 M5 B5)
  have HSL := Lib.hid fun k x hx h hn => HS.out _ rfl k x hx h hn
  have HNL := Lib.hid fun hn => HN.out _ rfl hn
  generalize [9, 19, 18] ++ lp = l at *
  generalize hN : lp.length + 3 = N at *
  clear HS HN HOl HBk R1 E1
  go_loopw [13] (fun i wr => ∃ k : Nat, k ≤ N ∧ i = .int .i64 k ∧ Hid (∀ (j : Nat) y, j < k → l[j]? = some y → okP p m y = false) ∧ Ext w5 wr) (fun i _ => N - (intOf i).toNat)
  case atStart => exact ⟨0, by omega, rfl, Lib.hid fun j y hj => by omega, Ext.refl _⟩
  case round =>
    obtain ⟨k, hk, rfl, hj, hE⟩ := hrel
    by_cases hlt : k < N
    · have k1 : (k : Int) < (N : Int) := by omega
      have k2 : (0 : Int) ≤ (k : Int) := by omega
      have k3 : IntKind.i64.wrap ((k : Int) + 1) = (k : Int) + 1 := IntWalk.i64_in _ (by omega)
      obtain ⟨bb, off, x, rfl, hc, hx⟩ := RdN.icell (RdN.ext O5.out hE) (j := k) (by omega)
      have HJ := Lib.hid fun (h : okP p m x = false) (j : Nat) y (hjk : j < k + 1) (hy : l[j]? = some y) => show okP p m y = false by
        rcases Nat.lt_succ_iff_lt_or_eq.1 hjk with h1 | h1
        · exact hj.out j y h1 hy
        · rw [h1, hx.out] at hy
          cases hy
          exact h
      have HSk := Lib.hid fun h => HSL.out k x hx.out h hj.out
      have hok := HOK.out x
      have HOx := Lib.hid hok
      have h1 := Lib.hid fun w' => HH.out x w'
      have h2 := Lib.hid fun w' => HH2.out x w'
      clear hok
      cases hq : hasL p x
      · rw [hq] at h1 HOx
        go_wp2_with ((go_at_call 91; (with_reducible refine (h1.out _).mono ?_); rintro e w6 ⟨rfl, E6⟩))
        go_roundw
        case rel => exact ⟨k + 1, by omega, by first | rfl | go_num | simp, Lib.hid (HJ.out (by rw [HOx.out]; rfl)), hE.trans E6⟩
        case measure => first | (simp [intOf]; omega) | (show N - _ < _; simp [intOf]; omega)
      · rw [hq] at h1 HOx
        cases hq2 : hasL b x
        · rw [hq2] at h2 HOx
          have hr := HSk.out (by rw [HOx.out]; rfl)
          subst hr
          clear HSk HSL HNL
          go_wp2_with fail
          (with_reducible refine (h1.out _).mono ?_); rintro e w6 ⟨rfl, E6⟩
          go_wp2_with fail
          (with_reducible refine (HB.out _).mono ?_); rintro e w7 ⟨rfl, E7⟩
          go_wp2_with fail
          (with_reducible refine (h2.out _).mono ?_); rintro e w8 ⟨rfl, E8⟩
          go_wp2
          go_ret2
          exact ⟨rfl, E5.trans (hE.trans (by repeat (first | with_reducible exact Ext.refl _ | refine Ext.drewN ?_ _ | refine Ext.drew ?_ | refine Ext.alloc ?_ _ | assumption | (refine Below.trans ?_ (by assumption)) | (refine Ext.trans ?_ (by assumption)) | (refine Below.trans ?_ (Below.mono (by assumption) (by omega))))))⟩
        · rw [hq2] at h2 HOx
          go_wp2_with fail
          (with_reducible refine (h1.out _).mono ?_); rintro e w6 ⟨rfl, E6⟩
          go_wp2_with fail
          (with_reducible refine (HB.out _).mono ?_); rintro e w7 ⟨rfl, E7⟩
          go_wp2_with fail
          (with_reducible refine (h2.out _).mono ?_); rintro e w8 ⟨rfl, E8⟩
          go_wp2
          go_roundw
          case rel => exact ⟨k + 1, by omega, by first | rfl | go_num | simp, Lib.hid (HJ.out (by rw [HOx.out]; rfl)), hE.trans (by repeat (first | with_reducible exact Ext.refl _ | refine Ext.drewN ?_ _ | refine Ext.drew ?_ | refine Ext.alloc ?_ _ | assumption | (refine Below.trans ?_ (by assumption)) | (refine Ext.trans ?_ (by assumption)) | (refine Below.trans ?_ (Below.mono (by assumption) (by omega)))))⟩
          case measure => first | (simp [intOf]; omega) | (show N - _ < _; simp [intOf]; omega)
    · obtain rfl : k = N := by omega
      have hr := HNL.out fun j y hj2 hy => hj.out j y (by omega) hy
      subst hr
      go_wp2
      go_ret2
      exact ⟨rfl, E5.trans hE⟩
end Go.Proofs.YteljobleojhgmaaGreat.Sig
