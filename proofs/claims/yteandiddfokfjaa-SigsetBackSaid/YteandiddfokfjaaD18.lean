/- The document's row of a signal, its name, its number, by contract. Conditions: none. -/
import Derived.Test.YteandiddfokfjaaC18
namespace Go.Proofs.Yteandiddfokfjaa
open Go.RowKit Go.Kb Go.Kb.Bits

abbrev Row := Int × ByteArray × Int × Bool
def row0 : Row := (0, ⟨#[]⟩, 0, false)
def rowAt (k : Nat) : Row := rowsT.getD k row0
def rowL (sig : Int) : Row := (rowsT.find? fun r => r.1 == sig).getD row0
theorem rows_len : rowsT.length = 22 := rfl
theorem find_some {p : Row → Bool} {k : Nat} (hk : k < 22) (h : p (rowAt k) = true) (hn : ∀ j : Nat, j < k → p (rowAt j) = false) : rowsT.find? p = some (rowAt k) := by
  rw [List.find?_eq_some_iff_getElem]
  have e : ∀ j : Nat, j < 22 → ∀ h : j < rowsT.length, rowsT[j] = rowAt j := fun j hj h => by unfold rowAt; simp [h]
  exact ⟨h, k, hk, e k hk hk, fun j hj => by rw [e j (by omega) (by rw [rows_len]; omega), hn j hj]; rfl⟩
theorem find_none {p : Row → Bool} (hn : ∀ j : Nat, j < 22 → p (rowAt j) = false) : rowsT.find? p = none := by
  rw [List.find?_eq_none]
  intro r hr
  obtain ⟨j, hj, rfl⟩ := List.getElem_of_mem hr
  have := hn j hj
  unfold rowAt at this
  simp only [List.getD_eq_getElem?_getD, List.getElem?_eq_getElem hj, Option.getD_some] at this
  rw [this]
  decide
theorem rowsA_at (k : Nat) (hk : k < 22) : rowsA[k * 4]? = some (.int .i64 (rowAt k).1) ∧ rowsA[k * 4 + 1]? = some (.string (rowAt k).2.1) ∧ rowsA[k * 4 + 2]? = some (.int .i64 (rowAt k).2.2.1) ∧ rowsA[k * 4 + 3]? = some (.bool (rowAt k).2.2.2) := by
  rcases k with _ | _ | _ | _ | _ | _ | _ | _ | _ | _ | _ | _ | _ | _ | _ | _ | _ | _ | _ | _ | _ | _ | k
  all_goals first | exact ⟨rfl, rfl, rfl, rfl⟩ | omega
theorem rowL_some {sig : Int} {k : Nat} (hk : k < 22) (h : (rowAt k).1 = sig) (hn : ∀ j : Nat, j < k → ¬ (rowAt j).1 = sig) : rowL sig = rowAt k := by
  unfold rowL
  rw [find_some hk (by simpa using h) fun j hj => by simpa using hn j hj]
  rfl
theorem rowL_none {sig : Int} (hn : ∀ j : Nat, j < 22 → ¬ (rowAt j).1 = sig) : rowL sig = row0 := by
  unfold rowL
  rw [find_none fun j hj => by simpa using hn j hj]
  rfl
theorem rowAt_is (k : Nat) (hk : k < 22) : isL (rowAt k).1 = true := by
  have : ∀ k : Nat, k < 22 → isL (rowAt k).1 = true := by decide +kernel
  exact this k hk
theorem isL_row {sig : Int} (h : isL sig = true) : ∃ j : Nat, j < 22 ∧ (rowAt j).1 = sig := by
  have hb := isL_bd h
  have : ∀ k : Nat, k < 29 → isL (k : Int) = true → ∃ j : Nat, j < 22 ∧ (rowAt j).1 = (k : Int) := by decide +kernel
  obtain ⟨j, h1, h2⟩ := this sig.toNat (by omega) (by rw [show ((sig.toNat : Nat) : Int) = sig by omega]; exact h)
  exact ⟨j, h1, by omega⟩
set_option maxRecDepth 100000 in
set_option maxHeartbeats 800000 in
theorem of_any (sig : Int) (w : World) : Calls Try.prog 35 #[.int .i64 sig] w fun e w' => e = .returned (.tuple #[.agg (rowV (rowL sig)).toArray, .bool (isL sig)]) ∧ Ext w w' := by
  have HS := Lib.hid fun k hk h hn => rowL_some (sig := sig) (k := k) hk h hn
  have HN := Lib.hid fun hn => rowL_none (sig := sig) hn
  have HI := Lib.hid fun j hj => rowAt_is j hj
  have HR := Lib.hid fun h => isL_row (sig := sig) h
  generalize hrl : rowL sig = rl at *
  generalize hil : isL sig = il at *
  have HIL := Lib.hid hil
  clear hrl hil
  go_enter Try.func35, Try.ntmps35
  go_wp2_with ((go_at_call 37; (with_reducible refine (rows_any _).mono ?_); rintro e w1 ⟨rfl, hB, E1⟩))
  simp only [World.size_alloc] at hB
  have hE0 : Ext (w.alloc (.cells #[.int .i64 0, .string ⟨#[]⟩, .int .i64 0, .bool false] 58)) w1 := E1
  have hZ := (Blk.new w 58 #[.int .i64 0, .string ⟨#[]⟩, .int .i64 0, .bool false]).ext hE0
  have hE1 : Ext w w1 := Ext.trans ((Ext.refl w).alloc _) hE0
  have HB := Lib.hid hB
  have HZ := Lib.hid hZ
  clear hB hZ E1 hE0
  go_loopw [8] (fun i wr => ∃ k : Nat, k ≤ 22 ∧ i = .int .i64 k ∧ Hid (∀ j : Nat, j < k → ¬ (rowAt j).1 = sig) ∧ Ext w1 wr) (fun i _ => 22 - (intOf i).toNat)
  case atStart => exact ⟨0, by omega, rfl, Lib.hid fun j hj => by omega, Ext.refl _⟩
  case round =>
    obtain ⟨k, hk, rfl, hj, hE⟩ := hrel
    have hZr := HZ.out.ext hE
    have z0 := hZr.cell 0
    have z1 := hZr.cell 1
    have z2 := hZr.cell 2
    have z3 := hZr.cell 3
    have y0 := hZr.frozen 0
    have y1 := hZr.frozen 1
    have y2 := hZr.frozen 2
    have y3 := hZr.frozen 3
    by_cases hlt : k < 22
    · have k1 : (k : Int) < 22 := by omega
      have k2 : (0 : Int) ≤ (k : Int) := by omega
      obtain ⟨r0, r1, r2, r3⟩ := rowsA_at k hlt
      have hBr := HB.out.ext hE
      have c0 := hBr.cell (k * 4)
      have c1 := hBr.cell (k * 4 + 1)
      have c2 := hBr.cell (k * 4 + 2)
      have c3 := hBr.cell (k * 4 + 3)
      rw [r0] at c0
      rw [r1] at c1
      rw [r2] at c2
      rw [r3] at c3
      have HJ := Lib.hid fun (h : ¬ (rowAt k).1 = sig) (j : Nat) (hjk : j < k + 1) => show ¬ (rowAt j).1 = sig by
        rcases Nat.lt_succ_iff_lt_or_eq.1 hjk with h1 | h1
        · exact hj.out j h1
        · rw [h1]; exact h
      have HSk := Lib.hid fun h => HS.out k hlt h hj.out
      have hik := HI.out k hlt
      have HIK := Lib.hid hik
      clear r0 r1 r2 r3 hik
      generalize hrow : rowAt k = row at *
      have HRW := Lib.hid hrow
      clear hrow
      obtain ⟨n, s, d, wi⟩ := row
      simp only at c0 c1 c2 c3 HSk HIK HJ
      by_cases hns : n = sig
      · have hrl := HSk.out hns
        have hil : true = il := by rw [← HIL.out, ← hns]; exact HIK.out.symm
        subst hns hil
        have HRL := Lib.hid hrl
        clear hrl HSk HJ HRW HIK HIL HS HN HI HR
        have z0 := fun o => (hZr.alloc o).cell 0
        have z1 := fun o => (hZr.alloc o).cell 1
        have z2 := fun o => (hZr.alloc o).cell 2
        have z3 := fun o => (hZr.alloc o).cell 3
        have y0 := fun o => (hZr.alloc o).frozen 0
        have y1 := fun o => (hZr.alloc o).frozen 1
        have y2 := fun o => (hZr.alloc o).frozen 2
        have y3 := fun o => (hZr.alloc o).frozen 3
        go_wp2
        refine bodyPost_ret_by (Go.Kb.results_cell_tmp Try.results35 _ _ w.heap.size 58 #[.int .i64 n, .string s, .int .i64 d, .bool wi] _ _ rfl (.bool true) rfl (((((hZr.alloc _).set_ 0 (.int .i64 n)).set_ 1 (.string s)).set_ 2 (.int .i64 d)).set_ 3 (.bool wi)) Try.underlying58 rfl (by kernel_rfl)) rfl ?_
        refine ⟨by rw [HRL.out]; rfl, ?_⟩
        refine Ext.setNew (Ext.setNew (Ext.setNew (Ext.setNew (Ext.trans hE1 (by repeat (first | with_reducible exact Ext.refl _ | refine Ext.drewN ?_ _ | refine Ext.drew ?_ | refine Ext.alloc ?_ _ | assumption | (refine Below.trans ?_ (by assumption)) | (refine Ext.trans ?_ (by assumption)) | (refine Below.trans ?_ (Below.mono (by assumption) (by omega)))))) ?_ _) ?_ _) ?_ _) ?_ _ <;> exact Nat.le_refl _
      · have hns' : (n == sig) = false := by simpa using hns
        go_wp2
        go_roundw
        case rel => exact ⟨k + 1, by omega, by simp, Lib.hid (HJ.out hns), (by repeat (first | with_reducible exact Ext.refl _ | refine Ext.drewN ?_ _ | refine Ext.drew ?_ | refine Ext.alloc ?_ _ | assumption | (refine Below.trans ?_ (by assumption)) | (refine Ext.trans ?_ (by assumption)) | (refine Below.trans ?_ (Below.mono (by assumption) (by omega)))))⟩
        case measure => first | (simp [intOf]; omega) | (show 22 - _ < _; simp [intOf]; omega)
    · obtain rfl : k = 22 := by omega
      have hrl := HN.out hj.out
      have hil : il = false := by
        cases hq : il
        · rfl
        · obtain ⟨j, h1, h2⟩ := HR.out hq
          exact absurd h2 (hj.out j h1)
      subst hrl hil
      clear HS HN HI HR HIL hj
      go_wp2
      refine bodyPost_ret_by (Go.Kb.results_cell_tmp Try.results35 _ _ w.heap.size 58 #[.int .i64 0, .string ⟨#[]⟩, .int .i64 0, .bool false] _ _ rfl (.bool false) rfl ((((hZr.set_ 0 (.int .i64 0)).set_ 1 (.string ⟨#[]⟩)).set_ 2 (.int .i64 0)).set_ 3 (.bool false)) Try.underlying58 rfl (by kernel_rfl)) rfl ?_
      refine ⟨rfl, ?_⟩
      refine Ext.setNew (Ext.setNew (Ext.setNew (Ext.setNew (Ext.trans hE1 (by repeat (first | with_reducible exact Ext.refl _ | refine Ext.drewN ?_ _ | refine Ext.drew ?_ | refine Ext.alloc ?_ _ | assumption | (refine Below.trans ?_ (by assumption)) | (refine Ext.trans ?_ (by assumption)) | (refine Below.trans ?_ (Below.mono (by assumption) (by omega)))))) ?_ _) ?_ _) ?_ _) ?_ _ <;> exact Nat.le_refl _
end Go.Proofs.Yteandiddfokfjaa
