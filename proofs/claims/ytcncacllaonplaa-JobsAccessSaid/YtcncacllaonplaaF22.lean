/- Written by chain.py of A18@Sig C18[rowsT,rowV,rowsA,rows_any]@Sig D18@Sig E18[rowL_name,rname_any]@Sig F18@Sig. No condition. -/
import Derived.Test.YtcncacllaonplaaE22
import Derived.Test.YtcncacllaonplaaChecked
import Derived.Laws.ShiftsVarLaws
import Derived.Laws.Shifts
namespace Go.Proofs.Ytcncacllaonplaa.Sig
open Go.RowKit Go.Kb Go.Kb.Bits

def namesB : List ByteArray := [⟨#[]⟩, ⟨#[72, 85, 80]⟩, ⟨#[73, 78, 84]⟩, ⟨#[81, 85, 73, 84]⟩, ⟨#[73, 76, 76]⟩, ⟨#[84, 82, 65, 80]⟩, ⟨#[65, 66, 82, 84]⟩, ⟨#[66, 85, 83]⟩, ⟨#[70, 80, 69]⟩, ⟨#[75, 73, 76, 76]⟩, ⟨#[85, 83, 82, 49]⟩, ⟨#[83, 69, 71, 86]⟩, ⟨#[85, 83, 82, 50]⟩, ⟨#[80, 73, 80, 69]⟩, ⟨#[65, 76, 82, 77]⟩, ⟨#[84, 69, 82, 77]⟩, ⟨#[]⟩, ⟨#[67, 72, 76, 68]⟩, ⟨#[67, 79, 78, 84]⟩, ⟨#[83, 84, 79, 80]⟩, ⟨#[84, 83, 84, 80]⟩, ⟨#[84, 84, 73, 78]⟩, ⟨#[84, 84, 79, 85]⟩, ⟨#[]⟩, ⟨#[]⟩, ⟨#[]⟩, ⟨#[]⟩, ⟨#[]⟩, ⟨#[87, 73, 78, 67, 72]⟩]
def nameB (k : Nat) : ByteArray := namesB.getD k ⟨#[]⟩
def namesA : Array Value := (namesB.map Value.string).toArray
def isL (sig : Int) : Bool := decide ((1 ≤ sig ∧ sig ≤ 15) ∨ (17 ≤ sig ∧ sig ≤ 22) ∨ sig = 28)
theorem isL_bd {sig : Int} (h : isL sig = true) : 1 ≤ sig ∧ sig ≤ 28 := by
  simp [isL] at h; omega
set_option maxRecDepth 100000 in
theorem index_names (k : Nat) (hk : k < 29) : ∀ w, (Instr.index 113 (.agg namesA) (.int .i64 (k : Int))).run Try.prog w = .ok (.string (nameB k)) w := by
  rcases k with _ | _ | _ | _ | _ | _ | _ | _ | _ | _ | _ | _ | _ | _ | _ | _ | _ | _ | _ | _ | _ | _ | _ | _ | _ | _ | _ | _ | _ | k
  all_goals first | exact fun w => by kernel_rfl | omega
theorem name_is (k : Nat) (hk : k < 29) : (nameB k).toList.isEmpty = !isL (k : Int) := by
  have : ∀ k : Nat, k < 29 → (nameB k).toList.isEmpty = !isL (k : Int) := by decide +kernel
  exact this k hk
theorem names_info : (Try.prog.info? 113).map (·.size) = some namesA.size := by kernel_rfl
theorem names_one : namesA.all (·.oneCell') = true := by kernel_rfl
theorem names_size : namesA.size = 29 := by kernel_rfl
set_option maxHeartbeats 800000 in
theorem names_any (w : World) : Calls Try.prog 75 #[] w fun e w' => e = .returned (.agg namesA) ∧ Ext w w' := by
  have hi := names_info
  have h1 := names_one
  have hz := names_size
  go_enter Try.func75, Try.ntmps75
  go_wp2_with (first
    | (refine wpList_build_eq rfl 113 _ rfl (L := namesA) (by kernel_rfl) ?_)
    | (refine wpList_store_A rfl 113 _ _ rfl w.heap.size _ rfl rfl 113 _ (Blk.at_ _ _ rfl) hi (by rw [hz]; rfl) h1 ?_; intro w2 H2 E2; have E2 : Ext w w2 := E2 w.heap.size w (by repeat (first | with_reducible exact Ext.refl _ | refine Ext.drewN ?_ _ | refine Ext.drew ?_ | refine Ext.alloc ?_ _ | assumption | (refine Below.trans ?_ (by assumption)) | (refine Ext.trans ?_ (by assumption)) | (refine Below.trans ?_ (Below.mono (by assumption) (by omega))))) (Nat.le_refl _)))
  refine bodyPost_ret_by (results_cell_row Try.results75 _ _ w.heap.size 113 _ _ _ rfl H2 Try.underlying113 rfl hi) rfl ?_
  exact ⟨rfl, E2⟩
set_option maxHeartbeats 800000 in
theorem is_any (sig : Int) (w : World) : Calls Try.prog 64 #[.int .i64 sig] w fun e w' => e = .returned (.bool (isL sig)) ∧ Ext w w' := by
  by_cases h0 : 0 < sig
  · by_cases h28 : sig ≤ 28
    · obtain ⟨k, rfl⟩ := Int.eq_ofNat_of_zero_le (show 0 ≤ sig by omega)
      have hix := index_names k (by omega)
      have hnm := name_is k (by omega)
      generalize isL (k : Int) = r at *
      generalize nameB k = b at *
      go_enter Try.func64, Try.ntmps64
      have hN := fun w' => names_any w'
      generalize namesA = A at *
      go_wp2_with ((go_at_call 75; (with_reducible refine (hN _).mono ?_); rintro e w1 ⟨rfl, E1⟩))
      go_ret
      exact ⟨by simp, E1⟩
    · have hr : isL sig = false := by simp [isL]; omega
      rw [hr]
      go_enter Try.func64, Try.ntmps64
      go_wp2
      go_ret
      exact ⟨rfl, (by repeat (first | with_reducible exact Ext.refl _ | refine Ext.drewN ?_ _ | refine Ext.drew ?_ | refine Ext.alloc ?_ _ | assumption | (refine Below.trans ?_ (by assumption)) | (refine Ext.trans ?_ (by assumption)) | (refine Below.trans ?_ (Below.mono (by assumption) (by omega)))))⟩
  · have hr : isL sig = false := by simp [isL]; omega
    rw [hr]
    go_enter Try.func64, Try.ntmps64
    go_wp2
    go_ret
    exact ⟨rfl, (by repeat (first | with_reducible exact Ext.refl _ | refine Ext.drewN ?_ _ | refine Ext.drew ?_ | refine Ext.alloc ?_ _ | assumption | (refine Below.trans ?_ (by assumption)) | (refine Ext.trans ?_ (by assumption)) | (refine Below.trans ?_ (Below.mono (by assumption) (by omega)))))⟩
set_option maxHeartbeats 800000 in
theorem name_any (sig : Int) (w : World) : Calls Try.prog 90 #[.int .i64 sig] w fun e w' => e = .returned (.tuple #[.string (if isL sig then nameB sig.toNat else ⟨#[]⟩), .bool (isL sig)]) ∧ Ext w w' := by
  have hI := Lib.hid fun w' => is_any sig w'
  cases hs : isL sig
  · rw [hs] at hI
    go_enter Try.func90, Try.ntmps90
    go_wp2_with ((go_at_call 64; (with_reducible refine (hI.out _).mono ?_); rintro e w1 ⟨rfl, E1⟩))
    go_ret2
    exact ⟨rfl, E1⟩
  · rw [hs] at hI
    have hb := isL_bd hs
    obtain ⟨k, rfl⟩ := Int.eq_ofNat_of_zero_le (show 0 ≤ sig by omega)
    have hix := index_names k (by omega)
    simp only [Int.toNat_natCast]
    generalize nameB k = b at *
    have hN := fun w' => names_any w'
    generalize namesA = A at *
    go_enter Try.func90, Try.ntmps90
    go_wp2_with (first | ((go_at_call 64; (with_reducible refine (hI.out _).mono ?_); rintro e w1 ⟨rfl, E1⟩)) | ((go_at_call 75; (with_reducible refine (hN _).mono ?_); rintro e w2 ⟨rfl, E2⟩)))
    go_ret2
    exact ⟨rfl, (by repeat (first | with_reducible exact Ext.refl _ | refine Ext.drewN ?_ _ | refine Ext.drew ?_ | refine Ext.alloc ?_ _ | assumption | (refine Below.trans ?_ (by assumption)) | (refine Ext.trans ?_ (by assumption)) | (refine Below.trans ?_ (Below.mono (by assumption) (by omega)))))⟩
end Go.Proofs.Ytcncacllaonplaa.Sig
namespace Go.Proofs.Ytcncacllaonplaa.Sig
open Go.RowKit Go.Kb Go.Kb.Bits

/-- the document's rows: number, name, what it does, whether a client may name it -/
def rowsT : List (Int × ByteArray × Int × Bool) := [(1, ⟨#[72, 85, 80]⟩, 1, true), (2, ⟨#[73, 78, 84]⟩, 1, true), (3, ⟨#[81, 85, 73, 84]⟩, 2, true), (4, ⟨#[73, 76, 76]⟩, 2, true), (5, ⟨#[84, 82, 65, 80]⟩, 2, false), (6, ⟨#[65, 66, 82, 84]⟩, 2, true), (7, ⟨#[66, 85, 83]⟩, 2, false), (8, ⟨#[70, 80, 69]⟩, 2, true), (9, ⟨#[75, 73, 76, 76]⟩, 1, true), (10, ⟨#[85, 83, 82, 49]⟩, 1, true), (11, ⟨#[83, 69, 71, 86]⟩, 2, true), (12, ⟨#[85, 83, 82, 50]⟩, 1, true), (13, ⟨#[80, 73, 80, 69]⟩, 1, true), (14, ⟨#[65, 76, 82, 77]⟩, 1, true), (15, ⟨#[84, 69, 82, 77]⟩, 1, true), (17, ⟨#[67, 72, 76, 68]⟩, 3, false), (18, ⟨#[67, 79, 78, 84]⟩, 5, false), (19, ⟨#[83, 84, 79, 80]⟩, 4, false), (20, ⟨#[84, 83, 84, 80]⟩, 4, false), (21, ⟨#[84, 84, 73, 78]⟩, 4, false), (22, ⟨#[84, 84, 79, 85]⟩, 4, false), (28, ⟨#[87, 73, 78, 67, 72]⟩, 3, false)]
def rowV (r : Int × ByteArray × Int × Bool) : List Value := [.int .i64 r.1, .string r.2.1, .int .i64 r.2.2.1, .bool r.2.2.2]
def rowsA : Array Value := (rowsT.flatMap rowV).toArray
set_option maxRecDepth 100000 in
set_option maxHeartbeats 800000 in
theorem rows_any (w : World) : Calls Try.prog 86 #[] w fun e w' => e = .returned (.slice (some ⟨w.heap.size, 0, none⟩) 22 22) ∧ Blk w' w.heap.size 116 rowsA ∧ Ext w w' := by
  go_enter Try.func86, Try.ntmps86
  go_wp2
  go_ret
  exact ⟨rfl, Blk.at_ _ _ rfl, (by repeat (first | with_reducible exact Ext.refl _ | refine Ext.drewN ?_ _ | refine Ext.drew ?_ | refine Ext.alloc ?_ _ | assumption | (refine Below.trans ?_ (by assumption)) | (refine Ext.trans ?_ (by assumption)) | (refine Below.trans ?_ (Below.mono (by assumption) (by omega)))))⟩
end Go.Proofs.Ytcncacllaonplaa.Sig
namespace Go.Proofs.Ytcncacllaonplaa.Sig
open Go.RowKit Go.Kb Go.Kb.Bits

abbrev Row := Int × ByteArray × Int × Bool
def row0 : Row := (0, ⟨#[]⟩, 0, false)
def rowAt (k : Nat) : Row := rowsT.getD k row0
def rowL (sig : Int) : Row := (rowsT.find? fun r => r.1 == sig).getD row0
theorem rows_len : rowsT.length = 22 := rfl
theorem find_some {p : Row → Bool} {k : Nat} (hk : k < 22) (h : p (rowAt k) = true) (hn : ∀ j : Nat, j < k → p (rowAt j) = false) : rowsT.find? p = some (rowAt k) := by
  rw [List.find?_eq_some_iff_getElem]
  have e : ∀ j : Nat, j < 22 → ∀ h : j < rowsT.length, rowsT[j] = rowAt j := fun j hj h => by unfold rowAt; simp [h]
  exact ⟨h, k, hk, e k hk hk, fun j hj => by rw [e j (by omega) (by rw [rows_len]; omega), hn j hj]; rfl⟩
theorem find_none {p : Row → Bool} (hn : ∀ j : Nat, j < 22 → p (rowAt j) = false) : rowsT.find? p = none := by
  rw [List.find?_eq_none]
  intro r hr
  obtain ⟨j, hj, rfl⟩ := List.getElem_of_mem hr
  have := hn j hj
  unfold rowAt at this
  simp only [List.getD_eq_getElem?_getD, List.getElem?_eq_getElem hj, Option.getD_some] at this
  rw [this]
  decide
theorem rowsA_at (k : Nat) (hk : k < 22) : rowsA[k * 4]? = some (.int .i64 (rowAt k).1) ∧ rowsA[k * 4 + 1]? = some (.string (rowAt k).2.1) ∧ rowsA[k * 4 + 2]? = some (.int .i64 (rowAt k).2.2.1) ∧ rowsA[k * 4 + 3]? = some (.bool (rowAt k).2.2.2) := by
  rcases k with _ | _ | _ | _ | _ | _ | _ | _ | _ | _ | _ | _ | _ | _ | _ | _ | _ | _ | _ | _ | _ | _ | k
  all_goals first | exact ⟨rfl, rfl, rfl, rfl⟩ | omega
theorem rowL_some {sig : Int} {k : Nat} (hk : k < 22) (h : (rowAt k).1 = sig) (hn : ∀ j : Nat, j < k → ¬ (rowAt j).1 = sig) : rowL sig = rowAt k := by
  unfold rowL
  rw [find_some hk (by simpa using h) fun j hj => by simpa using hn j hj]
  rfl
theorem rowL_none {sig : Int} (hn : ∀ j : Nat, j < 22 → ¬ (rowAt j).1 = sig) : rowL sig = row0 := by
  unfold rowL
  rw [find_none fun j hj => by simpa using hn j hj]
  rfl
theorem rowAt_is (k : Nat) (hk : k < 22) : isL (rowAt k).1 = true := by
  have : ∀ k : Nat, k < 22 → isL (rowAt k).1 = true := by decide +kernel
  exact this k hk
theorem isL_row {sig : Int} (h : isL sig = true) : ∃ j : Nat, j < 22 ∧ (rowAt j).1 = sig := by
  have hb := isL_bd h
  have : ∀ k : Nat, k < 29 → isL (k : Int) = true → ∃ j : Nat, j < 22 ∧ (rowAt j).1 = (k : Int) := by decide +kernel
  obtain ⟨j, h1, h2⟩ := this sig.toNat (by omega) (by rw [show ((sig.toNat : Nat) : Int) = sig by omega]; exact h)
  exact ⟨j, h1, by omega⟩
set_option maxRecDepth 100000 in
set_option maxHeartbeats 800000 in
theorem of_any (sig : Int) (w : World) : Calls Try.prog 76 #[.int .i64 sig] w fun e w' => e = .returned (.tuple #[.agg (rowV (rowL sig)).toArray, .bool (isL sig)]) ∧ Ext w w' := by
  have HS := Lib.hid fun k hk h hn => rowL_some (sig := sig) (k := k) hk h hn
  have HN := Lib.hid fun hn => rowL_none (sig := sig) hn
  have HI := Lib.hid fun j hj => rowAt_is j hj
  have HR := Lib.hid fun h => isL_row (sig := sig) h
  generalize hrl : rowL sig = rl at *
  generalize hil : isL sig = il at *
  have HIL := Lib.hid hil
  clear hrl hil
  go_enter Try.func76, Try.ntmps76
  go_wp2_with ((go_at_call 86; (with_reducible refine (rows_any _).mono ?_); rintro e w1 ⟨rfl, hB, E1⟩))
  simp only [World.size_alloc] at hB
  have hE0 : Ext (w.alloc (.cells #[.int .i64 0, .string ⟨#[]⟩, .int .i64 0, .bool false] 116)) w1 := E1
  have hZ := (Blk.new w 116 #[.int .i64 0, .string ⟨#[]⟩, .int .i64 0, .bool false]).ext hE0
  have hE1 : Ext w w1 := Ext.trans ((Ext.refl w).alloc _) hE0
  have HB := Lib.hid hB
  have HZ := Lib.hid hZ
  clear hB hZ E1 hE0
  go_loopw [8] (fun i wr => ∃ k : Nat, k ≤ 22 ∧ i = .int .i64 k ∧ Hid (∀ j : Nat, j < k → ¬ (rowAt j).1 = sig) ∧ Ext w1 wr) (fun i _ => 22 - (intOf i).toNat)
  case atStart => exact ⟨0, by omega, rfl, Lib.hid fun j hj => by omega, Ext.refl _⟩
  case round =>
    obtain ⟨k, hk, rfl, hj, hE⟩ := hrel
    have hZr := HZ.out.ext hE
    have z0 := hZr.cell 0
    have z1 := hZr.cell 1
    have z2 := hZr.cell 2
    have z3 := hZr.cell 3
    have y0 := hZr.frozen 0
    have y1 := hZr.frozen 1
    have y2 := hZr.frozen 2
    have y3 := hZr.frozen 3
    by_cases hlt : k < 22
    · have k1 : (k : Int) < 22 := by omega
      have k2 : (0 : Int) ≤ (k : Int) := by omega
      obtain ⟨r0, r1, r2, r3⟩ := rowsA_at k hlt
      have hBr := HB.out.ext hE
      have c0 := hBr.cell (k * 4)
      have c1 := hBr.cell (k * 4 + 1)
      have c2 := hBr.cell (k * 4 + 2)
      have c3 := hBr.cell (k * 4 + 3)
      rw [r0] at c0
      rw [r1] at c1
      rw [r2] at c2
      rw [r3] at c3
      have HJ := Lib.hid fun (h : ¬ (rowAt k).1 = sig) (j : Nat) (hjk : j < k + 1) => show ¬ (rowAt j).1 = sig by
        rcases Nat.lt_succ_iff_lt_or_eq.1 hjk with h1 | h1
        · exact hj.out j h1
        · rw [h1]; exact h
      have HSk := Lib.hid fun h => HS.out k hlt h hj.out
      have hik := HI.out k hlt
      have HIK := Lib.hid hik
      clear r0 r1 r2 r3 hik
      generalize hrow : rowAt k = row at *
      have HRW := Lib.hid hrow
      clear hrow
      obtain ⟨n, s, d, wi⟩ := row
      simp only at c0 c1 c2 c3 HSk HIK HJ
      by_cases hns : n = sig
      · have hrl := HSk.out hns
        have hil : true = il := by rw [← HIL.out, ← hns]; exact HIK.out.symm
        subst hns hil
        have HRL := Lib.hid hrl
        clear hrl HSk HJ HRW HIK HIL HS HN HI HR
        have z0 := fun o => (hZr.alloc o).cell 0
        have z1 := fun o => (hZr.alloc o).cell 1
        have z2 := fun o => (hZr.alloc o).cell 2
        have z3 := fun o => (hZr.alloc o).cell 3
        have y0 := fun o => (hZr.alloc o).frozen 0
        have y1 := fun o => (hZr.alloc o).frozen 1
        have y2 := fun o => (hZr.alloc o).frozen 2
        have y3 := fun o => (hZr.alloc o).frozen 3
        go_wp2
        refine bodyPost_ret_by (Go.Kb.results_cell_tmp Try.results76 _ _ w.heap.size 116 #[.int .i64 n, .string s, .int .i64 d, .bool wi] _ _ rfl (.bool true) rfl (((((hZr.alloc _).set_ 0 (.int .i64 n)).set_ 1 (.string s)).set_ 2 (.int .i64 d)).set_ 3 (.bool wi)) Try.underlying116 rfl (by kernel_rfl)) rfl ?_
        refine ⟨by rw [HRL.out]; rfl, ?_⟩
        refine Ext.setNew (Ext.setNew (Ext.setNew (Ext.setNew (Ext.trans hE1 (by repeat (first | with_reducible exact Ext.refl _ | refine Ext.drewN ?_ _ | refine Ext.drew ?_ | refine Ext.alloc ?_ _ | assumption | (refine Below.trans ?_ (by assumption)) | (refine Ext.trans ?_ (by assumption)) | (refine Below.trans ?_ (Below.mono (by assumption) (by omega)))))) ?_ _) ?_ _) ?_ _) ?_ _ <;> exact Nat.le_refl _
      · have hns' : (n == sig) = false := by simpa using hns
        go_wp2
        go_roundw
        case rel => exact ⟨k + 1, by omega, by simp, Lib.hid (HJ.out hns), (by repeat (first | with_reducible exact Ext.refl _ | refine Ext.drewN ?_ _ | refine Ext.drew ?_ | refine Ext.alloc ?_ _ | assumption | (refine Below.trans ?_ (by assumption)) | (refine Ext.trans ?_ (by assumption)) | (refine Below.trans ?_ (Below.mono (by assumption) (by omega)))))⟩
        case measure => first | (simp [intOf]; omega) | (show 22 - _ < _; simp [intOf]; omega)
    · obtain rfl : k = 22 := by omega
      have hrl := HN.out hj.out
      have hil : il = false := by
        cases hq : il
        · rfl
        · obtain ⟨j, h1, h2⟩ := HR.out hq
          exact absurd h2 (hj.out j h1)
      subst hrl hil
      clear HS HN HI HR HIL hj
      go_wp2
      refine bodyPost_ret_by (Go.Kb.results_cell_tmp Try.results76 _ _ w.heap.size 116 #[.int .i64 0, .string ⟨#[]⟩, .int .i64 0, .bool false] _ _ rfl (.bool false) rfl ((((hZr.set_ 0 (.int .i64 0)).set_ 1 (.string ⟨#[]⟩)).set_ 2 (.int .i64 0)).set_ 3 (.bool false)) Try.underlying116 rfl (by kernel_rfl)) rfl ?_
      refine ⟨rfl, ?_⟩
      refine Ext.setNew (Ext.setNew (Ext.setNew (Ext.setNew (Ext.trans hE1 (by repeat (first | with_reducible exact Ext.refl _ | refine Ext.drewN ?_ _ | refine Ext.drew ?_ | refine Ext.alloc ?_ _ | assumption | (refine Below.trans ?_ (by assumption)) | (refine Ext.trans ?_ (by assumption)) | (refine Below.trans ?_ (Below.mono (by assumption) (by omega)))))) ?_ _) ?_ _) ?_ _) ?_ _ <;> exact Nat.le_refl _
end Go.Proofs.Ytcncacllaonplaa.Sig
namespace Go.Proofs.Ytcncacllaonplaa.Sig
open Go.RowKit Go.Kb Go.Kb.Bits

theorem rowL_name (sig : Int) : (rowL sig).2.1 = if isL sig then nameB sig.toNat else ⟨#[]⟩ := by
  by_cases hs : isL sig = true
  · rw [if_pos hs]
    have hb := isL_bd hs
    have : ∀ k : Nat, k < 29 → isL (k : Int) = true → (rowL (k : Int)).2.1 = nameB k := by decide +kernel
    obtain ⟨k, rfl⟩ := Int.eq_ofNat_of_zero_le (show 0 ≤ sig by omega)
    exact this k (by omega) hs
  · rw [if_neg hs, rowL_none fun j hj h => hs (by rw [← h]; exact rowAt_is j hj)]
    rfl
set_option maxRecDepth 100000 in
set_option maxHeartbeats 800000 in
theorem rname_any (sig : Int) (w : World) : Calls Try.prog 81 #[.int .i64 sig] w fun e w' => e = .returned (.tuple #[.string (if isL sig then nameB sig.toNat else ⟨#[]⟩), .bool (isL sig)]) ∧ Ext w w' := by
  have hO := fun w' => of_any sig w'
  have hn := rowL_name sig
  generalize (if isL sig then nameB sig.toNat else ⟨#[]⟩) = s0 at *
  generalize rowL sig = rr at *
  obtain ⟨n, s, d, wi⟩ := rr
  simp only [rowV] at hO
  simp only at hn
  subst hn
  generalize isL sig = il at *
  have HO := Lib.hid hO
  clear hO
  go_enter Try.func81, Try.ntmps81
  go_wp2_with ((go_at_call 76; (with_reducible refine (HO.out _).mono ?_); rintro e w1 ⟨rfl, E1⟩))
  go_ret2
  exact ⟨rfl, (by repeat (first | with_reducible exact Ext.refl _ | refine Ext.drewN ?_ _ | refine Ext.drew ?_ | refine Ext.alloc ?_ _ | assumption | (refine Below.trans ?_ (by assumption)) | (refine Ext.trans ?_ (by assumption)) | (refine Below.trans ?_ (Below.mono (by assumption) (by omega)))))⟩
end Go.Proofs.Ytcncacllaonplaa.Sig
namespace Go.Proofs.Ytcncacllaonplaa.Sig
open Go.RowKit Go.Kb Go.Kb.Bits

abbrev U64 (s : Int) : Prop := 0 ≤ s ∧ s < 18446744073709551616
def bitL (sig : Int) : Int := if isL sig then pw sig else 0
def hasL (s sig : Int) : Bool := isL sig && onL s sig
def addL (s sig : Int) : Int := if isL sig then fset s sig true else s
def delL (s sig : Int) : Int := if isL sig then fset s sig false else s
theorem sig_bd {sig : Int} (h : isL sig = true) : 0 ≤ sig ∧ sig ≤ 63 := by have := isL_bd h; omega
theorem addL_bd {s : Int} (h : U64 s) (sig : Int) : U64 (addL s sig) := by
  unfold addL
  by_cases hs : isL sig = true
  · rw [if_pos hs]; exact fset_bd true h (sig_bd hs)
  · rw [if_neg hs]; exact h
theorem delL_bd {s : Int} (h : U64 s) (sig : Int) : U64 (delL s sig) := by
  unfold delL
  by_cases hs : isL sig = true
  · rw [if_pos hs]; exact fset_bd false h (sig_bd hs)
  · rw [if_neg hs]; exact h
theorem bit_zero {s : Int} (h : U64 s) : bits .and .u64 s 0 = 0 ∧ bits .or .u64 s 0 = s ∧ bits .andNot .u64 s 0 = s := by
  obtain ⟨h0, h1⟩ := h
  rw [u64_and s 0 h0 h1 (by omega) (by omega), u64_or s 0 h0 h1 (by omega) (by omega), u64_andNot s 0 h0 h1 (by omega) (by omega)]
  obtain ⟨X, rfl⟩ := Int.eq_ofNat_of_zero_le h0
  have hx : X < 2 ^ 64 := by omega
  have e := andNot_nat 64 X 0 hx (by decide)
  simp only [Nat.and_zero, Nat.add_zero, Nat.sub_zero] at e
  have e2 : (18446744073709551615 : Nat) = 2 ^ 64 - 1 := by decide
  refine ⟨by simp, by simp, ?_⟩
  simp only [Int.toNat_natCast, Int.toNat_zero, Nat.sub_zero]
  rw [e2, e]
theorem and_bit {s : Int} (h : U64 s) (sig : Int) : (!(bits .and .u64 s (bitL sig) == 0)) = hasL s sig := by
  unfold bitL hasL
  cases hs : isL sig
  · simp [(bit_zero h).1]
  · have hb := pw_bd (sig_bd hs)
    rw [if_pos rfl, and_pw h (sig_bd hs), Bool.true_and]
    cases onL s sig
    · rfl
    · have : (pw sig == 0) = false := by rw [beq_eq_false_iff_ne]; omega
      simp [this]
theorem or_bit {s : Int} (h : U64 s) (sig : Int) : bits .or .u64 s (bitL sig) = addL s sig := by
  unfold bitL addL
  cases hs : isL sig
  · simp [(bit_zero h).2.1]
  · rw [if_pos rfl, if_pos rfl, or_pw h (sig_bd hs)]; rfl
theorem andNot_bit {s : Int} (h : U64 s) (sig : Int) : bits .andNot .u64 s (bitL sig) = delL s sig := by
  unfold bitL delL
  cases hs : isL sig
  · simp [(bit_zero h).2.2]
  · rw [if_pos rfl, if_pos rfl, andNot_pw h (sig_bd hs)]; rfl
theorem bit_any (sig : Int) (w : World) : Calls Try.prog 42 #[.int .i64 sig] w fun e w' => e = .returned (.int .u64 (bitL sig)) ∧ Ext w w' := by
  have HI := Lib.hid fun w' => is_any sig w'
  unfold bitL
  cases hs : isL sig
  · rw [hs] at HI
    go_enter Try.func42, Try.ntmps42
    go_wp2_with ((go_at_call 64; (with_reducible refine (HI.out _).mono ?_); rintro e w1 ⟨rfl, E1⟩))
    go_ret
    exact ⟨rfl, (by repeat (first | with_reducible exact Ext.refl _ | refine Ext.drewN ?_ _ | refine Ext.drew ?_ | refine Ext.alloc ?_ _ | assumption | (refine Below.trans ?_ (by assumption)) | (refine Ext.trans ?_ (by assumption)) | (refine Below.trans ?_ (Below.mono (by assumption) (by omega)))))⟩
  · rw [hs] at HI
    obtain ⟨h1, h2⟩ := isL_bd hs
    have h4 : min sig.toNat 64 = sig.toNat := by omega
    have h5 : IntKind.u64.wrap (2 ^ sig.toNat) = pw sig := by
      have := pw_bd (sig_bd hs)
      unfold pw at *
      simp only [IntKind.wrap, IntKind.bits, IntKind.signed]
      simp
      omega
    go_enter Try.func42, Try.ntmps42
    go_wp2_with ((go_at_call 64; (with_reducible refine (HI.out _).mono ?_); rintro e w1 ⟨rfl, E1⟩))
    go_ret
    exact ⟨by simp, (by repeat (first | with_reducible exact Ext.refl _ | refine Ext.drewN ?_ _ | refine Ext.drew ?_ | refine Ext.alloc ?_ _ | assumption | (refine Below.trans ?_ (by assumption)) | (refine Ext.trans ?_ (by assumption)) | (refine Below.trans ?_ (Below.mono (by assumption) (by omega)))))⟩
set_option maxHeartbeats 800000 in
theorem has_any (s sig : Int) (w : World) (h : U64 s) : Calls Try.prog 15 #[.int .u64 s, .int .i64 sig] w fun e w' => e = .returned (.bool (hasL s sig)) ∧ Ext w w' := by
  have HB := Lib.hid fun w' => bit_any sig w'
  have hv := and_bit h sig
  generalize hr : hasL s sig = r at *
  generalize bitL sig = b at *
  clear hr h
  go_enter Try.func15, Try.ntmps15
  go_wp2_with ((go_at_call 42; (with_reducible refine (HB.out _).mono ?_); rintro e w1 ⟨rfl, E1⟩))
  go_ret
  refine ⟨?_, (by repeat (first | with_reducible exact Ext.refl _ | refine Ext.drewN ?_ _ | refine Ext.drew ?_ | refine Ext.alloc ?_ _ | assumption | (refine Below.trans ?_ (by assumption)) | (refine Ext.trans ?_ (by assumption)) | (refine Below.trans ?_ (Below.mono (by assumption) (by omega)))))⟩
  rw [← hv]
  rfl
set_option maxHeartbeats 800000 in
theorem add_any (s sig : Int) (w : World) (h : U64 s) : Calls Try.prog 63 #[.int .u64 s, .int .i64 sig] w fun e w' => e = .returned (.int .u64 (addL s sig)) ∧ Ext w w' := by
  have HB := Lib.hid fun w' => bit_any sig w'
  have hv := or_bit h sig
  generalize hr : addL s sig = r at *
  generalize bitL sig = b at *
  clear hr h
  go_enter Try.func63, Try.ntmps63
  go_wp2_with ((go_at_call 42; (with_reducible refine (HB.out _).mono ?_); rintro e w1 ⟨rfl, E1⟩))
  go_ret
  refine ⟨?_, (by repeat (first | with_reducible exact Ext.refl _ | refine Ext.drewN ?_ _ | refine Ext.drew ?_ | refine Ext.alloc ?_ _ | assumption | (refine Below.trans ?_ (by assumption)) | (refine Ext.trans ?_ (by assumption)) | (refine Below.trans ?_ (Below.mono (by assumption) (by omega)))))⟩
  rw [← hv]
  rfl
set_option maxHeartbeats 800000 in
theorem del_any (s sig : Int) (w : World) (h : U64 s) : Calls Try.prog 41 #[.int .u64 s, .int .i64 sig] w fun e w' => e = .returned (.int .u64 (delL s sig)) ∧ Ext w w' := by
  have HB := Lib.hid fun w' => bit_any sig w'
  have hv := andNot_bit h sig
  generalize hr : delL s sig = r at *
  generalize bitL sig = b at *
  clear hr h
  go_enter Try.func41, Try.ntmps41
  go_wp2_with ((go_at_call 42; (with_reducible refine (HB.out _).mono ?_); rintro e w1 ⟨rfl, E1⟩))
  go_ret
  refine ⟨?_, (by repeat (first | with_reducible exact Ext.refl _ | refine Ext.drewN ?_ _ | refine Ext.drew ?_ | refine Ext.alloc ?_ _ | assumption | (refine Below.trans ?_ (by assumption)) | (refine Ext.trans ?_ (by assumption)) | (refine Below.trans ?_ (Below.mono (by assumption) (by omega)))))⟩
  rw [← hv]
  rfl
end Go.Proofs.Ytcncacllaonplaa.Sig
