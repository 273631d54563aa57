/- Written by chain.py of A18@Sig C18[rowsT]@Sig D18[Row,row0,rowAt,rowL,rows_len,find_some,find_none]@Sig E18[sure_any,doesL,itself_any]@Sig F18@Sig. No condition. -/
import Derived.Test.YteljobleojhgmaaGreatE21
import Derived.Test.YteljobleojhgmaaGreatChecked
import Derived.Laws.ShiftsVarLaws
import Derived.Laws.Shifts
namespace Go.Proofs.YteljobleojhgmaaGreat.Sig
open Go.RowKit Go.Kb Go.Kb.Bits

def namesB : List ByteArray := [⟨#[]⟩, ⟨#[72, 85, 80]⟩, ⟨#[73, 78, 84]⟩, ⟨#[81, 85, 73, 84]⟩, ⟨#[73, 76, 76]⟩, ⟨#[84, 82, 65, 80]⟩, ⟨#[65, 66, 82, 84]⟩, ⟨#[66, 85, 83]⟩, ⟨#[70, 80, 69]⟩, ⟨#[75, 73, 76, 76]⟩, ⟨#[85, 83, 82, 49]⟩, ⟨#[83, 69, 71, 86]⟩, ⟨#[85, 83, 82, 50]⟩, ⟨#[80, 73, 80, 69]⟩, ⟨#[65, 76, 82, 77]⟩, ⟨#[84, 69, 82, 77]⟩, ⟨#[]⟩, ⟨#[67, 72, 76, 68]⟩, ⟨#[67, 79, 78, 84]⟩, ⟨#[83, 84, 79, 80]⟩, ⟨#[84, 83, 84, 80]⟩, ⟨#[84, 84, 73, 78]⟩, ⟨#[84, 84, 79, 85]⟩, ⟨#[]⟩, ⟨#[]⟩, ⟨#[]⟩, ⟨#[]⟩, ⟨#[]⟩, ⟨#[87, 73, 78, 67, 72]⟩]
def nameB (k : Nat) : ByteArray := namesB.getD k ⟨#[]⟩
def namesA : Array Value := (namesB.map Value.string).toArray
def isL (sig : Int) : Bool := decide ((1 ≤ sig ∧ sig ≤ 15) ∨ (17 ≤ sig ∧ sig ≤ 22) ∨ sig = 28)
theorem isL_bd {sig : Int} (h : isL sig = true) : 1 ≤ sig ∧ sig ≤ 28 := by
  simp [isL] at h; omega
set_option maxRecDepth 100000 in
theorem index_names (k : Nat) (hk : k < 29) : ∀ w, (Instr.index 114 (.agg namesA) (.int .i64 (k : Int))).run Tryz.prog w = .ok (.string (nameB k)) w := by
  rcases k with _ | _ | _ | _ | _ | _ | _ | _ | _ | _ | _ | _ | _ | _ | _ | _ | _ | _ | _ | _ | _ | _ | _ | _ | _ | _ | _ | _ | _ | k
  all_goals first | exact fun w => by kernel_rfl | omega
theorem name_is (k : Nat) (hk : k < 29) : (nameB k).toList.isEmpty = !isL (k : Int) := by
  have : ∀ k : Nat, k < 29 → (nameB k).toList.isEmpty = !isL (k : Int) := by decide +kernel
  exact this k hk
theorem names_info : (Tryz.prog.info? 114).map (·.size) = some namesA.size := by kernel_rfl
theorem names_one : namesA.all (·.oneCell') = true := by kernel_rfl
theorem names_size : namesA.size = 29 := by kernel_rfl
set_option maxHeartbeats 800000 in
theorem names_any (w : World) : Calls Tryz.prog 69 #[] w fun e w' => e = .returned (.agg namesA) ∧ Ext w w' := by
  have hi := names_info
  have h1 := names_one
  have hz := names_size
  go_enter Tryz.func69, Tryz.ntmps69
  go_wp2_with (first
    | (refine wpList_build_eq rfl 114 _ rfl (L := namesA) (by kernel_rfl) ?_)
    | (refine wpList_store_A rfl 114 _ _ rfl w.heap.size _ rfl rfl 114 _ (Blk.at_ _ _ rfl) hi (by rw [hz]; rfl) h1 ?_; intro w2 H2 E2; have E2 : Ext w w2 := E2 w.heap.size w (by repeat (first | with_reducible exact Ext.refl _ | refine Ext.drewN ?_ _ | refine Ext.drew ?_ | refine Ext.alloc ?_ _ | assumption | (refine Below.trans ?_ (by assumption)) | (refine Ext.trans ?_ (by assumption)) | (refine Below.trans ?_ (Below.mono (by assumption) (by omega))))) (Nat.le_refl _)))
  refine bodyPost_ret_by (results_cell_row Tryz.results69 _ _ w.heap.size 114 _ _ _ rfl H2 Tryz.underlying114 rfl hi) rfl ?_
  exact ⟨rfl, E2⟩
set_option maxHeartbeats 800000 in
theorem is_any (sig : Int) (w : World) : Calls Tryz.prog 68 #[.int .i64 sig] w fun e w' => e = .returned (.bool (isL sig)) ∧ Ext w w' := by
  by_cases h0 : 0 < sig
  · by_cases h28 : sig ≤ 28
    · obtain ⟨k, rfl⟩ := Int.eq_ofNat_of_zero_le (show 0 ≤ sig by omega)
      have hix := index_names k (by omega)
      have hnm := name_is k (by omega)
      generalize isL (k : Int) = r at *
      generalize nameB k = b at *
      go_enter Tryz.func68, Tryz.ntmps68
      have hN := fun w' => names_any w'
      generalize namesA = A at *
      go_wp2_with ((go_at_call 69; (with_reducible refine (hN _).mono ?_); rintro e w1 ⟨rfl, E1⟩))
      go_ret
      exact ⟨by simp, E1⟩
    · have hr : isL sig = false := by simp [isL]; omega
      rw [hr]
      go_enter Tryz.func68, Tryz.ntmps68
      go_wp2
      go_ret
      exact ⟨rfl, (by repeat (first | with_reducible exact Ext.refl _ | refine Ext.drewN ?_ _ | refine Ext.drew ?_ | refine Ext.alloc ?_ _ | assumption | (refine Below.trans ?_ (by assumption)) | (refine Ext.trans ?_ (by assumption)) | (refine Below.trans ?_ (Below.mono (by assumption) (by omega)))))⟩
  · have hr : isL sig = false := by simp [isL]; omega
    rw [hr]
    go_enter Tryz.func68, Tryz.ntmps68
    go_wp2
    go_ret
    exact ⟨rfl, (by repeat (first | with_reducible exact Ext.refl _ | refine Ext.drewN ?_ _ | refine Ext.drew ?_ | refine Ext.alloc ?_ _ | assumption | (refine Below.trans ?_ (by assumption)) | (refine Ext.trans ?_ (by assumption)) | (refine Below.trans ?_ (Below.mono (by assumption) (by omega)))))⟩
set_option maxHeartbeats 800000 in
theorem name_any (sig : Int) (w : World) : Calls Tryz.prog 39 #[.int .i64 sig] w fun e w' => e = .returned (.tuple #[.string (if isL sig then nameB sig.toNat else ⟨#[]⟩), .bool (isL sig)]) ∧ Ext w w' := by
  have hI := Lib.hid fun w' => is_any sig w'
  cases hs : isL sig
  · rw [hs] at hI
    go_enter Tryz.func39, Tryz.ntmps39
    go_wp2_with ((go_at_call 68; (with_reducible refine (hI.out _).mono ?_); rintro e w1 ⟨rfl, E1⟩))
    go_ret2
    exact ⟨rfl, E1⟩
  · rw [hs] at hI
    have hb := isL_bd hs
    obtain ⟨k, rfl⟩ := Int.eq_ofNat_of_zero_le (show 0 ≤ sig by omega)
    have hix := index_names k (by omega)
    simp only [Int.toNat_natCast]
    generalize nameB k = b at *
    have hN := fun w' => names_any w'
    generalize namesA = A at *
    go_enter Tryz.func39, Tryz.ntmps39
    go_wp2_with (first | ((go_at_call 68; (with_reducible refine (hI.out _).mono ?_); rintro e w1 ⟨rfl, E1⟩)) | ((go_at_call 69; (with_reducible refine (hN _).mono ?_); rintro e w2 ⟨rfl, E2⟩)))
    go_ret2
    exact ⟨rfl, (by repeat (first | with_reducible exact Ext.refl _ | refine Ext.drewN ?_ _ | refine Ext.drew ?_ | refine Ext.alloc ?_ _ | assumption | (refine Below.trans ?_ (by assumption)) | (refine Ext.trans ?_ (by assumption)) | (refine Below.trans ?_ (Below.mono (by assumption) (by omega)))))⟩
end Go.Proofs.YteljobleojhgmaaGreat.Sig
namespace Go.Proofs.YteljobleojhgmaaGreat.Sig
open Go.RowKit Go.Kb Go.Kb.Bits

/-- the document's rows: number, name, what it does, whether a client may name it -/
def rowsT : List (Int × ByteArray × Int × Bool) := [(1, ⟨#[72, 85, 80]⟩, 1, true), (2, ⟨#[73, 78, 84]⟩, 1, true), (3, ⟨#[81, 85, 73, 84]⟩, 2, true), (4, ⟨#[73, 76, 76]⟩, 2, true), (5, ⟨#[84, 82, 65, 80]⟩, 2, false), (6, ⟨#[65, 66, 82, 84]⟩, 2, true), (7, ⟨#[66, 85, 83]⟩, 2, false), (8, ⟨#[70, 80, 69]⟩, 2, true), (9, ⟨#[75, 73, 76, 76]⟩, 1, true), (10, ⟨#[85, 83, 82, 49]⟩, 1, true), (11, ⟨#[83, 69, 71, 86]⟩, 2, true), (12, ⟨#[85, 83, 82, 50]⟩, 1, true), (13, ⟨#[80, 73, 80, 69]⟩, 1, true), (14, ⟨#[65, 76, 82, 77]⟩, 1, true), (15, ⟨#[84, 69, 82, 77]⟩, 1, true), (17, ⟨#[67, 72, 76, 68]⟩, 3, false), (18, ⟨#[67, 79, 78, 84]⟩, 5, false), (19, ⟨#[83, 84, 79, 80]⟩, 4, false), (20, ⟨#[84, 83, 84, 80]⟩, 4, false), (21, ⟨#[84, 84, 73, 78]⟩, 4, false), (22, ⟨#[84, 84, 79, 85]⟩, 4, false), (28, ⟨#[87, 73, 78, 67, 72]⟩, 3, false)]
end Go.Proofs.YteljobleojhgmaaGreat.Sig
namespace Go.Proofs.YteljobleojhgmaaGreat.Sig
open Go.RowKit Go.Kb Go.Kb.Bits

abbrev Row := Int × ByteArray × Int × Bool
def row0 : Row := (0, ⟨#[]⟩, 0, false)
def rowAt (k : Nat) : Row := rowsT.getD k row0
def rowL (sig : Int) : Row := (rowsT.find? fun r => r.1 == sig).getD row0
theorem rows_len : rowsT.length = 22 := rfl
theorem find_some {p : Row → Bool} {k : Nat} (hk : k < 22) (h : p (rowAt k) = true) (hn : ∀ j : Nat, j < k → p (rowAt j) = false) : rowsT.find? p = some (rowAt k) := by
  rw [List.find?_eq_some_iff_getElem]
  have e : ∀ j : Nat, j < 22 → ∀ h : j < rowsT.length, rowsT[j] = rowAt j := fun j hj h => by unfold rowAt; simp [h]
  exact ⟨h, k, hk, e k hk hk, fun j hj => by rw [e j (by omega) (by rw [rows_len]; omega), hn j hj]; rfl⟩
theorem find_none {p : Row → Bool} (hn : ∀ j : Nat, j < 22 → p (rowAt j) = false) : rowsT.find? p = none := by
  rw [List.find?_eq_none]
  intro r hr
  obtain ⟨j, hj, rfl⟩ := List.getElem_of_mem hr
  have := hn j hj
  unfold rowAt at this
  simp only [List.getD_eq_getElem?_getD, List.getElem?_eq_getElem hj, Option.getD_some] at this
  rw [this]
  decide
end Go.Proofs.YteljobleojhgmaaGreat.Sig
namespace Go.Proofs.YteljobleojhgmaaGreat.Sig
open Go.RowKit Go.Kb Go.Kb.Bits

set_option maxHeartbeats 800000 in
theorem sure_any (sig : Int) (w : World) : Calls Tryz.prog 84 #[.int .i64 sig] w fun e w' => e = .returned (.bool (sig == 9 || sig == 19)) ∧ Ext w w' := by
  have hs : (sig == 9 || sig == 19) = (decide (sig = 9) || decide (sig = 19)) := by rw [Bool.eq_iff_iff]; simp
  rw [hs]
  by_cases h9 : sig = 9
  · subst h9
    go_enter Tryz.func84, Tryz.ntmps84
    go_wp2
    go_ret
    exact ⟨rfl, (by repeat (first | with_reducible exact Ext.refl _ | refine Ext.drewN ?_ _ | refine Ext.drew ?_ | refine Ext.alloc ?_ _ | assumption | (refine Below.trans ?_ (by assumption)) | (refine Ext.trans ?_ (by assumption)) | (refine Below.trans ?_ (Below.mono (by assumption) (by omega)))))⟩
  · by_cases h19 : sig = 19
    · subst h19
      go_enter Tryz.func84, Tryz.ntmps84
      go_wp2
      go_ret
      exact ⟨rfl, (by repeat (first | with_reducible exact Ext.refl _ | refine Ext.drewN ?_ _ | refine Ext.drew ?_ | refine Ext.alloc ?_ _ | assumption | (refine Below.trans ?_ (by assumption)) | (refine Ext.trans ?_ (by assumption)) | (refine Below.trans ?_ (Below.mono (by assumption) (by omega)))))⟩
    · rw [decide_eq_false h9, decide_eq_false h19]
      have b9 : (sig == 9) = false := by simpa using h9
      have b19 : (sig == 19) = false := by simpa using h19
      clear h9 h19 hs
      go_enter Tryz.func84, Tryz.ntmps84
      go_wp2
      go_ret
      exact ⟨rfl, (by repeat (first | with_reducible exact Ext.refl _ | refine Ext.drewN ?_ _ | refine Ext.drew ?_ | refine Ext.alloc ?_ _ | assumption | (refine Below.trans ?_ (by assumption)) | (refine Ext.trans ?_ (by assumption)) | (refine Below.trans ?_ (Below.mono (by assumption) (by omega)))))⟩
def doesL (sig : Int) : Int := (rowL sig).2.2.1
set_option maxRecDepth 100000 in
set_option maxHeartbeats 3000000 in
theorem itself_any (sig : Int) (w : World) (h : isL sig = true) : Calls Tryz.prog 85 #[.int .i64 sig] w fun e w' => e = .returned (.int .i64 (doesL sig)) ∧ Ext w w' := by
  have hb := isL_bd h
  obtain ⟨k, rfl⟩ := Int.eq_ofNat_of_zero_le (show 0 ≤ sig by omega)
  have hk : k < 29 := by omega
  have hd : ∃ d, doesL (k : Int) = d := ⟨_, rfl⟩
  obtain ⟨d, hd⟩ := hd
  rw [hd]
  rcases k with _ | _ | _ | _ | _ | _ | _ | _ | _ | _ | _ | _ | _ | _ | _ | _ | _ | _ | _ | _ | _ | _ | _ | _ | _ | _ | _ | _ | _ | k
  all_goals first
    | (exfalso; simp [isL] at h; done)
    | omega
    | (rw [← hd]
       clear hd h hb hk
       go_enter Tryz.func85, Tryz.ntmps85
       go_wp2
       go_ret
       exact ⟨rfl, (by repeat (first | with_reducible exact Ext.refl _ | refine Ext.drewN ?_ _ | refine Ext.drew ?_ | refine Ext.alloc ?_ _ | assumption | (refine Below.trans ?_ (by assumption)) | (refine Ext.trans ?_ (by assumption)) | (refine Below.trans ?_ (Below.mono (by assumption) (by omega)))))⟩)
end Go.Proofs.YteljobleojhgmaaGreat.Sig
namespace Go.Proofs.YteljobleojhgmaaGreat.Sig
open Go.RowKit Go.Kb Go.Kb.Bits

abbrev U64 (s : Int) : Prop := 0 ≤ s ∧ s < 18446744073709551616
def bitL (sig : Int) : Int := if isL sig then pw sig else 0
def hasL (s sig : Int) : Bool := isL sig && onL s sig
def addL (s sig : Int) : Int := if isL sig then fset s sig true else s
def delL (s sig : Int) : Int := if isL sig then fset s sig false else s
theorem sig_bd {sig : Int} (h : isL sig = true) : 0 ≤ sig ∧ sig ≤ 63 := by have := isL_bd h; omega
theorem addL_bd {s : Int} (h : U64 s) (sig : Int) : U64 (addL s sig) := by
  unfold addL
  by_cases hs : isL sig = true
  · rw [if_pos hs]; exact fset_bd true h (sig_bd hs)
  · rw [if_neg hs]; exact h
theorem delL_bd {s : Int} (h : U64 s) (sig : Int) : U64 (delL s sig) := by
  unfold delL
  by_cases hs : isL sig = true
  · rw [if_pos hs]; exact fset_bd false h (sig_bd hs)
  · rw [if_neg hs]; exact h
theorem bit_zero {s : Int} (h : U64 s) : bits .and .u64 s 0 = 0 ∧ bits .or .u64 s 0 = s ∧ bits .andNot .u64 s 0 = s := by
  obtain ⟨h0, h1⟩ := h
  rw [u64_and s 0 h0 h1 (by omega) (by omega), u64_or s 0 h0 h1 (by omega) (by omega), u64_andNot s 0 h0 h1 (by omega) (by omega)]
  obtain ⟨X, rfl⟩ := Int.eq_ofNat_of_zero_le h0
  have hx : X < 2 ^ 64 := by omega
  have e := andNot_nat 64 X 0 hx (by decide)
  simp only [Nat.and_zero, Nat.add_zero, Nat.sub_zero] at e
  have e2 : (18446744073709551615 : Nat) = 2 ^ 64 - 1 := by decide
  refine ⟨by simp, by simp, ?_⟩
  simp only [Int.toNat_natCast, Int.toNat_zero, Nat.sub_zero]
  rw [e2, e]
theorem and_bit {s : Int} (h : U64 s) (sig : Int) : (!(bits .and .u64 s (bitL sig) == 0)) = hasL s sig := by
  unfold bitL hasL
  cases hs : isL sig
  · simp [(bit_zero h).1]
  · have hb := pw_bd (sig_bd hs)
    rw [if_pos rfl, and_pw h (sig_bd hs), Bool.true_and]
    cases onL s sig
    · rfl
    · have : (pw sig == 0) = false := by rw [beq_eq_false_iff_ne]; omega
      simp [this]
theorem or_bit {s : Int} (h : U64 s) (sig : Int) : bits .or .u64 s (bitL sig) = addL s sig := by
  unfold bitL addL
  cases hs : isL sig
  · simp [(bit_zero h).2.1]
  · rw [if_pos rfl, if_pos rfl, or_pw h (sig_bd hs)]; rfl
theorem andNot_bit {s : Int} (h : U64 s) (sig : Int) : bits .andNot .u64 s (bitL sig) = delL s sig := by
  unfold bitL delL
  cases hs : isL sig
  · simp [(bit_zero h).2.2]
  · rw [if_pos rfl, if_pos rfl, andNot_pw h (sig_bd hs)]; rfl
theorem bit_any (sig : Int) (w : World) : Calls Tryz.prog 53 #[.int .i64 sig] w fun e w' => e = .returned (.int .u64 (bitL sig)) ∧ Ext w w' := by
  have HI := Lib.hid fun w' => is_any sig w'
  unfold bitL
  cases hs : isL sig
  · rw [hs] at HI
    go_enter Tryz.func53, Tryz.ntmps53
    go_wp2_with ((go_at_call 68; (with_reducible refine (HI.out _).mono ?_); rintro e w1 ⟨rfl, E1⟩))
    go_ret
    exact ⟨rfl, (by repeat (first | with_reducible exact Ext.refl _ | refine Ext.drewN ?_ _ | refine Ext.drew ?_ | refine Ext.alloc ?_ _ | assumption | (refine Below.trans ?_ (by assumption)) | (refine Ext.trans ?_ (by assumption)) | (refine Below.trans ?_ (Below.mono (by assumption) (by omega)))))⟩
  · rw [hs] at HI
    obtain ⟨h1, h2⟩ := isL_bd hs
    have h4 : min sig.toNat 64 = sig.toNat := by omega
    have h5 : IntKind.u64.wrap (2 ^ sig.toNat) = pw sig := by
      have := pw_bd (sig_bd hs)
      unfold pw at *
      simp only [IntKind.wrap, IntKind.bits, IntKind.signed]
      simp
      omega
    go_enter Tryz.func53, Tryz.ntmps53
    go_wp2_with ((go_at_call 68; (with_reducible refine (HI.out _).mono ?_); rintro e w1 ⟨rfl, E1⟩))
    go_ret
    exact ⟨by simp, (by repeat (first | with_reducible exact Ext.refl _ | refine Ext.drewN ?_ _ | refine Ext.drew ?_ | refine Ext.alloc ?_ _ | assumption | (refine Below.trans ?_ (by assumption)) | (refine Ext.trans ?_ (by assumption)) | (refine Below.trans ?_ (Below.mono (by assumption) (by omega)))))⟩
set_option maxHeartbeats 800000 in
theorem has_any (s sig : Int) (w : World) (h : U64 s) : Calls Tryz.prog 21 #[.int .u64 s, .int .i64 sig] w fun e w' => e = .returned (.bool (hasL s sig)) ∧ Ext w w' := by
  have HB := Lib.hid fun w' => bit_any sig w'
  have hv := and_bit h sig
  generalize hr : hasL s sig = r at *
  generalize bitL sig = b at *
  clear hr h
  go_enter Tryz.func21, Tryz.ntmps21
  go_wp2_with ((go_at_call 53; (with_reducible refine (HB.out _).mono ?_); rintro e w1 ⟨rfl, E1⟩))
  go_ret
  refine ⟨?_, (by repeat (first | with_reducible exact Ext.refl _ | refine Ext.drewN ?_ _ | refine Ext.drew ?_ | refine Ext.alloc ?_ _ | assumption | (refine Below.trans ?_ (by assumption)) | (refine Ext.trans ?_ (by assumption)) | (refine Below.trans ?_ (Below.mono (by assumption) (by omega)))))⟩
  rw [← hv]
  rfl
set_option maxHeartbeats 800000 in
theorem add_any (s sig : Int) (w : World) (h : U64 s) : Calls Tryz.prog 52 #[.int .u64 s, .int .i64 sig] w fun e w' => e = .returned (.int .u64 (addL s sig)) ∧ Ext w w' := by
  have HB := Lib.hid fun w' => bit_any sig w'
  have hv := or_bit h sig
  generalize hr : addL s sig = r at *
  generalize bitL sig = b at *
  clear hr h
  go_enter Tryz.func52, Tryz.ntmps52
  go_wp2_with ((go_at_call 53; (with_reducible refine (HB.out _).mono ?_); rintro e w1 ⟨rfl, E1⟩))
  go_ret
  refine ⟨?_, (by repeat (first | with_reducible exact Ext.refl _ | refine Ext.drewN ?_ _ | refine Ext.drew ?_ | refine Ext.alloc ?_ _ | assumption | (refine Below.trans ?_ (by assumption)) | (refine Ext.trans ?_ (by assumption)) | (refine Below.trans ?_ (Below.mono (by assumption) (by omega)))))⟩
  rw [← hv]
  rfl
set_option maxHeartbeats 800000 in
theorem del_any (s sig : Int) (w : World) (h : U64 s) : Calls Tryz.prog 54 #[.int .u64 s, .int .i64 sig] w fun e w' => e = .returned (.int .u64 (delL s sig)) ∧ Ext w w' := by
  have HB := Lib.hid fun w' => bit_any sig w'
  have hv := andNot_bit h sig
  generalize hr : delL s sig = r at *
  generalize bitL sig = b at *
  clear hr h
  go_enter Tryz.func54, Tryz.ntmps54
  go_wp2_with ((go_at_call 53; (with_reducible refine (HB.out _).mono ?_); rintro e w1 ⟨rfl, E1⟩))
  go_ret
  refine ⟨?_, (by repeat (first | with_reducible exact Ext.refl _ | refine Ext.drewN ?_ _ | refine Ext.drew ?_ | refine Ext.alloc ?_ _ | assumption | (refine Below.trans ?_ (by assumption)) | (refine Ext.trans ?_ (by assumption)) | (refine Below.trans ?_ (Below.mono (by assumption) (by omega)))))⟩
  rw [← hv]
  rfl
end Go.Proofs.YteljobleojhgmaaGreat.Sig
