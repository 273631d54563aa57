/- Written by chain.py of G18[pw_succ,rbit_any,rhas_any]@Sig H18[-ints_same,-sliceq]@Sig I18@Sig J18[rof_any,blockL,blockL_bd,block_any,rblock_any]@Sig. No condition. -/
import Derived.Test.YtcncacllaonplaaF22
import Derived.Deep.QuietTactic
namespace Go.Proofs.Ytcncacllaonplaa.Sig
open Go.RowKit Go.Kb Go.Kb.Bits

theorem pw_succ {op : Int} (h : 0 ≤ op) : pw (op + 1) = 2 * pw op := by
  unfold pw
  rw [show (op + 1).toNat = op.toNat + 1 by omega, Int.pow_succ, Int.mul_comm]
set_option maxHeartbeats 800000 in
theorem rbit_any (op : Int) (w : World) (h : isL op = true) : Calls Try.prog 77 #[.int .i64 op] w fun e w' => e = .returned (.int .u64 (pw op)) ∧ Ext w w' := by
  obtain ⟨h1, h2⟩ := isL_bd h
  clear h
  go_enter Try.func77, Try.ntmps77
  go_wp2
  go_loopw [3, 4] (fun n i wr => ∃ k : Int, 0 ≤ k ∧ k ≤ op ∧ i = .int .i64 k ∧ n = .int .u64 (pw k) ∧ Ext w wr) (fun _ i _ => (op - intOf i).toNat)
  case atStart => exact ⟨0, by omega, by omega, rfl, rfl, (by repeat (first | with_reducible exact Ext.refl _ | refine Ext.drewN ?_ _ | refine Ext.drew ?_ | refine Ext.alloc ?_ _ | assumption | (refine Below.trans ?_ (by assumption)) | (refine Ext.trans ?_ (by assumption)) | (refine Below.trans ?_ (Below.mono (by assumption) (by omega)))))⟩
  case round =>
    obtain ⟨k, hk0, hk, rfl, rfl, hE⟩ := hrel
    have h3 : IntKind.i64.wrap (k + 1) = k + 1 := IntWalk.i64_in _ (by omega)
    by_cases hlt : k < op
    · have h4 := pw_succ hk0
      have h5 := pw_bd (op := k + 1) (by omega)
      have h6 : IntKind.u64.wrap (2 * pw k) = pw (k + 1) := by
        rw [← h4, IntKind.wrap_u64]
        omega
      clear h4 h5
      go_wp2
      go_roundw
      case rel => exact ⟨k + 1, by omega, by omega, by simp, by simp, (by repeat (first | with_reducible exact Ext.refl _ | refine Ext.drewN ?_ _ | refine Ext.drew ?_ | refine Ext.alloc ?_ _ | assumption | (refine Below.trans ?_ (by assumption)) | (refine Ext.trans ?_ (by assumption)) | (refine Below.trans ?_ (Below.mono (by assumption) (by omega)))))⟩
      case measure => simp [intOf]; omega
    · obtain rfl : k = op := by omega
      go_wp2
      go_ret
      exact ⟨rfl, (by repeat (first | with_reducible exact Ext.refl _ | refine Ext.drewN ?_ _ | refine Ext.drew ?_ | refine Ext.alloc ?_ _ | assumption | (refine Below.trans ?_ (by assumption)) | (refine Ext.trans ?_ (by assumption)) | (refine Below.trans ?_ (Below.mono (by assumption) (by omega)))))⟩
set_option maxHeartbeats 800000 in
theorem rhas_any (s sig : Int) (w : World) (h : U64 s) : Calls Try.prog 67 #[.int .u64 s, .int .i64 sig] w fun e w' => e = .returned (.bool (hasL s sig)) ∧ Ext w w' := by
  have hO := fun w' => of_any sig w'
  generalize rowL sig = rr at *
  obtain ⟨n, nm, d, wi⟩ := rr
  simp only [rowV] at hO
  unfold hasL
  cases hs : isL sig
  · rw [hs] at hO
    have HO := Lib.hid hO
    clear hO
    go_enter Try.func67, Try.ntmps67
    go_wp2_with ((go_at_call 76; (with_reducible refine (HO.out _).mono ?_); rintro e w1 ⟨rfl, E1⟩))
    go_ret
    exact ⟨rfl, (by repeat (first | with_reducible exact Ext.refl _ | refine Ext.drewN ?_ _ | refine Ext.drew ?_ | refine Ext.alloc ?_ _ | assumption | (refine Below.trans ?_ (by assumption)) | (refine Ext.trans ?_ (by assumption)) | (refine Below.trans ?_ (Below.mono (by assumption) (by omega)))))⟩
  · rw [hs] at hO
    have HO := Lib.hid hO
    have HB := Lib.hid fun w' => rbit_any sig w' hs
    have hd := div_pw h (sig_bd hs)
    have hp := pw_bd (sig_bd hs)
    have hne : ¬ pw sig = 0 := by omega
    have hon : onL s sig = (s / pw sig % 2 == 1) := by unfold onL; rw [Bool.eq_iff_iff]; simp
    rw [hon]
    obtain ⟨d1, d2, d3, d4⟩ := hd
    clear hO hon hs
    obtain ⟨h0, h1⟩ := h
    obtain ⟨p0, p1⟩ := hp
    go_enter Try.func67, Try.ntmps67
    go_wp2_with (first | ((go_at_call 76; (with_reducible refine (HO.out _).mono ?_); rintro e w1 ⟨rfl, E1⟩)) | ((go_at_call 77; (with_reducible refine (HB.out _).mono ?_); rintro e w2 ⟨rfl, E2⟩)))
    go_ret
    refine ⟨?_, (by repeat (first | with_reducible exact Ext.refl _ | refine Ext.drewN ?_ _ | refine Ext.drew ?_ | refine Ext.alloc ?_ _ | assumption | (refine Below.trans ?_ (by assumption)) | (refine Ext.trans ?_ (by assumption)) | (refine Below.trans ?_ (Below.mono (by assumption) (by omega)))))⟩
    trace_state
    simp
end Go.Proofs.Ytcncacllaonplaa.Sig
namespace Go.Proofs.Ytcncacllaonplaa.Sig
open Go.RowKit Go.Kb Go.Kb.Bits

set_option maxHeartbeats 800000 in
theorem radd_any (s sig : Int) (w : World) (h : U64 s) : Calls Try.prog 87 #[.int .u64 s, .int .i64 sig] w fun e w' => e = .returned (.int .u64 (addL s sig)) ∧ Ext w w' := by
  have hO := fun w' => of_any sig w'
  have HH := Lib.hid fun w' => rhas_any s sig w' h
  have hb := addL_bd h sig
  generalize rowL sig = rr at *
  obtain ⟨n, nm, d, wi⟩ := rr
  simp only [rowV] at hO
  cases hs : isL sig
  · have ha : addL s sig = s := by unfold addL; rw [hs]; rfl
    rw [ha]
    rw [hs] at hO
    have HO := Lib.hid hO
    clear hO ha hb hs
    go_enter Try.func87, Try.ntmps87
    go_wp2_with ((go_at_call 76; (with_reducible refine (HO.out _).mono ?_); rintro e w1 ⟨rfl, E1⟩))
    go_ret
    exact ⟨rfl, (by repeat (first | with_reducible exact Ext.refl _ | refine Ext.drewN ?_ _ | refine Ext.drew ?_ | refine Ext.alloc ?_ _ | assumption | (refine Below.trans ?_ (by assumption)) | (refine Ext.trans ?_ (by assumption)) | (refine Below.trans ?_ (Below.mono (by assumption) (by omega)))))⟩
  · rw [hs] at hO
    have HO := Lib.hid hO
    have HB := Lib.hid fun w' => rbit_any sig w' hs
    have hh : hasL s sig = onL s sig := by unfold hasL; rw [hs]; rfl
    rw [hh] at HH
    have ha : addL s sig = if onL s sig then s else s + pw sig := by unfold addL; rw [hs]; rfl
    rw [ha] at hb ⊢
    generalize onL s sig = on at *
    clear hO hh hs ha
    cases on
    · have hw : IntKind.u64.wrap (s + pw sig) = s + pw sig := by rw [IntKind.wrap_u64]; simp at hb; omega
      clear hb
      go_enter Try.func87, Try.ntmps87
      go_wp2_with (first | ((go_at_call 76; (with_reducible refine (HO.out _).mono ?_); rintro e w1 ⟨rfl, E1⟩)) | ((go_at_call 67; (with_reducible refine (HH.out _).mono ?_); rintro e w2 ⟨rfl, E2⟩)) | ((go_at_call 77; (with_reducible refine (HB.out _).mono ?_); rintro e w3 ⟨rfl, E3⟩)))
      go_ret
      exact ⟨by simp, (by repeat (first | with_reducible exact Ext.refl _ | refine Ext.drewN ?_ _ | refine Ext.drew ?_ | refine Ext.alloc ?_ _ | assumption | (refine Below.trans ?_ (by assumption)) | (refine Ext.trans ?_ (by assumption)) | (refine Below.trans ?_ (Below.mono (by assumption) (by omega)))))⟩
    · clear hb
      go_enter Try.func87, Try.ntmps87
      go_wp2_with (first | ((go_at_call 76; (with_reducible refine (HO.out _).mono ?_); rintro e w1 ⟨rfl, E1⟩)) | ((go_at_call 67; (with_reducible refine (HH.out _).mono ?_); rintro e w2 ⟨rfl, E2⟩)))
      go_ret
      exact ⟨by simp, (by repeat (first | with_reducible exact Ext.refl _ | refine Ext.drewN ?_ _ | refine Ext.drew ?_ | refine Ext.alloc ?_ _ | assumption | (refine Below.trans ?_ (by assumption)) | (refine Ext.trans ?_ (by assumption)) | (refine Below.trans ?_ (Below.mono (by assumption) (by omega)))))⟩
set_option maxHeartbeats 800000 in
theorem rdel_any (s sig : Int) (w : World) (h : U64 s) : Calls Try.prog 78 #[.int .u64 s, .int .i64 sig] w fun e w' => e = .returned (.int .u64 (delL s sig)) ∧ Ext w w' := by
  have HH := Lib.hid fun w' => rhas_any s sig w' h
  have hb := delL_bd h sig
  cases hs : hasL s sig
  · have ha : delL s sig = s := by
      unfold delL
      by_cases hi : isL sig = true
      · rw [if_pos hi]
        refine fset_own ?_
        unfold hasL at hs
        rw [hi, Bool.true_and] at hs
        exact hs
      · rw [if_neg hi]
    rw [ha]
    rw [hs] at HH
    clear ha hb hs
    go_enter Try.func78, Try.ntmps78
    go_wp2_with ((go_at_call 67; (with_reducible refine (HH.out _).mono ?_); rintro e w2 ⟨rfl, E2⟩))
    go_ret
    exact ⟨rfl, (by repeat (first | with_reducible exact Ext.refl _ | refine Ext.drewN ?_ _ | refine Ext.drew ?_ | refine Ext.alloc ?_ _ | assumption | (refine Below.trans ?_ (by assumption)) | (refine Ext.trans ?_ (by assumption)) | (refine Below.trans ?_ (Below.mono (by assumption) (by omega)))))⟩
  · rw [hs] at HH
    have hi : isL sig = true := by unfold hasL at hs; simp at hs; exact hs.1
    have ho : onL s sig = true := by unfold hasL at hs; simp at hs; exact hs.2
    have HB := Lib.hid fun w' => rbit_any sig w' hi
    have ha : delL s sig = s - pw sig := by unfold delL fset; rw [hi, ho]; rfl
    rw [ha] at hb ⊢
    have hw : IntKind.u64.wrap (s - pw sig) = s - pw sig := by rw [IntKind.wrap_u64]; omega
    clear hb hs hi ho ha
    go_enter Try.func78, Try.ntmps78
    go_wp2_with (first | ((go_at_call 67; (with_reducible refine (HH.out _).mono ?_); rintro e w2 ⟨rfl, E2⟩)) | ((go_at_call 77; (with_reducible refine (HB.out _).mono ?_); rintro e w3 ⟨rfl, E3⟩)))
    go_ret
    exact ⟨by simp, (by repeat (first | with_reducible exact Ext.refl _ | refine Ext.drewN ?_ _ | refine Ext.drew ?_ | refine Ext.alloc ?_ _ | assumption | (refine Below.trans ?_ (by assumption)) | (refine Ext.trans ?_ (by assumption)) | (refine Below.trans ?_ (Below.mono (by assumption) (by omega)))))⟩
theorem fold_add_bd : ∀ (l : List Int) {s : Int}, U64 s → U64 (l.foldl addL s)
  | [], _, h => h
  | x :: l, _, h => fold_add_bd l (addL_bd h x)
theorem fold_del_bd : ∀ (l : List Int) {s : Int}, U64 s → U64 (l.foldl delL s)
  | [], _, h => h
  | x :: l, _, h => fold_del_bd l (delL_bd h x)
theorem fold_take {f : Int → Int → Int} {l : List Int} {k : Nat} {x s : Int} (h : l[k]? = some x) : (l.take (k + 1)).foldl f s = f ((l.take k).foldl f s) x := by
  simp [List.take_add_one, h, List.foldl_append]
set_option maxHeartbeats 800000 in
theorem all_add (s : Int) (v : Value) (l : List Int) (w : World) (hs : U64 s) (hl : RI .i64 w v l) : Calls Try.prog 40 #[.int .u64 s, .func (.func 63) #[] #[], v] w fun e w' => e = .returned (.int .u64 (l.foldl addL s)) ∧ Ext w w' := by
  obtain ⟨Ad, c, rfl, hc1, hc2⟩ := hl.shape
  have HL := Lib.hid hl
  have HS := Lib.hid hs
  clear hl hs
  have hlen : l.length ≤ 9223372036854775807 := by omega
  go_enter Try.func40, Try.ntmps40
  go_wp2
  go_loopw [0, 11] (fun a i wr => ∃ k : Nat, k ≤ l.length ∧ a = .int .u64 ((l.take k).foldl addL s) ∧ i = .int .i64 k ∧ Ext w wr) (fun _ i _ => l.length - (intOf i).toNat)
  case atStart => exact ⟨0, by omega, by simp, rfl, (by repeat (first | with_reducible exact Ext.refl _ | refine Ext.drewN ?_ _ | refine Ext.drew ?_ | refine Ext.alloc ?_ _ | assumption | (refine Below.trans ?_ (by assumption)) | (refine Ext.trans ?_ (by assumption)) | (refine Below.trans ?_ (Below.mono (by assumption) (by omega)))))⟩
  case round =>
    obtain ⟨k, hk, rfl, rfl, hE⟩ := hrel
    by_cases hlt : k < l.length
    · have Ha := RdN.ext HL.out hE
      obtain ⟨b, off, x, rfl, hc1, hx⟩ := RdN.icell Ha hlt
      have k1 : (k : Int) < (l.length : Int) := by omega
      have k2 : (0 : Int) ≤ (k : Int) := by omega
      have k3 : IntKind.i64.wrap ((k : Int) + 1) = (k : Int) + 1 := IntWalk.i64_in _ (by omega)
      have hbd := fold_add_bd (l.take k) HS.out
      have hst := fold_take (f := addL) (s := s) hx.out
      have HST := Lib.hid hst
      have HC := Lib.hid fun w' => add_any ((l.take k).foldl addL s) x w' hbd
      clear hbd hst Ha
      generalize (l.take k).foldl addL s = z at *
      go_wp2_with ((go_at_call 63; (with_reducible refine (HC.out _).mono ?_); rintro e w1 ⟨rfl, E1⟩))
      go_roundw
      case rel => exact ⟨k + 1, by omega, by rw [HST.out], by first | rfl | go_num | simp, (by repeat (first | with_reducible exact Ext.refl _ | refine Ext.drewN ?_ _ | refine Ext.drew ?_ | refine Ext.alloc ?_ _ | assumption | (refine Below.trans ?_ (by assumption)) | (refine Ext.trans ?_ (by assumption)) | (refine Below.trans ?_ (Below.mono (by assumption) (by omega)))))⟩
      case measure => simp [intOf]; omega
    · obtain rfl : k = l.length := by omega
      have ht : l.take l.length = l := List.take_length
      rw [ht]
      go_wp2
      go_ret
      exact ⟨rfl, hE⟩
set_option maxHeartbeats 800000 in
theorem all_del (s : Int) (v : Value) (l : List Int) (w : World) (hs : U64 s) (hl : RI .i64 w v l) : Calls Try.prog 40 #[.int .u64 s, .func (.func 41) #[] #[], v] w fun e w' => e = .returned (.int .u64 (l.foldl delL s)) ∧ Ext w w' := by
  obtain ⟨Ad, c, rfl, hc1, hc2⟩ := hl.shape
  have HL := Lib.hid hl
  have HS := Lib.hid hs
  clear hl hs
  have hlen : l.length ≤ 9223372036854775807 := by omega
  go_enter Try.func40, Try.ntmps40
  go_wp2
  go_loopw [0, 11] (fun a i wr => ∃ k : Nat, k ≤ l.length ∧ a = .int .u64 ((l.take k).foldl delL s) ∧ i = .int .i64 k ∧ Ext w wr) (fun _ i _ => l.length - (intOf i).toNat)
  case atStart => exact ⟨0, by omega, by simp, rfl, (by repeat (first | with_reducible exact Ext.refl _ | refine Ext.drewN ?_ _ | refine Ext.drew ?_ | refine Ext.alloc ?_ _ | assumption | (refine Below.trans ?_ (by assumption)) | (refine Ext.trans ?_ (by assumption)) | (refine Below.trans ?_ (Below.mono (by assumption) (by omega)))))⟩
  case round =>
    obtain ⟨k, hk, rfl, rfl, hE⟩ := hrel
    by_cases hlt : k < l.length
    · have Ha := RdN.ext HL.out hE
      obtain ⟨b, off, x, rfl, hc1, hx⟩ := RdN.icell Ha hlt
      have k1 : (k : Int) < (l.length : Int) := by omega
      have k2 : (0 : Int) ≤ (k : Int) := by omega
      have k3 : IntKind.i64.wrap ((k : Int) + 1) = (k : Int) + 1 := IntWalk.i64_in _ (by omega)
      have hbd := fold_del_bd (l.take k) HS.out
      have hst := fold_take (f := delL) (s := s) hx.out
      have HST := Lib.hid hst
      have HC := Lib.hid fun w' => del_any ((l.take k).foldl delL s) x w' hbd
      clear hbd hst Ha
      generalize (l.take k).foldl delL s = z at *
      go_wp2_with ((go_at_call 41; (with_reducible refine (HC.out _).mono ?_); rintro e w1 ⟨rfl, E1⟩))
      go_roundw
      case rel => exact ⟨k + 1, by omega, by rw [HST.out], by first | rfl | go_num | simp, (by repeat (first | with_reducible exact Ext.refl _ | refine Ext.drewN ?_ _ | refine Ext.drew ?_ | refine Ext.alloc ?_ _ | assumption | (refine Below.trans ?_ (by assumption)) | (refine Ext.trans ?_ (by assumption)) | (refine Below.trans ?_ (Below.mono (by assumption) (by omega)))))⟩
      case measure => simp [intOf]; omega
    · obtain rfl : k = l.length := by omega
      have ht : l.take l.length = l := List.take_length
      rw [ht]
      go_wp2
      go_ret
      exact ⟨rfl, hE⟩
def ofL (l : List Int) : Int := l.foldl addL 0
theorem ofL_bd (l : List Int) : U64 (ofL l) := fold_add_bd l ⟨by decide, by decide⟩
set_option maxHeartbeats 800000 in
theorem of_set_any (v : Value) (l : List Int) (w : World) (hl : RI .i64 w v l) : Calls Try.prog 38 #[v] w fun e w' => e = .returned (.int .u64 (ofL l)) ∧ Ext w w' := by
  have HA := Lib.hid fun w' h => all_add 0 v l w' ⟨by decide, by decide⟩ h
  have HL := Lib.hid hl
  have ho : ofL l = l.foldl addL 0 := rfl
  rw [← ho] at HA
  generalize ofL l = r at *
  clear hl ho
  go_enter Try.func38, Try.ntmps38
  go_wp2_with ((go_at_call 40; (with_reducible refine (HA.out _ (RdN.ext HL.out (by repeat (first | with_reducible exact Ext.refl _ | refine Ext.drewN ?_ _ | refine Ext.drew ?_ | refine Ext.alloc ?_ _ | assumption | (refine Below.trans ?_ (by assumption)) | (refine Ext.trans ?_ (by assumption)) | (refine Below.trans ?_ (Below.mono (by assumption) (by omega))))))).mono ?_); rintro e w1 ⟨rfl, E1⟩))
  go_ret
  exact ⟨rfl, (by repeat (first | with_reducible exact Ext.refl _ | refine Ext.drewN ?_ _ | refine Ext.drew ?_ | refine Ext.alloc ?_ _ | assumption | (refine Below.trans ?_ (by assumption)) | (refine Ext.trans ?_ (by assumption)) | (refine Below.trans ?_ (Below.mono (by assumption) (by omega)))))⟩
end Go.Proofs.Ytcncacllaonplaa.Sig
namespace Go.Proofs.Ytcncacllaonplaa.Sig
open Go.RowKit Go.Kb Go.Kb.Bits

abbrev Ib : Rep Int := Rep.int .i64
theorem info_i64 : (Try.prog.info? 3).map (fun i => (i.zero, i.size, i.bytes)) = some (some (.int .i64 0), Ib.size, 8) := by kernel_rfl
def sigs29 : List Int := (List.range 29).map fun (j : Nat) => (j : Int)
def listL (s : Int) : List Int := sigs29.filter (hasL s)
def listK (s : Int) (k : Nat) : List Int := ((List.range k).map fun (j : Nat) => (j : Int)).filter (hasL s)
theorem listK_succ (s : Int) (k : Nat) : listK s (k + 1) = listK s k ++ if hasL s (k : Int) then [(k : Int)] else [] := by
  unfold listK
  rw [List.range_succ, List.map_append, List.filter_append]
  cases h : hasL s (k : Int) <;> simp [h]
theorem listK_len (s : Int) (k : Nat) : (listK s k).length ≤ k := by
  have := List.length_filter_le (hasL s) ((List.range k).map fun (j : Nat) => (j : Int))
  simpa [listK] using this
def rowsN : List Int := rowsT.map (·.1)
def rowsK (s : Int) (k : Nat) : List Int := (rowsN.take k).filter (hasL s)
theorem rowsN_at (k : Nat) (hk : k < 22) : rowsN[k]? = some (rowAt k).1 := by
  have hl : k < rowsT.length := hk
  unfold rowsN rowAt
  simp [hl]
theorem rowsK_succ (s : Int) (k : Nat) (hk : k < 22) : rowsK s (k + 1) = rowsK s k ++ if hasL s (rowAt k).1 then [(rowAt k).1] else [] := by
  unfold rowsK
  rw [take_succ_of (rowsN_at k hk), List.filter_append]
  cases h : hasL s (rowAt k).1 <;> simp [h]
theorem rowsK_len (s : Int) (k : Nat) : (rowsK s k).length ≤ 22 := by
  have h1 := List.length_filter_le (hasL s) (rowsN.take k)
  have h2 : (rowsN.take k).length ≤ 22 := by rw [List.length_take]; exact Nat.min_le_right _ _
  unfold rowsK
  omega
theorem rows_list (s : Int) : rowsK s 22 = listL s := by
  have h1 : rowsN.take 22 = rowsN := by decide +kernel
  have h2 : rowsN = sigs29.filter isL := by decide +kernel
  unfold rowsK listL
  rw [h1, h2, List.filter_filter]
  congr 1
  funext x
  unfold hasL
  cases isL x <;> simp
set_option maxRecDepth 100000 in
set_option maxHeartbeats 800000 in
theorem list_any (s : Int) (w : World) (h : U64 s) : Calls Try.prog 39 #[.int .u64 s] w fun e w' => ∃ A c, e = .returned (.slice A (listL s).length c) ∧ RI .i64 w' (.slice A (listL s).length c) (listL s) ∧ Ext w w' := by
  have HH := Lib.hid fun sig w' => has_any s sig w' h
  have HS := Lib.hid fun k => listK_succ s k
  have HN := Lib.hid fun k => listK_len s k
  have HA := Lib.hid (show listK s 29 = listL s from rfl)
  clear h
  go_enter Try.func39, Try.ntmps39
  go_wp2
  go_loopw [3, 5] (fun o i wr => ∃ (k n c : Nat) (A : Option Addr), k ≤ 29 ∧ i = .int .i64 k ∧ o = .slice A n c ∧ Hid ((listK s k).length = n) ∧ Hid (OwnS Ib 3 w.heap.size (fun _ => False) wr (.slice A n c) (listK s k)) ∧ Ext w wr) (fun _ i _ => 29 - (intOf i).toNat)
  case atStart => exact ⟨0, 0, 0, none, by omega, rfl, rfl, Lib.hid rfl, Lib.hid (OwnS.nil _ _ _ _ _), (by repeat (first | with_reducible exact Ext.refl _ | refine Ext.drewN ?_ _ | refine Ext.drew ?_ | refine Ext.alloc ?_ _ | assumption | (refine Below.trans ?_ (by assumption)) | (refine Ext.trans ?_ (by assumption)) | (refine Below.trans ?_ (Below.mono (by assumption) (by omega)))))⟩
  case round =>
    obtain ⟨k, n, c, A, hk, rfl, rfl, hn, hO, hE⟩ := hrel
    have hn29 := HN.out k
    rw [hn.out] at hn29
    by_cases hlt : k < 29
    · have k1 : (k : Int) < 29 := by omega
      have hst := HS.out k
      have hH := Lib.hid fun w' => HH.out (k : Int) w'
      cases hq : hasL s (k : Int)
      · rw [hq] at hH hst
        simp only [Bool.false_eq_true, if_false, List.append_nil] at hst
        go_wp2_with ((go_at_call 15; (with_reducible refine (hH.out _).mono ?_); rintro e w1 ⟨rfl, E1⟩))
        go_roundw
        case rel => exact ⟨k + 1, n, c, A, by omega, by first | rfl | go_num | simp, rfl, Lib.hid (by rw [hst]; exact hn.out), Lib.hid (by rw [hst]; exact hO.out.ext E1), hE.trans E1⟩
        case measure => first | (simp [intOf]; omega) | (show 29 - _ < _; simp [intOf]; omega)
      · rw [hq] at hH hst
        simp only [if_true] at hst
        go_wp2_with (first
          | ((go_at_call 15; (with_reducible refine (hH.out _).mono ?_); rintro e w1 ⟨rfl, E1⟩))
          | (at_builtin; refine wpList_app (e := Ib) (base := w.heap.size) (B := fun _ => False) (A := fun _ => False) rfl _ (.tmp 13) rfl Try.underlying79 info_i64 rfl (OwnS.ext hO.out (by repeat (first | with_reducible exact Ext.refl _ | refine Ext.drewN ?_ _ | refine Ext.drew ?_ | refine Ext.alloc ?_ _ | assumption | (refine Below.trans ?_ (by assumption)) | (refine Ext.trans ?_ (by assumption)) | (refine Below.trans ?_ (Below.mono (by assumption) (by omega)))))) rfl (RI.y (RI.lit .i64 [(k : Int)] _ rfl (by simp))) rfl (fun _ _ h => h.elim) (N := n + 1) (by rw [hn.out]; rfl) (by simp [maxLen]; omega) (by omega) (by have := hE.size; have := E1.size; simp; omega) ?_; intro A5 c5 w5 o5 M5 B5; have E5 : Ext w w5 := Ext.trans_below (show Ext w _ from (hE.trans E1).alloc _) B5 (Nat.le_refl _)))
        go_roundw
        case rel => exact ⟨k + 1, n + 1, c5, A5, by omega, by first | rfl | go_num | simp, rfl, Lib.hid (by rw [hst, List.length_append, hn.out]; rfl), Lib.hid (by rw [hst]; exact o5), E5⟩
        case measure => first | (simp [intOf]; omega) | (show 29 - _ < _; simp [intOf]; omega)
    · obtain rfl : k = 29 := by omega
      have hOk := hO.out.rdT.ri
      rw [HA.out] at hOk
      have hnn := hn.out
      rw [HA.out] at hnn
      go_wp2
      go_ret
      exact ⟨A, c, by rw [hnn]; rfl, by rw [hnn]; exact hOk, hE⟩
set_option maxRecDepth 100000 in
set_option maxHeartbeats 800000 in
theorem rlist_any (s : Int) (w : World) (h : U64 s) : Calls Try.prog 80 #[.int .u64 s] w fun e w' => ∃ A c, e = .returned (.slice A (listL s).length c) ∧ RI .i64 w' (.slice A (listL s).length c) (listL s) ∧ Ext w w' := by
  have HH := Lib.hid fun sig w' => rhas_any s sig w' h
  have HS := Lib.hid fun k hk => rowsK_succ s k hk
  have HN := Lib.hid fun k => rowsK_len s k
  have HA := Lib.hid (rows_list s)
  clear h
  go_enter Try.func80, Try.ntmps80
  go_wp2_with ((go_at_call 86; (with_reducible refine (rows_any _).mono ?_); rintro e w1 ⟨rfl, hB, E1⟩))
  have HB := Lib.hid hB
  clear hB
  go_loopw [3, 8] (fun o i wr => ∃ (k n c : Nat) (A : Option Addr), k ≤ 22 ∧ i = .int .i64 k ∧ o = .slice A n c ∧ Hid ((rowsK s k).length = n) ∧ Hid (OwnS Ib 3 w1.heap.size (fun _ => False) wr (.slice A n c) (rowsK s k)) ∧ Ext w1 wr) (fun _ i _ => 22 - (intOf i).toNat)
  case atStart => exact ⟨0, 0, 0, none, by omega, rfl, rfl, Lib.hid rfl, Lib.hid (OwnS.nil _ _ _ _ _), Ext.refl _⟩
  case round =>
    obtain ⟨k, n, c, A, hk, rfl, rfl, hn, hO, hE⟩ := hrel
    have hn22 := HN.out k
    rw [hn.out] at hn22
    by_cases hlt : k < 22
    · have k1 : (k : Int) < 22 := by omega
      have k2 : (0 : Int) ≤ (k : Int) := by omega
      obtain ⟨r0, r1, r2, r3⟩ := rowsA_at k hlt
      have hBr := HB.out.ext hE
      have c0 := hBr.cell (k * 4)
      have c1 := hBr.cell (k * 4 + 1)
      have c2 := hBr.cell (k * 4 + 2)
      have c3 := hBr.cell (k * 4 + 3)
      rw [r0] at c0
      rw [r1] at c1
      rw [r2] at c2
      rw [r3] at c3
      clear r0 r1 r2 r3
      have hst := HS.out k hlt
      generalize rowAt k = row at *
      obtain ⟨x, nm, d, wi⟩ := row
      simp only at c0 c1 c2 c3 hst
      have hH := Lib.hid fun w' => HH.out x w'
      cases hq : hasL s x
      · rw [hq] at hH hst
        simp only [Bool.false_eq_true, if_false, List.append_nil] at hst
        go_wp2_with ((go_at_call 67; (with_reducible refine (hH.out _).mono ?_); rintro e w3 ⟨rfl, E3⟩))
        have E3' : Ext wr w3 := (by repeat (first | with_reducible exact Ext.refl _ | refine Ext.drewN ?_ _ | refine Ext.drew ?_ | refine Ext.alloc ?_ _ | assumption | (refine Below.trans ?_ (by assumption)) | (refine Ext.trans ?_ (by assumption)) | (refine Below.trans ?_ (Below.mono (by assumption) (by omega)))))
        go_roundw
        case rel => exact ⟨k + 1, n, c, A, by omega, by first | rfl | go_num | simp, rfl, Lib.hid (by rw [hst]; exact hn.out), Lib.hid (by rw [hst]; exact hO.out.ext E3'), hE.trans E3'⟩
        case measure => first | (simp [intOf]; omega) | (show 22 - _ < _; simp [intOf]; omega)
      · rw [hq] at hH hst
        simp only [if_true] at hst
        have hbx : ∀ o, (wr.alloc (.cells #[.int .i64 x, .string nm, .int .i64 d, .bool wi] 116)).cell? ⟨wr.heap.size, o, none⟩ = (#[.int .i64 x, .string nm, .int .i64 d, .bool wi] : Array Value)[o]? := fun o => (Blk.new wr _ _).cell o
        go_wp2_with fail
        (with_reducible refine (hH.out _).mono ?_); rintro e w3 ⟨rfl, E3⟩
        have hc3 := (Blk.ext (Blk.new wr 116 #[.int .i64 x, .string nm, .int .i64 d, .bool wi]) E3).cell 0
        have E3' : Ext wr w3 := (by repeat (first | with_reducible exact Ext.refl _ | refine Ext.drewN ?_ _ | refine Ext.drew ?_ | refine Ext.alloc ?_ _ | assumption | (refine Below.trans ?_ (by assumption)) | (refine Ext.trans ?_ (by assumption)) | (refine Below.trans ?_ (Below.mono (by assumption) (by omega)))))
        go_wp2_with (at_builtin; refine wpList_app (e := Ib) (base := w1.heap.size) (B := fun _ => False) (A := fun _ => False) rfl _ (.tmp 19) rfl Try.underlying79 info_i64 rfl (OwnS.ext hO.out (by repeat (first | with_reducible exact Ext.refl _ | refine Ext.drewN ?_ _ | refine Ext.drew ?_ | refine Ext.alloc ?_ _ | assumption | (refine Below.trans ?_ (by assumption)) | (refine Ext.trans ?_ (by assumption)) | (refine Below.trans ?_ (Below.mono (by assumption) (by omega)))))) rfl (RI.y (RI.lit .i64 [x] _ rfl (by simp))) rfl (fun _ _ h => h.elim) (N := n + 1) (by rw [hn.out]; rfl) (by simp [maxLen]; omega) (by omega) (by have := hE.size; have := E3'.size; simp; omega) ?_; intro A5 c5 w5 o5 M5 B5; have E5 : Ext w1 w5 := Ext.trans_below (show Ext w1 _ from (hE.trans E3').alloc _) B5 (Nat.le_refl _))
        go_roundw
        case rel => exact ⟨k + 1, n + 1, c5, A5, by omega, by first | rfl | go_num | simp, rfl, Lib.hid (by rw [hst, List.length_append, hn.out]; rfl), Lib.hid (by rw [hst]; exact o5), E5⟩
        case measure => first | (simp [intOf]; omega) | (show 22 - _ < _; simp [intOf]; omega)
    · obtain rfl : k = 22 := by omega
      have hOk := hO.out.rdT.ri
      rw [HA.out] at hOk
      have hnn := hn.out
      rw [HA.out] at hnn
      go_wp2
      go_ret
      exact ⟨A, c, by rw [hnn]; rfl, by rw [hnn]; exact hOk, E1.trans hE⟩
end Go.Proofs.Ytcncacllaonplaa.Sig
namespace Go.Proofs.Ytcncacllaonplaa.Sig
open Go.RowKit Go.Kb Go.Kb.Bits

set_option maxHeartbeats 800000 in
theorem rof_any (v : Value) (l : List Int) (w : World) (hl : RI .i64 w v l) : Calls Try.prog 79 #[v] w fun e w' => e = .returned (.int .u64 (ofL l)) ∧ Ext w w' := by
  obtain ⟨Ad, c, rfl, hc1, hc2⟩ := hl.shape
  have HL := Lib.hid hl
  have ho : ofL l = l.foldl addL 0 := rfl
  have HOF := Lib.hid ho
  clear hl ho
  have hlen : l.length ≤ 9223372036854775807 := by omega
  go_enter Try.func79, Try.ntmps79
  go_wp2
  go_loopw [3, 8] (fun a i wr => ∃ k : Nat, k ≤ l.length ∧ a = .int .u64 ((l.take k).foldl addL 0) ∧ i = .int .i64 k ∧ Ext w wr) (fun _ i _ => l.length - (intOf i).toNat)
  case atStart => exact ⟨0, by omega, by simp, rfl, (by repeat (first | with_reducible exact Ext.refl _ | refine Ext.drewN ?_ _ | refine Ext.drew ?_ | refine Ext.alloc ?_ _ | assumption | (refine Below.trans ?_ (by assumption)) | (refine Ext.trans ?_ (by assumption)) | (refine Below.trans ?_ (Below.mono (by assumption) (by omega)))))⟩
  case round =>
    obtain ⟨k, hk, rfl, rfl, hE⟩ := hrel
    by_cases hlt : k < l.length
    · have Ha := RdN.ext HL.out hE
      obtain ⟨b, off, x, rfl, hc1, hx⟩ := RdN.icell Ha hlt
      have k1 : (k : Int) < (l.length : Int) := by omega
      have k2 : (0 : Int) ≤ (k : Int) := by omega
      have k3 : IntKind.i64.wrap ((k : Int) + 1) = (k : Int) + 1 := IntWalk.i64_in _ (by omega)
      have hbd := fold_add_bd (l.take k) (s := 0) ⟨by decide, by decide⟩
      have hst := fold_take (f := addL) (s := 0) hx.out
      have HST := Lib.hid hst
      have HC := Lib.hid fun w' => radd_any ((l.take k).foldl addL 0) x w' hbd
      clear hbd hst Ha
      generalize (l.take k).foldl addL 0 = z at *
      go_wp2_with ((go_at_call 87; (with_reducible refine (HC.out _).mono ?_); rintro e w1 ⟨rfl, E1⟩))
      go_roundw
      case rel => exact ⟨k + 1, by omega, by rw [HST.out], by first | rfl | go_num | simp, (by repeat (first | with_reducible exact Ext.refl _ | refine Ext.drewN ?_ _ | refine Ext.drew ?_ | refine Ext.alloc ?_ _ | assumption | (refine Below.trans ?_ (by assumption)) | (refine Ext.trans ?_ (by assumption)) | (refine Below.trans ?_ (Below.mono (by assumption) (by omega)))))⟩
      case measure => simp [intOf]; omega
    · obtain rfl : k = l.length := by omega
      have ht : l.take l.length = l := List.take_length
      rw [ht]
      go_wp2
      go_ret
      exact ⟨by rw [HOF.out]; rfl, hE⟩
def blockL (s : Int) : Int := delL (delL (ofL (listL s)) 9) 19
theorem blockL_bd (s : Int) : U64 (blockL s) := delL_bd (delL_bd (ofL_bd _) _) _
set_option maxHeartbeats 800000 in
theorem block_any (s : Int) (w : World) (h : U64 s) : Calls Try.prog 14 #[.int .u64 s] w fun e w' => e = .returned (.int .u64 (blockL s)) ∧ Ext w w' := by
  have HL := Lib.hid fun w' => list_any s w' h
  have HO := Lib.hid fun v w' hv => of_set_any v (listL s) w' hv
  have HD := Lib.hid fun v w' hv => all_del (ofL (listL s)) v [9, 19] w' (ofL_bd _) hv
  have hb : blockL s = [9, 19].foldl delL (ofL (listL s)) := rfl
  rw [← hb] at HD
  generalize blockL s = r at *
  generalize ofL (listL s) = o at *
  generalize listL s = l at *
  clear h hb
  go_enter Try.func14, Try.ntmps14
  go_wp2_with fail
  (with_reducible refine (HL.out _).mono ?_); rintro e w1 ⟨A1, c1, rfl, r1, E1⟩
  have R1 := Lib.hid r1
  clear r1
  go_wp2_with fail
  (with_reducible refine (HO.out _ _ R1.out).mono ?_); rintro e w2 ⟨rfl, E2⟩
  go_wp2_with fail
  refine (HD.out _ _ (RI.lit (w := w2) .i64 [9, 19] _ rfl (by simp))).mono ?_; rintro e w3 ⟨rfl, E3⟩
  go_wp2
  go_ret
  exact ⟨rfl, (by repeat (first | with_reducible exact Ext.refl _ | refine Ext.drewN ?_ _ | refine Ext.drew ?_ | refine Ext.alloc ?_ _ | assumption | (refine Below.trans ?_ (by assumption)) | (refine Ext.trans ?_ (by assumption)) | (refine Below.trans ?_ (Below.mono (by assumption) (by omega)))))⟩
set_option maxHeartbeats 800000 in
theorem rblock_any (s : Int) (w : World) (h : U64 s) : Calls Try.prog 68 #[.int .u64 s] w fun e w' => e = .returned (.int .u64 (blockL s)) ∧ Ext w w' := by
  have HL := Lib.hid fun w' => rlist_any s w' h
  have HO := Lib.hid fun v w' hv => rof_any v (listL s) w' hv
  have HD1 := Lib.hid fun w' => rdel_any (ofL (listL s)) 9 w' (ofL_bd _)
  have HD2 := Lib.hid fun w' => rdel_any (delL (ofL (listL s)) 9) 19 w' (delL_bd (ofL_bd _) _)
  have hb : blockL s = delL (delL (ofL (listL s)) 9) 19 := rfl
  rw [← hb] at HD2
  generalize blockL s = r at *
  generalize delL (ofL (listL s)) 9 = q at *
  generalize ofL (listL s) = o at *
  generalize listL s = l at *
  clear h hb
  go_enter Try.func68, Try.ntmps68
  go_wp2_with fail
  (with_reducible refine (HL.out _).mono ?_); rintro e w1 ⟨A1, c1, rfl, r1, E1⟩
  have R1 := Lib.hid r1
  clear r1
  go_wp2_with fail
  (with_reducible refine (HO.out _ _ R1.out).mono ?_); rintro e w2 ⟨rfl, E2⟩
  go_wp2_with fail
  (with_reducible refine (HD1.out _).mono ?_); rintro e w3 ⟨rfl, E3⟩
  go_wp2_with fail
  (with_reducible refine (HD2.out _).mono ?_); rintro e w4 ⟨rfl, E4⟩
  go_wp2
  go_ret
  exact ⟨rfl, (by repeat (first | with_reducible exact Ext.refl _ | refine Ext.drewN ?_ _ | refine Ext.drew ?_ | refine Ext.alloc ?_ _ | assumption | (refine Below.trans ?_ (by assumption)) | (refine Ext.trans ?_ (by assumption)) | (refine Below.trans ?_ (Below.mono (by assumption) (by omega)))))⟩
end Go.Proofs.Ytcncacllaonplaa.Sig
