/- Written by chain.py of H18[fold_add_bd,fold_del_bd,fold_take,allop,ofL,ofL_bd,of_set_any]@Sig I18[Ib,info_i64,sigs29,listL,listK,listK_succ,listK_len,list_any]@Sig J18[blockL,blockL_bd,block_any]@Sig. No condition. -/
import Derived.Test.YteljobleojhgmaaGreatF21
import Derived.Deep.QuietTactic
namespace Go.Proofs.YteljobleojhgmaaGreat.Sig
open Go.RowKit Go.Kb Go.Kb.Bits

theorem fold_add_bd : ∀ (l : List Int) {s : Int}, U64 s → U64 (l.foldl addL s)
  | [], _, h => h
  | x :: l, _, h => fold_add_bd l (addL_bd h x)
theorem fold_del_bd : ∀ (l : List Int) {s : Int}, U64 s → U64 (l.foldl delL s)
  | [], _, h => h
  | x :: l, _, h => fold_del_bd l (delL_bd h x)
theorem fold_take {f : Int → Int → Int} {l : List Int} {k : Nat} {x s : Int} (h : l[k]? = some x) : (l.take (k + 1)).foldl f s = f ((l.take k).foldl f s) x := by
  simp [List.take_add_one, h, List.foldl_append]
set_option maxHeartbeats 800000 in
theorem all_add (s : Int) (v : Value) (l : List Int) (w : World) (hs : U64 s) (hl : RI .i64 w v l) : Calls Tryz.prog 51 #[.int .u64 s, .func (.func 52) #[] #[], v] w fun e w' => e = .returned (.int .u64 (l.foldl addL s)) ∧ Ext w w' := by
  obtain ⟨Ad, c, rfl, hc1, hc2⟩ := hl.shape
  have HL := Lib.hid hl
  have HS := Lib.hid hs
  clear hl hs
  have hlen : l.length ≤ 9223372036854775807 := by omega
  go_enter Tryz.func51, Tryz.ntmps51
  go_wp2
  go_loopw [0, 11] (fun a i wr => ∃ k : Nat, k ≤ l.length ∧ a = .int .u64 ((l.take k).foldl addL s) ∧ i = .int .i64 k ∧ Ext w wr) (fun _ i _ => l.length - (intOf i).toNat)
  case atStart => exact ⟨0, by omega, by simp, rfl, (by repeat (first | with_reducible exact Ext.refl _ | refine Ext.drewN ?_ _ | refine Ext.drew ?_ | refine Ext.alloc ?_ _ | assumption | (refine Below.trans ?_ (by assumption)) | (refine Ext.trans ?_ (by assumption)) | (refine Below.trans ?_ (Below.mono (by assumption) (by omega)))))⟩
  case round =>
    obtain ⟨k, hk, rfl, rfl, hE⟩ := hrel
    by_cases hlt : k < l.length
    · have Ha := RdN.ext HL.out hE
      obtain ⟨b, off, x, rfl, hc1, hx⟩ := RdN.icell Ha hlt
      have k1 : (k : Int) < (l.length : Int) := by omega
      have k2 : (0 : Int) ≤ (k : Int) := by omega
      have k3 : IntKind.i64.wrap ((k : Int) + 1) = (k : Int) + 1 := IntWalk.i64_in _ (by omega)
      have hbd := fold_add_bd (l.take k) HS.out
      have hst := fold_take (f := addL) (s := s) hx.out
      have HST := Lib.hid hst
      have HC := Lib.hid fun w' => add_any ((l.take k).foldl addL s) x w' hbd
      clear hbd hst Ha
      generalize (l.take k).foldl addL s = z at *
      go_wp2_with ((go_at_call 52; (with_reducible refine (HC.out _).mono ?_); rintro e w1 ⟨rfl, E1⟩))
      go_roundw
      case rel => exact ⟨k + 1, by omega, by rw [HST.out], by first | rfl | go_num | simp, (by repeat (first | with_reducible exact Ext.refl _ | refine Ext.drewN ?_ _ | refine Ext.drew ?_ | refine Ext.alloc ?_ _ | assumption | (refine Below.trans ?_ (by assumption)) | (refine Ext.trans ?_ (by assumption)) | (refine Below.trans ?_ (Below.mono (by assumption) (by omega)))))⟩
      case measure => simp [intOf]; omega
    · obtain rfl : k = l.length := by omega
      have ht : l.take l.length = l := List.take_length
      rw [ht]
      go_wp2
      go_ret
      exact ⟨rfl, hE⟩
set_option maxHeartbeats 800000 in
theorem all_del (s : Int) (v : Value) (l : List Int) (w : World) (hs : U64 s) (hl : RI .i64 w v l) : Calls Tryz.prog 51 #[.int .u64 s, .func (.func 54) #[] #[], v] w fun e w' => e = .returned (.int .u64 (l.foldl delL s)) ∧ Ext w w' := by
  obtain ⟨Ad, c, rfl, hc1, hc2⟩ := hl.shape
  have HL := Lib.hid hl
  have HS := Lib.hid hs
  clear hl hs
  have hlen : l.length ≤ 9223372036854775807 := by omega
  go_enter Tryz.func51, Tryz.ntmps51
  go_wp2
  go_loopw [0, 11] (fun a i wr => ∃ k : Nat, k ≤ l.length ∧ a = .int .u64 ((l.take k).foldl delL s) ∧ i = .int .i64 k ∧ Ext w wr) (fun _ i _ => l.length - (intOf i).toNat)
  case atStart => exact ⟨0, by omega, by simp, rfl, (by repeat (first | with_reducible exact Ext.refl _ | refine Ext.drewN ?_ _ | refine Ext.drew ?_ | refine Ext.alloc ?_ _ | assumption | (refine Below.trans ?_ (by assumption)) | (refine Ext.trans ?_ (by assumption)) | (refine Below.trans ?_ (Below.mono (by assumption) (by omega)))))⟩
  case round =>
    obtain ⟨k, hk, rfl, rfl, hE⟩ := hrel
    by_cases hlt : k < l.length
    · have Ha := RdN.ext HL.out hE
      obtain ⟨b, off, x, rfl, hc1, hx⟩ := RdN.icell Ha hlt
      have k1 : (k : Int) < (l.length : Int) := by omega
      have k2 : (0 : Int) ≤ (k : Int) := by omega
      have k3 : IntKind.i64.wrap ((k : Int) + 1) = (k : Int) + 1 := IntWalk.i64_in _ (by omega)
      have hbd := fold_del_bd (l.take k) HS.out
      have hst := fold_take (f := delL) (s := s) hx.out
      have HST := Lib.hid hst
      have HC := Lib.hid fun w' => del_any ((l.take k).foldl delL s) x w' hbd
      clear hbd hst Ha
      generalize (l.take k).foldl delL s = z at *
      go_wp2_with ((go_at_call 54; (with_reducible refine (HC.out _).mono ?_); rintro e w1 ⟨rfl, E1⟩))
      go_roundw
      case rel => exact ⟨k + 1, by omega, by rw [HST.out], by first | rfl | go_num | simp, (by repeat (first | with_reducible exact Ext.refl _ | refine Ext.drewN ?_ _ | refine Ext.drew ?_ | refine Ext.alloc ?_ _ | assumption | (refine Below.trans ?_ (by assumption)) | (refine Ext.trans ?_ (by assumption)) | (refine Below.trans ?_ (Below.mono (by assumption) (by omega)))))⟩
      case measure => simp [intOf]; omega
    · obtain rfl : k = l.length := by omega
      have ht : l.take l.length = l := List.take_length
      rw [ht]
      go_wp2
      go_ret
      exact ⟨rfl, hE⟩
def ofL (l : List Int) : Int := l.foldl addL 0
theorem ofL_bd (l : List Int) : U64 (ofL l) := fold_add_bd l ⟨by decide, by decide⟩
set_option maxHeartbeats 800000 in
theorem of_set_any (v : Value) (l : List Int) (w : World) (hl : RI .i64 w v l) : Calls Tryz.prog 20 #[v] w fun e w' => e = .returned (.int .u64 (ofL l)) ∧ Ext w w' := by
  have HA := Lib.hid fun w' h => all_add 0 v l w' ⟨by decide, by decide⟩ h
  have HL := Lib.hid hl
  have ho : ofL l = l.foldl addL 0 := rfl
  rw [← ho] at HA
  generalize ofL l = r at *
  clear hl ho
  go_enter Tryz.func20, Tryz.ntmps20
  go_wp2_with ((go_at_call 51; (with_reducible refine (HA.out _ (RdN.ext HL.out (by repeat (first | with_reducible exact Ext.refl _ | refine Ext.drewN ?_ _ | refine Ext.drew ?_ | refine Ext.alloc ?_ _ | assumption | (refine Below.trans ?_ (by assumption)) | (refine Ext.trans ?_ (by assumption)) | (refine Below.trans ?_ (Below.mono (by assumption) (by omega))))))).mono ?_); rintro e w1 ⟨rfl, E1⟩))
  go_ret
  exact ⟨rfl, (by repeat (first | with_reducible exact Ext.refl _ | refine Ext.drewN ?_ _ | refine Ext.drew ?_ | refine Ext.alloc ?_ _ | assumption | (refine Below.trans ?_ (by assumption)) | (refine Ext.trans ?_ (by assumption)) | (refine Below.trans ?_ (Below.mono (by assumption) (by omega)))))⟩
end Go.Proofs.YteljobleojhgmaaGreat.Sig
namespace Go.Proofs.YteljobleojhgmaaGreat.Sig
open Go.RowKit Go.Kb Go.Kb.Bits

abbrev Ib : Rep Int := Rep.int .i64
theorem info_i64 : (Tryz.prog.info? 3).map (fun i => (i.zero, i.size, i.bytes)) = some (some (.int .i64 0), Ib.size, 8) := by kernel_rfl
def sigs29 : List Int := (List.range 29).map fun (j : Nat) => (j : Int)
def listL (s : Int) : List Int := sigs29.filter (hasL s)
def listK (s : Int) (k : Nat) : List Int := ((List.range k).map fun (j : Nat) => (j : Int)).filter (hasL s)
theorem listK_succ (s : Int) (k : Nat) : listK s (k + 1) = listK s k ++ if hasL s (k : Int) then [(k : Int)] else [] := by
  unfold listK
  rw [List.range_succ, List.map_append, List.filter_append]
  cases h : hasL s (k : Int) <;> simp [h]
theorem listK_len (s : Int) (k : Nat) : (listK s k).length ≤ k := by
  have := List.length_filter_le (hasL s) ((List.range k).map fun (j : Nat) => (j : Int))
  simpa [listK] using this
set_option maxRecDepth 100000 in
set_option maxHeartbeats 800000 in
theorem list_any (s : Int) (w : World) (h : U64 s) : Calls Tryz.prog 28 #[.int .u64 s] w fun e w' => ∃ A c, e = .returned (.slice A (listL s).length c) ∧ RI .i64 w' (.slice A (listL s).length c) (listL s) ∧ Ext w w' := by
  have HH := Lib.hid fun sig w' => has_any s sig w' h
  have HS := Lib.hid fun k => listK_succ s k
  have HN := Lib.hid fun k => listK_len s k
  have HA := Lib.hid (show listK s 29 = listL s from rfl)
  clear h
  go_enter Tryz.func28, Tryz.ntmps28
  go_wp2
  go_loopw [3, 5] (fun o i wr => ∃ (k n c : Nat) (A : Option Addr), k ≤ 29 ∧ i = .int .i64 k ∧ o = .slice A n c ∧ Hid ((listK s k).length = n) ∧ Hid (OwnS Ib 3 w.heap.size (fun _ => False) wr (.slice A n c) (listK s k)) ∧ Ext w wr) (fun _ i _ => 29 - (intOf i).toNat)
  case atStart => exact ⟨0, 0, 0, none, by omega, rfl, rfl, Lib.hid rfl, Lib.hid (OwnS.nil _ _ _ _ _), (by repeat (first | with_reducible exact Ext.refl _ | refine Ext.drewN ?_ _ | refine Ext.drew ?_ | refine Ext.alloc ?_ _ | assumption | (refine Below.trans ?_ (by assumption)) | (refine Ext.trans ?_ (by assumption)) | (refine Below.trans ?_ (Below.mono (by assumption) (by omega)))))⟩
  case round =>
    obtain ⟨k, n, c, A, hk, rfl, rfl, hn, hO, hE⟩ := hrel
    have hn29 := HN.out k
    rw [hn.out] at hn29
    by_cases hlt : k < 29
    · have k1 : (k : Int) < 29 := by omega
      have hst := HS.out k
      have hH := Lib.hid fun w' => HH.out (k : Int) w'
      cases hq : hasL s (k : Int)
      · rw [hq] at hH hst
        simp only [Bool.false_eq_true, if_false, List.append_nil] at hst
        go_wp2_with ((go_at_call 21; (with_reducible refine (hH.out _).mono ?_); rintro e w1 ⟨rfl, E1⟩))
        go_roundw
        case rel => exact ⟨k + 1, n, c, A, by omega, by first | rfl | go_num | simp, rfl, Lib.hid (by rw [hst]; exact hn.out), Lib.hid (by rw [hst]; exact hO.out.ext E1), hE.trans E1⟩
        case measure => first | (simp [intOf]; omega) | (show 29 - _ < _; simp [intOf]; omega)
      · rw [hq] at hH hst
        simp only [if_true] at hst
        go_wp2_with (first
          | ((go_at_call 21; (with_reducible refine (hH.out _).mono ?_); rintro e w1 ⟨rfl, E1⟩))
          | (at_builtin; refine wpList_app (e := Ib) (base := w.heap.size) (B := fun _ => False) (A := fun _ => False) rfl _ (.tmp 13) rfl Tryz.underlying62 info_i64 rfl (OwnS.ext hO.out (by repeat (first | with_reducible exact Ext.refl _ | refine Ext.drewN ?_ _ | refine Ext.drew ?_ | refine Ext.alloc ?_ _ | assumption | (refine Below.trans ?_ (by assumption)) | (refine Ext.trans ?_ (by assumption)) | (refine Below.trans ?_ (Below.mono (by assumption) (by omega)))))) rfl (RI.y (RI.lit .i64 [(k : Int)] _ rfl (by simp))) rfl (fun _ _ h => h.elim) (N := n + 1) (by rw [hn.out]; rfl) (by simp [maxLen]; omega) (by omega) (by have := hE.size; have := E1.size; simp; omega) ?_; intro A5 c5 w5 o5 M5 B5; have E5 : Ext w w5 := Ext.trans_below (show Ext w _ from (hE.trans E1).alloc _) B5 (Nat.le_refl _)))
        go_roundw
        case rel => exact ⟨k + 1, n + 1, c5, A5, by omega, by first | rfl | go_num | simp, rfl, Lib.hid (by rw [hst, List.length_append, hn.out]; rfl), Lib.hid (by rw [hst]; exact o5), E5⟩
        case measure => first | (simp [intOf]; omega) | (show 29 - _ < _; simp [intOf]; omega)
    · obtain rfl : k = 29 := by omega
      have hOk := hO.out.rdT.ri
      rw [HA.out] at hOk
      have hnn := hn.out
      rw [HA.out] at hnn
      go_wp2
      go_ret
      exact ⟨A, c, by rw [hnn]; rfl, by rw [hnn]; exact hOk, hE⟩
end Go.Proofs.YteljobleojhgmaaGreat.Sig
namespace Go.Proofs.YteljobleojhgmaaGreat.Sig
open Go.RowKit Go.Kb Go.Kb.Bits

def blockL (s : Int) : Int := delL (delL (ofL (listL s)) 9) 19
theorem blockL_bd (s : Int) : U64 (blockL s) := delL_bd (delL_bd (ofL_bd _) _) _
set_option maxHeartbeats 800000 in
theorem block_any (s : Int) (w : World) (h : U64 s) : Calls Tryz.prog 27 #[.int .u64 s] w fun e w' => e = .returned (.int .u64 (blockL s)) ∧ Ext w w' := by
  have HL := Lib.hid fun w' => list_any s w' h
  have HO := Lib.hid fun v w' hv => of_set_any v (listL s) w' hv
  have HD := Lib.hid fun v w' hv => all_del (ofL (listL s)) v [9, 19] w' (ofL_bd _) hv
  have hb : blockL s = [9, 19].foldl delL (ofL (listL s)) := rfl
  rw [← hb] at HD
  generalize blockL s = r at *
  generalize ofL (listL s) = o at *
  generalize listL s = l at *
  clear h hb
  go_enter Tryz.func27, Tryz.ntmps27
  go_wp2_with fail
  (with_reducible refine (HL.out _).mono ?_); rintro e w1 ⟨A1, c1, rfl, r1, E1⟩
  have R1 := Lib.hid r1
  clear r1
  go_wp2_with fail
  (with_reducible refine (HO.out _ _ R1.out).mono ?_); rintro e w2 ⟨rfl, E2⟩
  go_wp2_with fail
  refine (HD.out _ _ (RI.lit (w := w2) .i64 [9, 19] _ rfl (by simp))).mono ?_; rintro e w3 ⟨rfl, E3⟩
  go_wp2
  go_ret
  exact ⟨rfl, (by repeat (first | with_reducible exact Ext.refl _ | refine Ext.drewN ?_ _ | refine Ext.drew ?_ | refine Ext.alloc ?_ _ | assumption | (refine Below.trans ?_ (by assumption)) | (refine Ext.trans ?_ (by assumption)) | (refine Below.trans ?_ (Below.mono (by assumption) (by omega)))))⟩
end Go.Proofs.YteljobleojhgmaaGreat.Sig
