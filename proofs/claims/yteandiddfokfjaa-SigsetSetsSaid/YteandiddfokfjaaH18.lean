/- Sets of signals, one behind the other: of many, their list, as a mask; by contract. Conditions: the set has 64 bits. -/
import Derived.Test.YteandiddfokfjaaG18
import Derived.Deep.QuietTactic
namespace Go.Proofs.Yteandiddfokfjaa
open Go.RowKit Go.Kb Go.Kb.Bits

/- the same numbers -/
theorem take_ne {xs ys : List Int} {k : Nat} {x y : Int} (h1 : xs[k]? = some x) (h2 : ys[k]? = some y) (hne : x ≠ y) : xs ≠ ys := by
  rintro rfl
  rw [h1] at h2
  exact hne (Option.some.inj h2)
theorem take_all {xs ys : List Int} {k : Nat} (hk : k ≤ xs.length) (hn : ¬ k < xs.length) (hl : xs.length = ys.length) (ht : xs.take k = ys.take k) : xs = ys := by
  have : k = xs.length := by omega
  subst this
  rw [List.take_of_length_le (Nat.le_refl _), List.take_of_length_le (by omega)] at ht
  exact ht
set_option maxHeartbeats 400000 in
theorem ints_q (va vb : Value) (xs ys : List Int) (w : World) (ha : RI .i64 w va xs) (hb : RI .i64 w vb ys) :
    Calls Try.prog 15 #[va, vb] w fun e w' => e = .returned (.bool (decide (xs = ys))) ∧ Qt w w' := by
  have ha' := ha
  have hb' := hb
  obtain ⟨_, A, c, rfl, hnc, hcm, _⟩ := ha'
  obtain ⟨_, A2, c2, rfl, hnc2, hcm2, _⟩ := hb'
  have Ha := Lib.hid ha
  have Hb := Lib.hid hb
  clear ha hb
  unfold maxLen at hcm hcm2
  by_cases hl : xs.length = ys.length
  · have HL := Lib.hid hl
    have hl2 : ((xs.length : Int) == (ys.length : Int)) = true := by simp [hl]
    have hl3 : ((xs.length : Int) != (ys.length : Int)) = false := by simp [hl]
    clear hl
    go_enter Try.func15, Try.ntmps15
    go_wp2
    clear hl2 hl3
    go_loopw [13] (fun i wr => ∃ k : Nat, k ≤ xs.length ∧ i = .int .i64 k ∧ xs.take k = ys.take k ∧ Qt w wr) (fun i _ => xs.length - (intOf i).toNat)
    case atStart => exact ⟨0, Nat.zero_le _, rfl, by simp, Qt.refl _⟩
    case round =>
      obtain ⟨k, hk, rfl, htake, hq⟩ := hrel
      have HT := Lib.hid htake
      have Ha := Lib.hid (Ha.out.ext hq.ext)
      have Hb := Lib.hid (Hb.out.ext hq.ext)
      clear htake
      by_cases hlt : k < xs.length
      · have hlt2 : k < ys.length := by have := HL.out; omega
        obtain ⟨b, off, x, rfl, hc1, hx⟩ := Ha.out.icell hlt
        obtain ⟨b2, off2, y, rfl, hc2, hy⟩ := Hb.out.icell hlt2
        by_cases he : x = y
        · subst he
          go_wp2
          go_quiet (fail)
          go_wp2
          go_roundw
          case rel => exact ⟨k + 1, by omega, by go_num, by rw [take_succ_of hx.out, take_succ_of hy.out, HT.out], (by repeat (first | with_reducible exact Qt.refl _ | refine Qt.drewN ?_ _ | assumption | refine Qt.trans ?_ (by assumption)))⟩
          case measure => simp [intOf]; omega
        · have he2 : (x == y) = false := by simp [he]
          have he3 : (x != y) = true := by simp [he]
          go_wp2
          go_quiet (fail)
          go_wp2
          go_ret
          exact ⟨by simp [take_ne hx.out hy.out he], (by repeat (first | with_reducible exact Qt.refl _ | refine Qt.drewN ?_ _ | assumption | refine Qt.trans ?_ (by assumption)))⟩
      · go_wp2
        go_ret
        exact ⟨by simp [take_all hk hlt HL.out HT.out], (by repeat (first | with_reducible exact Qt.refl _ | refine Qt.drewN ?_ _ | assumption | refine Qt.trans ?_ (by assumption)))⟩
  · have hl2 : ((xs.length : Int) == (ys.length : Int)) = false := by simp; omega
    have hl3 : ((xs.length : Int) != (ys.length : Int)) = true := by simp; omega
    have hne : xs ≠ ys := fun h => hl (by rw [h])
    have HN := Lib.hid hne
    clear hne hl
    go_enter Try.func15, Try.ntmps15
    go_wp2
    go_ret
    exact ⟨by simp [HN.out], Qt.refl _⟩

theorem ints_any (va vb : Value) (xs ys : List Int) (w : World) (ha : RI .i64 w va xs) (hb : RI .i64 w vb ys) :
    Calls Try.prog 15 #[va, vb] w fun e w' => e = .returned (.bool (decide (xs = ys))) ∧ Ext w w' :=
  (ints_q va vb xs ys w ha hb).mono fun _ _ ⟨he, hq⟩ => ⟨he, hq.ext⟩
theorem ints_same (va vb : Value) (xs : List Int) (w : World) (ha : RI .i64 w va xs) (hb : RI .i64 w vb xs) :
    Calls Try.prog 15 #[va, vb] w fun e w' => e = .returned (.bool true) ∧ Ext w w' :=
  (ints_any va vb xs xs w ha hb).mono fun e w' h => by simpa using h
set_option maxHeartbeats 800000 in
theorem radd_any (s sig : Int) (w : World) (h : U64 s) : Calls Try.prog 12 #[.int .u64 s, .int .i64 sig] w fun e w' => e = .returned (.int .u64 (addL s sig)) ∧ Ext w w' := by
  have hO := fun w' => of_any sig w'
  have HH := Lib.hid fun w' => rhas_any s sig w' h
  have hb := addL_bd h sig
  generalize rowL sig = rr at *
  obtain ⟨n, nm, d, wi⟩ := rr
  simp only [rowV] at hO
  cases hs : isL sig
  · have ha : addL s sig = s := by unfold addL; rw [hs]; rfl
    rw [ha]
    rw [hs] at hO
    have HO := Lib.hid hO
    clear hO ha hb hs
    go_enter Try.func12, Try.ntmps12
    go_wp2_with ((go_at_call 35; (with_reducible refine (HO.out _).mono ?_); rintro e w1 ⟨rfl, E1⟩))
    go_ret
    exact ⟨rfl, (by repeat (first | with_reducible exact Ext.refl _ | refine Ext.drewN ?_ _ | refine Ext.drew ?_ | refine Ext.alloc ?_ _ | assumption | (refine Below.trans ?_ (by assumption)) | (refine Ext.trans ?_ (by assumption)) | (refine Below.trans ?_ (Below.mono (by assumption) (by omega)))))⟩
  · rw [hs] at hO
    have HO := Lib.hid hO
    have HB := Lib.hid fun w' => rbit_any sig w' hs
    have hh : hasL s sig = onL s sig := by unfold hasL; rw [hs]; rfl
    rw [hh] at HH
    have ha : addL s sig = if onL s sig then s else s + pw sig := by unfold addL; rw [hs]; rfl
    rw [ha] at hb ⊢
    generalize onL s sig = on at *
    clear hO hh hs ha
    cases on
    · have hw : IntKind.u64.wrap (s + pw sig) = s + pw sig := by rw [IntKind.wrap_u64]; simp at hb; omega
      clear hb
      go_enter Try.func12, Try.ntmps12
      go_wp2_with (first | ((go_at_call 35; (with_reducible refine (HO.out _).mono ?_); rintro e w1 ⟨rfl, E1⟩)) | ((go_at_call 10; (with_reducible refine (HH.out _).mono ?_); rintro e w2 ⟨rfl, E2⟩)) | ((go_at_call 36; (with_reducible refine (HB.out _).mono ?_); rintro e w3 ⟨rfl, E3⟩)))
      go_ret
      exact ⟨by simp, (by repeat (first | with_reducible exact Ext.refl _ | refine Ext.drewN ?_ _ | refine Ext.drew ?_ | refine Ext.alloc ?_ _ | assumption | (refine Below.trans ?_ (by assumption)) | (refine Ext.trans ?_ (by assumption)) | (refine Below.trans ?_ (Below.mono (by assumption) (by omega)))))⟩
    · clear hb
      go_enter Try.func12, Try.ntmps12
      go_wp2_with (first | ((go_at_call 35; (with_reducible refine (HO.out _).mono ?_); rintro e w1 ⟨rfl, E1⟩)) | ((go_at_call 10; (with_reducible refine (HH.out _).mono ?_); rintro e w2 ⟨rfl, E2⟩)))
      go_ret
      exact ⟨by simp, (by repeat (first | with_reducible exact Ext.refl _ | refine Ext.drewN ?_ _ | refine Ext.drew ?_ | refine Ext.alloc ?_ _ | assumption | (refine Below.trans ?_ (by assumption)) | (refine Ext.trans ?_ (by assumption)) | (refine Below.trans ?_ (Below.mono (by assumption) (by omega)))))⟩
set_option maxHeartbeats 800000 in
theorem rdel_any (s sig : Int) (w : World) (h : U64 s) : Calls Try.prog 14 #[.int .u64 s, .int .i64 sig] w fun e w' => e = .returned (.int .u64 (delL s sig)) ∧ Ext w w' := by
  have HH := Lib.hid fun w' => rhas_any s sig w' h
  have hb := delL_bd h sig
  cases hs : hasL s sig
  · have ha : delL s sig = s := by
      unfold delL
      by_cases hi : isL sig = true
      · rw [if_pos hi]
        refine fset_own ?_
        unfold hasL at hs
        rw [hi, Bool.true_and] at hs
        exact hs
      · rw [if_neg hi]
    rw [ha]
    rw [hs] at HH
    clear ha hb hs
    go_enter Try.func14, Try.ntmps14
    go_wp2_with ((go_at_call 10; (with_reducible refine (HH.out _).mono ?_); rintro e w2 ⟨rfl, E2⟩))
    go_ret
    exact ⟨rfl, (by repeat (first | with_reducible exact Ext.refl _ | refine Ext.drewN ?_ _ | refine Ext.drew ?_ | refine Ext.alloc ?_ _ | assumption | (refine Below.trans ?_ (by assumption)) | (refine Ext.trans ?_ (by assumption)) | (refine Below.trans ?_ (Below.mono (by assumption) (by omega)))))⟩
  · rw [hs] at HH
    have hi : isL sig = true := by unfold hasL at hs; simp at hs; exact hs.1
    have ho : onL s sig = true := by unfold hasL at hs; simp at hs; exact hs.2
    have HB := Lib.hid fun w' => rbit_any sig w' hi
    have ha : delL s sig = s - pw sig := by unfold delL fset; rw [hi, ho]; rfl
    rw [ha] at hb ⊢
    have hw : IntKind.u64.wrap (s - pw sig) = s - pw sig := by rw [IntKind.wrap_u64]; omega
    clear hb hs hi ho ha
    go_enter Try.func14, Try.ntmps14
    go_wp2_with (first | ((go_at_call 10; (with_reducible refine (HH.out _).mono ?_); rintro e w2 ⟨rfl, E2⟩)) | ((go_at_call 36; (with_reducible refine (HB.out _).mono ?_); rintro e w3 ⟨rfl, E3⟩)))
    go_ret
    exact ⟨by simp, (by repeat (first | with_reducible exact Ext.refl _ | refine Ext.drewN ?_ _ | refine Ext.drew ?_ | refine Ext.alloc ?_ _ | assumption | (refine Below.trans ?_ (by assumption)) | (refine Ext.trans ?_ (by assumption)) | (refine Below.trans ?_ (Below.mono (by assumption) (by omega)))))⟩
theorem fold_add_bd : ∀ (l : List Int) {s : Int}, U64 s → U64 (l.foldl addL s)
  | [], _, h => h
  | x :: l, _, h => fold_add_bd l (addL_bd h x)
theorem fold_del_bd : ∀ (l : List Int) {s : Int}, U64 s → U64 (l.foldl delL s)
  | [], _, h => h
  | x :: l, _, h => fold_del_bd l (delL_bd h x)
theorem fold_take {f : Int → Int → Int} {l : List Int} {k : Nat} {x s : Int} (h : l[k]? = some x) : (l.take (k + 1)).foldl f s = f ((l.take k).foldl f s) x := by
  simp [List.take_add_one, h, List.foldl_append]
set_option maxHeartbeats 800000 in
theorem all_add (s : Int) (v : Value) (l : List Int) (w : World) (hs : U64 s) (hl : RI .i64 w v l) : Calls Try.prog 38 #[.int .u64 s, .func (.func 11) #[] #[], v] w fun e w' => e = .returned (.int .u64 (l.foldl addL s)) ∧ Ext w w' := by
  obtain ⟨Ad, c, rfl, hc1, hc2⟩ := hl.shape
  have HL := Lib.hid hl
  have HS := Lib.hid hs
  clear hl hs
  have hlen : l.length ≤ 9223372036854775807 := by omega
  go_enter Try.func38, Try.ntmps38
  go_wp2
  go_loopw [0, 11] (fun a i wr => ∃ k : Nat, k ≤ l.length ∧ a = .int .u64 ((l.take k).foldl addL s) ∧ i = .int .i64 k ∧ Ext w wr) (fun _ i _ => l.length - (intOf i).toNat)
  case atStart => exact ⟨0, by omega, by simp, rfl, (by repeat (first | with_reducible exact Ext.refl _ | refine Ext.drewN ?_ _ | refine Ext.drew ?_ | refine Ext.alloc ?_ _ | assumption | (refine Below.trans ?_ (by assumption)) | (refine Ext.trans ?_ (by assumption)) | (refine Below.trans ?_ (Below.mono (by assumption) (by omega)))))⟩
  case round =>
    obtain ⟨k, hk, rfl, rfl, hE⟩ := hrel
    by_cases hlt : k < l.length
    · have Ha := RdN.ext HL.out hE
      obtain ⟨b, off, x, rfl, hc1, hx⟩ := RdN.icell Ha hlt
      have k1 : (k : Int) < (l.length : Int) := by omega
      have k2 : (0 : Int) ≤ (k : Int) := by omega
      have k3 : IntKind.i64.wrap ((k : Int) + 1) = (k : Int) + 1 := IntWalk.i64_in _ (by omega)
      have hbd := fold_add_bd (l.take k) HS.out
      have hst := fold_take (f := addL) (s := s) hx.out
      have HST := Lib.hid hst
      have HC := Lib.hid fun w' => add_any ((l.take k).foldl addL s) x w' hbd
      clear hbd hst Ha
      generalize (l.take k).foldl addL s = z at *
      go_wp2_with ((go_at_call 11; (with_reducible refine (HC.out _).mono ?_); rintro e w1 ⟨rfl, E1⟩))
      go_roundw
      case rel => exact ⟨k + 1, by omega, by rw [HST.out], by first | rfl | go_num | simp, (by repeat (first | with_reducible exact Ext.refl _ | refine Ext.drewN ?_ _ | refine Ext.drew ?_ | refine Ext.alloc ?_ _ | assumption | (refine Below.trans ?_ (by assumption)) | (refine Ext.trans ?_ (by assumption)) | (refine Below.trans ?_ (Below.mono (by assumption) (by omega)))))⟩
      case measure => simp [intOf]; omega
    · obtain rfl : k = l.length := by omega
      have ht : l.take l.length = l := List.take_length
      rw [ht]
      go_wp2
      go_ret
      exact ⟨rfl, hE⟩
set_option maxHeartbeats 800000 in
theorem all_del (s : Int) (v : Value) (l : List Int) (w : World) (hs : U64 s) (hl : RI .i64 w v l) : Calls Try.prog 38 #[.int .u64 s, .func (.func 13) #[] #[], v] w fun e w' => e = .returned (.int .u64 (l.foldl delL s)) ∧ Ext w w' := by
  obtain ⟨Ad, c, rfl, hc1, hc2⟩ := hl.shape
  have HL := Lib.hid hl
  have HS := Lib.hid hs
  clear hl hs
  have hlen : l.length ≤ 9223372036854775807 := by omega
  go_enter Try.func38, Try.ntmps38
  go_wp2
  go_loopw [0, 11] (fun a i wr => ∃ k : Nat, k ≤ l.length ∧ a = .int .u64 ((l.take k).foldl delL s) ∧ i = .int .i64 k ∧ Ext w wr) (fun _ i _ => l.length - (intOf i).toNat)
  case atStart => exact ⟨0, by omega, by simp, rfl, (by repeat (first | with_reducible exact Ext.refl _ | refine Ext.drewN ?_ _ | refine Ext.drew ?_ | refine Ext.alloc ?_ _ | assumption | (refine Below.trans ?_ (by assumption)) | (refine Ext.trans ?_ (by assumption)) | (refine Below.trans ?_ (Below.mono (by assumption) (by omega)))))⟩
  case round =>
    obtain ⟨k, hk, rfl, rfl, hE⟩ := hrel
    by_cases hlt : k < l.length
    · have Ha := RdN.ext HL.out hE
      obtain ⟨b, off, x, rfl, hc1, hx⟩ := RdN.icell Ha hlt
      have k1 : (k : Int) < (l.length : Int) := by omega
      have k2 : (0 : Int) ≤ (k : Int) := by omega
      have k3 : IntKind.i64.wrap ((k : Int) + 1) = (k : Int) + 1 := IntWalk.i64_in _ (by omega)
      have hbd := fold_del_bd (l.take k) HS.out
      have hst := fold_take (f := delL) (s := s) hx.out
      have HST := Lib.hid hst
      have HC := Lib.hid fun w' => del_any ((l.take k).foldl delL s) x w' hbd
      clear hbd hst Ha
      generalize (l.take k).foldl delL s = z at *
      go_wp2_with ((go_at_call 13; (with_reducible refine (HC.out _).mono ?_); rintro e w1 ⟨rfl, E1⟩))
      go_roundw
      case rel => exact ⟨k + 1, by omega, by rw [HST.out], by first | rfl | go_num | simp, (by repeat (first | with_reducible exact Ext.refl _ | refine Ext.drewN ?_ _ | refine Ext.drew ?_ | refine Ext.alloc ?_ _ | assumption | (refine Below.trans ?_ (by assumption)) | (refine Ext.trans ?_ (by assumption)) | (refine Below.trans ?_ (Below.mono (by assumption) (by omega)))))⟩
      case measure => simp [intOf]; omega
    · obtain rfl : k = l.length := by omega
      have ht : l.take l.length = l := List.take_length
      rw [ht]
      go_wp2
      go_ret
      exact ⟨rfl, hE⟩
def ofL (l : List Int) : Int := l.foldl addL 0
theorem ofL_bd (l : List Int) : U64 (ofL l) := fold_add_bd l ⟨by decide, by decide⟩
set_option maxHeartbeats 800000 in
theorem of_set_any (v : Value) (l : List Int) (w : World) (hl : RI .i64 w v l) : Calls Try.prog 18 #[v] w fun e w' => e = .returned (.int .u64 (ofL l)) ∧ Ext w w' := by
  have HA := Lib.hid fun w' h => all_add 0 v l w' ⟨by decide, by decide⟩ h
  have HL := Lib.hid hl
  have ho : ofL l = l.foldl addL 0 := rfl
  rw [← ho] at HA
  generalize ofL l = r at *
  clear hl ho
  go_enter Try.func18, Try.ntmps18
  go_wp2_with ((go_at_call 38; (with_reducible refine (HA.out _ (RdN.ext HL.out (by repeat (first | with_reducible exact Ext.refl _ | refine Ext.drewN ?_ _ | refine Ext.drew ?_ | refine Ext.alloc ?_ _ | assumption | (refine Below.trans ?_ (by assumption)) | (refine Ext.trans ?_ (by assumption)) | (refine Below.trans ?_ (Below.mono (by assumption) (by omega))))))).mono ?_); rintro e w1 ⟨rfl, E1⟩))
  go_ret
  exact ⟨rfl, (by repeat (first | with_reducible exact Ext.refl _ | refine Ext.drewN ?_ _ | refine Ext.drew ?_ | refine Ext.alloc ?_ _ | assumption | (refine Below.trans ?_ (by assumption)) | (refine Ext.trans ?_ (by assumption)) | (refine Below.trans ?_ (Below.mono (by assumption) (by omega)))))⟩
end Go.Proofs.Yteandiddfokfjaa
