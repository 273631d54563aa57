/- Names and numbers are told of one another, sets and lists too, walked. Conditions: the set has 64 bits. -/
import Derived.Test.YteandiddfokfjaaQ18
namespace Go.Proofs.Yteandiddfokfjaa
open Go.RowKit Go.Kb Go.Kb.Bits

def nameS (sig : Int) : ByteArray := if isL sig then nameB sig.toNat else ⟨#[]⟩
theorem num_name (sig : Int) : numL (nameS sig) = (if isL sig then sig else 0, isL sig) := by
  unfold nameS
  cases hs : isL sig
  · simp only [Bool.false_eq_true, if_false]
    decide +kernel
  · have hb := isL_bd hs
    have : ∀ k : Nat, k < 29 → isL (k : Int) = true → numL (nameB k) = ((k : Int), true) := by decide +kernel
    obtain ⟨k, rfl⟩ := Int.eq_ofNat_of_zero_le (show 0 ≤ sig by omega)
    simp only [if_true]
    exact this k (by omega) hs
theorem list_of_list (s : Int) : listL (ofL (listL s)) = listL s := by
  have h : (fun q => hasL (ofL (listL s)) q) = fun q => hasL s q := funext fun q => hasL_ofList q
  unfold listL at h ⊢
  exact congrArg (fun p => sigs29.filter p) h
theorem filter_one {p : Int → Bool} {a : Int} (hp : p a = false) : ∀ {l : List Int}, l.Nodup → a ∈ l → (l.filter fun q => if q = a then true else p q).length = (l.filter p).length + 1
  | [], _, h => by simp at h
  | x :: l, hn, h => by
    rw [List.nodup_cons] at hn
    by_cases hx : x = a
    · subst hx
      have e : (l.filter fun q => if q = x then true else p q) = l.filter p := List.filter_congr fun q hq => by
        rw [if_neg (by rintro rfl; exact hn.1 hq)]
      rw [List.filter_cons_of_pos (by simp), List.filter_cons_of_neg (by rw [hp]; decide), e]
      rfl
    · have ih := filter_one hp hn.2 ((List.mem_cons.1 h).resolve_left fun e => hx e.symm)
      rw [List.filter_cons, List.filter_cons, if_neg hx]
      cases p x
      · simpa using ih
      · simp only [if_true, List.length_cons, ih]
theorem list_add {s sig : Int} (h : U64 s) : (listL (addL s sig)).length = (listL s).length + if isL sig && !hasL s sig then 1 else 0 := by
  have e : listL (addL s sig) = sigs29.filter fun q => if isL sig = true ∧ q = sig then true else hasL s q := by
    unfold listL
    congr 1
    funext q
    exact hasL_add h sig q
  rw [e]
  cases hi : isL sig
  · have : (fun q => if (false = true) ∧ q = sig then true else hasL s q) = fun q => hasL s q := by funext q; rw [if_neg (fun h => by cases h.1)]
    rw [this]
    rfl
  · cases hh : hasL s sig
    · have hb := isL_bd hi
      have e2 : (fun q => if (true = true) ∧ q = sig then true else hasL s q) = fun q => if q = sig then true else hasL s q := by funext q; simp
      rw [e2]
      have hm : sig ∈ sigs29 := by
        unfold sigs29
        rw [List.mem_map]
        exact ⟨sig.toNat, by simp; omega, by omega⟩
      rw [filter_one hh (by decide) hm]
      rfl
    · have e2 : (fun q => if (true = true) ∧ q = sig then true else hasL s q) = fun q => hasL s q := by
        funext q
        by_cases hq : q = sig
        · rw [if_pos ⟨rfl, hq⟩, hq, hh]
        · rw [if_neg (fun h => hq h.2)]
      rw [e2]
      rfl
theorem list_rise (s : Int) {j : Nat} {x y : Int} (hx : (listL s)[j]? = some x) (hy : (listL s)[j + 1]? = some y) : x < y := by
  have hp : (listL s).Pairwise (· < ·) := List.Pairwise.filter _ (by decide)
  obtain ⟨h1, rfl⟩ := List.getElem?_eq_some_iff.1 hx
  obtain ⟨h2, rfl⟩ := List.getElem?_eq_some_iff.1 hy
  exact List.pairwise_iff_getElem.1 hp j (j + 1) h1 h2 (by omega)
set_option maxRecDepth 100000 in
set_option maxHeartbeats 3000000 in
theorem sigsetBack_walk (s sig other : Int) (w : World) (hs : U64 s) :
    Calls Try.prog 6 #[.int .u64 s, .int .i64 sig, .int .i64 other] w fun e w' => e = .returned (.bool true) ∧ Ext w w' := by
  have f1 := fun w' => name_any sig w'
  have hnm : (if isL sig then nameB sig.toNat else ⟨#[]⟩) = nameS sig := rfl
  rw [hnm] at f1
  have f2 := fun w' => number_any (nameS sig) w'
  rw [num_name] at f2
  simp only at f2
  have f3 := fun w' => add_any s sig w' hs
  have f4 := fun w' => del_any s sig w' hs
  have f5 := fun w' => has_any (addL s sig) sig w' (addL_bd hs sig)
  have f6 := fun w' => has_any (delL s sig) sig w' (delL_bd hs sig)
  have f7 := fun w' => has_any (addL s sig) other w' (addL_bd hs sig)
  have f8 := fun w' => has_any (delL s sig) other w' (delL_bd hs sig)
  have f9 := fun q w' => has_any s q w' hs
  have h5 : hasL (addL s sig) sig = isL sig := by
    rw [hasL_add hs]
    cases hi : isL sig
    · rw [if_neg (fun h => by cases h.1)]; unfold hasL; rw [hi]; rfl
    · rw [if_pos ⟨rfl, rfl⟩]
  have h6 : hasL (delL s sig) sig = false := by rw [hasL_del hs, if_pos rfl]
  have h7 : ¬ sig = other → hasL (addL s sig) other = hasL s other := fun h => by rw [hasL_add hs, if_neg (fun e => h e.2.symm)]
  have h8 : ¬ sig = other → hasL (delL s sig) other = hasL s other := fun h => by rw [hasL_del hs, if_neg (fun e => h e.symm)]
  rw [h5] at f5
  rw [h6] at f6
  have f10 := fun w' => list_any s w' hs
  have f11 := fun v w' h => of_set_any v (listL s) w' h
  have f12 := fun w' => list_any (ofL (listL s)) w' (ofL_bd _)
  rw [list_of_list] at f12
  have f13 := fun w' => list_any (addL s sig) w' (addL_bd hs sig)
  have hlen := list_add (sig := sig) hs
  have hl29 : (listL s).length ≤ 29 := listK_len s 29
  have hly29 : (listL (addL s sig)).length ≤ 29 := listK_len _ 29
  have hmem : ∀ q, q ∈ listL s → hasL s q = true := fun q h => mem_listL.1 h
  have hrise := fun j x y => list_rise s (j := j) (x := x) (y := y)
  have f14 := fun w' => has_any s sig w' hs
  generalize hasL (addL s sig) other = ho1 at *
  generalize hasL (delL s sig) other = ho2 at *
  generalize nameS sig = nm at *
  generalize ofL (listL s) = ofl at *
  generalize listL (addL s sig) = ly at *
  generalize addL s sig = y at *
  generalize delL s sig = z at *
  generalize hlx : listL s = lx at *
  have HS := Lib.hid fun q => hmem q
  have HRI := Lib.hid hrise
  have F1 := Lib.hid f1
  have F2 := Lib.hid f2
  have F3 := Lib.hid f3
  have F4 := Lib.hid f4
  have F5 := Lib.hid f5
  have F6 := Lib.hid f6
  have F7 := Lib.hid f7
  have F8 := Lib.hid f8
  have F9 := Lib.hid f9
  have F10 := Lib.hid f10
  have F11 := Lib.hid f11
  have F12 := Lib.hid f12
  have F13 := Lib.hid f13
  have F14 := Lib.hid f14
  have H7 := Lib.hid h7
  have H8 := Lib.hid h8
  have HLEN := Lib.hid hlen
  clear f1 f2 f3 f4 f5 f6 f7 f8 f9 f10 f11 f12 f13 f14 h5 h6 h7 h8 hlen hmem hrise hnm hlx hs
  generalize hasL s sig = hx at *
  generalize hil : isL sig = il at *
  clear hil
  cases il
  · simp only [Bool.false_eq_true, if_false] at F2
    go_enter Try.func6, Try.ntmps6
    (go_wp2_with fail; refine (alive_any _).mono ?_; rintro e w1 ⟨rfl, E1⟩)
    go_wp2_with fail
    (with_reducible refine (F1.out _).mono ?_); rintro e w2 ⟨rfl, E2⟩
    go_wp2_with fail
    (with_reducible refine (F2.out _).mono ?_); rintro e w3 ⟨rfl, E3⟩
    go_wp2_with fail
    (with_reducible refine (F3.out _).mono ?_); rintro e w4 ⟨rfl, E4⟩
    go_wp2_with fail
    (with_reducible refine (F4.out _).mono ?_); rintro e w5 ⟨rfl, E5⟩
    go_wp2_with fail
    (with_reducible refine (F5.out _).mono ?_); rintro e w6 ⟨rfl, E6⟩
    go_wp2_with fail
    (with_reducible refine (F6.out _).mono ?_); rintro e w7 ⟨rfl, E7⟩
    have E07 : Ext w w7 := (by repeat (first | with_reducible exact Ext.refl _ | refine Ext.drewN ?_ _ | refine Ext.drew ?_ | refine Ext.alloc ?_ _ | assumption | (refine Below.trans ?_ (by assumption)) | (refine Ext.trans ?_ (by assumption)) | (refine Below.trans ?_ (Below.mono (by assumption) (by omega)))))
    clear E1 E2 E3 E4 E5 E6 E7
    by_cases hso : sig = other
    · subst hso
      go_wp2_with fail
      (with_reducible refine (F10.out _).mono ?_); rintro e w9 ⟨A9, c9, rfl, r9, E9⟩
      have E09 : Ext w w9 := E07.trans (by repeat (first | with_reducible exact Ext.refl _ | refine Ext.drewN ?_ _ | refine Ext.drew ?_ | refine Ext.alloc ?_ _ | assumption | (refine Below.trans ?_ (by assumption)) | (refine Ext.trans ?_ (by assumption)) | (refine Below.trans ?_ (Below.mono (by assumption) (by omega)))))
      have R9 := Lib.hid r9
      clear r9 E9 E07
      go_wp2
      go_loopw [84] (fun i wr => ∃ k : Nat, k ≤ lx.length ∧ i = .int .i64 k ∧ Ext w9 wr) (fun i _ => lx.length - (intOf i).toNat)
      case atStart => exact ⟨0, by omega, rfl, Ext.refl _⟩
      case round =>
        obtain ⟨k, hk, rfl, hE⟩ := hrel
        by_cases hlt : k < lx.length
        · have k1 : (k : Int) < (lx.length : Int) := by omega
          have k2 : (0 : Int) ≤ (k : Int) := by omega
          have k3 : IntKind.i64.wrap ((k : Int) + 1) = (k : Int) + 1 := IntWalk.i64_in _ (by omega)
          obtain ⟨bb, off, x, rfl, hc, hxx⟩ := RdN.icell (RdN.ext R9.out hE) hlt
          have hin : x ∈ lx := List.mem_of_getElem? hxx.out
          have F9x := Lib.hid fun w' => F9.out x w'
          rw [HS.out x hin] at F9x
          by_cases hk0 : k = 0
          · have k0 : ¬ (0 : Int) < (k : Int) := by omega
            clear hk0
            go_wp2_with ((go_at_call 9; (with_reducible refine (F9x.out _).mono ?_); rintro e w10 ⟨rfl, E10⟩))
            go_roundw
            case rel => exact ⟨k + 1, by omega, by first | rfl | go_num | simp, hE.trans E10⟩
            case measure => simp [intOf]; omega
          · obtain ⟨j, hj⟩ : ∃ j, k = j + 1 := ⟨k - 1, by omega⟩
            obtain ⟨bb2, off2, u, hA2, hc2, hxu⟩ := RdN.icell (RdN.ext R9.out hE) (show j < lx.length by omega)
            simp only [Option.some.injEq, Addr.mk.injEq, and_true] at hA2
            obtain ⟨rfl, rfl⟩ := hA2
            have hux := HRI.out j u x hxu.out (by rw [← hj]; exact hxx.out)
            have k0 : (0 : Int) < (k : Int) := by omega
            have q1 : wrap64 ((k : Int) - 1) = (j : Int) := by rw [IntWalk.wrap64_in _ (by omega)]; omega
            have q2 : IntKind.i64.wrap ((k : Int) - 1) = (j : Int) := by rw [IntWalk.i64_in _ (by omega)]; omega
            have q3 : (k : Int) - 1 = (j : Int) := by omega
            have j1 : (j : Int) < (lx.length : Int) := by omega
            have j2 : (0 : Int) ≤ (j : Int) := by omega
            have nux : ¬ x ≤ u := by omega
            clear hk0 hj hux
            go_wp2_with fail
            (with_reducible refine (F9x.out _).mono ?_); rintro e w10 ⟨rfl, E10⟩
            have hc := cell_ext E10 hc
            have hc2 := cell_ext E10 hc2
            go_wp2
            go_roundw
            case rel => exact ⟨k + 1, by omega, by first | rfl | go_num | simp, hE.trans E10⟩
            case measure => simp [intOf]; omega
        · obtain rfl : k = lx.length := by omega
          have R9 := Lib.hid (RdN.ext R9.out hE)
          go_wp2_with fail
          (with_reducible refine (F11.out _ _ R9.out).mono ?_); rintro e w11 ⟨rfl, E11⟩
          go_wp2_with fail
          (with_reducible refine (F12.out _).mono ?_); rintro e w12 ⟨A12, c12, rfl, r12, E12⟩
          have R12 := Lib.hid r12
          have R9 := Lib.hid (RdN.ext R9.out (E11.trans E12))
          clear r12
          go_wp2_with fail
          (with_reducible refine (ints_same _ _ lx _ R12.out R9.out).mono ?_); rintro e w13 ⟨rfl, E13⟩
          have E013 : Ext w w13 := (E09.trans hE).trans (by repeat (first | with_reducible exact Ext.refl _ | refine Ext.drewN ?_ _ | refine Ext.drew ?_ | refine Ext.alloc ?_ _ | assumption | (refine Below.trans ?_ (by assumption)) | (refine Ext.trans ?_ (by assumption)) | (refine Below.trans ?_ (Below.mono (by assumption) (by omega)))))
          clear E11 E12 E13
          have m1 : wrap64 ((lx.length : Int) + 1) = (lx.length : Int) + 1 := IntWalk.wrap64_in _ (by omega)
          go_wp2_with fail
          (with_reducible refine (F13.out _).mono ?_); rintro e w14 ⟨A14, c14, rfl, r14, E14⟩
          have hL := HLEN.out
          clear r14
          have e1 : ((ly.length : Int) == (lx.length : Int) + 1) = false := by rw [beq_eq_false_iff_ne]; simp at hL; omega
          go_wp2
          go_ret
          exact ⟨by simp; omega, Ext.trans E013 (by repeat (first | with_reducible exact Ext.refl _ | refine Ext.drewN ?_ _ | refine Ext.drew ?_ | refine Ext.alloc ?_ _ | assumption | (refine Below.trans ?_ (by assumption)) | (refine Ext.trans ?_ (by assumption)) | (refine Below.trans ?_ (Below.mono (by assumption) (by omega)))))⟩
    · have h7 := H7.out hso
      have h8 := H8.out hso
      have bso : (sig != other) = true := by simpa using hso
      have F9o := Lib.hid fun w' => F9.out other w'
      rw [h7] at F7
      rw [h8] at F8
      generalize hasL s other = ho at *
      have bho : (ho != ho) = false := by simp
      clear h7 h8 H7 H8 hso
      go_wp2_with fail
      (with_reducible refine (F7.out _).mono ?_); rintro e w8a ⟨rfl, E8a⟩
      go_wp2_with fail
      (with_reducible refine (F9o.out _).mono ?_); rintro e w8b ⟨rfl, E8b⟩
      go_wp2_with fail
      (with_reducible refine (F8.out _).mono ?_); rintro e w8c ⟨rfl, E8c⟩
      go_wp2_with fail
      (with_reducible refine (F9o.out _).mono ?_); rintro e w8 ⟨rfl, E8⟩
      go_wp2_with fail
      (with_reducible refine (F10.out _).mono ?_); rintro e w9 ⟨A9, c9, rfl, r9, E9⟩
      have E09 : Ext w w9 := E07.trans (by repeat (first | with_reducible exact Ext.refl _ | refine Ext.drewN ?_ _ | refine Ext.drew ?_ | refine Ext.alloc ?_ _ | assumption | (refine Below.trans ?_ (by assumption)) | (refine Ext.trans ?_ (by assumption)) | (refine Below.trans ?_ (Below.mono (by assumption) (by omega)))))
      clear E8a E8b E8c E8
      have R9 := Lib.hid r9
      clear r9 E9 E07
      go_wp2
      go_loopw [84] (fun i wr => ∃ k : Nat, k ≤ lx.length ∧ i = .int .i64 k ∧ Ext w9 wr) (fun i _ => lx.length - (intOf i).toNat)
      case atStart => exact ⟨0, by omega, rfl, Ext.refl _⟩
      case round =>
        obtain ⟨k, hk, rfl, hE⟩ := hrel
        by_cases hlt : k < lx.length
        · have k1 : (k : Int) < (lx.length : Int) := by omega
          have k2 : (0 : Int) ≤ (k : Int) := by omega
          have k3 : IntKind.i64.wrap ((k : Int) + 1) = (k : Int) + 1 := IntWalk.i64_in _ (by omega)
          obtain ⟨bb, off, x, rfl, hc, hxx⟩ := RdN.icell (RdN.ext R9.out hE) hlt
          have hin : x ∈ lx := List.mem_of_getElem? hxx.out
          have F9x := Lib.hid fun w' => F9.out x w'
          rw [HS.out x hin] at F9x
          by_cases hk0 : k = 0
          · have k0 : ¬ (0 : Int) < (k : Int) := by omega
            clear hk0
            go_wp2_with ((go_at_call 9; (with_reducible refine (F9x.out _).mono ?_); rintro e w10 ⟨rfl, E10⟩))
            go_roundw
            case rel => exact ⟨k + 1, by omega, by first | rfl | go_num | simp, hE.trans E10⟩
            case measure => simp [intOf]; omega
          · obtain ⟨j, hj⟩ : ∃ j, k = j + 1 := ⟨k - 1, by omega⟩
            obtain ⟨bb2, off2, u, hA2, hc2, hxu⟩ := RdN.icell (RdN.ext R9.out hE) (show j < lx.length by omega)
            simp only [Option.some.injEq, Addr.mk.injEq, and_true] at hA2
            obtain ⟨rfl, rfl⟩ := hA2
            have hux := HRI.out j u x hxu.out (by rw [← hj]; exact hxx.out)
            have k0 : (0 : Int) < (k : Int) := by omega
            have q1 : wrap64 ((k : Int) - 1) = (j : Int) := by rw [IntWalk.wrap64_in _ (by omega)]; omega
            have q2 : IntKind.i64.wrap ((k : Int) - 1) = (j : Int) := by rw [IntWalk.i64_in _ (by omega)]; omega
            have q3 : (k : Int) - 1 = (j : Int) := by omega
            have j1 : (j : Int) < (lx.length : Int) := by omega
            have j2 : (0 : Int) ≤ (j : Int) := by omega
            have nux : ¬ x ≤ u := by omega
            clear hk0 hj hux
            go_wp2_with fail
            (with_reducible refine (F9x.out _).mono ?_); rintro e w10 ⟨rfl, E10⟩
            have hc := cell_ext E10 hc
            have hc2 := cell_ext E10 hc2
            go_wp2
            go_roundw
            case rel => exact ⟨k + 1, by omega, by first | rfl | go_num | simp, hE.trans E10⟩
            case measure => simp [intOf]; omega
        · obtain rfl : k = lx.length := by omega
          have R9 := Lib.hid (RdN.ext R9.out hE)
          go_wp2_with fail
          (with_reducible refine (F11.out _ _ R9.out).mono ?_); rintro e w11 ⟨rfl, E11⟩
          go_wp2_with fail
          (with_reducible refine (F12.out _).mono ?_); rintro e w12 ⟨A12, c12, rfl, r12, E12⟩
          have R12 := Lib.hid r12
          have R9 := Lib.hid (RdN.ext R9.out (E11.trans E12))
          clear r12
          go_wp2_with fail
          (with_reducible refine (ints_same _ _ lx _ R12.out R9.out).mono ?_); rintro e w13 ⟨rfl, E13⟩
          have E013 : Ext w w13 := (E09.trans hE).trans (by repeat (first | with_reducible exact Ext.refl _ | refine Ext.drewN ?_ _ | refine Ext.drew ?_ | refine Ext.alloc ?_ _ | assumption | (refine Below.trans ?_ (by assumption)) | (refine Ext.trans ?_ (by assumption)) | (refine Below.trans ?_ (Below.mono (by assumption) (by omega)))))
          clear E11 E12 E13
          have m1 : wrap64 ((lx.length : Int) + 1) = (lx.length : Int) + 1 := IntWalk.wrap64_in _ (by omega)
          go_wp2_with fail
          (with_reducible refine (F13.out _).mono ?_); rintro e w14 ⟨A14, c14, rfl, r14, E14⟩
          have hL := HLEN.out
          clear r14
          have e1 : ((ly.length : Int) == (lx.length : Int) + 1) = false := by rw [beq_eq_false_iff_ne]; simp at hL; omega
          go_wp2
          go_ret
          exact ⟨by simp; omega, Ext.trans E013 (by repeat (first | with_reducible exact Ext.refl _ | refine Ext.drewN ?_ _ | refine Ext.drew ?_ | refine Ext.alloc ?_ _ | assumption | (refine Below.trans ?_ (by assumption)) | (refine Ext.trans ?_ (by assumption)) | (refine Below.trans ?_ (Below.mono (by assumption) (by omega)))))⟩
  · simp only [if_true] at F2
    go_enter Try.func6, Try.ntmps6
    (go_wp2_with fail; refine (alive_any _).mono ?_; rintro e w1 ⟨rfl, E1⟩)
    go_wp2_with fail
    (with_reducible refine (F1.out _).mono ?_); rintro e w2 ⟨rfl, E2⟩
    go_wp2_with fail
    (with_reducible refine (F2.out _).mono ?_); rintro e w3 ⟨rfl, E3⟩
    go_wp2_with fail
    (with_reducible refine (F3.out _).mono ?_); rintro e w4 ⟨rfl, E4⟩
    go_wp2_with fail
    (with_reducible refine (F4.out _).mono ?_); rintro e w5 ⟨rfl, E5⟩
    go_wp2_with fail
    (with_reducible refine (F5.out _).mono ?_); rintro e w6 ⟨rfl, E6⟩
    go_wp2_with fail
    (with_reducible refine (F6.out _).mono ?_); rintro e w7 ⟨rfl, E7⟩
    have E07 : Ext w w7 := (by repeat (first | with_reducible exact Ext.refl _ | refine Ext.drewN ?_ _ | refine Ext.drew ?_ | refine Ext.alloc ?_ _ | assumption | (refine Below.trans ?_ (by assumption)) | (refine Ext.trans ?_ (by assumption)) | (refine Below.trans ?_ (Below.mono (by assumption) (by omega)))))
    clear E1 E2 E3 E4 E5 E6 E7
    by_cases hso : sig = other
    · subst hso
      go_wp2_with fail
      (with_reducible refine (F10.out _).mono ?_); rintro e w9 ⟨A9, c9, rfl, r9, E9⟩
      have E09 : Ext w w9 := E07.trans (by repeat (first | with_reducible exact Ext.refl _ | refine Ext.drewN ?_ _ | refine Ext.drew ?_ | refine Ext.alloc ?_ _ | assumption | (refine Below.trans ?_ (by assumption)) | (refine Ext.trans ?_ (by assumption)) | (refine Below.trans ?_ (Below.mono (by assumption) (by omega)))))
      have R9 := Lib.hid r9
      clear r9 E9 E07
      go_wp2
      go_loopw [84] (fun i wr => ∃ k : Nat, k ≤ lx.length ∧ i = .int .i64 k ∧ Ext w9 wr) (fun i _ => lx.length - (intOf i).toNat)
      case atStart => exact ⟨0, by omega, rfl, Ext.refl _⟩
      case round =>
        obtain ⟨k, hk, rfl, hE⟩ := hrel
        by_cases hlt : k < lx.length
        · have k1 : (k : Int) < (lx.length : Int) := by omega
          have k2 : (0 : Int) ≤ (k : Int) := by omega
          have k3 : IntKind.i64.wrap ((k : Int) + 1) = (k : Int) + 1 := IntWalk.i64_in _ (by omega)
          obtain ⟨bb, off, x, rfl, hc, hxx⟩ := RdN.icell (RdN.ext R9.out hE) hlt
          have hin : x ∈ lx := List.mem_of_getElem? hxx.out
          have F9x := Lib.hid fun w' => F9.out x w'
          rw [HS.out x hin] at F9x
          by_cases hk0 : k = 0
          · have k0 : ¬ (0 : Int) < (k : Int) := by omega
            clear hk0
            go_wp2_with ((go_at_call 9; (with_reducible refine (F9x.out _).mono ?_); rintro e w10 ⟨rfl, E10⟩))
            go_roundw
            case rel => exact ⟨k + 1, by omega, by first | rfl | go_num | simp, hE.trans E10⟩
            case measure => simp [intOf]; omega
          · obtain ⟨j, hj⟩ : ∃ j, k = j + 1 := ⟨k - 1, by omega⟩
            obtain ⟨bb2, off2, u, hA2, hc2, hxu⟩ := RdN.icell (RdN.ext R9.out hE) (show j < lx.length by omega)
            simp only [Option.some.injEq, Addr.mk.injEq, and_true] at hA2
            obtain ⟨rfl, rfl⟩ := hA2
            have hux := HRI.out j u x hxu.out (by rw [← hj]; exact hxx.out)
            have k0 : (0 : Int) < (k : Int) := by omega
            have q1 : wrap64 ((k : Int) - 1) = (j : Int) := by rw [IntWalk.wrap64_in _ (by omega)]; omega
            have q2 : IntKind.i64.wrap ((k : Int) - 1) = (j : Int) := by rw [IntWalk.i64_in _ (by omega)]; omega
            have q3 : (k : Int) - 1 = (j : Int) := by omega
            have j1 : (j : Int) < (lx.length : Int) := by omega
            have j2 : (0 : Int) ≤ (j : Int) := by omega
            have nux : ¬ x ≤ u := by omega
            clear hk0 hj hux
            go_wp2_with fail
            (with_reducible refine (F9x.out _).mono ?_); rintro e w10 ⟨rfl, E10⟩
            have hc := cell_ext E10 hc
            have hc2 := cell_ext E10 hc2
            go_wp2
            go_roundw
            case rel => exact ⟨k + 1, by omega, by first | rfl | go_num | simp, hE.trans E10⟩
            case measure => simp [intOf]; omega
        · obtain rfl : k = lx.length := by omega
          have R9 := Lib.hid (RdN.ext R9.out hE)
          go_wp2_with fail
          (with_reducible refine (F11.out _ _ R9.out).mono ?_); rintro e w11 ⟨rfl, E11⟩
          go_wp2_with fail
          (with_reducible refine (F12.out _).mono ?_); rintro e w12 ⟨A12, c12, rfl, r12, E12⟩
          have R12 := Lib.hid r12
          have R9 := Lib.hid (RdN.ext R9.out (E11.trans E12))
          clear r12
          go_wp2_with fail
          (with_reducible refine (ints_same _ _ lx _ R12.out R9.out).mono ?_); rintro e w13 ⟨rfl, E13⟩
          have E013 : Ext w w13 := (E09.trans hE).trans (by repeat (first | with_reducible exact Ext.refl _ | refine Ext.drewN ?_ _ | refine Ext.drew ?_ | refine Ext.alloc ?_ _ | assumption | (refine Below.trans ?_ (by assumption)) | (refine Ext.trans ?_ (by assumption)) | (refine Below.trans ?_ (Below.mono (by assumption) (by omega)))))
          clear E11 E12 E13
          have m1 : wrap64 ((lx.length : Int) + 1) = (lx.length : Int) + 1 := IntWalk.wrap64_in _ (by omega)
          go_wp2_with fail
          (with_reducible refine (F13.out _).mono ?_); rintro e w14 ⟨A14, c14, rfl, r14, E14⟩
          have hL := HLEN.out
          clear r14
          have e1 : ((ly.length : Int) == (lx.length : Int) + 1) = !hx := by cases hx <;> simp at hL ⊢ <;> omega
          go_wp2_with fail
          all_goals ((with_reducible refine (F14.out _).mono ?_); rintro e w15 ⟨rfl, E15⟩)
          all_goals go_wp2
          all_goals go_ret
          all_goals exact ⟨by first | (simp; done) | (simp; omega), Ext.trans E013 (by repeat (first | with_reducible exact Ext.refl _ | refine Ext.drewN ?_ _ | refine Ext.drew ?_ | refine Ext.alloc ?_ _ | assumption | (refine Below.trans ?_ (by assumption)) | (refine Ext.trans ?_ (by assumption)) | (refine Below.trans ?_ (Below.mono (by assumption) (by omega)))))⟩
    · have h7 := H7.out hso
      have h8 := H8.out hso
      have bso : (sig != other) = true := by simpa using hso
      have F9o := Lib.hid fun w' => F9.out other w'
      rw [h7] at F7
      rw [h8] at F8
      generalize hasL s other = ho at *
      have bho : (ho != ho) = false := by simp
      clear h7 h8 H7 H8 hso
      go_wp2_with fail
      (with_reducible refine (F7.out _).mono ?_); rintro e w8a ⟨rfl, E8a⟩
      go_wp2_with fail
      (with_reducible refine (F9o.out _).mono ?_); rintro e w8b ⟨rfl, E8b⟩
      go_wp2_with fail
      (with_reducible refine (F8.out _).mono ?_); rintro e w8c ⟨rfl, E8c⟩
      go_wp2_with fail
      (with_reducible refine (F9o.out _).mono ?_); rintro e w8 ⟨rfl, E8⟩
      go_wp2_with fail
      (with_reducible refine (F10.out _).mono ?_); rintro e w9 ⟨A9, c9, rfl, r9, E9⟩
      have E09 : Ext w w9 := E07.trans (by repeat (first | with_reducible exact Ext.refl _ | refine Ext.drewN ?_ _ | refine Ext.drew ?_ | refine Ext.alloc ?_ _ | assumption | (refine Below.trans ?_ (by assumption)) | (refine Ext.trans ?_ (by assumption)) | (refine Below.trans ?_ (Below.mono (by assumption) (by omega)))))
      clear E8a E8b E8c E8
      have R9 := Lib.hid r9
      clear r9 E9 E07
      go_wp2
      go_loopw [84] (fun i wr => ∃ k : Nat, k ≤ lx.length ∧ i = .int .i64 k ∧ Ext w9 wr) (fun i _ => lx.length - (intOf i).toNat)
      case atStart => exact ⟨0, by omega, rfl, Ext.refl _⟩
      case round =>
        obtain ⟨k, hk, rfl, hE⟩ := hrel
        by_cases hlt : k < lx.length
        · have k1 : (k : Int) < (lx.length : Int) := by omega
          have k2 : (0 : Int) ≤ (k : Int) := by omega
          have k3 : IntKind.i64.wrap ((k : Int) + 1) = (k : Int) + 1 := IntWalk.i64_in _ (by omega)
          obtain ⟨bb, off, x, rfl, hc, hxx⟩ := RdN.icell (RdN.ext R9.out hE) hlt
          have hin : x ∈ lx := List.mem_of_getElem? hxx.out
          have F9x := Lib.hid fun w' => F9.out x w'
          rw [HS.out x hin] at F9x
          by_cases hk0 : k = 0
          · have k0 : ¬ (0 : Int) < (k : Int) := by omega
            clear hk0
            go_wp2_with ((go_at_call 9; (with_reducible refine (F9x.out _).mono ?_); rintro e w10 ⟨rfl, E10⟩))
            go_roundw
            case rel => exact ⟨k + 1, by omega, by first | rfl | go_num | simp, hE.trans E10⟩
            case measure => simp [intOf]; omega
          · obtain ⟨j, hj⟩ : ∃ j, k = j + 1 := ⟨k - 1, by omega⟩
            obtain ⟨bb2, off2, u, hA2, hc2, hxu⟩ := RdN.icell (RdN.ext R9.out hE) (show j < lx.length by omega)
            simp only [Option.some.injEq, Addr.mk.injEq, and_true] at hA2
            obtain ⟨rfl, rfl⟩ := hA2
            have hux := HRI.out j u x hxu.out (by rw [← hj]; exact hxx.out)
            have k0 : (0 : Int) < (k : Int) := by omega
            have q1 : wrap64 ((k : Int) - 1) = (j : Int) := by rw [IntWalk.wrap64_in _ (by omega)]; omega
            have q2 : IntKind.i64.wrap ((k : Int) - 1) = (j : Int) := by rw [IntWalk.i64_in _ (by omega)]; omega
            have q3 : (k : Int) - 1 = (j : Int) := by omega
            have j1 : (j : Int) < (lx.length : Int) := by omega
            have j2 : (0 : Int) ≤ (j : Int) := by omega
            have nux : ¬ x ≤ u := by omega
            clear hk0 hj hux
            go_wp2_with fail
            (with_reducible refine (F9x.out _).mono ?_); rintro e w10 ⟨rfl, E10⟩
            have hc := cell_ext E10 hc
            have hc2 := cell_ext E10 hc2
            go_wp2
            go_roundw
            case rel => exact ⟨k + 1, by omega, by first | rfl | go_num | simp, hE.trans E10⟩
            case measure => simp [intOf]; omega
        · obtain rfl : k = lx.length := by omega
          have R9 := Lib.hid (RdN.ext R9.out hE)
          go_wp2_with fail
          (with_reducible refine (F11.out _ _ R9.out).mono ?_); rintro e w11 ⟨rfl, E11⟩
          go_wp2_with fail
          (with_reducible refine (F12.out _).mono ?_); rintro e w12 ⟨A12, c12, rfl, r12, E12⟩
          have R12 := Lib.hid r12
          have R9 := Lib.hid (RdN.ext R9.out (E11.trans E12))
          clear r12
          go_wp2_with fail
          (with_reducible refine (ints_same _ _ lx _ R12.out R9.out).mono ?_); rintro e w13 ⟨rfl, E13⟩
          have E013 : Ext w w13 := (E09.trans hE).trans (by repeat (first | with_reducible exact Ext.refl _ | refine Ext.drewN ?_ _ | refine Ext.drew ?_ | refine Ext.alloc ?_ _ | assumption | (refine Below.trans ?_ (by assumption)) | (refine Ext.trans ?_ (by assumption)) | (refine Below.trans ?_ (Below.mono (by assumption) (by omega)))))
          clear E11 E12 E13
          have m1 : wrap64 ((lx.length : Int) + 1) = (lx.length : Int) + 1 := IntWalk.wrap64_in _ (by omega)
          go_wp2_with fail
          (with_reducible refine (F13.out _).mono ?_); rintro e w14 ⟨A14, c14, rfl, r14, E14⟩
          have hL := HLEN.out
          clear r14
          have e1 : ((ly.length : Int) == (lx.length : Int) + 1) = !hx := by cases hx <;> simp at hL ⊢ <;> omega
          go_wp2_with fail
          all_goals ((with_reducible refine (F14.out _).mono ?_); rintro e w15 ⟨rfl, E15⟩)
          all_goals go_wp2
          all_goals go_ret
          all_goals exact ⟨by first | (simp; done) | (simp; omega), Ext.trans E013 (by repeat (first | with_reducible exact Ext.refl _ | refine Ext.drewN ?_ _ | refine Ext.drew ?_ | refine Ext.alloc ?_ _ | assumption | (refine Below.trans ?_ (by assumption)) | (refine Ext.trans ?_ (by assumption)) | (refine Below.trans ?_ (Below.mono (by assumption) (by omega)))))⟩
end Go.Proofs.Yteandiddfokfjaa
