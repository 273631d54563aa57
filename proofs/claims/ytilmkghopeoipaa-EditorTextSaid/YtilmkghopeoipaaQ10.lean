/- The document's line without its last word, by contract. Conditions: the setting is one, bytes are bytes, lengths below 10^8. -/
import Derived.Test.YtilmkghopeoipaaN10
import Derived.Deep.CutBlock
import Derived.Deep.DeepCutAuto
namespace Go.Proofs.Ytilmkghopeoipaa
open Go.RowKit Go.Kb

def sumN (l : List (List Int)) : Nat := (l.map List.length).sum
theorem sumN_snoc (l : List (List Int)) (x : List Int) : sumN (l ++ [x]) = sumN l + x.length := by simp [sumN, List.sum_append]
/-- the units from the last one on; so many are left -/
structure Wd (R : List (List Int)) (wi : Bool) (n : Nat) : Prop where
  le : n ≤ R.length
  eq : dropN false R = sumN (R.take (R.length - n)) + dropN wi (R.drop (R.length - n))
theorem Wd.start (R : List (List Int)) : Wd R false R.length := ⟨Nat.le_refl _, by simp [sumN]⟩
theorem drop_cons {R : List (List Int)} {n : Nat} {x : List Int} (hn : n + 1 ≤ R.length) (hx : R.reverse[n]? = some x) :
    R.drop (R.length - (n + 1)) = x :: R.drop (R.length - n) ∧ R.take (R.length - n) = R.take (R.length - (n + 1)) ++ [x] := by
  rw [List.getElem?_reverse (by omega)] at hx
  have hi : R.length - 1 - n = R.length - (n + 1) := by omega
  rw [hi] at hx
  obtain ⟨hlt, hx2⟩ := List.getElem?_eq_some_iff.1 hx
  have e1 : R.length - n = (R.length - (n + 1)) + 1 := by omega
  refine ⟨?_, ?_⟩
  · rw [List.drop_eq_getElem_cons hlt, hx2, e1]
  · rw [e1, List.take_add_one, hx]; rfl
theorem Wd.blank {R : List (List Int)} {n : Nat} {x : List Int} (h : Wd R false (n + 1)) (hx : R.reverse[n]? = some x) (hb : blankL x = true) : Wd R false n := by
  obtain ⟨h1, h2⟩ := drop_cons h.le hx
  refine ⟨by have := h.le; omega, ?_⟩
  rw [h.eq, h1, h2, sumN_snoc]
  simp only [dropN, hb, Bool.and_false, Bool.false_eq_true, if_false, Bool.not_true, Bool.or_false]
  omega
theorem Wd.word {R : List (List Int)} {n : Nat} {x : List Int} {wi : Bool} (h : Wd R wi (n + 1)) (hx : R.reverse[n]? = some x) (hb : blankL x = false) : Wd R true n := by
  obtain ⟨h1, h2⟩ := drop_cons h.le hx
  refine ⟨by have := h.le; omega, ?_⟩
  rw [h.eq, h1, h2, sumN_snoc]
  simp only [dropN, hb, Bool.false_and, Bool.false_eq_true, if_false, Bool.not_false, Bool.or_true]
  omega
theorem Wd.done0 {R : List (List Int)} {wi : Bool} (h : Wd R wi 0) : dropN false R = sumN (R.reverse.drop 0) := by
  have := h.eq
  rw [Nat.sub_zero, List.take_length, List.drop_length] at this
  rw [this, List.drop_zero]
  simp [dropN, sumN, List.map_reverse]
theorem sumN_rev (l : List (List Int)) : sumN l.reverse = sumN l := by simp [sumN, List.map_reverse]
theorem Wd.done {R : List (List Int)} {n : Nat} {x : List Int} (h : Wd R true (n + 1)) (hx : R.reverse[n]? = some x) (hb : blankL x = true) : dropN false R = sumN (R.reverse.drop (n + 1)) := by
  obtain ⟨h1, h2⟩ := drop_cons h.le hx
  have := h.eq
  rw [h1] at this
  simp only [dropN, hb, Bool.and_self, if_true, Nat.add_zero] at this
  rw [this, List.drop_reverse, sumN_rev]
theorem sumN_take {l : List (List Int)} {k : Nat} {x : List Int} (h : l[k]? = some x) : sumN (l.take (k + 1)) = sumN (l.take k) + x.length := by
  rw [List.take_add_one, h]; simp [sumN, List.sum_append]
theorem sumN_take_le (l : List (List Int)) (k : Nat) : sumN (l.take k) ≤ sumN l := by
  have h : sumN l = sumN (l.take k) + sumN (l.drop k) := by
    conv => lhs; rw [← List.take_append_drop k l]
    simp only [sumN, List.map_append, List.sum_append]
  omega
theorem lb_at {A : Nat → Prop} {w : World} {Ad : Option Addr} {n c : Nat} {ds : List (List Int)} (h : RdY Lb A w (.slice Ad n c) ds) {j : Nat} (hj : j < n) :
    ∃ b off Ad' l c', Ad = some ⟨b, off, none⟩ ∧ w.cell? ⟨b, off + j, none⟩ = some (.slice Ad' l.length c') ∧ Hid (ds[j]? = some l) ∧ Hid (RdS Ub A w (.slice Ad' l.length c') l) ∧ l.length ≤ c' ∧ c' ≤ 9223372036854775807 := by
  obtain ⟨b, off, u, l, rfl, h1, hd, hr⟩ := h.at1 rfl hj
  obtain ⟨v, hv, h3⟩ := hr.out
  simp only [List.cons.injEq, and_true] at hv
  subst hv
  obtain ⟨Ad', c', rfl, h4, h5⟩ := h3.shape
  exact ⟨b, off, Ad', l, c', rfl, h1, hd, h3, h4, h5⟩
set_option maxRecDepth 100000 in
set_option maxHeartbeats 800000 in
theorem rword_any (t : Tm) (v : Value) (l : List Int) (w : World) (h : t.Ok) (hl : RI .u8 w v l) (hB : Bs l) (hn : l.length ≤ 100000000) : Calls Try.prog 19 #[.agg t.arr, v] w (PartPost w l (wordL (hasL t 42) l)) := by
  have hsz := t.size h
  have HS := Lib.hid fun w' hr => runits_any t h l.length v l w' (Nat.le_refl _) hr hB hn
  have hle := wordL_le (hasL t 42) l
  have hw := wordF_dropN (u := hasL t 42) (l := l) l.length l.length false (Nat.le_refl _) (Nat.le_refl _)
  have hU : unitsL (hasL t 42) l = (unitsR (hasL t 42) l l.length l.length).reverse := rfl
  have hW : wordF (hasL t 42) l l.length l.length false = wordL (hasL t 42) l := rfl
  rw [hW] at hw
  generalize hasL t 42 = u at HS hle hw hU ⊢
  generalize unitsR u l l.length l.length = R at hw hU
  generalize unitsL u l = U at HS hU
  generalize wordL u l = z at hle hw ⊢
  generalize t.arr = cs at HS hsz ⊢
  have HWD := Lib.hid hw
  have HUR := Lib.hid hU
  obtain ⟨Ad, c, rfl, h1, h2⟩ := hl.shape
  have H := Lib.hid hl
  have hi : (Try.prog.info? 26).map (·.size) = some cs.size := by rw [hsz]; kernel_rfl
  have hA := Blk.new w 26 cs
  clear hl hB h hw hU hW
  go_enter Try.func19, Try.ntmps19
  go_upto_block 0 with (first | (refine wpList_load_row rfl 26 _ rfl _ rfl 26 _ _ _ hA Try.underlying26 rfl hi ?_) | ((go_at_call 20; refine (HS.out _ (H.out.ext (by repeat (first | with_reducible exact Ext.refl _ | refine Ext.drewN ?_ _ | refine Ext.drew ?_ | refine Ext.alloc ?_ _ | assumption | (refine Below.trans ?_ (by assumption)) | (refine Ext.trans ?_ (by assumption)) | (refine Below.trans ?_ (Below.mono (by assumption) (by omega))))))).mono ?_; rintro e w1 ⟨A1, c1, rfl, O1, E1⟩)))
  obtain ⟨N, hN⟩ : ∃ N, U.length = N := ⟨_, rfl⟩
  obtain ⟨_, _, hv, hc1, hc2⟩ := O1.shape
  simp only [Value.slice.injEq] at hv
  obtain ⟨-, -, rfl⟩ := hv
  have hRN : R.length = N := by rw [← hN, HUR.out, List.length_reverse]
  rw [hN] at O1 hc1 ⊢
  have O1 := Lib.hid O1
  have HN := Lib.hid hN
  have HRN := Lib.hid hRN
  have E01 : Ext w w1 := (by repeat (first | with_reducible exact Ext.refl _ | refine Ext.drewN ?_ _ | refine Ext.drew ?_ | refine Ext.alloc ?_ _ | assumption | (refine Below.trans ?_ (by assumption)) | (refine Ext.trans ?_ (by assumption)) | (refine Below.trans ?_ (Below.mono (by assumption) (by omega)))))
  have HYS := Lib.hid (show RdS Lb (fun _ => True) w1 (.slice A1 N c1) U from O1.out.rdT)
  have HY := Lib.hid HYS.out.y
  clear hN hRN E1 HS O1
  go_cut [7] (fun a wx => ∃ n : Nat, n ≤ N ∧ a = .int .i64 n ∧ Hid (Wd R false n) ∧ Hid (n = 0 ∨ ∃ m x, n = m + 1 ∧ R.reverse[m]? = some x ∧ blankL x = false) ∧ Ext w1 wx)
  case first =>
    go_wp2
    go_loopw [7] (fun a wr => ∃ n : Nat, n ≤ N ∧ a = .int .i64 n ∧ Hid (Wd R false n) ∧ Ext w1 wr) (fun a _ => (intOf a).toNat)
    case atStart => exact ⟨N, Nat.le_refl _, rfl, Lib.hid (by rw [← HRN.out]; exact Wd.start R), (by repeat (first | with_reducible exact Ext.refl _ | refine Ext.drewN ?_ _ | refine Ext.drew ?_ | refine Ext.alloc ?_ _ | assumption | (refine Below.trans ?_ (by assumption)) | (refine Ext.trans ?_ (by assumption)) | (refine Below.trans ?_ (Below.mono (by assumption) (by omega)))))⟩
    case round =>
      obtain ⟨n, hn1, rfl, HD, hE⟩ := hrel
      rcases n with _ | m
      · go_wp2_with fail
        go_meet
        exact ⟨0, Nat.zero_le _, rfl, HD, Lib.hid (.inl rfl), (by repeat (first | with_reducible exact Ext.refl _ | refine Ext.drewN ?_ _ | refine Ext.drew ?_ | refine Ext.alloc ?_ _ | assumption | (refine Below.trans ?_ (by assumption)) | (refine Ext.trans ?_ (by assumption)) | (refine Below.trans ?_ (Below.mono (by assumption) (by omega)))))⟩
      · obtain ⟨b, off, A2, x, c2, rfl, hx, hd, hr, hl1, hl2⟩ := lb_at (HY.out.ext hE) (j := m) (by omega)
        have d0 : (0 : Int) < (m : Int) + 1 := by omega
        have d1 : IntKind.i64.wrap ((m : Int) + 1 - 1) = (m : Int) := by rw [show (m : Int) + 1 - 1 = m by omega]; exact IntWalk.i64_in _ (by omega)
        have d2 : (m : Int) < (N : Int) := by omega
        have d3 : (0 : Int) ≤ (m : Int) := by omega
        have HX := Lib.hid (show R.reverse[m]? = some x by rw [← HUR.out]; exact hd.out)
        cases hb : blankL x
        · have HB := Lib.hid hb
          clear hb
          go_wp2_with ((go_at_call 31; refine (rblank_any _ x _ (RdN.ext hr.out.ri (by repeat (first | with_reducible exact Ext.refl _ | refine Ext.drewN ?_ _ | refine Ext.drew ?_ | refine Ext.alloc ?_ _ | assumption | (refine Below.trans ?_ (by assumption)) | (refine Ext.trans ?_ (by assumption)) | (refine Below.trans ?_ (Below.mono (by assumption) (by omega))))))).mono ?_; rintro e w2 ⟨rfl, E2⟩); rw [HB.out])
          go_meet
          exact ⟨m + 1, hn1, by simp, HD, Lib.hid (.inr ⟨m, x, rfl, HX.out, HB.out⟩), (by repeat (first | with_reducible exact Ext.refl _ | refine Ext.drewN ?_ _ | refine Ext.drew ?_ | refine Ext.alloc ?_ _ | assumption | (refine Below.trans ?_ (by assumption)) | (refine Ext.trans ?_ (by assumption)) | (refine Below.trans ?_ (Below.mono (by assumption) (by omega)))))⟩
        · have HB := Lib.hid hb
          clear hb
          go_wp2_with ((go_at_call 31; refine (rblank_any _ x _ (RdN.ext hr.out.ri (by repeat (first | with_reducible exact Ext.refl _ | refine Ext.drewN ?_ _ | refine Ext.drew ?_ | refine Ext.alloc ?_ _ | assumption | (refine Below.trans ?_ (by assumption)) | (refine Ext.trans ?_ (by assumption)) | (refine Below.trans ?_ (Below.mono (by assumption) (by omega))))))).mono ?_; rintro e w2 ⟨rfl, E2⟩); rw [HB.out])
          go_roundw
          case rel => exact ⟨m, by omega, by go_num, Lib.hid (Wd.blank HD.out HX.out HB.out), (by repeat (first | with_reducible exact Ext.refl _ | refine Ext.drewN ?_ _ | refine Ext.drew ?_ | refine Ext.alloc ?_ _ | assumption | (refine Below.trans ?_ (by assumption)) | (refine Ext.trans ?_ (by assumption)) | (refine Below.trans ?_ (Below.mono (by assumption) (by omega)))))⟩
          case measure => simp [intOf]
  case rest =>
    obtain ⟨n0, hn0, rfl, HD0, HH0, hE0⟩ := hcut
    go_upto_block 2 with fail
    go_cut [7] (fun a wx => ∃ n : Nat, n ≤ N ∧ a = .int .i64 n ∧ Hid (dropN false R = sumN (R.reverse.drop n)) ∧ Ext w1 wx)
    case first =>
      go_wp2
      go_loopw [7] (fun a wr => ∃ (n : Nat) (wi : Bool), n ≤ N ∧ a = .int .i64 n ∧ Hid (Wd R wi n) ∧ Hid (wi = true ∨ n = 0 ∨ ∃ m x, n = m + 1 ∧ R.reverse[m]? = some x ∧ blankL x = false) ∧ Ext w1 wr) (fun a _ => (intOf a).toNat)
      case atStart => exact ⟨n0, false, hn0, rfl, HD0, Lib.hid (.inr HH0.out), (by repeat (first | with_reducible exact Ext.refl _ | refine Ext.drewN ?_ _ | refine Ext.drew ?_ | refine Ext.alloc ?_ _ | assumption | (refine Below.trans ?_ (by assumption)) | (refine Ext.trans ?_ (by assumption)) | (refine Below.trans ?_ (Below.mono (by assumption) (by omega)))))⟩
      case round =>
        clear HD0 HH0 hE0
        obtain ⟨n, wi, hn1, rfl, HD, HH, hE⟩ := hrel
        rcases n with _ | m
        · go_wp2_with fail
          go_meet
          exact ⟨0, Nat.zero_le _, rfl, Lib.hid HD.out.done0, (by repeat (first | with_reducible exact Ext.refl _ | refine Ext.drewN ?_ _ | refine Ext.drew ?_ | refine Ext.alloc ?_ _ | assumption | (refine Below.trans ?_ (by assumption)) | (refine Ext.trans ?_ (by assumption)) | (refine Below.trans ?_ (Below.mono (by assumption) (by omega)))))⟩
        · obtain ⟨b, off, A2, x, c2, rfl, hx, hd, hr, hl1, hl2⟩ := lb_at (HY.out.ext hE) (j := m) (by omega)
          have d0 : (0 : Int) < (m : Int) + 1 := by omega
          have d1 : IntKind.i64.wrap ((m : Int) + 1 - 1) = (m : Int) := by rw [show (m : Int) + 1 - 1 = m by omega]; exact IntWalk.i64_in _ (by omega)
          have d2 : (m : Int) < (N : Int) := by omega
          have d3 : (0 : Int) ≤ (m : Int) := by omega
          have HX := Lib.hid (show R.reverse[m]? = some x by rw [← HUR.out]; exact hd.out)
          cases hb : blankL x
          · have HB := Lib.hid hb
            clear hb
            go_wp2_with ((go_at_call 31; refine (rblank_any _ x _ (RdN.ext hr.out.ri (by repeat (first | with_reducible exact Ext.refl _ | refine Ext.drewN ?_ _ | refine Ext.drew ?_ | refine Ext.alloc ?_ _ | assumption | (refine Below.trans ?_ (by assumption)) | (refine Ext.trans ?_ (by assumption)) | (refine Below.trans ?_ (Below.mono (by assumption) (by omega))))))).mono ?_; rintro e w2 ⟨rfl, E2⟩); rw [HB.out])
            go_roundw
            case rel => exact ⟨m, true, by omega, by go_num, Lib.hid (Wd.word HD.out HX.out HB.out), Lib.hid (.inl rfl), (by repeat (first | with_reducible exact Ext.refl _ | refine Ext.drewN ?_ _ | refine Ext.drew ?_ | refine Ext.alloc ?_ _ | assumption | (refine Below.trans ?_ (by assumption)) | (refine Ext.trans ?_ (by assumption)) | (refine Below.trans ?_ (Below.mono (by assumption) (by omega)))))⟩
            case measure => simp [intOf]
          · have HB := Lib.hid hb
            have hwi : wi = true := by
              rcases HH.out with h | h | ⟨m', x', h1, h2, h3⟩
              · exact h
              · omega
              · obtain rfl : m' = m := by omega
                rw [HX.out] at h2
                cases h2
                rw [HB.out] at h3
                cases h3
            subst hwi
            clear hb
            go_wp2_with ((go_at_call 31; refine (rblank_any _ x _ (RdN.ext hr.out.ri (by repeat (first | with_reducible exact Ext.refl _ | refine Ext.drewN ?_ _ | refine Ext.drew ?_ | refine Ext.alloc ?_ _ | assumption | (refine Below.trans ?_ (by assumption)) | (refine Ext.trans ?_ (by assumption)) | (refine Below.trans ?_ (Below.mono (by assumption) (by omega))))))).mono ?_; rintro e w2 ⟨rfl, E2⟩); rw [HB.out])
            go_meet
            exact ⟨m + 1, hn1, by simp, Lib.hid (Wd.done HD.out HX.out HB.out), (by repeat (first | with_reducible exact Ext.refl _ | refine Ext.drewN ?_ _ | refine Ext.drew ?_ | refine Ext.alloc ?_ _ | assumption | (refine Below.trans ?_ (by assumption)) | (refine Ext.trans ?_ (by assumption)) | (refine Below.trans ?_ (Below.mono (by assumption) (by omega)))))⟩
    case rest =>
      clear HD0 HH0 hE0 hn0
      obtain ⟨n, hn1, rfl, HD, hE⟩ := hcut
      obtain ⟨V, hV⟩ : ∃ V, U.drop n = V := ⟨_, rfl⟩
      have hVl : V.length = N - n := by rw [← hV, List.length_drop, HN.out]
      have hsum : sumN V = l.length - z := by
        have h1 := HD.out
        have h2 := HWD.out
        rw [← HUR.out, hV] at h1
        omega
      have HF := Lib.hid (by have := HYS.out.from_ (k := n) hn1; rw [hV] at this; exact this)
      have HVL := Lib.hid hVl
      have HSM := Lib.hid hsum
      have hc3 : n ≤ c1 := by omega
      clear hV hVl hsum HD HY HYS
      obtain ⟨Bx, hBx⟩ : ∃ Bx, (if c1 = n then A1 else Option.map (fun x => x.add (n * Lb.size)) A1) = Bx := ⟨_, rfl⟩
      have hBx2 : (if c1 = n then A1 else Option.map (fun x => x.add n) A1) = Bx := by rw [← hBx, show n * Lb.size = n from Nat.mul_one n]
      rw [hBx] at HF
      have i0 : (0 : Int) ≤ (n : Int) := by omega
      have i1 : (n : Int) ≤ (N : Int) := by omega
      have i2 : (N : Int) ≤ (c1 : Int) := by omega
      clear hBx
      go_wp2
      have HK := Lib.hid hBx2
      have hNn : (N - n : Nat) ≤ 9223372036854775807 := by omega
      clear hBx2
      go_loopw [8, 45] (fun s j wr => ∃ q : Nat, q ≤ N - n ∧ j = .int .i64 q ∧ s = .int .i64 (sumN (V.take q) : Nat) ∧ Ext w1 wr) (fun _ j _ => (N - n) - (intOf j).toNat)
      case atStart => exact ⟨0, Nat.zero_le _, rfl, rfl, hE⟩
      case round =>
        clear hE
        obtain ⟨q, hq, rfl, rfl, hE⟩ := hrel
        have hb1 := sumN_take_le V q
        by_cases hlt : q < N - n
        · obtain ⟨b, off, A2, x, c2, rfl, hx, hd, hr, hl1, hl2⟩ := lb_at (HF.out.ext hE).y hlt
          have hs := sumN_take hd.out
          have hb2 := sumN_take_le V (q + 1)
          have hw : IntKind.i64.wrap ((sumN (V.take q) : Nat) + (x.length : Int)) = ((sumN (V.take q) : Nat) : Int) + x.length := IntWalk.i64_in _ (by have := HSM.out; omega)
          have HS := Lib.hid hs
          have hlt2 : (q : Int) < ((N - n : Nat) : Int) := by omega
          clear hs hb1 hb2
          go_wp2
          go_roundw
          case rel => exact ⟨q + 1, by omega, by go_num, by rw [HS.out]; simp, (by repeat (first | with_reducible exact Ext.refl _ | refine Ext.drewN ?_ _ | refine Ext.drew ?_ | refine Ext.alloc ?_ _ | assumption | (refine Below.trans ?_ (by assumption)) | (refine Ext.trans ?_ (by assumption)) | (refine Below.trans ?_ (Below.mono (by assumption) (by omega)))))⟩
          case measure => simp [intOf]; omega
        · have e1 : V.take q = V := List.take_of_length_le (by have := HVL.out; omega)
          rw [e1, HSM.out]
          clear e1 hb1
          go_wp2_with fail
          refine (rcut_any _ l (l.length - z) _ (H.out.ext (by repeat (first | with_reducible exact Ext.refl _ | refine Ext.drewN ?_ _ | refine Ext.drew ?_ | refine Ext.alloc ?_ _ | assumption | (refine Below.trans ?_ (by assumption)) | (refine Ext.trans ?_ (by assumption)) | (refine Below.trans ?_ (Below.mono (by assumption) (by omega)))))) (by omega) hn).mono ?_
          rintro e w5 ⟨A5, c5, B5, d5, rfl, r1, r2, E5⟩
          have ez : l.length - (l.length - z) = z := by omega
          rw [ez] at r1 r2 ⊢
          have R1 := Lib.hid r1
          have R2 := Lib.hid r2
          have EF : Ext w wr := (by repeat (first | with_reducible exact Ext.refl _ | refine Ext.drewN ?_ _ | refine Ext.drew ?_ | refine Ext.alloc ?_ _ | assumption | (refine Below.trans ?_ (by assumption)) | (refine Ext.trans ?_ (by assumption)) | (refine Below.trans ?_ (Below.mono (by assumption) (by omega)))))
          clear r1 r2 ez
          go_wp2
          refine bodyPost_ret (v := .tuple #[.slice A5 z c5, .slice B5 (l.length - z) d5]) (by simp [results, Try.results19, go_sem]) rfl ?_
          exact ⟨A5, c5, B5, d5, rfl, NewB.low R1.out EF, NewB.low R2.out EF, EF.trans E5⟩
end Go.Proofs.Ytilmkghopeoipaa
