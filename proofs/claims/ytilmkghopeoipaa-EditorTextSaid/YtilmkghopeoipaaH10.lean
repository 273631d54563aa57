/- EditorErases, walked: for every setting and line the law answers true. Conditions: the setting is one, bytes are bytes. -/
import Derived.Test.YtilmkghopeoipaaG10
import Derived.Test.YtilmkghopeoipaaD10
namespace Go.Proofs.Ytilmkghopeoipaa
open Go.RowKit Go.Kb

theorem unitsR_len {u : Bool} {l : List Int} : ∀ (n p : Nat), p ≤ l.length → (unitsR u l n p).length ≤ p
  | 0, _, _ => by simp [unitsR]
  | n + 1, p, h => by
    simp only [unitsR]
    split
    · simp
    · rename_i hp
      have h1 := start_take (u := u) (l := l) (show 0 < p by omega) h
      have := unitsR_len (u := u) (l := l) n (startL u (l.take p)) (by omega)
      simp only [List.length_cons]
      omega
theorem take_last {U R : List (List Int)} {x : List Int} {j : Nat} (h : U.take (j + 1) = (x :: R).reverse) (hR : R.length = j) : U[j]? = some x ∧ U.take j = R.reverse := by
  rw [List.reverse_cons] at h
  constructor
  · have h1 := congrArg (fun l => l[j]?) h
    simp only [List.getElem?_take] at h1
    rw [if_pos (by omega)] at h1
    rw [h1, List.getElem?_append_right (by simp; omega)]
    simp [hR]
  · have h1 := congrArg (List.take j) h
    rw [List.take_take, Nat.min_eq_left (by omega), List.take_append_of_le_length (by simp; omega)] at h1
    rw [h1, List.take_of_length_le (by simp; omega)]
set_option maxRecDepth 100000 in
set_option maxHeartbeats 800000 in
theorem editorErases_walk (t : Tm) (v : Value) (l : List Int) (w : World) (h : t.Ok) (hl : RI .u8 w v l) (hB : Bs l) : Calls Try.prog 4 #[.agg t.arr, v] w fun e w' => e = .returned (.bool true) ∧ Ext w w' := by
  have hsz := t.size h
  have hU := fun w' hr hn => units_any t v l w' h hr hB hn
  have hE := fun v' l' w' hr hB' hn => erase_any t v' l' w' h hr hB' hn
  generalize hasL t 42 = u at hU hE
  have hUl : (unitsL u l).length ≤ l.length := by
    rw [unitsL, List.length_reverse]
    exact unitsR_len _ _ (Nat.le_refl _)
  have HUt : Hid ((unitsL u l).take (unitsL u l).length = (unitsR u l l.length l.length).reverse) := Lib.hid (by rw [List.take_length]; rfl)
  have HUn : Hid ((unitsL u l).length = (unitsR u l l.length l.length).length) := Lib.hid (by rw [unitsL, List.length_reverse])
  generalize unitsL u l = U at hU hUl HUt HUn
  generalize t.arr = cs at hU hE hsz ⊢
  clear h
  obtain ⟨Ad, c, rfl, h1, h2⟩ := hl.shape
  have H := Lib.hid hl
  have HB := Lib.hid hB
  clear hl hB
  have hi : (Try.prog.info? 26).map (·.size) = some cs.size := by rw [hsz]; kernel_rfl
  have hA := Lib.hid (Blk.new w 26 cs)
  by_cases hbig : 600 < l.length
  · have hb : (600 : Int) < l.length := by omega
    clear hU hE
    go_enter Try.func4, Try.ntmps4
    go_wp2_with ((go_at_call 7; refine (alive_any _).mono ?_; rintro e w1 ⟨rfl, E1⟩))
    go_ret
    exact ⟨rfl, (by repeat (first | with_reducible exact Ext.refl _ | refine Ext.drewN ?_ _ | refine Ext.drew ?_ | refine Ext.alloc ?_ _ | assumption | (refine Below.trans ?_ (by assumption)) | (refine Ext.trans ?_ (by assumption)) | (refine Below.trans ?_ (Below.mono (by assumption) (by omega)))))⟩
  · have d600 : ¬ ((600 : Int) < l.length) := by omega
    have hn' : l.length ≤ 100000000 := by omega
    have hn6 : l.length ≤ 600 := by omega
    have hw0 : IntKind.i64.wrap ((U.length : Int) - 1) = (U.length : Int) - 1 := IntWalk.i64_in _ (by omega)
    clear hbig
    go_enter Try.func4, Try.ntmps4
    (go_wp2_with fail; refine (alive_any _).mono ?_; rintro e w1 ⟨rfl, E1⟩)
    have hA1 := Lib.hid (Blk.ext hA.out E1)
    have E01 : Ext w w1 := (by repeat (first | with_reducible exact Ext.refl _ | refine Ext.drewN ?_ _ | refine Ext.drew ?_ | refine Ext.alloc ?_ _ | assumption | (refine Below.trans ?_ (by assumption)) | (refine Ext.trans ?_ (by assumption)) | (refine Below.trans ?_ (Below.mono (by assumption) (by omega)))))
    clear hA E1
    go_wp2_with (first | (refine wpList_load_row rfl 26 _ rfl _ rfl 26 _ _ _ hA1.out Try.underlying26 rfl hi ?_))
    refine (hU _ (H.out.ext E01) hn').mono ?_
    rintro e w2 ⟨AU, cU, rfl, OU, E2⟩
    have HA2 := Lib.hid (Blk.ext hA1.out E2)
    have E02 := E01.trans E2
    have SU := Lib.hid OU.rdT.y
    clear OU hA1 E2 hU E01
    have hT := Lib.hid (List.take_length (l := l))
    go_wp2
    go_loopw [6, 7] (fun s i wr => ∃ (p n k : Nat) (A : Option Addr) (c' : Nat), s = .slice A p c' ∧ i = .int .i64 ((k : Int) - 1) ∧ p ≤ l.length ∧ p ≤ n ∧ k ≤ U.length ∧ p ≤ c' ∧ c' ≤ 9223372036854775807 ∧ Hid (U.take k = (unitsR u l n p).reverse) ∧ Hid (k = (unitsR u l n p).length) ∧ Hid (RI .u8 wr (.slice A p c') (l.take p)) ∧ Hid (Blk wr w.heap.size 26 cs) ∧ Ext w2 wr) (fun _ i _ => (intOf i + 1).toNat)
    case atStart => exact ⟨l.length, l.length, U.length, Ad, c, rfl, rfl, Nat.le_refl _, Nat.le_refl _, Nat.le_refl _, h1, h2, HUt, HUn, Lib.hid (by rw [hT.out]; exact H.out.ext E02), HA2, Ext.refl _⟩
    case round =>
      clear HA2 HUt HUn hw0
      obtain ⟨p, n, k, Ap, cp, rfl, rfl, hpl, hpn, hkU, hpc, hcp, HT, HK, HR, HA, E2r⟩ := hrel
      by_cases hk : k = 0
      · have hp0 : p = 0 := by
          rcases Nat.eq_zero_or_pos p with h | h
          · exact h
          · have h3 := HK.out
            rw [(unitsR_step (u := u) h hpn hpl).2, List.length_cons] at h3
            omega
        subst hk hp0
        have dk : ¬ ((0 : Int) ≤ ((0 : Nat) : Int) - 1) := by omega
        have hRn : RI .u8 wr (.slice Ap 0 cp) [] := HR.out
        go_wp2_with (first | (refine wpList_load_row rfl 26 _ rfl _ rfl 26 _ _ _ HA.out Try.underlying26 rfl hi ?_))
        refine (hE _ [] _ hRn (by simp [Bs]) (by simp)).mono ?_
        rintro e w6 ⟨A6, c6, B6, d6, rfl, r6, s6, E6⟩
        rw [startL_nil]
        clear r6 s6
        simp only [List.length_nil, Nat.sub_self]
        go_wp2
        go_ret
        exact ⟨rfl, E02.trans (E2r.trans E6)⟩
      · obtain ⟨j, rfl⟩ : ∃ j, k = j + 1 := ⟨k - 1, by omega⟩
        have hp0 : 0 < p := by
          rcases Nat.eq_zero_or_pos p with h | h
          · subst h
            have h3 := HK.out
            rw [unitsR_zero] at h3
            simp at h3
          · exact h
        have hq := start_take (u := u) hp0 hpl
        obtain ⟨f1, f2⟩ := unitsR_step (u := u) hp0 hpn hpl
        have h3 := HK.out
        have h4 := HT.out
        rw [f2] at h3 h4
        obtain ⟨g1, g2⟩ := take_last h4 (by simpa using h3.symm)
        have G2 := Lib.hid g2
        have G3 : Hid (j = (unitsR u l (n - 1) (startL u (l.take p))).length) := Lib.hid (by simpa using h3)
        have hlast := lastL_le u (l.take p)
        have hpl2 : (l.take p).length = p := by rw [List.length_take]; omega
        have hq4 : p - startL u (l.take p) ≤ 4 := by
          unfold startL
          omega
        have HEp := Lib.hid fun w' (hr : RI .u8 w' (.slice Ap p cp) (l.take p)) => hE _ _ w' hr (Bs.take HB.out p) (by rw [hpl2]; omega)
        obtain ⟨b1, o1, u1, x1, hA1, q1, y1, r1⟩ := (SU.out.ext E2r).at1 rfl (show j < U.length by omega)
        subst hA1
        have y1 := y1.out
        rw [g1] at y1
        have y1 := Option.some.inj y1
        obtain ⟨v1, e1, s1⟩ := r1.out
        simp only [List.cons.injEq, and_true] at e1
        subst e1
        obtain ⟨a1, c1, rfl, -, -⟩ := s1.shape
        have S1 := Lib.hid s1.ri
        rw [← y1] at S1 q1
        clear y1 r1 s1 g1 g2 h3 h4 f2 HT HK hlast hE
        generalize startL u (l.take p) = q at *
        have hdl : ((l.take p).drop q).length = p - q := by rw [List.length_drop, hpl2]
        have hji : ((j + 1 : Nat) : Int) - 1 = (j : Int) := by omega
        have hjU : (j : Int) < (U.length : Int) := by omega
        rw [hdl] at S1 q1
        rw [hji]
        have hwj : IntKind.i64.wrap ((j : Int) - 1) = (j : Int) - 1 := IntWalk.i64_in _ (by omega)
        have d1 : ¬ (((p - q : Nat) : Int) < 1) := by omega
        have d4 : ¬ ((4 : Int) < ((p - q : Nat) : Int)) := by omega
        go_wp2_with (first | (refine wpList_load_row rfl 26 _ rfl _ rfl 26 _ _ _ HA.out Try.underlying26 rfl hi ?_))
        refine (HEp.out _ HR.out).mono ?_
        rintro e w6 ⟨A6, c6, B6, d6, rfl, r6, s6, E6⟩
        rw [hpl2] at s6 ⊢
        obtain ⟨_, _, hv6, hr6, hr7⟩ := (RdS.ri r6).shape
        simp only [Value.slice.injEq] at hv6
        obtain ⟨-, -, rfl⟩ := hv6
        have e6 : ((l.take p).take q).length = q := by rw [List.length_take, hpl2]; omega
        rw [e6] at hr6
        have R6 := Lib.hid (RdS.ri r6)
        have S6 := Lib.hid (RdS.ri s6)
        have q6 := cell_ext E6 q1
        have HA6 := Lib.hid (HA.out.ext E6)
        clear r6 s6 q1 HEp
        go_wp2_with fail
        refine (bytes_same _ _ _ _ S6.out (RdN.ext S1.out E6)).mono ?_
        rintro e w7 ⟨rfl, E7⟩
        have R7 := Lib.hid (RdN.ext R6.out E7)
        have S7 := Lib.hid (RdN.ext S6.out E7)
        have HA7 := Lib.hid (HA6.out.ext E7)
        have Er7 : Ext wr w7 := E6.trans E7
        have e7 : ((l.take p).take q).length + ((l.take p).drop q).length = p := by rw [e6, hdl]; omega
        clear E6 E7 R6 S6 HA6 q6 S1
        go_wp2_with (first
          | (at_builtin; refine wpList_openG rfl (by first | rfl | (simp [yielded, d1, d4]; done) | go_simp) ?_; refine wpList_app (e := Ub) (base := w7.heap.size) (B := fun _ => False) (A := fun _ => False) rfl _ (.tmp 53) rfl Try.underlying27 info_u8 rfl (OwnS.empty _ _ _ rfl (Nat.le_refl _)) rfl (RI.y (RdN.alloc R7.out _)) rfl (fun _ _ h => h.elim) (N := q) (by rw [e6]; simp) (by simp [maxLen]; omega) (by omega) (by simp) ?_; intro A8 c8 w8 o8 M8 E8; simp only [List.nil_append] at o8; have E78 : Ext w7 w8 := (by repeat (first | with_reducible exact Ext.refl _ | refine Ext.drewN ?_ _ | refine Ext.drew ?_ | refine Ext.alloc ?_ _ | assumption | (refine Below.trans ?_ (by assumption)) | (refine Ext.trans ?_ (by assumption)) | (refine Below.trans ?_ (Below.mono (by assumption) (by omega))))))
          | (at_builtin; refine wpList_openG rfl (by first | rfl | (simp [yielded, d1, d4]; done) | go_simp) ?_; refine wpList_app (e := Ub) (base := w7.heap.size) (B := fun _ => False) (A := fun _ => False) rfl _ (.tmp 55) rfl Try.underlying27 info_u8 rfl o8 rfl (RI.y (RdN.ext S7.out E78)) rfl (fun _ _ h => h.elim) (N := p) e7 (by simp [maxLen]; omega) (by omega) E78.size ?_; intro A9 c9 w9 o9 M9 E9; have E79 : Ext w7 w9 := (by repeat (first | with_reducible exact Ext.refl _ | refine Ext.drewN ?_ _ | refine Ext.drew ?_ | refine Ext.alloc ?_ _ | assumption | (refine Below.trans ?_ (by assumption)) | (refine Ext.trans ?_ (by assumption)) | (refine Below.trans ?_ (Below.mono (by assumption) (by omega)))))))
        have O9 := o9.rdT.ri
        rw [List.take_append_drop] at O9
        refine (bytes_same _ _ _ _ O9 (HR.out.ext (Er7.trans E79))).mono ?_
        rintro e w10 ⟨rfl, E10⟩
        have E710 := E79.trans E10
        have RF : Hid (RI .u8 w10 (.slice A6 q c6) (l.take q)) := Lib.hid (by
          have := RdN.ext R7.out E710
          rw [List.take_take, Nat.min_eq_left (Nat.le_of_lt hq)] at this
          exact this)
        have HA10 := Lib.hid (HA7.out.ext E710)
        have EF := Ext.trans E2r (Ext.trans Er7 E710)
        clear M8 M9 o8 o9 O9 E8 E9 E10 E78 E79
        go_wp2
        go_roundw
        case rel => exact ⟨q, n - 1, j, A6, c6, rfl, rfl, by omega, f1, by omega, hr6, hr7, G2, G3, RF, HA10, EF⟩
        case measure => simp [intOf]
end Go.Proofs.Ytilmkghopeoipaa
