/- CanonParts: for every lines and numbers the law answers true, and leaves its arguments as they were. No condition. -/
import Derived.Test.YtgahpclgdhghjaaG13
import Derived.Test.YtgahpclgdhghjaaOpen
namespace Go.Proofs.Ytgahpclgdhghjaa
open Go.RowKit Go.Kb Go.ChangeShapes Go.WideShapes Go.ChangeAt

def sumL (l : List (List Int × Bool)) : Int := (l.map fun x => (x.1.length : Int)).sum
theorem sumL_min (l : List (List Int × Bool)) (hb : ∀ x ∈ l, x.1.length ≤ 140737488351232) (hm : minL l ≤ 10000) : sumL l = minL l ∨ (minL l = 10000 ∧ sumL l ≤ 140737488351232) := by
  induction l with
  | nil => exact .inl rfl
  | cons x t ih =>
    have h0 := (minL_bd t).1
    have e1 : minL (x :: t) = min (x.1.length : Int) 10000 + minL t := by simp [minL]
    have e2 : sumL (x :: t) = (x.1.length : Int) + sumL t := by simp [sumL]
    have hx := hb x (by simp)
    have := ih (fun y hy => hb y (by simp [hy])) (by omega)
    omega
theorem usedL_sum (l : List (List Int × Bool)) : usedL l ≤ sumL l + l.length := by
  induction l with
  | nil => simp [usedL, sumL]
  | cons x t ih =>
    have : szL x ≤ x.1.length + 1 := by unfold szL; split <;> omega
    simp only [usedL, sumL, List.map_cons, List.sum_cons, List.length_cons] at ih ⊢
    omega
theorem great_no {ls : List (List Int × Bool)} (hg : greatL ls = false) (hb : ∀ x ∈ ls, x.1.length ≤ 140737488351232) : usedL ls ≤ 140737488355328 ∧ ls.length ≤ 200 := by
  unfold greatL at hg
  simp at hg
  have h1 := sumL_min ls hb (by omega)
  have h2 := usedL_sum ls
  omega
/-- a read in two parts is one read -/
theorem readL_parts (l : List Int) (f : Bool) (t : List (List Int × Bool)) (n m : Nat) (hn : 0 < n) (hm : 0 < m) (hl : n < l.length) :
    ∃ a b c r s, readL ((l, f) :: t) n = (a, r, true) ∧ readL r m = (b, s, true) ∧ readL ((l, f) :: t) ((n : Int) + m) = (c, s, true) ∧ c = a ++ b ∧ usedL r ≤ usedL ((l, f) :: t) ∧ r.length = t.length + 1 ∧ a.length + b.length ≤ l.length ∧ s.length ≤ t.length + 1 := by
  have e1 : readL ((l, f) :: t) n = (l.take n, (l.drop n, f) :: t, true) := by
    simp only [readL]
    rw [if_neg (by omega), if_neg (by omega)]
    simp
  have hu : usedL ((l.drop n, f) :: t) ≤ usedL ((l, f) :: t) := by
    rw [usedL_cons, usedL_cons]
    have : szL (l.drop n, f) ≤ szL (l, f) := by
      unfold szL
      simp only [List.length_drop]
      omega
    omega
  by_cases h : l.length ≤ n + m
  · refine ⟨l.take n, l.drop n, l, (l.drop n, f) :: t, t, e1, ?_, ?_, by simp, hu, rfl, by simp; omega, by omega⟩
    · simp only [readL]
      rw [if_neg (by omega), if_pos (by simp; omega)]
    · simp only [readL]
      rw [if_neg (by omega), if_pos (by omega)]
  · refine ⟨l.take n, (l.drop n).take m, l.take (n + m), (l.drop n, f) :: t, (l.drop (n + m), f) :: t, e1, ?_, ?_, by rw [List.take_add], hu, rfl, by simp; omega, by simp⟩
    · simp only [readL]
      rw [if_neg (by omega), if_neg (by simp; omega)]
      simp
    · simp only [readL]
      rw [if_neg (by omega), if_neg (by omega)]
      have : ((n : Int) + m).toNat = n + m := by omega
      rw [this]

set_option maxHeartbeats 800000 in
theorem canonParts_walk (v : Value) (ls : List (List Int × Bool)) (n m : Int) (w : World) (h : RdS Ln (fun _ => True) w v ls) (hb : ∀ x ∈ ls, x.1.length ≤ 140737488351232) (hn0 : 0 ≤ n) (hn1 : n ≤ 255) (hm0 : 0 ≤ m) (hm1 : m ≤ 255) :
    Calls Try.prog 3 #[v, .int .u8 n, .int .u8 m] w fun e w' => e = .returned (.bool true) ∧ Ext w w' := by
  obtain ⟨Ad, c, rfl, hc1, hc2⟩ := h.shape
  have H := Lib.hid h
  clear h
  by_cases hg : greatL ls = true
  · have HG := Lib.hid hg
    clear hg hb
    go_enter Try.func3, Try.ntmps3
    go_wp2_with (first
      | (go_at_call 7; refine (alive_any _).mono ?_; rintro e w1 ⟨rfl, E1⟩)
      | ((go_at_call 8; refine (great_any _ ls _ (H.out.y.ext E1)).mono ?_; rintro e w2 ⟨rfl, E2⟩); rw [HG.out]))
    go_ret
    exact ⟨rfl, (by repeat (first | with_reducible exact Ext.refl _ | refine Ext.drewN ?_ _ | refine Ext.drew ?_ | refine Ext.alloc ?_ _ | assumption | (refine Below.trans ?_ (by assumption)) | (refine Ext.trans ?_ (by assumption)) | (refine Below.trans ?_ (Below.mono (by assumption) (by omega)))))⟩
  · have HG : Hid (greatL ls = false) := Lib.hid (by simpa using hg)
    obtain ⟨hu, hlen⟩ := great_no HG.out hb
    clear hg
    by_cases hz : ls.length = 0 ∨ n = 0 ∨ m = 0
    · clear hb
      rcases hz with hz | hz | hz
      · obtain rfl : ls = [] := List.eq_nil_of_length_eq_zero hz
        clear hz
        go_enter Try.func3, Try.ntmps3
        go_wp2_with (first
          | (go_at_call 7; refine (alive_any _).mono ?_; rintro e w1 ⟨rfl, E1⟩)
          | ((go_at_call 8; refine (great_any _ [] _ (H.out.y.ext E1)).mono ?_; rintro e w2 ⟨rfl, E2⟩); rw [HG.out]))
        go_ret
        exact ⟨rfl, (by repeat (first | with_reducible exact Ext.refl _ | refine Ext.drewN ?_ _ | refine Ext.drew ?_ | refine Ext.alloc ?_ _ | assumption | (refine Below.trans ?_ (by assumption)) | (refine Ext.trans ?_ (by assumption)) | (refine Below.trans ?_ (Below.mono (by assumption) (by omega)))))⟩
      · subst hz
        go_enter Try.func3, Try.ntmps3
        go_wp2_with (first
          | (go_at_call 7; refine (alive_any _).mono ?_; rintro e w1 ⟨rfl, E1⟩)
          | ((go_at_call 8; refine (great_any _ ls _ (H.out.y.ext E1)).mono ?_; rintro e w2 ⟨rfl, E2⟩); rw [HG.out]))
        all_goals
          go_ret
          exact ⟨rfl, (by repeat (first | with_reducible exact Ext.refl _ | refine Ext.drewN ?_ _ | refine Ext.drew ?_ | refine Ext.alloc ?_ _ | assumption | (refine Below.trans ?_ (by assumption)) | (refine Ext.trans ?_ (by assumption)) | (refine Below.trans ?_ (Below.mono (by assumption) (by omega)))))⟩
      · subst hz
        go_enter Try.func3, Try.ntmps3
        go_wp2_with (first
          | (go_at_call 7; refine (alive_any _).mono ?_; rintro e w1 ⟨rfl, E1⟩)
          | ((go_at_call 8; refine (great_any _ ls _ (H.out.y.ext E1)).mono ?_; rintro e w2 ⟨rfl, E2⟩); rw [HG.out]))
        all_goals
          go_ret
          exact ⟨rfl, (by repeat (first | with_reducible exact Ext.refl _ | refine Ext.drewN ?_ _ | refine Ext.drew ?_ | refine Ext.alloc ?_ _ | assumption | (refine Below.trans ?_ (by assumption)) | (refine Ext.trans ?_ (by assumption)) | (refine Below.trans ?_ (Below.mono (by assumption) (by omega)))))⟩
    · obtain ⟨n, rfl⟩ := Int.eq_ofNat_of_zero_le hn0
      obtain ⟨m, rfl⟩ := Int.eq_ofNat_of_zero_le hm0
      have hn2 : 0 < n := by omega
      have hm2 : 0 < m := by omega
      obtain ⟨l, f, t, hls⟩ : ∃ l f t, ls = (l, f) :: t := by
        rcases ls with _ | ⟨⟨l, f⟩, t⟩
        · simp at hz
        · exact ⟨l, f, t, rfl⟩
      have HLs := Lib.hid hls
      have hpos : 0 < ls.length := by rw [hls]; simp
      have i1 : ((ls.length : Int) == 0) = false := by rw [beq_eq_false_iff_ne]; omega
      have i2 : ((n : Int) == 0) = false := by simp; omega
      have i3 : ((m : Int) == 0) = false := by simp; omega
      obtain ⟨b, off, Ad', l', f', c', rfl, hx, hy, hd, hr, hl1, hl2⟩ := ln_at (H.out.y) (j := 0) hpos
      have hd0 := hd.out
      rw [hls] at hd0
      simp only [List.getElem?_cons_zero, Option.some.injEq, Prod.mk.injEq] at hd0
      obtain ⟨rfl, rfl⟩ := hd0
      rw [Nat.zero_mul, Nat.add_zero] at hx hy
      have hbl : b < w.heap.size := World.block_lt_of_cell? w _ hx
      have HU := Lib.hid hu
      have HL : Hid (ls.length ≤ 1000000) := Lib.hid (by omega)
      have HL2 : Hid (ls.length ≤ 1000000000) := Lib.hid (by omega)
      have e0 : Hid (readL ls 0 = ([], ls, true)) := Lib.hid (by rw [hls]; simp [readL])
      have hb_of : l.length ≤ 140737488351232 := hb (l, f) (by rw [hls]; simp)
      clear hd hz hu hlen hls hr hy hb
      by_cases hnl : n < l.length
      · obtain ⟨a, b2, c2, r, s, p1, p2, p3, p4, p5, p6, p7, p8⟩ := readL_parts l f t n m hn2 hm2 hnl
        rw [← HLs.out] at p1 p3 p5
        have hlen1 : t.length + 1 = ls.length := by rw [HLs.out]; rfl
        have P1 := Lib.hid p1
        have P2 := Lib.hid p2
        have P3 := Lib.hid p3
        have P4 := Lib.hid p4
        have HR : Hid (usedL r ≤ 140737488355328) := Lib.hid (by have := HU.out; omega)
        have HRL : Hid (r.length ≤ 1000000) := Lib.hid (by have := HL.out; omega)
        have HSL : Hid (s.length ≤ 1000000000) := Lib.hid (by have := HL.out; omega)
        clear p1 p2 p3 p4 p5 p6 p8 hlen1
        have hab : a.length + b2.length ≤ 140737488351232 := by have := hb_of; omega
        go_enter Try.func3, Try.ntmps3
        (go_wp2_with fail; refine (alive_any _).mono ?_; rintro e w1 ⟨rfl, E1⟩)
        (go_wp2_with fail; refine (great_any _ ls _ (H.out.y.ext E1)).mono ?_; rintro e w2 ⟨rfl, E2⟩)
        rw [HG.out]
        (go_wp2_with fail; refine (to_any _ ls _ (H.out.y.ext (by repeat (first | with_reducible exact Ext.refl _ | refine Ext.drewN ?_ _ | refine Ext.drew ?_ | refine Ext.alloc ?_ _ | assumption | (refine Below.trans ?_ (by assumption)) | (refine Ext.trans ?_ (by assumption)) | (refine Below.trans ?_ (Below.mono (by assumption) (by omega)))))) HU.out HL2.out).mono ?_; rintro e w3 ⟨A3, c3, rfl, o3, E3⟩)
        have R3 := Lib.hid o3.rdT
        clear o3
        go_wp2_with fail
        have h := read_any _ ls 0 _ R3.out HU.out HL.out
        rw [e0.out] at h
        refine h.mono ?_
        rintro e w4 ⟨A4, c4, B4, d4, rfl, b4, r4, E4⟩
        have R4 := Lib.hid (r4.mono (B := fun _ => True) fun _ _ _ => trivial).y
        clear h b4 r4
        (go_wp2_with fail; refine (from_any _ ls _ R4.out HL2.out).mono ?_; rintro e w5 ⟨A5, c5, rfl, o5, E5⟩)
        have R5 := Lib.hid o5.rdT.y
        clear o5
        (go_wp2_with fail; refine (ref_any _ ls _ (H.out.y.ext (by repeat (first | with_reducible exact Ext.refl _ | refine Ext.drewN ?_ _ | refine Ext.drew ?_ | refine Ext.alloc ?_ _ | assumption | (refine Below.trans ?_ (by assumption)) | (refine Ext.trans ?_ (by assumption)) | (refine Below.trans ?_ (Below.mono (by assumption) (by omega)))))) HL2.out).mono ?_; rintro e w6 ⟨A6, c6, rfl, o6, E6⟩)
        have R6 := Lib.hid o6.rdT.y
        clear o6
        (go_wp2_with fail; refine (same_any _ _ ls ls _ (R5.out.ext E6) R6.out).mono ?_; rintro e w7 ⟨rfl, E7⟩)
        simp only [decide_true]
        have E70 : Ext w w7 := (by repeat (first | with_reducible exact Ext.refl _ | refine Ext.drewN ?_ _ | refine Ext.drew ?_ | refine Ext.alloc ?_ _ | assumption | (refine Below.trans ?_ (by assumption)) | (refine Ext.trans ?_ (by assumption)) | (refine Below.trans ?_ (Below.mono (by assumption) (by omega)))))
        have hx7 := cell_ext E70 hx
        clear E1 E2 E3 E4 E5 E6 E7 R3 R4 R5 R6
        go_wp2_with fail
        refine (to_any _ ls _ (H.out.y.ext E70) HU.out HL2.out).mono ?_
        rintro e w8 ⟨A8, c8, rfl, o8, E8⟩
        have h := read_any _ ls n _ o8.rdT HU.out HL.out
        rw [P1.out] at h
        (go_wp2_with fail; refine (h).mono ?_; rintro e w9 ⟨A9, c9, B9, d9, rfl, b9, r9, E9⟩)
        have S9 := Lib.hid b9.ri
        have h := read_any _ r m _ r9 HR.out HRL.out
        rw [P2.out] at h
        clear b9 o8
        (go_wp2_with fail; refine (h).mono ?_; rintro e w10 ⟨A10, c10, B10, d10, rfl, b10, r10, E10⟩)
        have S10 := Lib.hid b10.ri
        have R10 := Lib.hid r10.y
        clear b10 r10 r9 h
        (go_wp2_with fail; refine (to_any _ ls _ (H.out.y.ext (by repeat (first | with_reducible exact Ext.refl _ | refine Ext.drewN ?_ _ | refine Ext.drew ?_ | refine Ext.alloc ?_ _ | assumption | (refine Below.trans ?_ (by assumption)) | (refine Ext.trans ?_ (by assumption)) | (refine Below.trans ?_ (Below.mono (by assumption) (by omega)))))) HU.out HL2.out).mono ?_; rintro e w11 ⟨A11, c11, rfl, o11, E11⟩)
        have h := read_any _ ls ((n : Int) + m) _ o11.rdT HU.out HL.out
        rw [P3.out] at h
        clear o11
        (go_wp2_with fail; refine (h).mono ?_; rintro e w12 ⟨A12, c12, B12, d12, rfl, b12, r12, E12⟩)
        have S12 := Lib.hid b12.ri
        have R12 := Lib.hid r12.y
        clear b12 r12 h
        have E100 : Ext w10 w12 := E11.trans E12
        have E90 : Ext w9 w12 := E10.trans E100
        have E80 : Ext w7 w12 := E8.trans (E9.trans E90)
        have Q9 := Lib.hid (S9.out.ext E90)
        have Q10 := Lib.hid (S10.out.ext E100)
        clear E8 E9 E10 E11 E12 E90 S9 S10
        have PD : Hid (decide (c2 = a ++ b2) = true) := Lib.hid (decide_eq_true P4.out)
        go_wp2_with (first
          | (at_builtin; refine wpList_openG (j := 7) (b := true) rfl (by rfl) ?_; refine wpList_app0 (A := fun _ => False) rfl (.tmp 104) (.tmp 105) rfl Try.underlying25 info_u8 rfl (by repeat (first | ((with_reducible refine Blk.at_ _ _ ?_); simp; done) | with_reducible refine Blk.drew ?_ | with_reducible refine Blk.alloc ?_ _ | refine Blk.ext ?_ (by assumption))) rfl (RI.y (Q9.out.ext (by repeat (first | with_reducible exact Ext.refl _ | refine Ext.drewN ?_ _ | refine Ext.drew ?_ | refine Ext.alloc ?_ _ | assumption | (refine Below.trans ?_ (by assumption)) | (refine Ext.trans ?_ (by assumption)) | (refine Below.trans ?_ (Below.mono (by assumption) (by omega))))))) rfl (fun _ _ h => h.elim) (by simp [maxLen]; omega) (by omega) ?_; intro A13 c13 w13 o13 M13 B13; clear M13)
          | (at_builtin; refine wpList_openG (j := 7) (b := true) rfl (by rfl) ?_; refine wpList_app (B := fun _ => False) (A := fun _ => False) rfl (.tmp 106) (.tmp 107) rfl Try.underlying25 info_u8 rfl o13 rfl (RI.y (Q10.out.ext (by repeat (first | with_reducible exact Ext.refl _ | refine Ext.drewN ?_ _ | refine Ext.drew ?_ | refine Ext.alloc ?_ _ | assumption | (refine Below.trans ?_ (by assumption)) | (refine Ext.trans ?_ (by assumption)) | (refine Below.trans ?_ (Below.mono (by assumption) (by omega))))))) rfl (fun _ _ h => h.elim) rfl (by simp [maxLen]; omega) (by omega) (by have := B13.size; simp at this; omega) ?_; intro A14 c14 w14 o14 M14 B14; clear M14)
          | ((go_at_call 14; refine (bytes_any _ _ c2 (a ++ b2) _ (S12.out.ext (by repeat (first | with_reducible exact Ext.refl _ | refine Ext.drewN ?_ _ | refine Ext.drew ?_ | refine Ext.alloc ?_ _ | assumption | (refine Below.trans ?_ (by assumption)) | (refine Ext.trans ?_ (by assumption)) | (refine Below.trans ?_ (Below.mono (by assumption) (by omega)))))) o14.rdT.ri).mono ?_; rintro e w15 ⟨rfl, E15⟩); rw [PD.out]; have E150 : Ext w12 w15 := (by repeat (first | with_reducible exact Ext.refl _ | refine Ext.drewN ?_ _ | refine Ext.drew ?_ | refine Ext.alloc ?_ _ | assumption | (refine Below.trans ?_ (by assumption)) | (refine Ext.trans ?_ (by assumption)) | (refine Below.trans ?_ (Below.mono (by assumption) (by omega)))))))
        refine (from_any _ s _ (R10.out.ext (E100.trans E150)) HSL.out).mono ?_
        rintro e w16 ⟨A16, c16, rfl, o16, E16⟩
        have R16 := Lib.hid o16.rdT.y
        clear o16
        (go_wp2_with fail; refine (from_any _ s _ (R12.out.ext (E150.trans E16)) HSL.out).mono ?_; rintro e w17 ⟨A17, c17, rfl, o17, E17⟩)
        have R17 := Lib.hid o17.rdT.y
        clear o17
        (go_wp2_with fail; refine (same_any _ _ s s _ (R16.out.ext E17) R17.out).mono ?_; rintro e w18 ⟨rfl, E18⟩)
        simp only [decide_true]
        have E180 : Ext w w18 := E70.trans (E80.trans (E150.trans (E16.trans (E17.trans E18))))
        go_wp2_with fail
        go_ret
        exact ⟨rfl, E180⟩
      · go_enter Try.func3, Try.ntmps3
        (go_wp2_with fail; refine (alive_any _).mono ?_; rintro e w1 ⟨rfl, E1⟩)
        (go_wp2_with fail; refine (great_any _ ls _ (H.out.y.ext E1)).mono ?_; rintro e w2 ⟨rfl, E2⟩)
        rw [HG.out]
        (go_wp2_with fail; refine (to_any _ ls _ (H.out.y.ext (by repeat (first | with_reducible exact Ext.refl _ | refine Ext.drewN ?_ _ | refine Ext.drew ?_ | refine Ext.alloc ?_ _ | assumption | (refine Below.trans ?_ (by assumption)) | (refine Ext.trans ?_ (by assumption)) | (refine Below.trans ?_ (Below.mono (by assumption) (by omega)))))) HU.out HL2.out).mono ?_; rintro e w3 ⟨A3, c3, rfl, o3, E3⟩)
        have R3 := Lib.hid o3.rdT
        clear o3
        go_wp2_with fail
        have h := read_any _ ls 0 _ R3.out HU.out HL.out
        rw [e0.out] at h
        refine h.mono ?_
        rintro e w4 ⟨A4, c4, B4, d4, rfl, b4, r4, E4⟩
        have R4 := Lib.hid (r4.mono (B := fun _ => True) fun _ _ _ => trivial).y
        clear h b4 r4
        (go_wp2_with fail; refine (from_any _ ls _ R4.out HL2.out).mono ?_; rintro e w5 ⟨A5, c5, rfl, o5, E5⟩)
        have R5 := Lib.hid o5.rdT.y
        clear o5
        (go_wp2_with fail; refine (ref_any _ ls _ (H.out.y.ext (by repeat (first | with_reducible exact Ext.refl _ | refine Ext.drewN ?_ _ | refine Ext.drew ?_ | refine Ext.alloc ?_ _ | assumption | (refine Below.trans ?_ (by assumption)) | (refine Ext.trans ?_ (by assumption)) | (refine Below.trans ?_ (Below.mono (by assumption) (by omega)))))) HL2.out).mono ?_; rintro e w6 ⟨A6, c6, rfl, o6, E6⟩)
        have R6 := Lib.hid o6.rdT.y
        clear o6
        (go_wp2_with fail; refine (same_any _ _ ls ls _ (R5.out.ext E6) R6.out).mono ?_; rintro e w7 ⟨rfl, E7⟩)
        simp only [decide_true]
        have E70 : Ext w w7 := (by repeat (first | with_reducible exact Ext.refl _ | refine Ext.drewN ?_ _ | refine Ext.drew ?_ | refine Ext.alloc ?_ _ | assumption | (refine Below.trans ?_ (by assumption)) | (refine Ext.trans ?_ (by assumption)) | (refine Below.trans ?_ (Below.mono (by assumption) (by omega)))))
        have hx7 := cell_ext E70 hx
        clear E1 E2 E3 E4 E5 E6 E7 R3 R4 R5 R6
        go_wp2_with fail
        go_ret
        exact ⟨rfl, E70⟩
/-- an argument of lines -/
theorem opens_ln {H : Type} {enc : TypeId × Value → H} (W : World) : Opens enc Try.prog W 22 (Rep.sl Ln) (fun l => (∀ x ∈ l, x.1.length ≤ 140737488351232 ∧ ∀ z ∈ x.1, 0 ≤ z ∧ z ≤ 255) ∧ l.length * 32 ≤ 140737488351232) := by
  have h1 := opens_slice (enc := enc) (W := W) Try.underlying22 (by kernel_rfl) (opens_pair Try.underlying35 rfl rfl (by kernel_rfl) (by kernel_rfl) (by kernel_rfl)
    (opens_slice Try.underlying25 (by kernel_rfl) (opens_int Try.underlying5)) (opens_bool Try.underlying4))
  intro fuel cs x h hw
  obtain ⟨l, hr, hR⟩ := h1 fuel cs x h hw
  have e1 : Try.prog.bytesOf 5 = 1 := by kernel_rfl
  have e2 : Try.prog.bytesOf 35 = 32 := by kernel_rfl
  rw [e2] at hR
  refine ⟨l, hr, fun y hy => ⟨?_, fun z hz => u8_bd ((hR.1 y hy).1.1 z hz)⟩, hR.2⟩
  have := (hR.1 y hy).1.2
  rw [e1] at this
  omega
set_option maxRecDepth 100000 in
theorem canonParts_lifted (os : Os) (started : os.Started) (H : Type) (enc : TypeId × Value → H) :
    ReturnsInHanded {} Try.checked os 3 .any (Rows.canonPartsSpec.pre6 enc Try.prog Try.f3 Rows.canonPartsRow.domain false) (Rows.canonPartsSpec.post enc Try.prog Try.f3 false true false false) := by
  refine returnsInHanded_of_change_sized (C := Try.checked) (by kernel_rfl) started (by kernel_rfl) Try.func3
    (ChangeSpec.witness6 (enc := enc) (C := Try.checked) false ⟨#[], #[.slice none 0 0, .int .u8 0, .int .u8 0], []⟩ 8 (by kernel_rfl) (by kernel_rfl) (by kernel_rfl) (by kernel_rfl)) ?_
  intro W base args ds gs before hval0 hW _ hsz0 _
  have hsz : (DataW.weightsEach Try.prog (Try.f3.params.toList ++ Rows.canonPartsSpec.plain.varTypes Try.prog) (ds ++ gs)).all (· ≤ reachBytes) = true := hsz0
  clear hsz0
  have hval : ∀ (j : Nat) t v, Try.f3.params[j]? = some t → args[j]? = some v → Value.okWide Try.prog W .any base t v := hval0
  have hW' := hW
  obtain ⟨p, q, hA0, hV, rfl, _, _⟩ := hW
  have hA : DataW.TrodAll enc Try.prog W 0 (fun _ => true) true Try.f3.params.toList args.toList ds p := hA0
  rw [Try.params3] at hA hval hsz
  obtain ⟨rfl, rfl⟩ := trodVars_none hV
  have hkeep := hA
  have hlt : ∀ x ∈ p, x.block < W.heap.size := fun x hx => hW'.lt x (by simpa using hx)
  clear hA0 hval0
  obtain ⟨v0, vs0, d0, ds0, p0, q0, hargs, rfl, rfl, h0, r0⟩ := trodAll_cons hA
  obtain ⟨v1, vs1, d1, ds1, p1, q1, rfl, rfl, rfl, h1, r1⟩ := trodAll_cons r0
  obtain ⟨v2, vs2, d2, ds2, p2, q2, rfl, rfl, rfl, h2, r2⟩ := trodAll_cons r1
  obtain ⟨rfl, rfl, rfl⟩ := trodAll_nil r2
  obtain rfl : args = #[v0, v1, v2] := by cases args; simp_all
  simp only [List.cons_append, List.nil_append, DataW.weightsEach, List.all_append, Bool.and_eq_true] at hsz
  obtain ⟨ls, hx, hb⟩ := (opens_ln (enc := enc) W).slice Try.underlying22 (hval 0 22 v0 rfl rfl) h0 hsz.1
  obtain ⟨n, rfl, rfl, rfl, hn⟩ := open_int Try.underlying5 (hval 1 5 v1 rfl rfl) h1
  obtain ⟨m, rfl, rfl, rfl, hm⟩ := open_int Try.underlying5 (hval 2 5 v2 rfl rfl) h2
  have hn' := u8_bd hn
  have hm' := u8_bd hm
  refine (canonParts_walk v0 ls n m W hx (fun x hx => (hb.1 x hx).1) hn'.1 hn'.2 hm'.1 hm'.2).mono fun e W' ⟨he, hE⟩ => ?_
  subst he
  exact ⟨_, rfl, _, _, _, [], _, [], hW', trodAll_mk1 (shut_bool Try.underlying4 _), trodAll_stays (by kernel_rfl) (by kernel_rfl) hkeep hE hlt, rfl, hE.frame _, fun h => by cases h⟩
/-- THE STATEMENT -/
theorem canonParts_holds : Rows.CanonPartsSaid :=
  OpenClaim.holds_of_wide 3 Try.f3 rfl rfl rfl rfl rfl rfl rfl ⟨rfl, rfl, rfl, rfl, rfl⟩ rfl rfl rfl rfl rfl (by kernel_rfl) Try.func3 (by kernel_rfl)
    (of_decide_eq_true (by kernel_rfl)) (by unfold Func.isWrapper; first | (rw [if_pos (by decide +kernel)]; kernel_rfl) | (rw [if_neg (by decide +kernel)]; exact ⟨rfl, rfl⟩))
    (fun os started H enc _ => canonParts_lifted os started H enc)
end Go.Proofs.Ytgahpclgdhghjaa
