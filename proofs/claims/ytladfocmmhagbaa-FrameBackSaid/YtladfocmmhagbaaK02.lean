/- FramePieces: for every framer, bytes and cut the law answers true, and leaves its arguments as they were. No condition. -/
import Derived.Test.YtladfocmmhagbaaJ02
import Derived.Deep.DeepCutAuto
namespace Go.Proofs.Ytladfocmmhagbaa
open Go.RowKit Go.Kb Go.Kb.Frame Go.ChangeShapes Go.WideShapes Go.ChangeAt

/-- bytes in two pieces are bytes at once -/
theorem feed_append : ∀ (f : Nat) (a b : List Int), a.length ≤ f →
    (∀ l, feed a = (l, none) → feed (a ++ b) = (l, none)) ∧ (∀ l r, feed a = (l, some r) → feed (a ++ b) = (l ++ (feed (r ++ b)).1, (feed (r ++ b)).2)) := by
  intro f
  induction f with
  | zero =>
    intro a b hl
    have : a = [] := List.eq_nil_of_length_eq_zero (by omega)
    subst this
    refine ⟨fun l h => by simp [feed, feedGo] at h, fun l r h => ?_⟩
    simp [feed, feedGo] at h
    obtain ⟨rfl, rfl⟩ := h
    simp
  | succ f ih =>
    intro a b hl
    by_cases h4 : 4 ≤ a.length
    · have h4b : 4 ≤ (a ++ b).length := by simp; omega
      have hd : hd4 (a ++ b) = hd4 a := by
        obtain ⟨x, y, z, u, t, rfl⟩ := four_of h4
        rfl
      by_cases hin : 1 ≤ hd4 a ∧ hd4 a ≤ 33792
      · obtain ⟨n, hn⟩ := Int.eq_ofNat_of_zero_le (show 0 ≤ hd4 a by omega)
        by_cases hw : (a.length : Int) < 4 + hd4 a
        · rw [feed_wait4 h4 hin hw]
          refine ⟨fun l h => by simp at h, fun l r h => ?_⟩
          simp only [Prod.mk.injEq, Option.some.injEq] at h
          obtain ⟨rfl, rfl⟩ := h
          simp
        · have e1 := feed_more4 h4 hin hn (by omega)
          have e2 := feed_more4 h4b (by rw [hd]; exact hin) (by rw [hd]; exact hn) (by simp; omega)
          have e3 : ((a ++ b).drop 4).take n = (a.drop 4).take n := by
            rw [List.drop_append_of_le_length h4, List.take_append_of_le_length (by simp; omega)]
          have e4 : (a ++ b).drop (4 + n) = a.drop (4 + n) ++ b := List.drop_append_of_le_length (by omega)
          obtain ⟨i1, i2⟩ := ih (a.drop (4 + n)) b (by simp; omega)
          rw [e1, e2, e3, e4]
          refine ⟨fun l h => ?_, fun l r h => ?_⟩
          · simp only [Prod.mk.injEq] at h
            obtain ⟨rfl, h⟩ := h
            have := i1 _ (Prod.ext rfl h)
            rw [this]
          · simp only [Prod.mk.injEq] at h
            obtain ⟨rfl, h⟩ := h
            have := i2 _ r (Prod.ext rfl h)
            rw [this]
            simp
      · rw [feed_bad4 h4 hin, feed_bad4 h4b (by rw [hd]; exact hin)]
        exact ⟨fun l h => h, fun l r h => by simp at h⟩
    · rw [feed_short (by omega)]
      refine ⟨fun l h => by simp at h, fun l r h => ?_⟩
      simp only [Prod.mk.injEq, Option.some.injEq] at h
      obtain ⟨rfl, rfl⟩ := h
      simp
/-- the same of a framer -/
theorem feedR_append (bad : Bool) (xs a b : List Int) {r r2 r0 : List Int} {d d2 d0 : Bool} {l l2 l0 : List (List Int)} {n n2 n0 : Int} (h1 : feedR bad (xs ++ a) = ((r, d), l, n)) (h2 : feedR d (r ++ b) = ((r2, d2), l2, n2)) (h0 : feedR bad (xs ++ (a ++ b)) = ((r0, d0), l0, n0)) :
    (n ≠ 0 → n0 = n ∧ n2 = 9 ∧ l2 = [] ∧ d0 = true ∧ d2 = true ∧ l0 = l) ∧ (n = 0 → n0 = n2 ∧ d0 = d2 ∧ r0 = r2 ∧ l0 = l ++ l2) := by
  cases bad
  · have key := feed_append (xs ++ a).length (xs ++ a) b (Nat.le_refl _)
    rw [List.append_assoc] at key
    cases hc : (feed (xs ++ a)).2 with
    | none =>
      have e := key.1 _ (Prod.ext rfl hc)
      rw [feedR_none (Prod.ext rfl hc)] at h1
      rw [feedR_none e] at h0
      simp only [Prod.mk.injEq] at h1 h0
      obtain ⟨⟨rfl, rfl⟩, rfl, rfl⟩ := h1
      obtain ⟨⟨rfl, rfl⟩, rfl, rfl⟩ := h0
      rw [feedR_bad] at h2
      simp only [Prod.mk.injEq] at h2
      obtain ⟨⟨rfl, rfl⟩, rfl, rfl⟩ := h2
      simp
    | some s =>
      have e := key.2 _ s (Prod.ext rfl hc)
      rw [feedR_some (Prod.ext rfl hc)] at h1
      simp only [Prod.mk.injEq] at h1
      obtain ⟨⟨rfl, rfl⟩, rfl, rfl⟩ := h1
      cases hs : (feed (s ++ b)).2 with
      | none =>
        rw [feedR_none (Prod.ext rfl hs)] at h2
        rw [hs] at e
        rw [feedR_none e] at h0
        simp only [Prod.mk.injEq] at h2 h0
        obtain ⟨⟨rfl, rfl⟩, rfl, rfl⟩ := h2
        obtain ⟨⟨rfl, rfl⟩, rfl, rfl⟩ := h0
        simp
      | some q =>
        rw [feedR_some (Prod.ext rfl hs)] at h2
        rw [hs] at e
        rw [feedR_some e] at h0
        simp only [Prod.mk.injEq] at h2 h0
        obtain ⟨⟨rfl, rfl⟩, rfl, rfl⟩ := h2
        obtain ⟨⟨rfl, rfl⟩, rfl, rfl⟩ := h0
        simp
  · rw [feedR_bad] at h1 h0
    simp only [Prod.mk.injEq] at h1 h0
    obtain ⟨⟨rfl, rfl⟩, rfl, rfl⟩ := h1
    obtain ⟨⟨rfl, rfl⟩, rfl, rfl⟩ := h0
    rw [feedR_bad] at h2
    simp only [Prod.mk.injEq] at h2
    obtain ⟨⟨rfl, rfl⟩, rfl, rfl⟩ := h2
    simp

/-- what a framer's struct laid in one block leaves of the rest -/
theorem after_store {g m bs : Nat} {w0 w6 W : World} {cs : Array Value} {v lv : Value} {r : List Int} {ls : List (List Int)} {vs : List Value} (hE : Ext w0 w6) (hg : w0.heap.size ≤ g) (hb : Blk w6 g 34 cs) (r6 : OwnB w6 m v r)
    (o6 : OwnVs w6 bs lv ls vs) (hM : Mod (fun k => k = g) w6 W) : RI .u8 W v r ∧ RdLs W lv ls ∧ Ext w0 W := by
  have ne : ∀ {e : TypeId} {b n : Nat} {x : Value} {zs : List Value}, w6.ownsRow b e 1 x n zs → e ≠ 34 → ∀ k, x.ownBlock = some k → ¬ k = g := fun h hne k hk he => own_blk_ne h hb hne (by rw [hk, he])
  refine ⟨(RdN.of_own r6).mod hM (ne r6 (by decide)), ?_, Mod.toExt hE hM (by intro k hk; omega)⟩
  obtain ⟨h1, h2, h3⟩ := o6
  exact ⟨vs, h1, (RdN.of_own h2).mod hM (ne h2 (by decide)), fun j x l hx hl => (RdN.of_own (h3 j x l hx hl)).mod hM (ne (h3 j x l hx hl) (by decide))⟩
theorem after_new {m bs : Nat} {w0 w6 : World} {cs : Array Value} {v lv : Value} {r : List Int} {ls : List (List Int)} {vs : List Value} (t : TypeId) (hE : Ext w0 w6) (r6 : OwnB w6 m v r)
    (o6 : OwnVs w6 bs lv ls vs) : RI .u8 (w6.alloc (.cells cs t)) v r ∧ RdLs (w6.alloc (.cells cs t)) lv ls ∧ Ext w0 (w6.alloc (.cells cs t)) :=
  ⟨(RdN.of_own r6).alloc _, (OwnLs.rd ⟨_, o6⟩).ext ((Ext.refl _).alloc _), hE.alloc _⟩
theorem wpList_open {P : Program} {ops : Array Oper} {Q : Exit → Act → World → Prop} {a : Act} {w : World} {rest : List Oper} {o : Oper} {j : Nat} {b : Bool} (hg : o.guard = some (j, b)) (hj : yielded ops a.tmps j = some b)
    (h : wpList P ops Q ({ o with guard := none } :: rest) a w) : wpList P ops Q (o :: rest) a w := by
  simp only [wpList, Region.wanted, hg, hj, beq_self_eq_true, if_true] at h ⊢
  exact h
theorem one_rows {w : World} {ls : List (List Int)} {vs : List Value} (h1 : vs.length = ls.length) (h3 : ∀ (j : Nat) x l, vs[j]? = some x → ls[j]? = some l → RI .u8 w x l) : ∀ u ∈ vs, u.oneCell' = true := by
  intro u hu
  obtain ⟨j, hj, rfl⟩ := List.getElem_of_mem hu
  obtain ⟨A, c, h, _⟩ := (h3 j _ _ (List.getElem?_eq_getElem hj) (List.getElem?_eq_getElem (by omega))).shape
  rw [h]; rfl
/-- two rows laid behind one another -/
theorem rdls_append {w w' : World} {base n : Nat} {v : Value} {l m : List (List Int)} {vs us : List Value} (ho : w'.ownsRow base 22 1 v n (vs ++ us)) (h1 : vs.length = l.length) (k1 : us.length = m.length) (hn : n = l.length + m.length)
    (h3 : ∀ (j : Nat) x q, vs[j]? = some x → l[j]? = some q → RI .u8 w x q) (k3 : ∀ (j : Nat) x q, us[j]? = some x → m[j]? = some q → RI .u8 w x q) (hE : Ext w w') : RdLs w' v (l ++ m) := by
  refine ⟨vs ++ us, by simp [h1, k1], by rw [List.length_append, ← hn]; exact RdN.of_own ho, fun j x q hx hq => ?_⟩
  rcases Nat.lt_or_ge j vs.length with hj | hj
  · rw [List.getElem?_append_left hj] at hx
    rw [List.getElem?_append_left (by omega)] at hq
    exact (h3 j x q hx hq).ext hE
  · rw [List.getElem?_append_right hj] at hx
    rw [List.getElem?_append_right (by omega), ← h1] at hq
    exact (k3 _ x q hx hq).ext hE
set_option maxRecDepth 100000 in
set_option maxHeartbeats 8000000 in
theorem framePieces_walk (vb v : Value) (bad : Bool) (xs ys : List Int) (k0 : Int) (w : World) (h1 : RI .u8 w vb xs) (h2 : RI .u8 w v ys) (b1 : Bs xs) (b2 : Bs ys) (hk0 : 0 ≤ k0) (hk1 : k0 ≤ 65535) :
    Calls Try.prog 5 #[.agg #[vb, .bool bad], v, .int .u16 k0] w fun e w' => e = .returned (.bool true) ∧ Ext w w' := by
  have X := Lib.hid h1
  have Y := Lib.hid h2
  have BX := Lib.hid b1
  have BY := Lib.hid b2
  obtain ⟨A, c, rfl, hc, hm⟩ := h1.shape
  obtain ⟨A', c', rfl, hc', hm'⟩ := h2.shape
  have BB := Lib.hid (Blk.new w 33 #[.slice A xs.length c, .bool bad])
  clear h1 h2
  by_cases hg : 200000 < xs.length ∨ 200000 < ys.length
  · have HG : Hid (([xs, ys].any fun l => decide (200000 < l.length)) = true) := Lib.hid (by simpa using hg)
    clear hg b1 b2
    go_enter Try.func5, Try.ntmps5
    go_wp2_with (first
      | ((go_at_call 8; refine (alive_any _).mono ?_; rintro e w1 ⟨rfl, E1⟩); obtain ⟨q0, q1, _, _⟩ := (BB.out.ext E1).two)
      | ((go_at_call 9; refine (great_any _ [xs, ys] _ (rdls_two rfl _ ((X.out.alloc _).ext E1) ((Y.out.alloc _).ext E1))).mono ?_; rintro e w2 ⟨rfl, E2⟩); rw [HG.out]))
    go_ret
    exact ⟨rfl, (by repeat (first | with_reducible exact Ext.refl _ | refine Ext.drewN ?_ _ | refine Ext.drew ?_ | refine Ext.alloc ?_ _ | assumption | (refine Below.trans ?_ (by assumption)) | (refine Ext.trans ?_ (by assumption)) | (refine Below.trans ?_ (Below.mono (by assumption) (by omega)))))⟩
  · have HG : Hid (([xs, ys].any fun l => decide (200000 < l.length)) = false) := Lib.hid (by simp; omega)
    have n1 : xs.length ≤ 200000 := by omega
    have n2 : ys.length ≤ 200000 := by omega
    clear hg
    obtain ⟨r0, d0, l0, e0, hR0⟩ : ∃ r d l n, feedR bad (xs ++ ys) = ((r, d), l, n) := ⟨_, _, _, _, rfl⟩
    have HR0 := Lib.hid hR0
    clear b1 b2 hR0
    go_enter Try.func5, Try.ntmps5
    go_wp2_with (first
      | ((go_at_call 8; refine (alive_any _).mono ?_; rintro e w1 ⟨rfl, E1⟩); obtain ⟨q0, q1, _, _⟩ := (BB.out.ext E1).two)
      | ((go_at_call 9; refine (great_any _ [xs, ys] _ (rdls_two rfl _ ((X.out.alloc _).ext E1) ((Y.out.alloc _).ext E1))).mono ?_; rintro e w2 ⟨rfl, E2⟩); rw [HG.out]; clear q0 q1; have E02 : Ext (w.alloc (.cells #[.slice A xs.length c, .bool bad] 33)) w2 := (by repeat (first | with_reducible exact Ext.refl _ | refine Ext.drewN ?_ _ | refine Ext.drew ?_ | refine Ext.alloc ?_ _ | assumption | (refine Below.trans ?_ (by assumption)) | (refine Ext.trans ?_ (by assumption)) | (refine Below.trans ?_ (Below.mono (by assumption) (by omega))))); obtain ⟨q0, q1, _, _⟩ := (BB.out.ext E02).two))
    generalize hkz : k0 % ((ys.length : Int) + 1) = kz
    have hkz0 : 0 ≤ kz := by rw [← hkz]; exact Int.emod_nonneg _ (by omega)
    have hkz1 : kz < (ys.length : Int) + 1 := by rw [← hkz]; exact Int.emod_lt_of_pos _ (by omega)
    obtain ⟨kk, rfl⟩ := Int.eq_ofNat_of_zero_le hkz0
    have hkk : kk ≤ ys.length := by omega
    have hkc : kk ≤ c' := by omega
    clear hkz hkz0 hkz1 hk0 hk1
    have Y1 := Lib.hid (Y.out.toA hkk)
    have Y2 := Lib.hid (Y.out.fromB hkk)
    have BY1 : Hid (Bs (ys.take kk)) := Lib.hid (Bs.sub BY.out fun x hx => List.mem_of_mem_take hx)
    have BY2 : Hid (Bs (ys.drop kk)) := Lib.hid (Bs.sub BY.out fun x hx => List.mem_of_mem_drop hx)
    have hl1 : (ys.take kk).length ≤ 200000 := by rw [List.length_take]; omega
    have hl2 : (ys.drop kk).length ≤ 200000 := by rw [List.length_drop]; omega
    obtain ⟨r1, d1, l1, e1, hR1, hcase⟩ := feedR_cases bad (xs ++ ys.take kk)
    have hBR1 : Bs r1 := by
      rcases hcase with ⟨_, rfl, _⟩ | ⟨_, _, _, hmem⟩
      · intro x hx; simp at hx
      · intro x hx
        rcases List.mem_append.1 (hmem x hx) with h | h
        · exact BX.out x h
        · exact BY1.out x h
    have hlr1 : r1.length ≤ 37892 := by
      rcases hcase with ⟨_, rfl, _⟩ | ⟨_, _, hless, _⟩
      · simp
      · rcases hless with h | ⟨_, _, h, h'⟩ <;> omega
    obtain ⟨r2, d2, l2, e2, hR2⟩ : ∃ r d l n, feedR d1 (r1 ++ ys.drop kk) = ((r, d), l, n) := ⟨_, _, _, _, rfl⟩
    have HLaw := Lib.hid (feedR_append (r0 := r0) (d0 := d0) (l0 := l0) (n0 := e0) bad xs (ys.take kk) (ys.drop kk) hR1 hR2 (by rw [List.take_append_drop]; exact HR0.out))
    have HR1 := Lib.hid hR1
    have HR2 := Lib.hid hR2
    have HBR1 := Lib.hid hBR1
    clear hR1 hR2 hcase hBR1
    refine (to_any _ bad xs _ ((X.out.alloc _).ext E02) (by omega)).mono ?_
    rintro e w3 ⟨v3, rfl, o3, E3⟩
    obtain ⟨A3, c3, rfl⟩ := own_shape o3
    go_wp2_with fail
    refine (feed_any _ _ bad xs ys _ (RdN.of_own o3) (((Y.out.alloc _).ext E02).ext E3) BX.out BY.out (by omega) (by omega)).mono ?_
    rintro e w4 ⟨v4, lv4, rfl, ⟨vs4, mid4, o4, _, r4⟩, E4⟩
    simp only [HR0.out] at o4 r4 ⊢
    obtain ⟨A4, c4, rfl⟩ := own_shape r4
    obtain ⟨B4, d4, rfl⟩ := own_shape o4.2.1
    have L4 := Lib.hid (OwnLs.rd ⟨_, o4⟩)
    have R4 := Lib.hid (RdN.of_own r4)
    clear o3 o4 r4 q0 q1
    have E04 : Ext (w.alloc (.cells #[.slice A xs.length c, .bool bad] 33)) w4 := E02.trans (E3.trans E4)
    go_upto_region 7 with fail
    go_cut [11, 12, 13] (fun s11 s12 s13 wx => ∃ g A5 c5 B5 d5, s11 = .pointer (some ⟨g, 0, none⟩) ∧ s12 = .slice B5 l1.length d5 ∧ s13 = .int .i64 e1 ∧ Blk wx g 34 #[.slice A5 r1.length c5, .bool d1] ∧
      RI .u8 wx (.slice A5 r1.length c5) r1 ∧ RdLs wx (.slice B5 l1.length d5) l1 ∧ Ext (w4.alloc (.cells #[.slice A4 r0.length c4, .bool d0] 34)) wx)
    case first =>
      have q0 := fun o => ((BB.out.ext E04).alloc o).two.1
      have q1 := fun o => ((BB.out.ext E04).alloc o).two.2.1
      have q0' := fun o o' => (((BB.out.ext E04).alloc o).alloc o').two.1
      have q1' := fun o o' => (((BB.out.ext E04).alloc o).alloc o').two.2.1
      go_region_law (go_simp; first | ((go_at_call 13; refine (to_any _ bad xs _ ((X.out.alloc _).ext (E04.trans (by repeat (first | exact Ext.refl _ | refine Ext.drew ?_ | refine Ext.alloc ?_ _)))) (by omega)).mono ?_; rintro e w5 ⟨v5, rfl, o5, E5⟩); obtain ⟨A5, c5, rfl⟩ := own_shape o5; have hc5 := Bc E5; have hf5 := Bf E5; have hz5 := Below.size E5; (try simp at hz5); (try (have z1 : w4.heap.size + 1 < w5.heap.size := by omega)); have E05 := E04.trans (Ext.trans (by repeat (first | exact Ext.refl _ | refine Ext.drew ?_ | refine Ext.alloc ?_ _)) E5)) | ((go_at_call 14; refine (feed_any _ _ bad xs (ys.take kk) _ ((RdN.of_own o5).ext (by repeat (first | exact Ext.refl _ | refine Ext.drew ?_ | refine Ext.alloc ?_ _))) ((Y1.out.alloc _).ext (E05.trans (by repeat (first | exact Ext.refl _ | refine Ext.drew ?_ | refine Ext.alloc ?_ _)))) BX.out BY1.out (by omega) (by omega)).mono ?_; rintro e w6 ⟨v6, lv6, rfl, ⟨vs6, mid6, o6, _, r6⟩, E6⟩); simp only [HR1.out] at o6 r6 ⊢; obtain ⟨A6, c6, rfl⟩ := own_shape r6; obtain ⟨B6, d6, rfl⟩ := own_shape o6.2.1; have hc6 := Bc E6; have hf6 := Bf E6; have hz6 := Below.size E6; (try simp at hz6)))
      all_goals (go_wp2_with fail; go_meet; clear E05 E04 E02)
      all_goals have hE6 : Ext (w4.alloc (.cells #[.slice A4 r0.length c4, .bool d0] 34)) w6 := (by repeat (first | with_reducible exact Ext.refl _ | refine Ext.drewN ?_ _ | refine Ext.drew ?_ | refine Ext.alloc ?_ _ | assumption | (refine Below.trans ?_ (by assumption)) | (refine Ext.trans ?_ (by assumption)) | (refine Below.trans ?_ (Below.mono (by assumption) (by omega)))))
      all_goals first
        | exact ⟨w6.heap.size, A6, c6, B6, d6, rfl, rfl, rfl, Blk.new _ _ _, after_new _ hE6 r6 o6⟩
        | exact ⟨w5.heap.size, A6, c6, B6, d6, rfl, rfl, rfl, ((Blk.at_ (w := w5) 34 #[.slice none 0 0, .bool false] rfl).ext (w' := w6) E6).put2 _ _, after_store (g := w5.heap.size) hE6 (by simp; omega) ((Blk.at_ (w := w5) 34 #[.slice none 0 0, .bool false] rfl).ext (w' := w6) E6) r6 o6 (by repeat (first | with_reducible exact Mod.refl _ _ | refine Mod.drew ?_ | refine Mod.drewN ?_ _ | refine Mod.set1 ?_ _))⟩
        | exact ⟨w4.heap.size + 1, A6, c6, B6, d6, rfl, rfl, rfl, ((Blk.at_ (w := w4.alloc (.cells #[.slice A4 r0.length c4, .bool d0] 34)) 34 #[.slice none 0 0, .bool false] (by simp)).ext (w' := w6) (by clear hE6; exact (by repeat (first | with_reducible exact Ext.refl _ | refine Ext.drewN ?_ _ | refine Ext.drew ?_ | refine Ext.alloc ?_ _ | assumption | (refine Below.trans ?_ (by assumption)) | (refine Ext.trans ?_ (by assumption)) | (refine Below.trans ?_ (Below.mono (by assumption) (by omega))))))).put2 _ _, after_store (g := w4.heap.size + 1) hE6 (by simp) ((Blk.at_ (w := w4.alloc (.cells #[.slice A4 r0.length c4, .bool d0] 34)) 34 #[.slice none 0 0, .bool false] (by simp)).ext (w' := w6) (by clear hE6; exact (by repeat (first | with_reducible exact Ext.refl _ | refine Ext.drewN ?_ _ | refine Ext.drew ?_ | refine Ext.alloc ?_ _ | assumption | (refine Below.trans ?_ (by assumption)) | (refine Ext.trans ?_ (by assumption)) | (refine Below.trans ?_ (Below.mono (by assumption) (by omega))))))) r6 o6 (by repeat (first | with_reducible exact Mod.refl _ _ | refine Mod.drew ?_ | refine Mod.drewN ?_ _ | refine Mod.set1 ?_ _))⟩
    case rest =>
      obtain ⟨g, A5, c5, B5, d5, rfl, rfl, rfl, hG, hR, hL, hE⟩ := hcut
      have G5 := Lib.hid hG
      have R5 := Lib.hid hR
      have L5 := Lib.hid hL
      have h5 := hG.lt
      clear hG hR hL
      have E05 : Ext (w.alloc (.cells #[.slice A xs.length c, .bool bad] 33)) wc := (E04.trans ((Ext.refl _).alloc _)).trans hE
      go_upto_region 8 with fail
      go_cut [1, 14, 15, 16] (fun s1 s11 s12 s13 wx => ∃ g A5 c5 B5 d5, s1 = .slice A' ys.length c' ∧ s11 = .pointer (some ⟨g, 0, none⟩) ∧ s12 = .slice B5 l2.length d5 ∧ s13 = .int .i64 e2 ∧ Blk wx g 34 #[.slice A5 r2.length c5, .bool d2] ∧
        RI .u8 wx (.slice A5 r2.length c5) r2 ∧ RdLs wx (.slice B5 l2.length d5) l2 ∧ Ext wc wx)
      case first =>
        have q0 := G5.out.two.1
        have q1 := G5.out.two.2.1
        have q0' := fun o => (G5.out.alloc o).two.1
        have q1' := fun o => (G5.out.alloc o).two.2.1
        go_region_law (go_simp; (go_at_call 14; refine (feed_any _ _ d1 r1 (ys.drop kk) _ (R5.out.ext (by repeat (first | exact Ext.refl _ | refine Ext.drew ?_ | refine Ext.alloc ?_ _))) ((Y2.out.alloc _).ext (E05.trans (by repeat (first | exact Ext.refl _ | refine Ext.drew ?_ | refine Ext.alloc ?_ _)))) HBR1.out BY2.out (by omega) (by omega)).mono ?_; rintro e w6 ⟨v6, lv6, rfl, ⟨vs6, mid6, o6, _, r6⟩, E6⟩); simp only [HR2.out] at o6 r6 ⊢; obtain ⟨A6, c6, rfl⟩ := own_shape r6; obtain ⟨B6, d6, rfl⟩ := own_shape o6.2.1; have hc6 := Bc E6; have hf6 := Bf E6; have hz6 := Below.size E6; (try simp at hz6))
        all_goals go_wp2_with fail
        all_goals go_meet
        all_goals have hE6 : Ext wc w6 := (by repeat (first | with_reducible exact Ext.refl _ | refine Ext.drewN ?_ _ | refine Ext.drew ?_ | refine Ext.alloc ?_ _ | assumption | (refine Below.trans ?_ (by assumption)) | (refine Ext.trans ?_ (by assumption)) | (refine Below.trans ?_ (Below.mono (by assumption) (by omega)))))
        all_goals first
          | exact ⟨w6.heap.size, A6, c6, B6, d6, (by first | rfl | (congr 1; omega) | simp_all), rfl, rfl, rfl, Blk.new _ _ _, after_new _ hE6 r6 o6⟩
          | exact ⟨wc.heap.size, A6, c6, B6, d6, (by first | rfl | (congr 1; omega) | simp_all), rfl, rfl, rfl, ((Blk.at_ (w := wc) 34 #[.slice none 0 0, .bool false] rfl).ext (w' := w6) (by clear hE6; exact (by repeat (first | with_reducible exact Ext.refl _ | refine Ext.drewN ?_ _ | refine Ext.drew ?_ | refine Ext.alloc ?_ _ | assumption | (refine Below.trans ?_ (by assumption)) | (refine Ext.trans ?_ (by assumption)) | (refine Below.trans ?_ (Below.mono (by assumption) (by omega))))))).put2 _ _, after_store (g := wc.heap.size) hE6 (by simp) ((Blk.at_ (w := wc) 34 #[.slice none 0 0, .bool false] rfl).ext (w' := w6) (by clear hE6; exact (by repeat (first | with_reducible exact Ext.refl _ | refine Ext.drewN ?_ _ | refine Ext.drew ?_ | refine Ext.alloc ?_ _ | assumption | (refine Below.trans ?_ (by assumption)) | (refine Ext.trans ?_ (by assumption)) | (refine Below.trans ?_ (Below.mono (by assumption) (by omega))))))) r6 o6 (by repeat (first | with_reducible exact Mod.refl _ _ | refine Mod.drew ?_ | refine Mod.drewN ?_ _ | refine Mod.set1 ?_ _))⟩
      case rest =>
        obtain ⟨g2, A7, c7, B7, d7, rfl, rfl, rfl, rfl, hG, hR, hL, hE'⟩ := hcut
        have G7 := Lib.hid hG
        have R7 := Lib.hid hR
        have L7 := Lib.hid hL
        have h7 := hG.lt
        clear hG hR hL
        have h4 : w4.heap.size < wc.heap.size := by
          have := (hE.trans hE').size
          simp at this; omega
        have G4 := Lib.hid ((Blk.new w4 34 #[.slice A4 r0.length c4, .bool d0]).ext (hE.trans hE'))
        have R4' := Lib.hid (R4.out.ext (((Ext.refl _).alloc _).trans (hE.trans hE')))
        have L4' := Lib.hid (L4.out.ext (((Ext.refl _).alloc _).trans (hE.trans hE')))
        have L5' := Lib.hid (L5.out.ext hE')
        have E07 : Ext w wc := ((Ext.refl _).alloc _).trans (E05.trans hE')
        clear L5 R5 G5 L4 R4 E05 hE hE' E04 E02 E1 E2 E3 E4
        have q0 := G4.out.two.1
        have q1 := G4.out.two.2.1
        have p0 := G7.out.two.1
        have p1 := G7.out.two.2.1
        by_cases he : e1 = 0
        · obtain ⟨rfl, rfl, rfl, rfl⟩ := HLaw.out.2 he
          subst he
          clear HLaw
          go_wp2_with fail
          refine (same_any _ _ _ _ r0 r0 _ (R4'.out.ext (by repeat (first | exact Ext.refl _ | refine Ext.drew ?_ | refine Ext.alloc ?_ _))) (R7.out.ext (by repeat (first | exact Ext.refl _ | refine Ext.drew ?_ | refine Ext.alloc ?_ _)))).mono ?_
          rintro e w8 ⟨rfl, E8⟩
          simp only [beq_self_eq_true, decide_true, Bool.and_self]
          have hb1 : l1.length ≤ 400000 := by
            have := feedR_bs (bad := bad) (buf := xs ++ ys.take kk)
            rw [HR1.out, List.length_append] at this
            simp only at this; omega
          have hb2 : l2.length ≤ 400000 := by
            have := feedR_bs (bad := d1) (buf := r1 ++ ys.drop kk)
            rw [HR2.out, List.length_append] at this
            simp only at this; omega
          obtain ⟨vs5, hv5, R5, w5⟩ := L5'.out
          obtain ⟨vs7, hv7, R7, w7⟩ := L7.out
          have hv5 := Lib.hid hv5
          have hv7 := Lib.hid hv7
          have R5 := Lib.hid R5
          have R7 := Lib.hid R7
          clear L5' L7
          go_wp2_with (first
            | (at_builtin; refine wpList_open (j := 8) (b := true) rfl (by rfl) ?_; refine app_rows _ rfl _ _ rfl w8.heap.size _ _ [] rfl (own_empty rfl _ _ _ (Nat.le_refl _)) _ _ vs5 rfl (R5.out.ext (E8.alloc _)) (one_rows hv5.out w5) (by omega) (by simp) ?_; intro v9 w9 hown9 hB9 hg9 hat9; rw [Nat.zero_add, List.nil_append] at hown9; obtain ⟨A9, c9, rfl⟩ := own_shape hown9)
            | (at_builtin; refine wpList_open (j := 8) (b := true) rfl (by rfl) ?_; refine app_rows _ rfl _ _ rfl w8.heap.size _ _ _ rfl hown9 _ _ vs7 rfl (R7.out.ext ((E8.alloc _).trans_below hB9 E8.size)) (one_rows hv7.out w7) (by omega) (by have := hB9.size; simp at this; omega) ?_; intro v10 w10 hown10 hB10 hg10 hat10; obtain ⟨A10, c10, rfl⟩ := own_shape hown10))
          have E10 : Ext wc w10 := ((E8.alloc _).trans_below hB9 E8.size).trans_below hB10 E8.size
          have L10 := rdls_append hown10 hv5.out hv7.out rfl w5 w7 E10
          have L4a := L4'.out.ext E10
          rw [List.length_append] at L4a
          try rw [List.length_append]
          refine (lists_any _ _ (l1 ++ l2) (l1 ++ l2) _ L4a L10).mono ?_
          rintro e w11 ⟨rfl, E11⟩
          simp only [decide_true]
          go_wp2_with fail
          go_ret
          exact ⟨rfl, E07.trans (E10.trans E11)⟩
        · obtain ⟨rfl, rfl, rfl, rfl, rfl, rfl⟩ := HLaw.out.1 he
          clear HLaw
          go_wp2_with fail
          refine (lists_any _ _ l0 l0 _ (L4'.out.ext (by repeat (first | exact Ext.refl _ | refine Ext.drew ?_ | refine Ext.alloc ?_ _))) (L5'.out.ext (by repeat (first | exact Ext.refl _ | refine Ext.drew ?_ | refine Ext.alloc ?_ _)))).mono ?_
          rintro e w8 ⟨rfl, E8⟩
          simp only [decide_true]
          go_wp2_with fail
          go_ret
          exact ⟨rfl, (by repeat (first | with_reducible exact Ext.refl _ | refine Ext.drewN ?_ _ | refine Ext.drew ?_ | refine Ext.alloc ?_ _ | assumption | (refine Below.trans ?_ (by assumption)) | (refine Ext.trans ?_ (by assumption)) | (refine Below.trans ?_ (Below.mono (by assumption) (by omega)))))⟩

set_option maxRecDepth 100000 in
theorem framePieces_lifted (os : Os) (started : os.Started) (H : Type) (enc : TypeId × Value → H) :
    ReturnsInHanded {} Try.checked os 5 .any (Rows.framePiecesSpec.pre6 enc Try.prog Try.f5 Rows.framePiecesRow.domain false) (Rows.framePiecesSpec.post enc Try.prog Try.f5 false true false false) := by
  refine returnsInHanded_of_change (C := Try.checked) (by kernel_rfl) started (by kernel_rfl) Try.func5
    (ChangeSpec.witness6 (enc := enc) (C := Try.checked) false ⟨#[], #[.agg #[.slice none 0 0, .bool false], .slice none 0 0, .int .u16 0], []⟩ 8 (by kernel_rfl) (by kernel_rfl) (by kernel_rfl) (by kernel_rfl)) ?_
  intro W base args ds gs before hval0 hW _ _
  have hval : ∀ (j : Nat) t v, Try.f5.params[j]? = some t → args[j]? = some v → Value.okWide Try.prog W .any base t v := hval0
  have hW' := hW
  obtain ⟨p, q, hA0, hV, rfl, _, _⟩ := hW
  have hA : DataW.TrodAll enc Try.prog W 0 (fun _ => true) true Try.f5.params.toList args.toList ds p := hA0
  rw [Try.params5] at hA hval
  obtain ⟨rfl, rfl⟩ := trodVars_none hV
  have hkeep := hA
  have hlt : ∀ x ∈ p, x.block < W.heap.size := fun x hx => hW'.lt x (by simpa using hx)
  clear hA0 hval0
  obtain ⟨v0, vs0, d0, ds0, p0, q0, hargs, rfl, rfl, h0, r0⟩ := trodAll_cons hA
  obtain ⟨v1, vs1, d1, ds1, p1, q1, rfl, rfl, rfl, h1, r1⟩ := trodAll_cons r0
  obtain ⟨v2, vs2, d2, ds2, p2, q2, rfl, rfl, rfl, h2, r2⟩ := trodAll_cons r1
  obtain ⟨rfl, rfl, rfl⟩ := trodAll_nil r2
  obtain rfl : args = #[v0, v1, v2] := by cases args; simp_all
  obtain ⟨va, xs, b, rfl, hx, bx⟩ := open_bytes_bool Try.underlying33 (by kernel_rfl) (by kernel_rfl) Try.underlying22 Try.underlying5 (by kernel_rfl) Try.underlying4 (hval 0 33 v0 rfl rfl) h0
  obtain ⟨ys, hy, bY⟩ := open_bytes1 Try.underlying22 Try.underlying5 (by kernel_rfl) (hval 1 22 v1 rfl rfl) h1
  obtain ⟨k, rfl, rfl, rfl, hk⟩ := open_int Try.underlying45 (hval 2 45 v2 rfl rfl) h2
  have hk' : 0 ≤ k ∧ k ≤ 65535 := by
    simpa [Lit.wf, IntKind.min, IntKind.max, IntKind.signed, IntKind.bits] using hk
  refine (framePieces_walk va v1 b xs ys k W hx hy bx bY hk'.1 hk'.2).mono fun e W' ⟨he, hE⟩ => ?_
  subst he
  exact ⟨_, rfl, _, _, _, [], _, [], hW', trodAll_mk1 (shut_bool Try.underlying4 _), trodAll_stays (by kernel_rfl) (by kernel_rfl) hkeep hE hlt, rfl, hE.frame _, fun h => by cases h⟩
/-- THE STATEMENT -/
theorem framePieces_holds : Rows.FramePiecesSaid :=
  OpenClaim.holds_of_wide 5 Try.f5 rfl rfl rfl rfl rfl rfl rfl ⟨rfl, rfl, rfl, rfl, rfl⟩ rfl rfl rfl rfl rfl (by kernel_rfl) Try.func5 (by kernel_rfl)
    (of_decide_eq_true (by kernel_rfl)) (by unfold Func.isWrapper; first | (rw [if_pos (by decide +kernel)]; kernel_rfl) | (rw [if_neg (by decide +kernel)]; exact ⟨rfl, rfl⟩))
    (fun os started H enc _ => framePieces_lifted os started H enc)
end Go.Proofs.Ytladfocmmhagbaa
