/- What is typed is read as lines, walked: the law answers true. Conditions: the setting is one, bytes are bytes. -/
import Derived.Test.YtfnicinnjkbedaaGreatDoorQT17
namespace Go.Proofs.YtfnicinnjkbedaaGreatDoor
open Go.RowKit Go.Kb
set_option maxRecDepth 100000

/-- append onto a row of the call's own; whose block it is then -/
theorem wpList_appX {D : Type} {e : Rep D} {T : TypeId} {base : Nat} {A B : Nat → Prop} {w : World} {ds ds2 : List D} {v : Value} {P : Program} {z : Value} {bytes : Nat} {t : TypeId}
    {ops : Array Oper} {rest : List Oper} {o : Oper} {a : Act} {Q : Exit → Act → World → Prop} (hgd : o.guard = none) (s x : Operand)
    (ho : o.op = .call { callee := .builtin .append, args := #[s, x], argTypes := #[t, t] })
    (ht : P.underlying t = some (.slice T)) (hi : (P.info? T).map (fun i => (i.zero, i.size, i.bytes)) = some (some z, e.size, bytes)) (hz : z.cells.size = e.size)
    (hown : OwnS e T base B w v ds) (hs : a.eval s = v) {y : Value} (hr : RdY e A w y ds2) (hx : a.eval x = y) (hA : ∀ k, k < w.heap.size → A k → B k ∧ v.ownBlock ≠ some k)
    {N : Nat} (hN : ds.length + ds2.length = N) (h63 : N ≤ maxLen) (hbytes : N * bytes ≤ 140737488355328) (hbase : base ≤ w.heap.size)
    (h : ∀ Ad c w', OwnS e T base B w' (.slice Ad N c) (ds ++ ds2) → Mod (fun k => v.ownBlock = some k) w w' → Below base w w' → ((Value.slice Ad N c).ownBlock = v.ownBlock ∨ (Value.slice Ad N c).ownBlock = some w.heap.size) → wpList P ops Q rest (a.put o.dst (.slice Ad N c)) w') : wpList P ops Q (o :: rest) a w := by
  subst hN
  obtain ⟨us, hus, he⟩ := hown
  obtain ⟨news, hn, hne⟩ := hr
  obtain ⟨i0, hi0, hz0, hz1, hz2⟩ := info_parts hi
  refine wpList_append_rd w hgd s x t ho base T i0 z e.size bytes ht hi0 hz0 hz1 hz2 hz e.pos v ds.length us hs hus y ds2.length news hx hn hne.one h63 hbytes hbase fun v' w' h1 h2 h3 => ?_
  obtain ⟨Ad, c, rfl⟩ := own_shape h1
  exact h Ad c w' (OwnS.app he hne hA h1 h2 h3) (grown_mod h2) ((Below.refl _ _).grown h2 hbase fun k hk => (hus.lt k hk).1) h3
theorem Pt.own_ne {X : Nat → Prop} {p g B : Nat} {w : World} {y : Py} {d : Ds} {v : Value} {out : List Int} (h : Pt X p g w y d) (o : OwnS Ub 5 B (fun _ => False) w v out) : ∀ k, v.ownBlock = some k → ¬ two p g k := by
  obtain ⟨ne, blk, ok, hs, vl, vs, vr, vo, hB, hR⟩ := h
  rintro k hk (rfl | rfl)
  · exact own_blk_ne' o blk (by decide) hk
  · exact own_blk_ne' o hB (by decide) hk
theorem mread_all {X : Nat → Prop} {p g : Nat} {y : Py} (d : Ds) (O : List Int) (w : World) (h : Pt X p g w y d) (hu : y.hu = false) (hs : 0 < y.sl) (hst : d.st = false) (ho : d.out = O) (hl : O.length ≤ 5000) :
    Calls Tryz.prog 15 #[.pointer (some ⟨p, 0, none⟩), .int .i64 5000] w fun e w' => ∃ A c, e = .returned (.tuple #[.slice A O.length c, .int .i64 (if O.length = 0 then 10 else 0)]) ∧ RI .u8 w' (.slice A O.length c) O ∧ Mod (two p g) w w' := by
  subst ho
  refine (mread_any d 5000 w h hu hs hst (by decide)).mono ?_
  rintro e w' ⟨v, rfl, r, -, M⟩
  rw [show d.out.take (min 5000 d.out.length) = d.out by rw [Nat.min_eq_right hl, List.take_length]] at r ⊢
  obtain ⟨A, c, rfl, -, -⟩ := r.shape
  refine ⟨A, c, ?_, r, M⟩
  by_cases h0 : d.out.length = 0
  · rw [if_pos h0, if_pos (List.length_eq_zero_iff.1 h0)]
  · rw [if_neg h0, if_neg (fun hh => h0 (by rw [hh]; rfl))]
set_option maxHeartbeats 3000000 in
theorem topTyped_walk (t : Tm) (v1 : Value) (text : List Int) (w : World) (ht : t.Ok) (h1 : RI .u8 w v1 text) :
    Calls Tryz.prog 4 #[.agg t.arr, v1] w fun e w' => e = .returned (.bool true) ∧ Ext w w' := by
  have hi0 := info_tm ht
  have HPS := Lib.hid (fun w' => plainSet_any t w' ht)
  have hT := Lib.hid (Blk.new w 26 t.arr)
  have hs0 := plT_pl ht
  have HST := Lib.hid (fun w' => set_any (plT t) 53 true w' hs0.ok)
  obtain ⟨hs, h53⟩ := plT_echo hs0
  have hz : (setL (plT t) 53 true).arr.size = t.arr.size := by rw [Tm.size hs.ok, Tm.size ht]
  obtain ⟨s, hss⟩ : ∃ s, setL (plT t) 53 true = s := ⟨_, rfl⟩
  rw [hss] at hs h53 hz HST
  have hi := info_tm hs.ok
  have HPT1 := Lib.hid (fun w' h => plainText_any s v1 text w' hs.ok h)
  have HS0 := Lib.hid hs
  have H53 := Lib.hid h53
  have H1 := Lib.hid h1
  have h1o := Lib.hid (Tm.one s)
  clear ht hss hs h1 h53 hs0
  go_enter Tryz.func4, Tryz.ntmps4
  go_wp2_with fail
  refine (shaken_any _).mono ?_
  rintro e w1 ⟨rfl, E1⟩
  have B1 := Lib.hid (hT.out.ext E1)
  have E01 : Ext w w1 := (by repeat (first | with_reducible exact Ext.refl _ | refine Ext.drewN ?_ _ | refine Ext.drew ?_ | refine Ext.alloc ?_ _ | assumption | (refine Below.trans ?_ (by assumption)) | (refine Ext.trans ?_ (by assumption)) | (refine Below.trans ?_ (Below.mono (by assumption) (by omega)))))
  clear E1
  go_wp2_with (refine wpList_load_row rfl 26 _ rfl w.heap.size rfl 26 t.arr _ _ B1.out Tryz.underlying26 rfl hi0 ?_)
  refine (HPS.out _).mono ?_
  rintro e w2 ⟨rfl, E2⟩
  have B2 := Lib.hid (B1.out.ext E2)
  have E02 : Ext w w2 := E01.trans E2
  clear E2 B1 E01
  go_wp2_with fail
  refine (HST.out _).mono ?_
  rintro e w2b ⟨rfl, E2⟩
  have B3 := Lib.hid (B2.out.ext E2)
  have E02b : Ext w w2b := E02.trans E2
  clear E2 B2 E02
  go_wp2_with (first | (refine wpList_store_A rfl 26 _ _ rfl w.heap.size s.arr rfl rfl 26 t.arr B3.out hi hz.symm h1o.out ?_; intro w3 H3 E3; have HS := Lib.hid H3; have E03 : Ext w w3 := E3 w.heap.size w E02b (Nat.le_refl _); clear H3 E3) | (refine wpList_load_row rfl 26 _ rfl w.heap.size rfl 26 s.arr _ _ (HS.out.ext (by repeat (first | with_reducible exact Ext.refl _ | refine Ext.drewN ?_ _ | refine Ext.drew ?_ | refine Ext.alloc ?_ _ | assumption | (refine Below.trans ?_ (by assumption)) | (refine Ext.trans ?_ (by assumption)) | (refine Below.trans ?_ (Below.mono (by assumption) (by omega)))))) Tryz.underlying26 rfl hi ?_))
  clear E02b B3
  refine (HPT1.out _ (H1.out.ext (E03.trans (by exact (by repeat (first | with_reducible exact Ext.refl _ | refine Ext.drewN ?_ _ | refine Ext.drew ?_ | refine Ext.alloc ?_ _ | assumption | (refine Below.trans ?_ (by assumption)) | (refine Ext.trans ?_ (by assumption)) | (refine Below.trans ?_ (Below.mono (by assumption) (by omega))))))))).mono ?_
  rintro e w4 ⟨q1, rfl, P1, E4⟩
  have E34 : Ext w3 w4 := (by repeat (first | with_reducible exact Ext.refl _ | refine Ext.drewN ?_ _ | refine Ext.drew ?_ | refine Ext.alloc ?_ _ | assumption | (refine Below.trans ?_ (by assumption)) | (refine Ext.trans ?_ (by assumption)) | (refine Below.trans ?_ (Below.mono (by assumption) (by omega)))))
  clear E4
  cases q1 with
  | false =>
    go_wp2
    go_ret
    exact ⟨rfl, E03.trans E34⟩
  | true =>
    have HP1 := Lib.hid (P1 rfl)
    clear P1 HPT1
    go_wp2_with ((refine wpList_load_row rfl 26 _ rfl w.heap.size rfl 26 s.arr _ _ (HS.out.ext (by repeat (first | with_reducible exact Ext.refl _ | refine Ext.drewN ?_ _ | refine Ext.drew ?_ | refine Ext.alloc ?_ _ | assumption | (refine Below.trans ?_ (by assumption)) | (refine Ext.trans ?_ (by assumption)) | (refine Below.trans ?_ (Below.mono (by assumption) (by omega)))))) Tryz.underlying26 rfl hi ?_))
    refine (opened_any s _ HS0.out.ok).mono ?_
    rintro e w5 ⟨p, g, rfl, P5, E5, b1, b2⟩
    have E35 : Ext w3 w5 := E34.trans E5
    have z3 : w3.heap.size ≤ w4.heap.size := E34.size
    have z0 : w.heap.size ≤ w3.heap.size := E03.size
    have TX := Lib.hid (show ∀ wm w', Ext w3 wm → Mod (two p g) wm w' → Ext w3 w' from fun wm w' E M => Mod.toExt E M (by rintro k hk (rfl | rfl) <;> omega))
    have HP5 := Lib.hid P5
    clear P5 E5 E34
    obtain ⟨A1, c1, rfl, hc1, hc2⟩ := H1.out.shape
    have L1 := HP1.out.len
    obtain ⟨n1, hn1⟩ : ∃ n, text.length = n := ⟨_, rfl⟩
    have HN1 := Lib.hid hn1
    have HR1 := Lib.hid (show RdN w 1 (.slice A1 n1 c1) text.length (text.map (Value.int .u8)) by rw [← hn1]; exact H1.out)
    rw [hn1] at L1 hc1 ⊢
    clear hn1 H1
    go_wp2_with fail
    refine (mwrite_any (TypS s text) (.slice A1 n1 c1) text (newD s) _ HP5.out rfl rfl (typS_zero s text) (tyok_typed HS0.out H53.out HP1.out) (by rw [HN1.out]; omega) (fun w' M => RdN.ext HR1.out (E03.trans (TX.out _ _ E35 M)))).mono ?_
    rintro e w6 ⟨A6, c6, rfl, d6, S6, P6, M6⟩
    have E36 := TX.out _ _ E35 M6
    have HI := Lib.hid (TyR.start S6 (by rw [HN1.out]; omega))
    have HP6 := Lib.hid (P6.re (X' := fun j => (Value.slice none 0 0).ownBlock = some j) (Mod.refl (fun _ => False) _) (fun _ h => h) (fun h => h) (fun h => h) (fun _ _ h => by simp [Value.ownBlock] at h) (fun _ h => by simp [Value.ownBlock] at h))
    rw [HN1.out]
    clear S6 P6 M6 HP5 E35
    go_wp2_with fail
    go_loopw [9, 48] (fun o i wr => ∃ (k : Nat) (rd : List Int) (ls : List (List Int × Bool)) (d : Ds), k ≤ 300 ∧ i = .int .i64 k ∧ Hid (TyR s text k rd ls d) ∧ Hid (Pt (fun j => o.ownBlock = some j) p g wr { newY with sl := 1 } d) ∧ Hid (OwnS Ub 5 w3.heap.size (fun _ => False) wr o rd) ∧ Ext w3 wr) (fun _ i _ => 300 - (intOf i).toNat)
    case atStart => exact ⟨0, [], _, d6, by omega, rfl, HI, HP6, Lib.hid (OwnS.nil _ _ _ _ _), E36⟩
    case round =>
      obtain ⟨k, rd, ls, d, hk, rfl, HI, HP, HO, Er⟩ := hrel
      obtain ⟨wq, hwq⟩ : ∃ wq, wq = wr := ⟨_, rfl⟩
      rw [← hwq] at HP HO Er ⊢
      clear hwq E36 HP6
      obtain ⟨hrl, hk2⟩ := HI.out.few (by rw [HN1.out]; omega)
      have hk3 : k < 300 := by omega
      have HRD := Lib.hid (fun w' h hm => sread_any (X := fun j => u9.ownBlock = some j) (p := p) (g := g) (y := { newY with sl := 1 }) d 99 0 w' h rfl (by rw [HI.out.l.t]; exact HS0.out.canon) HI.out.ask.1 HI.out.ask.2 hm)
      unfold SRPost at HRD
      rcases ls with _ | ⟨⟨a, f⟩, r⟩
      · obtain ⟨e9, I9, hrd⟩ := HI.out.none
        rw [e9] at HRD
        have HI9 := Lib.hid I9
        have HM := Lib.hid I9.mko
        have HRR := Lib.hid hrd
        clear e9 I9 hrd HI
        go_wp2_with fail
        refine (HRD.out _ HP.out HM.out).mono ?_
        rintro e w7 ⟨v7, rfl, r7, P7, M7⟩
        have HO7 := Lib.hid (HO.out.mod M7 (HP.out.own_ne HO.out) (fun _ _ h => h.elim))
        have E37 := TX.out _ _ Er M7
        have HP7 := Lib.hid P7
        clear r7 P7 M7 HP HO Er HRD HM
        obtain ⟨d7, hd7⟩ : ∃ d7, d.readD 99 = d7 := ⟨_, rfl⟩
        rw [hd7] at HI9 HP7
        clear hd7
        have HB := Lib.hid (fun w' (h : RI .u8 w' (.slice A1 n1 c1) text) => pbytes_any s 0 (.slice A1 n1 c1) text w' HS0.out.ok h (fun x hx => (HP1.out.ch x hx).1.bd) (by rw [HN1.out]; omega))
        have hbl := bytesL_len (pfL s) 0 text
        have ho7 := HI9.out.o
        obtain ⟨O, hO⟩ : ∃ O, (bytesL (pfL s) 0 text).1 = O := ⟨_, rfl⟩
        rw [hO] at HB hbl ho7
        clear hO
        have HMR := Lib.hid (fun w' h => mread_all (X := fun j => u9.ownBlock = some j) (p := p) (g := g) (y := { newY with sl := 1 }) d7 O w' h rfl (by simp) HI9.out.st ho7 (by rw [HN1.out] at hbl; omega))
        clear hbl ho7
        go_wp2_with fail
        refine (HMR.out _ HP7.out).mono ?_
        rintro e w8 ⟨A8, c8, rfl, r8, M8⟩
        have HO8 := Lib.hid (HO7.out.mod M8 (HP7.out.own_ne HO7.out) (fun _ _ h => h.elim))
        have E38 := TX.out _ _ E37 M8
        have HR8 := Lib.hid r8
        clear r8 M8 HO7 E37 HP7 HMR
        obtain ⟨m8, hm8⟩ : ∃ m, O.length = m := ⟨_, rfl⟩
        have HM8 := Lib.hid hm8
        have HR8 := Lib.hid (show RdN w8 1 (.slice A8 m8 c8) O.length (O.map (Value.int .u8)) by rw [← hm8]; exact HR8.out)
        rw [hm8]
        clear hm8
        obtain ⟨e8, he8⟩ : ∃ e : Int, (if m8 = 0 then (10 : Int) else 0) = e := ⟨_, rfl⟩
        rw [he8]
        have HE8 := Lib.hid he8
        clear he8
        go_wp2_with ((refine wpList_load_row rfl 26 _ rfl w.heap.size rfl 26 s.arr _ _ (HS.out.ext (by repeat (first | with_reducible exact Ext.refl _ | refine Ext.drewN ?_ _ | refine Ext.drew ?_ | refine Ext.alloc ?_ _ | assumption | (refine Below.trans ?_ (by assumption)) | (refine Ext.trans ?_ (by assumption)) | (refine Below.trans ?_ (Below.mono (by assumption) (by omega)))))) Tryz.underlying26 rfl hi ?_))
        refine (HB.out _ (RdN.ext HR1.out (E03.trans E38))).mono ?_
        rintro e w9 ⟨A9, n9, c9, l9, rfl, o9, E9⟩
        obtain rfl : m8 = n9 := by rw [← HM8.out]; exact l9
        have R9 := Lib.hid (show RI .u8 w9 (.slice A9 m8 c9) O from RdY.ri o9.y)
        have RO := Lib.hid (show RI .u8 w9 u9 (flatL (spl text).1) from by
          have h9 := RdY.ri ((HO8.out.ext E9).y)
          rw [HRR.out] at h9
          exact h9)
        have R8 := Lib.hid (HR8.out.ext E9)
        have E39 : Ext w3 w9 := E38.trans E9
        clear o9 l9 HO8 HR8 E9 E38 HB HI9 HRR
        go_wp2
        go_loopw [16] (fun i wr => ∃ j : Nat, j ≤ n1 ∧ i = .int .i64 j ∧ Hid (∀ q, j ≤ q → text[q]? ≠ some 10) ∧ Ext w9 wr) (fun i _ => (intOf i).toNat)
        case atStart => exact ⟨n1, Nat.le_refl _, rfl, Lib.hid (fun q hq he => by
          have := (List.getElem?_eq_some_iff.1 he).1
          rw [HN1.out] at this
          omega), Ext.refl _⟩
        case round =>
          obtain ⟨j, hj, rfl, HJ, hEj⟩ := hrel
          obtain ⟨wp, hwp⟩ : ∃ wp, wp = wr := ⟨_, rfl⟩
          rw [← hwp] at hEj ⊢
          clear hwp
          rcases j with _ | j
          · have HE := Lib.hid (end_uniq (l := text) (j := 0) (.inl rfl) HJ.out)
            clear HJ
            have i1 : ((0 : Nat) : Int) ≤ (c1 : Int) := by omega
            have i2 : 0 ≤ c1 := by omega
            have i3 : (0 : Int) ≤ ((0 : Nat) : Int) := by omega
            have i4 : ((0 : Nat) : Int) ≤ (n1 : Int) := by omega
            have RT := Lib.hid (ri_to (n := 0) (show RI .u8 w (.slice _ text.length c1) text by rw [HN1.out]; exact HR1.out) (by rw [HN1.out]; omega))
            have RB8 := Lib.hid (R8.out.ext hEj)
            have RB9 := Lib.hid (R9.out.ext hEj)
            have RBO := Lib.hid (RO.out.ext hEj)
            have EB := Lib.hid (E39.trans hEj)
            clear R8 R9 RO hEj E39
            by_cases hm0 : m8 = 0
            · subst hm0
              obtain rfl : 10 = e8 := HE8.out
              go_wp2_with fail
              refine (Fr.bytes_any _ _ O O _ RB8.out RB9.out).mono ?_
              rintro e wx ⟨rfl, Ex⟩
              have EX := Lib.hid (EB.out.trans Ex)
              go_wp2_with fail
              refine (Fr.bytes_any _ _ _ _ _ (RdN.ext RBO.out Ex) (RdN.ext RT.out (E03.trans EX.out))).mono ?_
              rintro e wy ⟨rfl, Ey⟩
              go_wp2
              go_ret
              exact ⟨by simp [HE.out], E03.trans (EX.out.trans Ey)⟩
            · have hm1 : ¬ ((m8 : Int) = 0) := by omega
              obtain rfl : 0 = e8 := by have h9 := HE8.out; rw [if_neg hm0] at h9; exact h9
              go_wp2_with fail
              refine (Fr.bytes_any _ _ O O _ RB8.out RB9.out).mono ?_
              rintro e wx ⟨rfl, Ex⟩
              have EX := Lib.hid (EB.out.trans Ex)
              go_wp2_with fail
              refine (Fr.bytes_any _ _ _ _ _ (RdN.ext RBO.out Ex) (RdN.ext RT.out (E03.trans EX.out))).mono ?_
              rintro e wy ⟨rfl, Ey⟩
              go_wp2
              go_ret
              exact ⟨by simp [HE.out], E03.trans (EX.out.trans Ey)⟩
          · obtain ⟨b, off, x, rfl, hx, hd⟩ := (RdN.ext HR1.out (E03.trans (E39.trans hEj))).icell (show j < n1 by omega)
            have hj1 : ((j + 1 : Nat) : Int) - 1 = (j : Int) := by omega
            have hj2 : (0 : Int) < ((j + 1 : Nat) : Int) := by omega
            by_cases hx10 : x = 10
            · subst hx10
              have HE := Lib.hid (end_uniq (l := text) (j := j + 1) (.inr (by simpa using hd.out)) HJ.out)
              clear HJ
              have i1 : (((j + 1) : Nat) : Int) ≤ (c1 : Int) := by omega
              have i2 : (j + 1) ≤ c1 := by omega
              have i3 : (0 : Int) ≤ (((j + 1) : Nat) : Int) := by omega
              have i4 : (((j + 1) : Nat) : Int) ≤ (n1 : Int) := by omega
              have RT := Lib.hid (ri_to (n := (j + 1)) (show RI .u8 w (.slice _ text.length c1) text by rw [HN1.out]; exact HR1.out) (by rw [HN1.out]; omega))
              have RB8 := Lib.hid (R8.out.ext hEj)
              have RB9 := Lib.hid (R9.out.ext hEj)
              have RBO := Lib.hid (RO.out.ext hEj)
              have EB := Lib.hid (E39.trans hEj)
              clear R8 R9 RO hEj E39
              by_cases hm0 : m8 = 0
              · subst hm0
                obtain rfl : 10 = e8 := HE8.out
                go_wp2_with fail
                refine (Fr.bytes_any _ _ O O _ RB8.out RB9.out).mono ?_
                rintro e wx ⟨rfl, Ex⟩
                have EX := Lib.hid (EB.out.trans Ex)
                go_wp2_with fail
                refine (Fr.bytes_any _ _ _ _ _ (RdN.ext RBO.out Ex) (RdN.ext RT.out (E03.trans EX.out))).mono ?_
                rintro e wy ⟨rfl, Ey⟩
                go_wp2
                go_ret
                exact ⟨by simp [HE.out], E03.trans (EX.out.trans Ey)⟩
              · have hm1 : ¬ ((m8 : Int) = 0) := by omega
                obtain rfl : 0 = e8 := by have h9 := HE8.out; rw [if_neg hm0] at h9; exact h9
                go_wp2_with fail
                refine (Fr.bytes_any _ _ O O _ RB8.out RB9.out).mono ?_
                rintro e wx ⟨rfl, Ex⟩
                have EX := Lib.hid (EB.out.trans Ex)
                go_wp2_with fail
                refine (Fr.bytes_any _ _ _ _ _ (RdN.ext RBO.out Ex) (RdN.ext RT.out (E03.trans EX.out))).mono ?_
                rintro e wy ⟨rfl, Ey⟩
                go_wp2
                go_ret
                exact ⟨by simp [HE.out], E03.trans (EX.out.trans Ey)⟩
            · have hx1 : (x == 10) = false := by simpa using hx10
              have hx2 : (x != 10) = true := by simpa using hx10
              go_wp2
              go_roundw
              case rel => exact ⟨j, by omega, by go_num, Lib.hid (fun q hq => by
                rcases Nat.eq_or_lt_of_le hq with h | h
                · rw [← h, hd.out]
                  intro hh
                  exact hx10 (Option.some.inj hh)
                · exact HJ.out q (by omega)), hEj⟩
              case measure => simp [intOf]
      · obtain ⟨b, ls2, R⟩ := HI.out.some
        have e9 := R.e
        have HR := Lib.hid R
        have HM := Lib.hid R.r.mko
        have hpos := R.pos
        have hle := R.le
        rw [e9] at HRD
        clear e9 R HI
        go_wp2_with fail
        refine (HRD.out _ HP.out HM.out).mono ?_
        rintro e w7 ⟨v7, rfl, r7, P7, M7⟩
        have HO7 := Lib.hid (HO.out.mod M7 (HP.out.own_ne HO.out) (fun _ _ h => h.elim))
        have E37 := TX.out _ _ Er M7
        have HP7 := Lib.hid P7
        have r7 : RI .u8 w7 v7 b := r7
        obtain ⟨A7, c7, rfl, hc7, hc8⟩ := r7.shape
        obtain ⟨m7, hm7⟩ : ∃ m, b.length = m + 1 := ⟨b.length - 1, by omega⟩
        obtain ⟨N7, hN7⟩ : ∃ N, rd.length + b.length = N := ⟨_, rfl⟩
        have HN7 := Lib.hid hN7
        have hcnt := (HR.out.r).few (by rw [HN1.out]; omega)
        rw [List.length_append] at hcnt
        have HR7 := Lib.hid (show RdN w7 1 (.slice A7 (m7 + 1) c7) b.length (b.map (Value.int .u8)) by rw [← hm7]; exact r7)
        have hlast := HR.out.last
        rw [hm7] at hlast hc7 hle ⊢
        have z7 := E37.size
        have hb7 : N7 ≤ 200 := by omega
        obtain ⟨bb, off, x, rfl, hx, hd⟩ := HR7.out.icell (show m7 < m7 + 1 by omega)
        have hlx := hlast x (by simpa using hd.out)
        clear hlast r7 P7 M7 HP HO Er HRD HM hd hN7 hcnt
        have hj1 : ((m7 + 1 : Nat) : Int) - 1 = (m7 : Int) := by omega
        have hj2 : ¬ (((m7 + 1 : Nat) : Int) = 0) := by omega
        have hj3 : (((m7 + 1 : Nat) : Int) == 0) = false := by simpa using hj2
        by_cases hx10 : x = 10
        · subst hx10
          clear hlx
          go_wp2_with (at_builtin; refine wpList_appX (e := Ub) (base := w3.heap.size) (B := fun _ => False) (A := fun _ => False) rfl (.tmp 74) (.tmp 75) rfl Tryz.underlying27 info_u8 rfl HO7.out rfl (RI.y (show RI .u8 w7 _ b from HR7.out)) rfl (fun _ _ h => h.elim) (N := N7) HN7.out (by unfold maxLen; omega) (by omega) z7 ?_; intro A9 c9 w9 o9 M9 B9 X9)
          have HP9 := Lib.hid (HP7.out.re (X' := fun j => (Value.slice A9 N7 c9).ownBlock = some j) M9 (fun _ h => h) (fun h => HP7.out.own_ne HO7.out _ h (.inl rfl)) (fun h => HP7.out.own_ne HO7.out _ h (.inr rfl)) (fun k hk h => by
            rcases X9 with h6 | h6
            · rw [h6] at h; exact h
            · rw [h6] at h; simp only [Option.some.injEq] at h; omega) (fun k h => (o9.row k h).2))
          have HO9 := Lib.hid o9
          have E39 : Ext w3 w9 := Below.trans E37 B9
          clear o9 M9 B9 X9 HP7 HO7 HR7 E37
          go_wp2
          go_roundw
          case rel => exact ⟨k + 1, rd ++ b, ls2, d.readD 99, by omega, by go_num, Lib.hid HR.out.r, HP9, HO9, E39⟩
          case measure => (simp [intOf] <;> omega)
        · have hx1 : (x == 10) = false := by simpa using hx10
          have hx2 : (x != 10) = true := by simpa using hx10
          have h98 : m7 = 98 := by rcases hlx with h | h <;> omega
          subst h98
          clear hlx
          go_wp2_with (at_builtin; refine wpList_appX (e := Ub) (base := w3.heap.size) (B := fun _ => False) (A := fun _ => False) rfl (.tmp 74) (.tmp 75) rfl Tryz.underlying27 info_u8 rfl HO7.out rfl (RI.y (show RI .u8 w7 _ b from HR7.out)) rfl (fun _ _ h => h.elim) (N := N7) HN7.out (by unfold maxLen; omega) (by omega) z7 ?_; intro A9 c9 w9 o9 M9 B9 X9)
          have HP9 := Lib.hid (HP7.out.re (X' := fun j => (Value.slice A9 N7 c9).ownBlock = some j) M9 (fun _ h => h) (fun h => HP7.out.own_ne HO7.out _ h (.inl rfl)) (fun h => HP7.out.own_ne HO7.out _ h (.inr rfl)) (fun k hk h => by
            rcases X9 with h6 | h6
            · rw [h6] at h; exact h
            · rw [h6] at h; simp only [Option.some.injEq] at h; omega) (fun k h => (o9.row k h).2))
          have HO9 := Lib.hid o9
          have E39 : Ext w3 w9 := Below.trans E37 B9
          clear o9 M9 B9 X9 HP7 HO7 HR7 E37
          go_wp2
          go_roundw
          case rel => exact ⟨k + 1, rd ++ b, ls2, d.readD 99, by omega, by go_num, Lib.hid HR.out.r, HP9, HO9, E39⟩
          case measure => (simp [intOf] <;> omega)
end Go.Proofs.YtfnicinnjkbedaaGreatDoor
