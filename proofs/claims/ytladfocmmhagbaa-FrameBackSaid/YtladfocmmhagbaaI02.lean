/- FrameFeeds: for every framer and bytes the law answers true, and leaves its arguments as they were. No condition. -/
import Derived.Test.YtladfocmmhagbaaH02
namespace Go.Proofs.Ytladfocmmhagbaa
open Go.RowKit Go.Kb Go.Kb.Frame Go.ChangeShapes Go.WideShapes Go.ChangeAt Go.Joins

theorem rdls_two {w : World} {x y : Value} {l m : List Int} {B : Nat} (hB : w.heap.size = B) (e : TypeId) (h : RI .u8 w x l) (h2 : RI .u8 w y m) : RdLs (w.alloc (.cells #[x, y] e)) (.slice (some ⟨B, 0, none⟩) 2 2) [l, m] := by
  refine ⟨[x, y], rfl, ?_, fun j z n hz hn => ?_⟩
  · subst hB
    have := RdN.of_own (own_lit w w.heap.size e #[x, y] (Nat.le_refl _) (by simp [maxLen]))
    simpa using this
  · match j, hz, hn with
    | 0, hz, hn => simp at hz hn; subst hz hn; exact h.alloc _
    | 1, hz, hn => simp at hz hn; subst hz hn; exact h2.alloc _
theorem feedR_bs {bad : Bool} {buf : List Int} : (feedR bad buf).2.1.length ≤ buf.length := by
  have key : ∀ f r, (feedGo f r).1.length ≤ r.length := by
    intro f
    induction f with
    | zero => intro r; cases r <;> simp [feedGo]
    | succ f ih =>
      intro r
      match r with
      | [] => simp [feedGo]
      | [_] => simp [feedGo]
      | [_, _] => simp [feedGo]
      | [_, _, _] => simp [feedGo]
      | a :: b :: c :: d :: t =>
        simp only [feedGo]
        split
        · split
          · simp
          · have := ih (t.drop (num4 a b c d).toNat)
            simp only [List.length_cons, List.length_drop] at this ⊢
            omega
        · simp
  unfold feedR
  split
  · simp
  · split
    · exact key _ _
    · exact key _ _

/-- the rows that the law turns: each is owned, its numbers whatever they are -/
structure MRel (base mid : Nat) (wX : World) (lv : Value) (n : Nat) (vs : List Value) (wr : World) : Prop where
  list : wr.ownsRow base 22 1 lv n vs
  rows : ∀ x ∈ vs, ∃ zs : List Int, OwnB wr base x zs
  lt : ∀ x ∈ vs, ∀ k, x.ownBlock = some k → k < mid
  mod : Mod (fun k => base ≤ k ∧ k < mid) wX wr
theorem MRel.set {base mid : Nat} {wX : World} {lv : Value} {n : Nat} {vs : List Value} {wr : World} (h : MRel base mid wX lv n vs wr) {g m c : Nat} (hx : Value.slice (some ⟨g, 0, none⟩) m c ∈ vs) (j : Nat) (y : Int) :
    MRel base mid wX lv n vs (wr.setCell ⟨g, j, none⟩ (.int .u8 y)) := by
  obtain ⟨zs, hz⟩ := h.rows _ hx
  have hg := (hz.lt g rfl).1
  have hm := h.lt _ hx g rfl
  refine ⟨ownsRow_setCell_other h.list ?_ _, fun x hx' => ?_, h.lt, h.mod.set_ (.inr ⟨hg, hm⟩) _⟩
  · rcases own_own_ne hz h.list (by decide) with he | he
    · simp [Value.ownBlock] at he
    · exact fun e => he (by rw [e]; rfl)
  · obtain ⟨us, hu⟩ := h.rows _ hx'
    by_cases he : x.ownBlock = some g
    · rcases hu.2 with ⟨rfl, _⟩ | ⟨g', cap, cur, rfl, _⟩
      · simp [Value.ownBlock] at he
      · have : g' = g := by simpa [Value.ownBlock] using he
        subst this
        have := own_int_set hu j y
        refine ⟨us.set j y, ?_⟩
        unfold OwnB
        rw [List.length_set]
        exact this
    · exact ⟨us, ownsRow_setCell_other hu he _⟩

set_option maxHeartbeats 800000 in
theorem frameFeeds_walk (vb v : Value) (bad : Bool) (xs ys : List Int) (w : World) (h1 : RI .u8 w vb xs) (h2 : RI .u8 w v ys) (b1 : Bs xs) (b2 : Bs ys) :
    Calls Try.prog 4 #[.agg #[vb, .bool bad], v] w fun e w' => e = .returned (.bool true) ∧ Ext w w' := by
  have X := Lib.hid h1
  have Y := Lib.hid h2
  have BX := Lib.hid b1
  have BY := Lib.hid b2
  obtain ⟨A, c, rfl, hc, hm⟩ := h1.shape
  obtain ⟨A', c', rfl, hc', hm'⟩ := h2.shape
  clear h1 h2 b1 b2
  by_cases hg : 200000 < xs.length ∨ 200000 < ys.length
  · have HG : Hid (([xs, ys].any fun l => decide (200000 < l.length)) = true) := Lib.hid (by simpa using hg)
    have BB := Lib.hid (Blk.new w 33 #[.slice A xs.length c, .bool bad])
    clear hg
    go_enter Try.func4, Try.ntmps4
    go_wp2_with (first
      | ((go_at_call 8; refine (alive_any _).mono ?_; rintro e w1 ⟨rfl, E1⟩); obtain ⟨q0, q1, _, _⟩ := (BB.out.ext E1).two)
      | ((go_at_call 9; refine (great_any _ [xs, ys] _ (rdls_two rfl _ ((X.out.alloc _).ext E1) ((Y.out.alloc _).ext E1))).mono ?_; rintro e w2 ⟨rfl, E2⟩); rw [HG.out]))
    go_ret
    exact ⟨rfl, (by repeat (first | with_reducible exact Ext.refl _ | refine Ext.drewN ?_ _ | refine Ext.drew ?_ | refine Ext.alloc ?_ _ | assumption | (refine Below.trans ?_ (by assumption)) | (refine Ext.trans ?_ (by assumption)) | (refine Below.trans ?_ (Below.mono (by assumption) (by omega)))))⟩
  · have HG : Hid (([xs, ys].any fun l => decide (200000 < l.length)) = false) := Lib.hid (by simpa using hg)
    have BB := Lib.hid (Blk.new w 33 #[.slice A xs.length c, .bool bad])
    have n1 : xs.length ≤ 200000 := by omega
    have n2 : ys.length ≤ 200000 := by omega
    clear hg
    obtain ⟨r, b, ls, n, hR⟩ : ∃ r b ls n, feedR bad (xs ++ ys) = ((r, b), ls, n) := ⟨_, _, _, _, rfl⟩
    have HR := Lib.hid hR
    have hll : ls.length ≤ 400000 := by
      have := feedR_bs (bad := bad) (buf := xs ++ ys)
      rw [hR] at this
      simp only [List.length_append] at this
      omega
    have hbn : (n != n) = false := by simp
    clear hR
    go_enter Try.func4, Try.ntmps4
    go_wp2_with (first
      | ((go_at_call 8; refine (alive_any _).mono ?_; rintro e w1 ⟨rfl, E1⟩); obtain ⟨q0, q1, _, _⟩ := (BB.out.ext E1).two)
      | ((go_at_call 9; refine (great_any _ [xs, ys] _ (rdls_two rfl _ ((X.out.alloc _).ext E1) ((Y.out.alloc _).ext E1))).mono ?_; rintro e w2 ⟨rfl, E2⟩); rw [HG.out]; clear q0 q1; have E02 : Ext (w.alloc (.cells #[.slice A xs.length c, .bool bad] 33)) w2 := (by repeat (first | with_reducible exact Ext.refl _ | refine Ext.drewN ?_ _ | refine Ext.drew ?_ | refine Ext.alloc ?_ _ | assumption | (refine Below.trans ?_ (by assumption)) | (refine Ext.trans ?_ (by assumption)) | (refine Below.trans ?_ (Below.mono (by assumption) (by omega))))); obtain ⟨q0, q1, _, _⟩ := (BB.out.ext E02).two)
      | ((go_at_call 13; refine (to_any _ bad xs _ ((X.out.alloc _).ext E02) (by omega)).mono ?_; rintro e w3 ⟨v3, rfl, o3, E3⟩); obtain ⟨A3, c3, rfl⟩ := own_shape o3; clear q0 q1)
      | (at_builtin; refine app_u8 _ rfl _ _ rfl w3.heap.size _ 0 [] rfl (own_empty rfl _ _ _ (Nat.le_refl _)) _ ys.length _ rfl (((Y.out.alloc _).ext E02).ext (by repeat (first | with_reducible exact Ext.refl _ | refine Ext.drewN ?_ _ | refine Ext.drew ?_ | refine Ext.alloc ?_ _ | assumption | (refine Below.trans ?_ (by assumption)) | (refine Ext.trans ?_ (by assumption)) | (refine Below.trans ?_ (Below.mono (by assumption) (by omega)))))) (one_ints _ _) (by omega) (by simp) ?_; intro v4 w4 o4 hB4 hg4 hat4; obtain ⟨A4, c4, rfl⟩ := own_shape o4; have E4 : Ext w3 w4 := Below.trans ((Ext.refl _).alloc _) hB4; clear hB4 hg4 hat4)
      | ((go_at_call 14; refine (feed_any _ _ bad xs ys _ ((RdN.of_own (own_ext o3 E4)).alloc _) ((RdN.of_own (by simpa using o4)).alloc _) BX.out BY.out (by omega) (by omega)).mono ?_; rintro e w5 ⟨v5, l5, rfl, ⟨vs, mid, o5, lt5, r5⟩, E5⟩); simp only [HR.out] at o5 r5 ⊢; obtain ⟨A5, c5, rfl⟩ := own_shape r5; obtain ⟨B5, d5, rfl⟩ := own_shape o5.2.1; have E05 : Ext (w.alloc (.cells #[.slice A xs.length c, .bool bad] 33)) w5 := (by repeat (first | with_reducible exact Ext.refl _ | refine Ext.drewN ?_ _ | refine Ext.drew ?_ | refine Ext.alloc ?_ _ | assumption | (refine Below.trans ?_ (by assumption)) | (refine Ext.trans ?_ (by assumption)) | (refine Below.trans ?_ (Below.mono (by assumption) (by omega))))); have q0 := fun o => ((BB.out.ext E05).alloc o).two.1; have q1 := fun o => ((BB.out.ext E05).alloc o).two.2.1)
      | ((go_at_call 15; refine (rfeed_any _ _ bad xs ys _ (((X.out.alloc _).ext E05).alloc _) (((Y.out.alloc _).ext E05).alloc _) BX.out BY.out (by omega) (by omega)).mono ?_; rintro e w6 ⟨v6, l6, rfl, o6, r6, f6, E6⟩); simp only [HR.out] at o6 r6 ⊢; clear q0 q1; obtain ⟨A6, c6, rfl, _, _⟩ := r6.shape; have g0 := fun o => ((((Blk.new w5 34 #[.slice A5 r.length c5, .bool b]).ext E6)).alloc o).two.1; have g1 := fun o => ((((Blk.new w5 34 #[.slice A5 r.length c5, .bool b]).ext E6)).alloc o).two.2.1)
      | ((go_at_call 16; refine (same_any _ _ b b r r _ (((RdN.of_own r5).ext (by repeat (first | with_reducible exact Ext.refl _ | refine Ext.drewN ?_ _ | refine Ext.drew ?_ | refine Ext.alloc ?_ _ | assumption | (refine Below.trans ?_ (by assumption)) | (refine Ext.trans ?_ (by assumption)) | (refine Below.trans ?_ (Below.mono (by assumption) (by omega))))))) (r6.alloc _)).mono ?_; rintro e w7 ⟨rfl, E7⟩))
      | ((go_at_call 17; refine (lists_any _ _ ls ls _ ((OwnLs.rd ⟨_, o5⟩).ext (by repeat (first | with_reducible exact Ext.refl _ | refine Ext.drewN ?_ _ | refine Ext.drew ?_ | refine Ext.alloc ?_ _ | assumption | (refine Below.trans ?_ (by assumption)) | (refine Ext.trans ?_ (by assumption)) | (refine Below.trans ?_ (Below.mono (by assumption) (by omega)))))) (o6.ext (by repeat (first | with_reducible exact Ext.refl _ | refine Ext.drewN ?_ _ | refine Ext.drew ?_ | refine Ext.alloc ?_ _ | assumption | (refine Below.trans ?_ (by assumption)) | (refine Ext.trans ?_ (by assumption)) | (refine Below.trans ?_ (Below.mono (by assumption) (by omega))))))).mono ?_; rintro e w8 ⟨rfl, E8⟩)))
    have hbase : (w4.alloc (Obj.cells #[.slice A3 xs.length c3, .bool bad] 34)).heap.size = w4.heap.size + 1 := by simp
    have h56 : (w5.alloc (Obj.cells #[.slice A5 r.length c5, .bool b] 34)).heap.size = w5.heap.size + 1 := by simp
    have hz6 : w5.heap.size + 1 ≤ w6.heap.size := by have := E6.size; simpa using this
    rw [hbase] at o5
    rw [h56] at f6
    have hz5 : w4.heap.size + 1 ≤ w5.heap.size := by have := E5.size; simpa using this

    clear E02 E05
    have BG := Lib.hid ((Blk.new w5 34 #[.slice A5 r.length c5, .bool b]).ext (w' := w8) (by repeat (first | with_reducible exact Ext.refl _ | refine Ext.drewN ?_ _ | refine Ext.drew ?_ | refine Ext.alloc ?_ _ | assumption | (refine Below.trans ?_ (by assumption)) | (refine Ext.trans ?_ (by assumption)) | (refine Below.trans ?_ (Below.mono (by assumption) (by omega))))))
    have BW := Lib.hid ((Blk.new w6 39 #[.slice A6 r.length c6, .bool b]).ext (w' := w8) (by repeat (first | with_reducible exact Ext.refl _ | refine Ext.drewN ?_ _ | refine Ext.drew ?_ | refine Ext.alloc ?_ _ | assumption | (refine Below.trans ?_ (by assumption)) | (refine Ext.trans ?_ (by assumption)) | (refine Below.trans ?_ (Below.mono (by assumption) (by omega))))))
    have BI := Lib.hid ((Blk.new w4 34 #[.slice A3 xs.length c3, .bool bad]).ext (w' := w8) (by repeat (first | with_reducible exact Ext.refl _ | refine Ext.drewN ?_ _ | refine Ext.drew ?_ | refine Ext.alloc ?_ _ | assumption | (refine Below.trans ?_ (by assumption)) | (refine Ext.trans ?_ (by assumption)) | (refine Below.trans ?_ (Below.mono (by assumption) (by omega))))))
    have BF := Lib.hid (BB.out.ext (w' := w8) (by repeat (first | with_reducible exact Ext.refl _ | refine Ext.drewN ?_ _ | refine Ext.drew ?_ | refine Ext.alloc ?_ _ | assumption | (refine Below.trans ?_ (by assumption)) | (refine Ext.trans ?_ (by assumption)) | (refine Below.trans ?_ (Below.mono (by assumption) (by omega))))))
    have e48 : Ext w4 w8 := (by repeat (first | with_reducible exact Ext.refl _ | refine Ext.drewN ?_ _ | refine Ext.drew ?_ | refine Ext.alloc ?_ _ | assumption | (refine Below.trans ?_ (by assumption)) | (refine Ext.trans ?_ (by assumption)) | (refine Below.trans ?_ (Below.mono (by assumption) (by omega)))))
    have e58 : Ext w5 w8 := by clear e48; exact (by repeat (first | with_reducible exact Ext.refl _ | refine Ext.drewN ?_ _ | refine Ext.drew ?_ | refine Ext.alloc ?_ _ | assumption | (refine Below.trans ?_ (by assumption)) | (refine Ext.trans ?_ (by assumption)) | (refine Below.trans ?_ (Below.mono (by assumption) (by omega)))))
    have e68 : Ext w6 w8 := by clear e48 e58; exact (by repeat (first | with_reducible exact Ext.refl _ | refine Ext.drewN ?_ _ | refine Ext.drew ?_ | refine Ext.alloc ?_ _ | assumption | (refine Below.trans ?_ (by assumption)) | (refine Ext.trans ?_ (by assumption)) | (refine Below.trans ?_ (Below.mono (by assumption) (by omega)))))
    have e04 : Ext w w4 := (by repeat (first | with_reducible exact Ext.refl _ | refine Ext.drewN ?_ _ | refine Ext.drew ?_ | refine Ext.alloc ?_ _ | assumption | (refine Below.trans ?_ (by assumption)) | (refine Ext.trans ?_ (by assumption)) | (refine Below.trans ?_ (Below.mono (by assumption) (by omega)))))
    have E48 := Lib.hid e48
    have E58 := Lib.hid e58
    have E68 := Lib.hid e68
    have E04 := Lib.hid e04
    have I3 := Lib.hid (RdN.of_own (own_ext o3 E4))
    have I4 := Lib.hid (RdN.of_own (by simpa using o4) : RdN w4 1 (.slice A4 ys.length c4) ys.length (u8s ys))
    have R5 := Lib.hid (RdN.of_own r5)
    have R6 := Lib.hid r6
    have F6 := Lib.hid f6
    have F5 := Lib.hid fun k hk => (r5.lt k hk).1
    have HVL := Lib.hid o5.1
    have hM0 : MRel (w4.heap.size + 1) (min mid w5.heap.size) w8 (.slice B5 ls.length d5) ls.length vs w8 :=
      ⟨own_ext o5.2.1 E58.out, fun x hx => by
        obtain ⟨j, hj, rfl⟩ := List.getElem_of_mem hx
        exact ⟨_, own_ext (o5.2.2 j _ _ (List.getElem?_eq_getElem hj) (List.getElem?_eq_getElem (by have := o5.1; omega))) E58.out⟩,
        fun x hx k hk => by have a1 := lt5 x hx k hk; have a2 := o5.lt x hx k hk; omega, Mod.refl _ _⟩
    have HM0 := Lib.hid hM0
    clear hM0 e48 e58 e68 e04 o5 lt5 r5 o6 r6 f6 o3 o4 E1 E2 E3 E4 E5 E6 E7 E8 g0 g1 hbase h56
    go_loopw [59] (fun i wr => ∃ k : Nat, k ≤ ls.length ∧ i = .int .i64 k ∧ MRel (w4.heap.size + 1) (min mid w5.heap.size) w8 (.slice B5 ls.length d5) ls.length vs wr) (fun i _ => ls.length - (intOf i).toNat)
    case atStart => exact ⟨0, Nat.zero_le _, rfl, HM0.out⟩
    case round =>
      obtain ⟨k, hk, rfl, hR⟩ := hrel
      have HMR := Lib.hid hR
      clear hR
      by_cases hlt : k < ls.length
      · obtain ⟨g, rfl, _, _⟩ := own_addr HMR.out.list (by omega)
        have hkv : k < vs.length := by have := HVL.out; omega
        have hcell := HMR.out.list.cellAt k (by omega)
        rw [List.getElem?_eq_getElem hkv] at hcell
        have hmem : Hid (vs[k] ∈ vs) := Lib.hid (List.getElem_mem hkv)
        obtain ⟨x, hxe⟩ : ∃ x, x = vs[k] := ⟨_, rfl⟩
        rw [← hxe] at hcell hmem
        obtain ⟨zs, hz⟩ := HMR.out.rows x hmem.out
        obtain ⟨Ax, cx, rfl⟩ := own_shape hz
        have hzm : zs.length ≤ 9223372036854775807 := by
          rcases hz.2 with ⟨_, h0⟩ | ⟨_, _, _, _, _, _, h1, h2, _⟩
          · omega
          · unfold maxLen at h2; omega
        have HZ := Lib.hid hz
        clear hz hxe
        go_wp2
        obtain ⟨wo, rfl⟩ : ∃ wo : World, wo = wr := ⟨_, rfl⟩
        go_loopw [65] (fun i wr => ∃ j : Nat, j ≤ zs.length ∧ i = .int .i64 j ∧ MRel (w4.heap.size + 1) (min mid w5.heap.size) w8 (.slice (some ⟨g, 0, none⟩) ls.length d5) ls.length vs wr) (fun i _ => zs.length - (intOf i).toNat)
        case atStart => exact ⟨0, Nat.zero_le _, rfl, HMR.out⟩
        case round =>
          obtain ⟨j, hj, rfl, hR2⟩ := hrel
          have HR2 := Lib.hid hR2
          clear hR2 hcell
          by_cases hjl : j < zs.length
          · obtain ⟨z2, hz2⟩ := HR2.out.rows _ hmem.out
            have hl2 := own_len hz2
            obtain ⟨g2, rfl, _, _⟩ := own_addr hz2 (by omega)
            rw [hl2] at hz2
            obtain ⟨y, _, hc2, hf2⟩ := own_int hz2 (j := j) (by omega)
            clear hz2 hl2
            go_wp2
            go_roundw
            case rel => exact ⟨j + 1, by omega, by go_num, HR2.out.set hmem.out j _⟩
            case measure => simp [intOf]; omega
          · go_wp2
            go_roundw
            case rel => exact ⟨k + 1, by omega, by go_num, HR2.out⟩
            case measure => simp [intOf]; omega
      · have hM := HMR.out.mod
        have E4r : Hid (Ext w4 wr) := Lib.hid (Mod.toExt E48.out hM (by intro k hk; omega))
        have HMM := Lib.hid hM
        have G := Lib.hid (BG.out.mod hM (by omega))
        have W' := Lib.hid (BW.out.mod hM (by omega))
        have I := Lib.hid (BI.out.mod hM (by omega))
        have F := Lib.hid (BF.out.mod hM (by have := E04.out.size; omega))
        clear hM
        obtain ⟨g0, g1, _, _⟩ := G.out.two
        obtain ⟨k0, k1, _, _⟩ := W'.out.two
        go_wp2_with ((go_at_call 16; refine (same_any _ _ b b r r _ ((R5.out.ext E58.out).mod HMM.out fun k hk => by have := F5.out k hk; omega) ((R6.out.ext E68.out).mod HMM.out fun k hk => by have := F6.out k hk; omega)).mono ?_; rintro e w9 ⟨rfl, E9⟩); have i0 := (I.out.ext E9).two.1; have f0 := (F.out.ext E9).two.1)
        refine (bytes_any _ _ xs xs _ ((I3.out.ext E4r.out).ext E9) (X.out.ext ((E04.out.trans E4r.out).trans E9))).mono ?_
        rintro e w10 ⟨rfl, E10⟩
        go_wp2_with fail
        refine (bytes_any _ _ ys ys _ ((I4.out.ext E4r.out).ext (E9.trans E10)) (Y.out.ext ((E04.out.trans E4r.out).trans (E9.trans E10)))).mono ?_
        rintro e w11 ⟨rfl, E11⟩
        go_wp2
        go_ret
        exact ⟨rfl, (E04.out.trans E4r.out).trans (E9.trans (E10.trans E11))⟩

set_option maxRecDepth 100000 in
theorem frameFeeds_lifted (os : Os) (started : os.Started) (H : Type) (enc : TypeId × Value → H) :
    ReturnsInHanded {} Try.checked os 4 .any (Rows.frameFeedsSpec.pre6 enc Try.prog Try.f4 Rows.frameFeedsRow.domain false) (Rows.frameFeedsSpec.post enc Try.prog Try.f4 false true false false) := by
  refine returnsInHanded_of_change (C := Try.checked) (by kernel_rfl) started (by kernel_rfl) Try.func4
    (ChangeSpec.witness6 (enc := enc) (C := Try.checked) false ⟨#[], #[.agg #[.slice none 0 0, .bool false], .slice none 0 0], []⟩ 8 (by kernel_rfl) (by kernel_rfl) (by kernel_rfl) (by kernel_rfl)) ?_
  intro W base args ds gs before hval0 hW _ _
  have hval : ∀ (j : Nat) t v, Try.f4.params[j]? = some t → args[j]? = some v → Value.okWide Try.prog W .any base t v := hval0
  have hW' := hW
  obtain ⟨p, q, hA0, hV, rfl, _, _⟩ := hW
  have hA : DataW.TrodAll enc Try.prog W 0 (fun _ => true) true Try.f4.params.toList args.toList ds p := hA0
  rw [Try.params4] at hA hval
  obtain ⟨rfl, rfl⟩ := trodVars_none hV
  have hkeep := hA
  have hlt : ∀ x ∈ p, x.block < W.heap.size := fun x hx => hW'.lt x (by simpa using hx)
  clear hA0 hval0
  obtain ⟨v0, vs0, d0, ds0, p0, q0, hargs, rfl, rfl, h0, r0⟩ := trodAll_cons hA
  obtain ⟨v1, vs1, d1, ds1, p1, q1, rfl, rfl, rfl, h1, r1⟩ := trodAll_cons r0
  obtain ⟨rfl, rfl, rfl⟩ := trodAll_nil r1
  obtain rfl : args = #[v0, v1] := by cases args; simp_all
  obtain ⟨va, xs, b, rfl, hx, bx⟩ := open_bytes_bool Try.underlying33 (by kernel_rfl) (by kernel_rfl) Try.underlying22 Try.underlying5 (by kernel_rfl) Try.underlying4 (hval 0 33 v0 rfl rfl) h0
  obtain ⟨ys, hy, bY⟩ := open_bytes1 Try.underlying22 Try.underlying5 (by kernel_rfl) (hval 1 22 v1 rfl rfl) h1
  refine (frameFeeds_walk va v1 b xs ys W hx hy bx bY).mono fun e W' ⟨he, hE⟩ => ?_
  subst he
  exact ⟨_, rfl, _, _, _, [], _, [], hW', trodAll_mk1 (shut_bool Try.underlying4 _), trodAll_stays (by kernel_rfl) (by kernel_rfl) hkeep hE hlt, rfl, hE.frame _, fun h => by cases h⟩
/-- THE STATEMENT -/
theorem frameFeeds_holds : Rows.FrameFeedsSaid :=
  OpenClaim.holds_of_wide 4 Try.f4 rfl rfl rfl rfl rfl rfl rfl ⟨rfl, rfl, rfl, rfl, rfl⟩ rfl rfl rfl rfl rfl (by kernel_rfl) Try.func4 (by kernel_rfl)
    (of_decide_eq_true (by kernel_rfl)) (by unfold Func.isWrapper; first | (rw [if_pos (by decide +kernel)]; kernel_rfl) | (rw [if_neg (by decide +kernel)]; exact ⟨rfl, rfl⟩))
    (fun os started H enc _ => frameFeeds_lifted os started H enc)
end Go.Proofs.Ytladfocmmhagbaa
