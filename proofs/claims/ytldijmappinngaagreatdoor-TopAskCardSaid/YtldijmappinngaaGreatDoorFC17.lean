/- Written by chain.py of C02@Fr. No condition. -/
import Derived.Test.YtldijmappinngaaGreatDoorFB17
namespace Go.Proofs.YtldijmappinngaaGreatDoor.Fr
open Go.RowKit Go.Kb
set_option maxRecDepth 100000
set_option maxHeartbeats 400000 in
theorem grow_u8 (n : Int) (w : World) (h0 : 0 ≤ n) (hn : n ≤ 137438953472) :
    Calls Tryz.prog 43 #[.slice none 0 0, .int .i64 n] w fun e w' => ∃ v', e = .returned v' ∧ w'.ownsRow w.heap.size 5 1 v' 0 [] ∧ Ext w w' := by
  obtain ⟨i0, hi0, hz0, hz1, hz2⟩ := info_parts info_u8
  by_cases h : n = 0
  · subst h
    go_enter Tryz.func43, Tryz.ntmps43
    go_wp2
    go_ret
    exact ⟨_, rfl, World.ownsRow_nil _ _ _ _, (by repeat (first | with_reducible exact Ext.refl _ | refine Ext.drewN ?_ _ | refine Ext.drew ?_ | refine Ext.alloc ?_ _ | assumption | (refine Below.trans ?_ (by assumption)) | (refine Ext.trans ?_ (by assumption)) | (refine Below.trans ?_ (Below.mono (by assumption) (by omega)))))⟩
  · obtain ⟨m, rfl⟩ := Int.eq_ofNat_of_zero_le h0
    have hr := Lib.hid (Lib.run_append_nil_zeros (P := Tryz.prog) w 25 3 0 5 i0 _ .i64 .i64 Tryz.underlying25 Tryz.underlying3 hi0 hz0 m (by omega) (by omega) (by omega) (by rw [hz2]; omega))
    have hc1 := Lib.hid (grownCap_ge w m 0 5)
    have hc2 := Lib.hid (grownCap_le_maxLen w m 0 5 (by unfold maxLen; omega))
    go_enter Tryz.func43, Tryz.ntmps43
    go_wp2_with ((at_builtin; refine Lib.wpList_append_run _ rfl _ _ _ _ rfl _ _ rfl rfl _ _ hr.out ?_))
    go_ret
    refine ⟨_, rfl, World.ownsRow_made w.drew _ _ (Nat.le_refl _) hc2.out ?_, (by repeat (first | with_reducible exact Ext.refl _ | refine Ext.drewN ?_ _ | refine Ext.drew ?_ | refine Ext.alloc ?_ _ | assumption | (refine Below.trans ?_ (by assumption)) | (refine Ext.trans ?_ (by assumption)) | (refine Below.trans ?_ (Below.mono (by assumption) (by omega)))))⟩
    have := hc1.out
    simp only [Array.size_append, size_zeroCells, List.size_toArray, List.length_cons, List.length_nil]
    omega
set_option maxHeartbeats 400000 in
theorem concat_u8 (v : Value) (ls : List (Nat × List Value)) (w : World) (h : RdLL w 1 v ls) (h1 : ∀ l ∈ ls, ∀ u ∈ l.2, u.oneCell' = true) (hn : tot ls ≤ 137438953472) :
    Calls Tryz.prog 24 #[v] w fun e w' => ∃ v', e = .returned v' ∧ w'.ownsRow w.heap.size 5 1 v' (tot ls) (cat ls) ∧ Ext w w' := by
  obtain ⟨vs, hl, hrd, hvs⟩ := h
  obtain ⟨_, A, c, rfl, hnc, hcm, hA⟩ := id hrd
  have HL := Lib.hid hl
  have HR := Lib.hid hrd
  have HV := Lib.hid hvs
  have H1 := Lib.hid h1
  clear hl hrd hvs hA h1
  unfold maxLen at hcm
  go_enter Tryz.func24, Tryz.ntmps24
  go_wp2
  go_loop [3, 11] (fun t i => ∃ k : Nat, k ≤ ls.length ∧ i = .int .i64 k ∧ t = .int .i64 (tot (ls.take k))) (fun _ i => ls.length - (intOf i).toNat)
  case atStart => exact ⟨0, Nat.zero_le _, rfl, by simp [tot]⟩
  case round =>
    obtain ⟨k, hk, rfl, rfl⟩ := hrel
    by_cases hlt : k < ls.length
    · obtain ⟨b, off, cc, hv, _, _, hc⟩ := HR.out.form (by omega)
      simp only [Value.slice.injEq] at hv
      obtain ⟨rfl, _, rfl⟩ := hv
      have hxl : k < vs.length := by have := HL.out; omega
      obtain ⟨x, hx⟩ : ∃ x, vs[k]? = some x := ⟨_, List.getElem?_eq_getElem hxl⟩
      obtain ⟨l, hl⟩ : ∃ l, ls[k]? = some l := ⟨_, List.getElem?_eq_getElem hlt⟩
      have hcx := hc k x hx
      obtain ⟨_, A2, c2, rfl, hnc2, hcm2, _⟩ := HV.out k x l hx hl
      have hts := Lib.hid (tot_succ hl)
      have hle := tot_take_le ls (k + 1)
      rw [hts.out] at hle
      unfold maxLen at hcm2
      clear hc hx hl
      go_wp2
      go_round
      case rel => exact ⟨k + 1, by omega, by go_num, by rw [hts.out]; go_num⟩
      case measure => simp [intOf]; omega
    · obtain rfl : k = ls.length := by omega
      have HT : Hid (ls.take ls.length = ls) := Lib.hid (List.take_length)
      rw [HT.out]
      go_wp2_with (go_at_call 43; refine (grow_u8 _ _ (by omega) (by omega)).mono ?_; rintro e w1 ⟨v1, rfl, hown1, hE1⟩)
      have HO := Lib.hid hown1
      clear hown1
      obtain ⟨hc1, hf1⟩ := And.intro hE1.cell hE1.frozen
      go_loopw [6, 27] (fun s i wr => ∃ k : Nat, k ≤ ls.length ∧ i = .int .i64 k ∧ wr.ownsRow w.heap.size 5 1 s (tot (ls.take k)) (cat (ls.take k)) ∧ Ext w wr) (fun _ i _ => ls.length - (intOf i).toNat)
      case atStart => exact ⟨0, Nat.zero_le _, rfl, HO.out, hE1⟩
      case round =>
        obtain ⟨k, hk, rfl, hown, hE⟩ := hrel
        have HO2 := Lib.hid hown
        clear hown hc1 hf1
        by_cases hlt : k < ls.length
        · obtain ⟨b, off, cc, hv, _, _, hc⟩ := (HR.out.ext hE).form (by omega)
          simp only [Value.slice.injEq] at hv
          obtain ⟨rfl, _, rfl⟩ := hv
          have hxl : k < vs.length := by have := HL.out; omega
          obtain ⟨x, hx⟩ : ∃ x, vs[k]? = some x := ⟨_, List.getElem?_eq_getElem hxl⟩
          obtain ⟨l, hl⟩ : ∃ l, ls[k]? = some l := ⟨_, List.getElem?_eq_getElem hlt⟩
          have hcx := hc k x hx
          have X := Lib.hid ((HV.out k x l hx hl).ext hE)
          have X1 := Lib.hid (H1.out l (List.mem_of_getElem? hl))
          have hts := Lib.hid (tot_succ hl)
          have hcs := Lib.hid (cat_succ hl)
          have hle := tot_take_le ls (k + 1)
          rw [hts.out] at hle
          clear hc hx hl
          go_wp2_with ((at_builtin; refine app_u8 _ rfl _ _ rfl w.heap.size _ _ _ rfl HO2.out _ l.1 l.2 rfl X.out X1.out (by omega) hE.size ?_; intro v2 w2 hown2 hB2 hg2 hat2))
          go_roundw
          case rel => exact ⟨k + 1, by omega, by go_num, by rw [hts.out, hcs.out]; exact hown2, (by repeat (first | with_reducible exact Ext.refl _ | refine Ext.drewN ?_ _ | refine Ext.drew ?_ | refine Ext.alloc ?_ _ | assumption | (refine Below.trans ?_ (by assumption)) | (refine Ext.trans ?_ (by assumption)) | (refine Below.trans ?_ (Below.mono (by assumption) (by omega)))))⟩
          case measure => simp [intOf]; omega
        · obtain rfl : k = ls.length := by omega
          go_wp2
          go_ret
          have := HO2.out
          rw [HT.out] at this
          exact ⟨_, rfl, this, (by repeat (first | with_reducible exact Ext.refl _ | refine Ext.drewN ?_ _ | refine Ext.drew ?_ | refine Ext.alloc ?_ _ | assumption | (refine Below.trans ?_ (by assumption)) | (refine Ext.trans ?_ (by assumption)) | (refine Below.trans ?_ (Below.mono (by assumption) (by omega)))))⟩

/-- what one more row does to a list of rows -/
theorem lput_post {g : Nat} {lv x v2 : Value} {ls : List (List Int)} {l : List Int} {base : Nat} {w w1 w2 : World} {vs : List Value} (hb : Blk w g 75 #[lv])
    (hl : vs.length = ls.length) (hw : w.ownsRow base 25 1 lv ls.length vs) (hr : ∀ (j : Nat) x l, vs[j]? = some x → ls[j]? = some l → OwnB w base x l) (hbase : base ≤ w.heap.size)
    (hE1 : Ext w w1) (hown1 : w1.ownsRow w.heap.size 5 1 x l.length (u8s l)) (hown2 : w2.ownsRow base 25 1 v2 (ls.length + 1) (vs ++ [x]))
    (hg2 : (w1.alloc (.cells #[x] 25)).grownBy w2 lv.ownBlock) :
    Blk (w2.setCell ⟨g, 0, none⟩ v2) g 75 #[v2] ∧ OwnLs (w2.setCell ⟨g, 0, none⟩ v2) base v2 (ls ++ [l]) ∧ Mod (fun k => k = g ∨ base ≤ k) w (w2.setCell ⟨g, 0, none⟩ v2) := by
  have e1 : Ext w (w1.alloc (.cells #[x] 25)) := hE1.alloc _
  have hb2 : Blk w2 g 75 #[lv] := (hb.ext e1).grown hg2 (Ne.symm (own_blk_ne hw hb (by decide)))
  have rows : ∀ {y : Value} {m : List Int}, (w1.alloc (.cells #[x] 25)).ownsRow base 5 1 y m.length (u8s m) → OwnB (w2.setCell ⟨g, 0, none⟩ v2) base y m := fun {y m} h =>
    ownsRow_setCell_other (h.kept hg2 (own_own_ne h (own_ext hw e1) (by decide))) (own_blk_ne (h.kept hg2 (own_own_ne h (own_ext hw e1) (by decide))) hb2 (by decide)) _
  refine ⟨by simpa using hb2.set_ 0 v2, ⟨vs ++ [x], by simp [hl], ?_, fun j y m hy hm => ?_⟩, ?_⟩
  · rw [List.length_append]
    exact ownsRow_setCell_other hown2 (own_blk_ne hown2 hb2 (by decide)) _
  · rcases Nat.lt_or_ge j vs.length with hj | hj
    · rw [List.getElem?_append_left hj] at hy
      rw [List.getElem?_append_left (by omega)] at hm
      exact rows (own_ext (hr j y m hy hm) e1)
    · rw [List.getElem?_append_right hj] at hy
      rw [List.getElem?_append_right (by omega)] at hm
      have : j - vs.length = 0 := by
        rcases Nat.eq_zero_or_pos (j - vs.length) with h | h
        · exact h
        · rw [List.getElem?_eq_none (by simp; omega)] at hy; cases hy
      rw [← hl, this] at hm
      rw [this] at hy
      simp at hy hm
      subst hy hm
      exact rows ((own_base hown1 hbase).alloc _)
  · exact ((Mod.of_ext e1).grown hg2 (fun k hk => .inr (.inr (hw.lt k hk).1))).set_ (.inr (.inl rfl)) _
set_option maxHeartbeats 800000 in
theorem lput_any (g : Nat) (lv v : Value) (ls : List (List Int)) (l : List Int) (base : Nat) (w : World) (hb : Blk w g 75 #[lv]) (ho : OwnLs w base lv ls) (hbase : base ≤ w.heap.size)
    (h : RI .u8 w v l) (hn : l.length ≤ 100000000) (hm : ls.length ≤ 100000000) :
    Calls Tryz.prog 23 #[.pointer (some ⟨g, 0, none⟩), v] w fun e w' => e = .returned (.tuple #[]) ∧
      ∃ lv', Blk w' g 75 #[lv'] ∧ OwnLs w' base lv' (ls ++ [l]) ∧ Mod (fun k => k = g ∨ base ≤ k) w w' := by
  have hcell := hb.cell 0
  simp only [List.getElem?_toArray, List.getElem?_cons_zero] at hcell
  have hfr := hb.frozen 0
  have HB := Lib.hid hb
  have H := Lib.hid h
  have HO := Lib.hid ho
  obtain ⟨vs, hl, how, hrows⟩ := ho
  have HL := Lib.hid hl
  have HW := Lib.hid how
  have HR := Lib.hid hrows
  clear hl how hrows h hb
  go_enter Tryz.func23, Tryz.ntmps23
  go_region_law (first | (refine sapp_rows _ rfl _ _ rfl base _ _ _ rfl (own_ext HW.out (((Ext.refl w).drew.trans hE1).alloc _)) _ 1 _ rfl (RdN.one_ _ _ _) (by simp [Value.oneCell']) (by omega) (Nat.le_trans hbase (Nat.le_trans hE1.size (by simp))) ?_; intro v2 w2 hown2 hB2 hg2 hat2; obtain ⟨A2, c2, rfl⟩ := own_shape hown2; have B2 := (HB.out.ext (((Ext.refl w).drew.trans hE1).alloc _)).grown hg2 (Ne.symm (own_blk_ne HW.out HB.out (by decide))); have hcell2 := B2.cell0; have hfr2 := B2.frozen 0) | (go_simp; go_at_call 26; refine (clone_u8 _ _ _ _ (H.out.ext (by repeat (first | exact Ext.refl _ | refine Ext.drew ?_))) (one_ints _ _) (by omega)).mono ?_; rintro e w1 ⟨v1, rfl, hown1, hE1⟩; obtain ⟨A1, c1, rfl⟩ := own_shape hown1; have hcell1 := (HB.out.ext ((Ext.refl w).drew.trans hE1)).cell0; have hcell1a := fun o => ((HB.out.ext ((Ext.refl w).drew.trans hE1)).alloc o).cell0))
  all_goals
    go_end0
    exact ⟨rfl, _, lput_post HB.out HL.out HW.out HR.out hbase (Below.trans (Ext.refl w).drew hE1) hown1 hown2 hg2⟩
end Go.Proofs.YtldijmappinngaaGreatDoor.Fr
