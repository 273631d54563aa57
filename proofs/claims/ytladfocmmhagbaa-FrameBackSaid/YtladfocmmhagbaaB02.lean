/- The framers of the program and of the document's answer, by contract: both are 'feed' of what came. Conditions: lengths below 2^37. -/
import Derived.Test.YtladfocmmhagbaaA02
namespace Go.Proofs.Ytladfocmmhagbaa
open Go.RowKit Go.Kb

/-- a row of bytes of the call's own -/
abbrev OwnB (w : World) (base : Nat) (v : Value) (l : List Int) : Prop := w.ownsRow base 5 1 v l.length (u8s l)
theorem OwnB.rd {w : World} {base : Nat} {v : Value} {l : List Int} (h : OwnB w base v l) : RI .u8 w v l := RdN.of_own h
def fput (xs : List Int) : List Int × Int := if 1 ≤ xs.length ∧ xs.length ≤ 33792 then (four xs.length ++ xs, 0) else ([], 5)
theorem fput_yes {xs : List Int} (h : 1 ≤ xs.length ∧ xs.length ≤ 33792) : fput xs = (four xs.length ++ xs, 0) := if_pos h
theorem fput_no {xs : List Int} (h : ¬ (1 ≤ xs.length ∧ xs.length ≤ 33792)) : fput xs = ([], 5) := if_neg h

theorem fput_len (xs : List Int) : (fput xs).1.length ≤ 33796 := by
  unfold fput
  split
  · simp [four]; omega
  · simp
set_option maxHeartbeats 400000 in
theorem refput_any (v : Value) (xs : List Int) (w : World) (h : RI .u8 w v xs) (hn : xs.length ≤ 100000000) :
    Calls Try.prog 11 #[v] w fun e w' => ∃ v', e = .returned (.tuple #[v', .int .i64 (fput xs).2]) ∧ OwnB w' w.heap.size v' (fput xs).1 ∧ Ext w w' := by
  obtain ⟨hl, A, c, rfl, hnc, hcm, hA⟩ := id h
  have H := Lib.hid h
  clear h hl hA
  by_cases h1 : 1 ≤ xs.length ∧ xs.length ≤ 33792
  · have H1 := Lib.hid h1
    obtain ⟨h2, h3⟩ := h1
    go_enter Try.func11, Try.ntmps11
    go_wp2_with (first
      | (go_at_call 20; refine (four_any _ _ (by omega) (by omega)).mono ?_; rintro e w1 ⟨v1, rfl, hown1, hE1⟩)
      | (at_builtin; refine app_u8 _ rfl _ _ rfl w.heap.size _ 4 _ rfl hown1 _ xs.length _ rfl (H.out.ext hE1) (one_ints _ _) (by omega) hE1.size ?_; intro v2 w2 hown2 hB2 hg2 hat2))
    go_ret2
    refine ⟨v2, by rw [fput_yes H1.out]; rfl, ?_, (by repeat (first | with_reducible exact Ext.refl _ | refine Ext.drewN ?_ _ | refine Ext.drew ?_ | refine Ext.alloc ?_ _ | assumption | (refine Below.trans ?_ (by assumption)) | (refine Ext.trans ?_ (by assumption)) | (refine Below.trans ?_ (Below.mono (by assumption) (by omega)))))⟩
    rw [fput_yes H1.out]
    have : (four (xs.length : Int) ++ xs).length = 4 + xs.length := by simp [four]; omega
    unfold OwnB
    rw [this]
    simpa using hown2
  · have H1 := Lib.hid h1
    have h2 : xs.length < 1 ∨ 33792 < xs.length := by omega
    clear h1
    rcases h2 with h2 | h2
    all_goals
      go_enter Try.func11, Try.ntmps11
      go_wp2
      go_ret2
      rw [fput_no H1.out]
      exact ⟨_, rfl, World.ownsRow_nil _ _ _ _, (by repeat (first | with_reducible exact Ext.refl _ | refine Ext.drewN ?_ _ | refine Ext.drew ?_ | refine Ext.alloc ?_ _ | assumption | (refine Below.trans ?_ (by assumption)) | (refine Ext.trans ?_ (by assumption)) | (refine Below.trans ?_ (Below.mono (by assumption) (by omega)))))⟩
set_option maxHeartbeats 400000 in
theorem put_any (v : Value) (xs : List Int) (w : World) (h : RI .u8 w v xs) (hn : xs.length ≤ 100000000) :
    Calls Try.prog 10 #[v] w fun e w' => ∃ v', e = .returned (.tuple #[v', .int .i64 (fput xs).2]) ∧ OwnB w' w.heap.size v' (fput xs).1 ∧ Ext w w' := by
  obtain ⟨hl, A, c, rfl, hnc, hcm, hA⟩ := id h
  have H := Lib.hid h
  clear h hl hA
  by_cases h1 : 1 ≤ xs.length ∧ xs.length ≤ 33792
  · have H1 := Lib.hid h1
    have hd : decide (1 ≤ (xs.length : Int) ∧ (xs.length : Int) ≤ 33792) = true := by simp; omega
    have HD := Lib.hid hd
    obtain ⟨h2, h3⟩ := h1
    clear hd
    go_enter Try.func10, Try.ntmps10
    go_wp2_with (first
      | (go_at_call 19; refine (fits_any _ _).mono ?_; rintro e w1 ⟨rfl, rfl⟩; rw [HD.out])
      | (at_builtin; refine app_u8 _ rfl _ _ rfl w.heap.size _ 4 _ rfl (own_lit w w.heap.size _ _ (Nat.le_refl _) (by simp [maxLen])) _ xs.length _ rfl (H.out.alloc _) (one_ints _ _) (by omega) (by simp) ?_; intro v2 w2 hown2 hB2 hg2 hat2))
    go_ret2
    refine ⟨v2, by rw [fput_yes H1.out]; rfl, ?_, (by repeat (first | with_reducible exact Ext.refl _ | refine Ext.drewN ?_ _ | refine Ext.drew ?_ | refine Ext.alloc ?_ _ | assumption | (refine Below.trans ?_ (by assumption)) | (refine Ext.trans ?_ (by assumption)) | (refine Below.trans ?_ (Below.mono (by assumption) (by omega)))))⟩
    rw [fput_yes H1.out]
    have : (four (xs.length : Int) ++ xs).length = 4 + xs.length := by simp [four]; omega
    unfold OwnB
    rw [this]
    have e1 : (xs.length : Int) / 65536 % 256 = (xs.length : Int) / 65536 := by omega
    have e2 : (xs.length : Int) / 256 % 256 = (xs.length : Int) / 256 := by omega
    simpa [four, e1, e2] using hown2
  · have H1 := Lib.hid h1
    have hd : decide (1 ≤ (xs.length : Int) ∧ (xs.length : Int) ≤ 33792) = false := by simp; omega
    have HD := Lib.hid hd
    clear h1 hd
    go_enter Try.func10, Try.ntmps10
    go_wp2_with (go_at_call 19; refine (fits_any _ _).mono ?_; rintro e w1 ⟨rfl, rfl⟩; rw [HD.out])
    go_ret2
    rw [fput_no H1.out]
    exact ⟨_, rfl, World.ownsRow_nil _ _ _ _, (by repeat (first | with_reducible exact Ext.refl _ | refine Ext.drewN ?_ _ | refine Ext.drew ?_ | refine Ext.alloc ?_ _ | assumption | (refine Below.trans ?_ (by assumption)) | (refine Ext.trans ?_ (by assumption)) | (refine Below.trans ?_ (Below.mono (by assumption) (by omega)))))⟩

/-! ## lists of rows of bytes -/
/- append at one slice type -/
theorem info_rows : (Try.prog.info? 22).map (fun i => (i.zero, i.size, i.bytes)) = some (some (.slice none 0 0), 1, 24) := by kernel_rfl
theorem app_rows (w : World) {ops : Array Oper} {rest : List Oper} {o : Oper} {a : Act} {Q : Exit → Act → World → Prop} (hgd : o.guard = none) (s x : Operand)
    (ho : o.op = .call { callee := .builtin .append, args := #[s, x], argTypes := #[36, 36] })
    (base : Nat) (v : Value) (n : Nat) (xs : List Value) (hs : a.eval s = v) (hown : w.ownsRow base 22 1 v n xs)
    (y : Value) (m : Nat) (news : List Value) (hx : a.eval x = y) (hr : RdN w 1 y m news) (h1 : ∀ u ∈ news, u.oneCell' = true)
    (hb : n + m ≤ 137438953472) (hbase : base ≤ w.heap.size)
    (h : ∀ v' w', w'.ownsRow base 22 1 v' (n + m) (xs ++ news) → Below base w w' → w.grownBy w' v.ownBlock → (v'.ownBlock = v.ownBlock ∨ v'.ownBlock = some w.heap.size) → wpList Try.prog ops Q rest (a.put o.dst v') w') : wpList Try.prog ops Q (o :: rest) a w := by
  obtain ⟨i0, hi0, hz0, hz1, hz2⟩ := info_parts info_rows
  exact wpList_append_rd w hgd s x _ ho base _ i0 _ 1 24 Try.underlying36 hi0 hz0 hz1 hz2 rfl (by omega) v n xs hs hown y m news hx hr h1 (by unfold maxLen; omega) (by omega) hbase
    fun v' w' a1 a2 a3 => h v' w' a1 ((Below.refl _ _).grown a2 hbase fun k hk => (hown.lt k hk).1) a2 a3
theorem sapp_rows (w : World) {ops : Array Oper} {o : Oper} {a : Act} {K : Act → World → Prop} {Q : Exit → Act → World → Prop} {E : Prop} (hgd : o.guard = none) (s x : Operand)
    (ho : o.op = .call { callee := .builtin .append, args := #[s, x], argTypes := #[36, 36] })
    (base : Nat) (v : Value) (n : Nat) (xs : List Value) (hs : a.eval s = v) (hown : w.ownsRow base 22 1 v n xs)
    (y : Value) (m : Nat) (news : List Value) (hx : a.eval x = y) (hr : RdN w 1 y m news) (h1 : ∀ u ∈ news, u.oneCell' = true)
    (hb : n + m ≤ 137438953472) (hbase : base ≤ w.heap.size)
    (h : ∀ v' w', w'.ownsRow base 22 1 v' (n + m) (xs ++ news) → Below base w w' → w.grownBy w' v.ownBlock → (v'.ownBlock = v.ownBlock ∨ v'.ownBlock = some w.heap.size) → K (a.put o.dst v') w') :
    if Region.wanted o (yielded ops a.tmps) = true then Oper.wp Try.prog o a w K Q else E := by
  obtain ⟨i0, hi0, hz0, hz1, hz2⟩ := info_parts info_rows
  exact step_append_rd w hgd s x _ ho base _ i0 _ 1 24 Try.underlying36 hi0 hz0 hz1 hz2 rfl (by omega) v n xs hs hown y m news hx hr h1 (by unfold maxLen; omega) (by omega) hbase
    fun v' w' a1 a2 a3 => h v' w' a1 ((Below.refl _ _).grown a2 hbase fun k hk => (hown.lt k hk).1) a2 a3
/-- a slice of slices of bytes -/
def RdLs (w : World) (v : Value) (ls : List (List Int)) : Prop :=
  ∃ vs : List Value, vs.length = ls.length ∧ RdN w 1 v ls.length vs ∧ ∀ (j : Nat) x l, vs[j]? = some x → ls[j]? = some l → RI .u8 w x l
theorem RdLs.ext {w w' : World} {v : Value} {ls : List (List Int)} (h : RdLs w v ls) (hE : Ext w w') : RdLs w' v ls := by
  obtain ⟨vs, h1, h2, h3⟩ := h
  exact ⟨vs, h1, h2.ext hE, fun j x l hx hl => (h3 j x l hx hl).ext hE⟩
/-- one of the call's own, all its rows too, from block 'base' on -/
def OwnVs (w : World) (base : Nat) (v : Value) (ls : List (List Int)) (vs : List Value) : Prop :=
  vs.length = ls.length ∧ w.ownsRow base 22 1 v ls.length vs ∧ ∀ (j : Nat) x l, vs[j]? = some x → ls[j]? = some l → OwnB w base x l
def OwnLs (w : World) (base : Nat) (v : Value) (ls : List (List Int)) : Prop := ∃ vs : List Value, OwnVs w base v ls vs
theorem OwnVs.mod {S : Nat → Prop} {w w' : World} {base : Nat} {v : Value} {ls : List (List Int)} {vs : List Value} (h : OwnVs w base v ls vs) (hM : Mod S w w') (hS : ∀ k, base ≤ k → ¬ S k) : OwnVs w' base v ls vs := by
  obtain ⟨h1, h2, h3⟩ := h
  exact ⟨h1, own_mod h2 hM fun k hk => hS k (h2.lt k hk).1, fun j x l hx hl => own_mod (h3 j x l hx hl) hM fun k hk => hS k ((h3 j x l hx hl).lt k hk).1⟩
theorem OwnVs.lower {w : World} {base base' : Nat} {v : Value} {ls : List (List Int)} {vs : List Value} (h : OwnVs w base v ls vs) (hb : base' ≤ base) : OwnVs w base' v ls vs := by
  obtain ⟨h1, h2, h3⟩ := h
  exact ⟨h1, own_base h2 hb, fun j x l hx hl => own_base (h3 j x l hx hl) hb⟩
theorem OwnVs.ext {w w' : World} {base : Nat} {v : Value} {ls : List (List Int)} {vs : List Value} (h : OwnVs w base v ls vs) (hE : Ext w w') : OwnVs w' base v ls vs := by
  obtain ⟨h1, h2, h3⟩ := h
  exact ⟨h1, own_ext h2 hE, fun j x l hx hl => own_ext (h3 j x l hx hl) hE⟩
theorem OwnVs.lt {w : World} {base : Nat} {v : Value} {ls : List (List Int)} {vs : List Value} (h : OwnVs w base v ls vs) : ∀ x ∈ vs, ∀ k, x.ownBlock = some k → k < w.heap.size := by
  intro x hx k hk
  obtain ⟨j, hj, rfl⟩ := List.getElem_of_mem hx
  have hl : j < ls.length := by have := h.1; omega
  exact ((h.2.2 j _ _ (List.getElem?_eq_getElem hj) (List.getElem?_eq_getElem hl)).lt k hk).2
theorem OwnVs.one {w : World} {base : Nat} {v : Value} {l : List Int} {vs : List Value} (h : OwnVs w base v [l] vs) :
    ∃ g c A c', v = .slice (some ⟨g, 0, none⟩) 1 c ∧ g < w.heap.size ∧ w.cell? ⟨g, 0, none⟩ = some (.slice A l.length c') ∧ RI .u8 w (.slice A l.length c') l := by
  obtain ⟨h1, h2, h3⟩ := h
  match vs, h1 with
  | [x], _ =>
    obtain ⟨g, c, rfl, _, hlt⟩ := h2.form (by simp)
    have hx := h3 0 x l rfl rfl
    obtain ⟨A, c', rfl⟩ := own_shape hx
    exact ⟨g, c, A, c', rfl, hlt, by rw [h2.cellAt 0 (by simp)]; rfl, hx.rd⟩
theorem OwnVs.nil (w : World) (base : Nat) : OwnVs w base (.slice none 0 0) [] [] := ⟨rfl, World.ownsRow_nil _ _ _ _, fun j x l hx => by simp at hx⟩
theorem OwnLs.rd {w : World} {base : Nat} {v : Value} {ls : List (List Int)} (h : OwnLs w base v ls) : RdLs w v ls := by
  obtain ⟨vs, h1, h2, h3⟩ := h
  exact ⟨vs, h1, RdN.of_own h2, fun j x l hx hl => (h3 j x l hx hl).rd⟩
theorem OwnLs.ext {w w' : World} {base : Nat} {v : Value} {ls : List (List Int)} (h : OwnLs w base v ls) (hE : Ext w w') : OwnLs w' base v ls := by
  obtain ⟨vs, h1, h2, h3⟩ := h
  exact ⟨vs, h1, own_ext h2 hE, fun j x l hx hl => own_ext (h3 j x l hx hl) hE⟩
theorem OwnLs.nil (w : World) (base : Nat) : OwnLs w base (.slice none 0 0) [] := ⟨[], rfl, World.ownsRow_nil _ _ _ _, fun j x l hx => by simp at hx⟩

set_option maxHeartbeats 400000 in
theorem great_any (v : Value) (ls : List (List Int)) (w : World) (h : RdLs w v ls) :
    Calls Try.prog 9 #[v] w fun e w' => e = .returned (.bool (ls.any fun l => decide (200000 < l.length))) ∧ Ext w w' := by
  obtain ⟨vs, hl, hrd, hvs⟩ := h
  obtain ⟨_, A, c, rfl, hnc, hcm, hA⟩ := id hrd
  have HL := Lib.hid hl
  have HR := Lib.hid hrd
  have HV := Lib.hid hvs
  clear hl hrd hvs hA
  unfold maxLen at hcm
  go_enter Try.func9, Try.ntmps9
  go_wp2
  go_loopw [7] (fun i wr => ∃ k : Nat, k ≤ ls.length ∧ i = .int .i64 k ∧ (ls.take k).any (fun l => decide (200000 < l.length)) = false ∧ Qt w wr) (fun i _ => ls.length - (intOf i).toNat)
  case atStart => exact ⟨0, Nat.zero_le _, rfl, by simp, Qt.refl _⟩
  case round =>
    obtain ⟨k, hk, rfl, ht, hq⟩ := hrel
    have HT := Lib.hid ht
    clear ht
    have HR := Lib.hid (HR.out.ext hq.ext)
    by_cases hlt : k < ls.length
    · obtain ⟨b, off, cc, hv, _, _, hc⟩ := HR.out.form (by omega)
      simp only [Value.slice.injEq] at hv
      obtain ⟨rfl, _, rfl⟩ := hv
      have hxl : k < vs.length := by have := HL.out; omega
      obtain ⟨x, hx⟩ : ∃ x, vs[k]? = some x := ⟨_, List.getElem?_eq_getElem hxl⟩
      obtain ⟨l, hl⟩ : ∃ l, ls[k]? = some l := ⟨_, List.getElem?_eq_getElem hlt⟩
      have hcx := hc k x hx
      obtain ⟨_, A2, c2, rfl, _, hcm2, _⟩ := HV.out k x l hx hl
      have Hl := Lib.hid hl
      have hl2 : l.length ≤ c2 := by assumption
      unfold maxLen at hcm2
      clear hc hx hl
      have htk : (ls.take (k + 1)).any (fun l => decide (200000 < l.length)) = decide (200000 < l.length) := by
        rw [List.take_add_one, Hl.out, List.any_append, HT.out]; simp
      have HTK := Lib.hid htk
      clear htk
      by_cases hg : 200000 < l.length
      · go_wp2
        go_ret
        refine ⟨ret_bool ?_, hq.ext⟩
        have : l ∈ ls := List.mem_of_getElem? Hl.out
        symm
        rw [List.any_eq_true]
        exact ⟨l, this, by simp [hg]⟩
      · go_wp2
        go_roundw
        case rel => exact ⟨k + 1, by omega, by go_num, by rw [HTK.out]; simp; omega, (by repeat (first | with_reducible exact Qt.refl _ | refine Qt.drewN ?_ _ | assumption | refine Qt.trans ?_ (by assumption)))⟩
        case measure => simp [intOf]; omega
    · go_wp2
      go_ret
      obtain rfl : k = ls.length := by omega
      have := HT.out
      rw [List.take_length] at this
      exact ⟨by rw [this]; rfl, hq.ext⟩

theorem lists_take {ls ms : List (List Int)} {k : Nat} (hk : k ≤ ls.length) (hn : ¬ k < ls.length) (hl : ls.length = ms.length) (ht : ls.take k = ms.take k) : ls = ms := by
  have : k = ls.length := by omega
  subst this
  rw [List.take_of_length_le (Nat.le_refl _), List.take_of_length_le (by omega)] at ht
  exact ht
set_option maxHeartbeats 400000 in
theorem lists_q (va vb : Value) (xs ys : List (List Int)) (w : World) (ha : RdLs w va xs) (hb : RdLs w vb ys) :
    Calls Try.prog 17 #[va, vb] w fun e w' => e = .returned (.bool (decide (xs = ys))) ∧ Qt w w' := by
  obtain ⟨vs, hl1, hr1, hv1⟩ := ha
  obtain ⟨us, hl2, hr2, hv2⟩ := hb
  obtain ⟨_, A, c, rfl, hnc, hcm, _⟩ := id hr1
  obtain ⟨_, A2, c2, rfl, hnc2, hcm2, _⟩ := id hr2
  have L1 := Lib.hid hl1
  have L2 := Lib.hid hl2
  have R1 := Lib.hid hr1
  have R2 := Lib.hid hr2
  have V1 := Lib.hid hv1
  have V2 := Lib.hid hv2
  clear hl1 hl2 hr1 hr2 hv1 hv2
  unfold maxLen at hcm hcm2
  by_cases hl : xs.length = ys.length
  · have HL := Lib.hid hl
    have hq2 : ((xs.length : Int) == (ys.length : Int)) = true := by simp [hl]
    have hq3 : ((xs.length : Int) != (ys.length : Int)) = false := by simp [hl]
    clear hl
    go_enter Try.func17, Try.ntmps17
    go_wp2
    clear hq2 hq3
    go_loopw [13] (fun i wr => ∃ k : Nat, k ≤ xs.length ∧ i = .int .i64 k ∧ xs.take k = ys.take k ∧ Qt w wr) (fun i _ => xs.length - (intOf i).toNat)
    case atStart => exact ⟨0, Nat.zero_le _, rfl, by simp, Qt.refl _⟩
    case round =>
      obtain ⟨k, hk, rfl, ht, hq⟩ := hrel
      have HT := Lib.hid ht
      clear ht
      have R1 := Lib.hid (R1.out.ext hq.ext)
      have R2 := Lib.hid (R2.out.ext hq.ext)
      by_cases hlt : k < xs.length
      · have hlt2 : k < ys.length := by have := HL.out; omega
        obtain ⟨b, off, cc, hv, _, _, hc⟩ := R1.out.form (by omega)
        simp only [Value.slice.injEq] at hv
        obtain ⟨rfl, _, rfl⟩ := hv
        obtain ⟨b2, off2, cc2, hv, _, _, hc2⟩ := R2.out.form (by omega)
        simp only [Value.slice.injEq] at hv
        obtain ⟨rfl, _, rfl⟩ := hv
        obtain ⟨x, hx⟩ : ∃ x, vs[k]? = some x := ⟨_, List.getElem?_eq_getElem (by have := L1.out; omega)⟩
        obtain ⟨y, hy⟩ : ∃ y, us[k]? = some y := ⟨_, List.getElem?_eq_getElem (by have := L2.out; omega)⟩
        obtain ⟨l, hl⟩ : ∃ l, xs[k]? = some l := ⟨_, List.getElem?_eq_getElem hlt⟩
        obtain ⟨m, hm⟩ : ∃ m, ys[k]? = some m := ⟨_, List.getElem?_eq_getElem hlt2⟩
        have hcx := hc k x hx
        have hcy := hc2 k y hy
        have X := Lib.hid ((V1.out k x l hx hl).ext hq.ext)
        have Y := Lib.hid ((V2.out k y m hy hm).ext hq.ext)
        have HT2 : Hid (xs.take (k + 1) = ys.take (k + 1) ↔ l = m) := Lib.hid (by
          rw [List.take_add_one, List.take_add_one, HT.out, hl, hm]
          simp)
        have HM : Hid (l ≠ m → xs ≠ ys) := Lib.hid (by
          rintro hne rfl
          rw [hl] at hm
          exact hne (Option.some.inj hm))
        clear hc hc2 hx hy hl hm
        by_cases he : l = m
        · have HE := Lib.hid (decide_eq_true he)
          have HEE := Lib.hid he
          clear he
          go_wp2
          go_quiet ((go_at_call 12; exact Qt.calls (by rw [HE.out]) (bytes_q x y l m _ X.out Y.out)))
          go_wp2
          go_roundw
          case rel => exact ⟨k + 1, by omega, by go_num, HT2.out.2 HEE.out, (by repeat (first | with_reducible exact Qt.refl _ | refine Qt.drewN ?_ _ | assumption | refine Qt.trans ?_ (by assumption)))⟩
          case measure => simp [intOf]; omega
        · have HE := Lib.hid (decide_eq_false he)
          have HEE := Lib.hid he
          clear he
          go_wp2
          go_quiet ((go_at_call 12; exact Qt.calls (by rw [HE.out]) (bytes_q x y l m _ X.out Y.out)))
          go_wp2
          go_ret
          exact ⟨by simp [HM.out HEE.out], (by repeat (first | with_reducible exact Qt.refl _ | refine Qt.drewN ?_ _ | assumption | refine Qt.trans ?_ (by assumption)))⟩
      · go_wp2
        go_ret
        exact ⟨by simp [lists_take hk hlt HL.out HT.out], (by repeat (first | with_reducible exact Qt.refl _ | refine Qt.drewN ?_ _ | assumption | refine Qt.trans ?_ (by assumption)))⟩
  · have hq2 : ((xs.length : Int) == (ys.length : Int)) = false := by simp; omega
    have hq3 : ((xs.length : Int) != (ys.length : Int)) = true := by simp; omega
    have hne : xs ≠ ys := fun h => hl (by rw [h])
    have HN := Lib.hid hne
    clear hne hl
    go_enter Try.func17, Try.ntmps17
    go_wp2
    go_ret
    exact ⟨by simp [HN.out], Qt.refl _⟩
theorem lists_any (va vb : Value) (xs ys : List (List Int)) (w : World) (ha : RdLs w va xs) (hb : RdLs w vb ys) :
    Calls Try.prog 17 #[va, vb] w fun e w' => e = .returned (.bool (decide (xs = ys))) ∧ Ext w w' :=
  (lists_q va vb xs ys w ha hb).mono fun _ _ ⟨he, hq⟩ => ⟨he, hq.ext⟩

set_option maxHeartbeats 400000 in
theorem same_any (va vb : Value) (x y : Bool) (xs ys : List Int) (w : World) (ha : RI .u8 w va xs) (hb : RI .u8 w vb ys) :
    Calls Try.prog 16 #[.agg #[va, .bool x], .agg #[vb, .bool y]] w fun e w' => e = .returned (.bool (x == y && decide (xs = ys))) ∧ Ext w w' := by
  have Ha := Lib.hid ha
  have Hb := Lib.hid hb
  obtain ⟨_, A, c, rfl, _⟩ := ha
  obtain ⟨_, A2, c2, rfl, _⟩ := hb
  cases x <;> cases y
  all_goals
    go_enter Try.func16, Try.ntmps16
    go_wp2_with (go_at_call 12; refine (bytes_any _ _ xs ys _ ((Ha.out.alloc _).alloc _) ((Hb.out.alloc _).alloc _)).mono ?_; rintro e w1 ⟨rfl, hE1⟩)
    go_ret
    exact ⟨rfl, (by repeat (first | with_reducible exact Ext.refl _ | refine Ext.drewN ?_ _ | refine Ext.drew ?_ | refine Ext.alloc ?_ _ | assumption | (refine Below.trans ?_ (by assumption)) | (refine Ext.trans ?_ (by assumption)) | (refine Below.trans ?_ (Below.mono (by assumption) (by omega)))))⟩
end Go.Proofs.Ytladfocmmhagbaa
