/- Written by chain.py of B02[-refput_any,-great_any,-lists_any,-lists_q,-same_any]@Fr. No condition. -/
import Derived.Test.YtldijmappinngaaGreatDoorFA17
namespace Go.Proofs.YtldijmappinngaaGreatDoor.Fr
open Go.RowKit Go.Kb
set_option maxRecDepth 100000

/-- a row of bytes of the call's own -/
abbrev OwnB (w : World) (base : Nat) (v : Value) (l : List Int) : Prop := w.ownsRow base 5 1 v l.length (u8s l)
theorem OwnB.rd {w : World} {base : Nat} {v : Value} {l : List Int} (h : OwnB w base v l) : RI .u8 w v l := RdN.of_own h
def fput (xs : List Int) : List Int × Int := if 1 ≤ xs.length ∧ xs.length ≤ 33792 then (four xs.length ++ xs, 0) else ([], 5)
theorem fput_yes {xs : List Int} (h : 1 ≤ xs.length ∧ xs.length ≤ 33792) : fput xs = (four xs.length ++ xs, 0) := if_pos h
theorem fput_no {xs : List Int} (h : ¬ (1 ≤ xs.length ∧ xs.length ≤ 33792)) : fput xs = ([], 5) := if_neg h

theorem fput_len (xs : List Int) : (fput xs).1.length ≤ 33796 := by
  unfold fput
  split
  · simp [four]; omega
  · simp
set_option maxHeartbeats 400000 in
theorem put_any (v : Value) (xs : List Int) (w : World) (h : RI .u8 w v xs) (hn : xs.length ≤ 100000000) :
    Calls Tryz.prog 8 #[v] w fun e w' => ∃ v', e = .returned (.tuple #[v', .int .i64 (fput xs).2]) ∧ OwnB w' w.heap.size v' (fput xs).1 ∧ Ext w w' := by
  obtain ⟨hl, A, c, rfl, hnc, hcm, hA⟩ := id h
  have H := Lib.hid h
  clear h hl hA
  by_cases h1 : 1 ≤ xs.length ∧ xs.length ≤ 33792
  · have H1 := Lib.hid h1
    have hd : decide (1 ≤ (xs.length : Int) ∧ (xs.length : Int) ≤ 33792) = true := by simp; omega
    have HD := Lib.hid hd
    obtain ⟨h2, h3⟩ := h1
    clear hd
    go_enter Tryz.func8, Tryz.ntmps8
    go_wp2_with (first
      | (go_at_call 22; refine (fits_any _ _).mono ?_; rintro e w1 ⟨rfl, rfl⟩; rw [HD.out])
      | (at_builtin; refine app_u8 _ rfl _ _ rfl w.heap.size _ 4 _ rfl (own_lit w w.heap.size _ _ (Nat.le_refl _) (by simp [maxLen])) _ xs.length _ rfl (H.out.alloc _) (one_ints _ _) (by omega) (by simp) ?_; intro v2 w2 hown2 hB2 hg2 hat2))
    go_ret2
    refine ⟨v2, by rw [fput_yes H1.out]; rfl, ?_, (by repeat (first | with_reducible exact Ext.refl _ | refine Ext.drewN ?_ _ | refine Ext.drew ?_ | refine Ext.alloc ?_ _ | assumption | (refine Below.trans ?_ (by assumption)) | (refine Ext.trans ?_ (by assumption)) | (refine Below.trans ?_ (Below.mono (by assumption) (by omega)))))⟩
    rw [fput_yes H1.out]
    have : (four (xs.length : Int) ++ xs).length = 4 + xs.length := by simp [four]; omega
    unfold OwnB
    rw [this]
    have e1 : (xs.length : Int) / 65536 % 256 = (xs.length : Int) / 65536 := by omega
    have e2 : (xs.length : Int) / 256 % 256 = (xs.length : Int) / 256 := by omega
    simpa [four, e1, e2] using hown2
  · have H1 := Lib.hid h1
    have hd : decide (1 ≤ (xs.length : Int) ∧ (xs.length : Int) ≤ 33792) = false := by simp; omega
    have HD := Lib.hid hd
    clear h1 hd
    go_enter Tryz.func8, Tryz.ntmps8
    go_wp2_with (go_at_call 22; refine (fits_any _ _).mono ?_; rintro e w1 ⟨rfl, rfl⟩; rw [HD.out])
    go_ret2
    rw [fput_no H1.out]
    exact ⟨_, rfl, World.ownsRow_nil _ _ _ _, (by repeat (first | with_reducible exact Ext.refl _ | refine Ext.drewN ?_ _ | refine Ext.drew ?_ | refine Ext.alloc ?_ _ | assumption | (refine Below.trans ?_ (by assumption)) | (refine Ext.trans ?_ (by assumption)) | (refine Below.trans ?_ (Below.mono (by assumption) (by omega)))))⟩

/-! ## lists of rows of bytes -/
/- append at one slice type -/
theorem info_rows : (Tryz.prog.info? 25).map (fun i => (i.zero, i.size, i.bytes)) = some (some (.slice none 0 0), 1, 24) := by kernel_rfl
theorem app_rows (w : World) {ops : Array Oper} {rest : List Oper} {o : Oper} {a : Act} {Q : Exit → Act → World → Prop} (hgd : o.guard = none) (s x : Operand)
    (ho : o.op = .call { callee := .builtin .append, args := #[s, x], argTypes := #[37, 37] })
    (base : Nat) (v : Value) (n : Nat) (xs : List Value) (hs : a.eval s = v) (hown : w.ownsRow base 25 1 v n xs)
    (y : Value) (m : Nat) (news : List Value) (hx : a.eval x = y) (hr : RdN w 1 y m news) (h1 : ∀ u ∈ news, u.oneCell' = true)
    (hb : n + m ≤ 137438953472) (hbase : base ≤ w.heap.size)
    (h : ∀ v' w', w'.ownsRow base 25 1 v' (n + m) (xs ++ news) → Below base w w' → w.grownBy w' v.ownBlock → (v'.ownBlock = v.ownBlock ∨ v'.ownBlock = some w.heap.size) → wpList Tryz.prog ops Q rest (a.put o.dst v') w') : wpList Tryz.prog ops Q (o :: rest) a w := by
  obtain ⟨i0, hi0, hz0, hz1, hz2⟩ := info_parts info_rows
  exact wpList_append_rd w hgd s x _ ho base _ i0 _ 1 24 Tryz.underlying37 hi0 hz0 hz1 hz2 rfl (by omega) v n xs hs hown y m news hx hr h1 (by unfold maxLen; omega) (by omega) hbase
    fun v' w' a1 a2 a3 => h v' w' a1 ((Below.refl _ _).grown a2 hbase fun k hk => (hown.lt k hk).1) a2 a3
theorem sapp_rows (w : World) {ops : Array Oper} {o : Oper} {a : Act} {K : Act → World → Prop} {Q : Exit → Act → World → Prop} {E : Prop} (hgd : o.guard = none) (s x : Operand)
    (ho : o.op = .call { callee := .builtin .append, args := #[s, x], argTypes := #[37, 37] })
    (base : Nat) (v : Value) (n : Nat) (xs : List Value) (hs : a.eval s = v) (hown : w.ownsRow base 25 1 v n xs)
    (y : Value) (m : Nat) (news : List Value) (hx : a.eval x = y) (hr : RdN w 1 y m news) (h1 : ∀ u ∈ news, u.oneCell' = true)
    (hb : n + m ≤ 137438953472) (hbase : base ≤ w.heap.size)
    (h : ∀ v' w', w'.ownsRow base 25 1 v' (n + m) (xs ++ news) → Below base w w' → w.grownBy w' v.ownBlock → (v'.ownBlock = v.ownBlock ∨ v'.ownBlock = some w.heap.size) → K (a.put o.dst v') w') :
    if Region.wanted o (yielded ops a.tmps) = true then Oper.wp Tryz.prog o a w K Q else E := by
  obtain ⟨i0, hi0, hz0, hz1, hz2⟩ := info_parts info_rows
  exact step_append_rd w hgd s x _ ho base _ i0 _ 1 24 Tryz.underlying37 hi0 hz0 hz1 hz2 rfl (by omega) v n xs hs hown y m news hx hr h1 (by unfold maxLen; omega) (by omega) hbase
    fun v' w' a1 a2 a3 => h v' w' a1 ((Below.refl _ _).grown a2 hbase fun k hk => (hown.lt k hk).1) a2 a3
/-- a slice of slices of bytes -/
def RdLs (w : World) (v : Value) (ls : List (List Int)) : Prop :=
  ∃ vs : List Value, vs.length = ls.length ∧ RdN w 1 v ls.length vs ∧ ∀ (j : Nat) x l, vs[j]? = some x → ls[j]? = some l → RI .u8 w x l
theorem RdLs.ext {w w' : World} {v : Value} {ls : List (List Int)} (h : RdLs w v ls) (hE : Ext w w') : RdLs w' v ls := by
  obtain ⟨vs, h1, h2, h3⟩ := h
  exact ⟨vs, h1, h2.ext hE, fun j x l hx hl => (h3 j x l hx hl).ext hE⟩
/-- one of the call's own, all its rows too, from block 'base' on -/
def OwnVs (w : World) (base : Nat) (v : Value) (ls : List (List Int)) (vs : List Value) : Prop :=
  vs.length = ls.length ∧ w.ownsRow base 25 1 v ls.length vs ∧ ∀ (j : Nat) x l, vs[j]? = some x → ls[j]? = some l → OwnB w base x l
def OwnLs (w : World) (base : Nat) (v : Value) (ls : List (List Int)) : Prop := ∃ vs : List Value, OwnVs w base v ls vs
theorem OwnVs.mod {S : Nat → Prop} {w w' : World} {base : Nat} {v : Value} {ls : List (List Int)} {vs : List Value} (h : OwnVs w base v ls vs) (hM : Mod S w w') (hS : ∀ k, base ≤ k → ¬ S k) : OwnVs w' base v ls vs := by
  obtain ⟨h1, h2, h3⟩ := h
  exact ⟨h1, own_mod h2 hM fun k hk => hS k (h2.lt k hk).1, fun j x l hx hl => own_mod (h3 j x l hx hl) hM fun k hk => hS k ((h3 j x l hx hl).lt k hk).1⟩
theorem OwnVs.lower {w : World} {base base' : Nat} {v : Value} {ls : List (List Int)} {vs : List Value} (h : OwnVs w base v ls vs) (hb : base' ≤ base) : OwnVs w base' v ls vs := by
  obtain ⟨h1, h2, h3⟩ := h
  exact ⟨h1, own_base h2 hb, fun j x l hx hl => own_base (h3 j x l hx hl) hb⟩
theorem OwnVs.ext {w w' : World} {base : Nat} {v : Value} {ls : List (List Int)} {vs : List Value} (h : OwnVs w base v ls vs) (hE : Ext w w') : OwnVs w' base v ls vs := by
  obtain ⟨h1, h2, h3⟩ := h
  exact ⟨h1, own_ext h2 hE, fun j x l hx hl => own_ext (h3 j x l hx hl) hE⟩
theorem OwnVs.lt {w : World} {base : Nat} {v : Value} {ls : List (List Int)} {vs : List Value} (h : OwnVs w base v ls vs) : ∀ x ∈ vs, ∀ k, x.ownBlock = some k → k < w.heap.size := by
  intro x hx k hk
  obtain ⟨j, hj, rfl⟩ := List.getElem_of_mem hx
  have hl : j < ls.length := by have := h.1; omega
  exact ((h.2.2 j _ _ (List.getElem?_eq_getElem hj) (List.getElem?_eq_getElem hl)).lt k hk).2
theorem OwnVs.one {w : World} {base : Nat} {v : Value} {l : List Int} {vs : List Value} (h : OwnVs w base v [l] vs) :
    ∃ g c A c', v = .slice (some ⟨g, 0, none⟩) 1 c ∧ g < w.heap.size ∧ w.cell? ⟨g, 0, none⟩ = some (.slice A l.length c') ∧ RI .u8 w (.slice A l.length c') l := by
  obtain ⟨h1, h2, h3⟩ := h
  match vs, h1 with
  | [x], _ =>
    obtain ⟨g, c, rfl, _, hlt⟩ := h2.form (by simp)
    have hx := h3 0 x l rfl rfl
    obtain ⟨A, c', rfl⟩ := own_shape hx
    exact ⟨g, c, A, c', rfl, hlt, by rw [h2.cellAt 0 (by simp)]; rfl, hx.rd⟩
theorem OwnVs.nil (w : World) (base : Nat) : OwnVs w base (.slice none 0 0) [] [] := ⟨rfl, World.ownsRow_nil _ _ _ _, fun j x l hx => by simp at hx⟩
theorem OwnLs.rd {w : World} {base : Nat} {v : Value} {ls : List (List Int)} (h : OwnLs w base v ls) : RdLs w v ls := by
  obtain ⟨vs, h1, h2, h3⟩ := h
  exact ⟨vs, h1, RdN.of_own h2, fun j x l hx hl => (h3 j x l hx hl).rd⟩
theorem OwnLs.ext {w w' : World} {base : Nat} {v : Value} {ls : List (List Int)} (h : OwnLs w base v ls) (hE : Ext w w') : OwnLs w' base v ls := by
  obtain ⟨vs, h1, h2, h3⟩ := h
  exact ⟨vs, h1, own_ext h2 hE, fun j x l hx hl => own_ext (h3 j x l hx hl) hE⟩
theorem OwnLs.nil (w : World) (base : Nat) : OwnLs w base (.slice none 0 0) [] := ⟨[], rfl, World.ownsRow_nil _ _ _ _, fun j x l hx => by simp at hx⟩

theorem lists_take {ls ms : List (List Int)} {k : Nat} (hk : k ≤ ls.length) (hn : ¬ k < ls.length) (hl : ls.length = ms.length) (ht : ls.take k = ms.take k) : ls = ms := by
  have : k = ls.length := by omega
  subst this
  rw [List.take_of_length_le (Nat.le_refl _), List.take_of_length_le (by omega)] at ht
  exact ht
end Go.Proofs.YtldijmappinngaaGreatDoor.Fr
