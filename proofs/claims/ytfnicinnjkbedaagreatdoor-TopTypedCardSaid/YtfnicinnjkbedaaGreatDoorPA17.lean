/- Written by chain.py of A12[-column_any]. No condition. -/
import Derived.Test.YtfnicinnjkbedaaGreatDoorMP17
namespace Go.Proofs.YtfnicinnjkbedaaGreatDoor
open Go.RowKit Go.Kb
set_option maxRecDepth 100000

abbrev Ub : Rep Int := Rep.int .u8
theorem info_u8 : (Tryz.prog.info? 5).map (fun i => (i.zero, i.size, i.bytes)) = some (some (.int .u8 0), Ub.size, 1) := by kernel_rfl
/-- a pen's cells: the setting, the column, what went out -/
def penA (cs : Array Value) (col : Int) (o : Value) : Array Value := cs ++ #[.int .i64 col, o]
theorem built_pen (col : Int) (cs : Array Value) (h : cs.size = 24) : Tryz.prog.built 86 [(0, .agg cs), (1, .int .i64 col)] = some (penA cs col (.slice none 0 0)) := by
  rw [← arr24 h]
  kernel_rfl
theorem penA_24 {cs : Array Value} {col : Int} {o : Value} (h : cs.size = 24) : (penA cs col o)[24]? = some (.int .i64 col) := by
  simp only [penA]
  rw [Array.getElem?_append_right (by omega)]
  simp [h]
theorem penA_25 {cs : Array Value} {col : Int} {o : Value} (h : cs.size = 24) : (penA cs col o)[25]? = some o := by
  simp only [penA]
  rw [Array.getElem?_append_right (by omega)]
  simp [h]
theorem penA_set24 {cs : Array Value} {col : Int} {o : Value} (h : cs.size = 24) (x : Int) : (penA cs col o).setIfInBounds 24 (.int .i64 x) = penA cs x o := by
  apply Array.ext'
  simp [penA, h]
theorem penA_set25 {cs : Array Value} {col : Int} {o : Value} (h : cs.size = 24) (x : Value) : (penA cs col o).setIfInBounds 25 x = penA cs col x := by
  apply Array.ext'
  simp [penA, h]
theorem penA_mid {cs : Array Value} {col : Int} {o : Value} {w : World} {g : Nat} (hB : Blk w g 86 (penA cs col o)) : w.rangeAt g 0 cs.toList := by
  intro j v hj
  have hj' : cs[j]? = some v := by simpa using hj
  have hlt : j < cs.size := (Array.getElem?_eq_some_iff.1 hj').1
  rw [hB.cell (0 + j), Nat.zero_add]
  simp only [penA]
  rw [Array.getElem?_append_left hlt]
  exact hj'
theorem pen_cells {cs : Array Value} {col : Int} {o : Value} {w : World} {g : Nat} (h : Blk w g 86 (penA cs col o)) (hn : cs.size = 24) :
    w.cell? ⟨g, 24, none⟩ = some (.int .i64 col) ∧ w.cell? ⟨g, 25, none⟩ = some o ∧ w.frozen? ⟨g, 24, none⟩ = false ∧ w.frozen? ⟨g, 25, none⟩ = false :=
  ⟨by rw [h.cell, penA_24 hn], by rw [h.cell, penA_25 hn], h.frozen _, h.frozen _⟩
/-- a pen whose output is the call's own, all of it from block B on -/
def Pen (cs : Array Value) (g B : Nat) (w : World) (col : Int) (out : List Int) : Prop :=
  ∃ A n c, out.length = n ∧ Blk w g 86 (penA cs col (.slice A n c)) ∧ OwnS Ub 5 B (fun _ => False) w (.slice A n c) out
section
variable {cs : Array Value} {g B : Nat} {w w' : World} {col : Int} {out : List Int}
theorem Pen.ext (h : Pen cs g B w col out) (hE : Ext w w') : Pen cs g B w' col out := by
  obtain ⟨A, n, c, h0, h1, h2⟩ := h
  exact ⟨A, n, c, h0, h1.ext hE, h2.ext hE⟩
theorem own_blk_ne' {v : Value} {t : TypeId} {xs : Array Value} (h : OwnS Ub 5 B (fun _ => False) w v out) (hg : Blk w g t xs) (hne : 5 ≠ t) : ¬ (v.ownBlock = some g) := by
  obtain ⟨us, ho, _⟩ := h
  exact own_blk_ne ho hg hne
theorem own_set {v : Value} {t : TypeId} {xs : Array Value} (hg : Blk w g t xs) (hne : 5 ≠ t) (i : Nat) (x : Value) (h : OwnS Ub 5 B (fun _ => False) w v out) : OwnS Ub 5 B (fun _ => False) (w.setCell ⟨g, i, none⟩ x) v out :=
  h.mod (S := fun k => k = g) ((Mod.refl _ _).set1 _) (fun _ hk he => own_blk_ne' h hg hne (he ▸ hk)) (fun _ _ hk => hk.elim)
theorem below_put {a : World} (h : Below B a w) (hg : B ≤ g) (i : Nat) (x : Value) : Below B a (w.setCell ⟨g, i, none⟩ x) := Below.setCell h hg x
theorem Pen.mk2 (h1 : Blk w g 86 (penA cs col (.slice none 0 0))) : Pen cs g B w col [] := ⟨none, 0, 0, rfl, h1, OwnS.nil _ _ _ _ _⟩
theorem pen_put {A : Option Addr} {n c : Nat} (hb : Blk w g 86 (penA cs col (.slice A n c))) (ho : OwnS Ub 5 B (fun _ => False) w (.slice A n c) out) (hl : out.length = n) (hn : cs.size = 24) (x : Int) : Pen cs g B (w.setCell ⟨g, 24, none⟩ (.int .i64 x)) x out :=
  ⟨A, n, c, hl, Blk.cast (hb.set_ 24 _) (penA_set24 hn x), own_set hb (by decide) 24 _ ho⟩
end
theorem pen_put' {cs : Array Value} {g B : Nat} {w : World} {col x col' : Int} {out : List Int} {A : Option Addr} {n c : Nat} (hb : Blk w g 86 (penA cs col (.slice A n c))) (ho : OwnS Ub 5 B (fun _ => False) w (.slice A n c) out) (hl : out.length = n) (hn : cs.size = 24) (hx : x = col') : Pen cs g B (w.setCell ⟨g, 24, none⟩ (.int .i64 x)) col' out := by
  subst hx; exact pen_put hb ho hl hn x
theorem Below.drew_ {B : Nat} {a w : World} (h : Below B a w) : Below B a w.drew := ⟨h.os, h.tape, h.output, h.size, h.block⟩
theorem below_alloc {B : Nat} {w w' : World} {o : Obj} (h : Below B (w.alloc o) w') (hB : B ≤ w.heap.size) : Below B w w' := Below.trans ((Below.refl _ _).alloc hB o) h
theorem Below.ext_ {B : Nat} {a w w' : World} (h : Below B a w) (hE : Ext w w') (hB : B ≤ w.heap.size) : Below B a w' := h.trans (hE.mono hB)
/-- a column that may be -/
theorem within_any (col : Int) (w : World) : Calls Tryz.prog 30 #[.int .i64 col] w fun e w' => e = .returned (.int .i64 (colL col)) ∧ w = w' := by
  unfold colL
  by_cases h : col < 0 ∨ 65535 < col
  · rw [if_pos h]
    rcases h with h | h
    · go_enter Tryz.func30, Tryz.ntmps30
      go_wp2
      go_ret
      exact ⟨rfl, rfl⟩
    · have h0 : ¬ col < 0 := by omega
      go_enter Tryz.func30, Tryz.ntmps30
      go_wp2
      go_ret
      exact ⟨rfl, rfl⟩
  · rw [if_neg h]
    have h0 : ¬ col < 0 := by omega
    have h1 : ¬ 65535 < col := by omega
    clear h
    go_enter Tryz.func30, Tryz.ntmps30
    go_wp2
    go_ret
    exact ⟨rfl, rfl⟩
theorem phas_any {g : Nat} {col : Int} {o : Value} (t : Tm) (op : Int) (w : World) (ht : t.Ok) (h : Blk w g 86 (penA t.arr col o)) :
    Calls Tryz.prog 55 #[.pointer (some ⟨g, 0, none⟩), .int .i64 op] w fun e w' => e = .returned (.bool (hasL t op)) ∧ Ext w w' := by
  have hn := t.size ht
  have hc := fun w' => has_any t op w' ht
  generalize hasL t op = f at *
  generalize t.arr = cs at *
  have hm := penA_mid h
  have hi : (Tryz.prog.info? 26).map (·.size) = some cs.toList.length := by rw [Array.length_toList, hn]; kernel_rfl
  clear h ht
  go_enter Tryz.func55, Tryz.ntmps55
  go_wp2_with (refine wpList_load_mid rfl 26 _ rfl g 0 rfl cs.toList _ hm Tryz.underlying26 rfl hi ?_; simp only [Array.toArray_toList])
  refine (hc _).mono ?_
  rintro e w1 ⟨rfl, E1⟩
  go_wp2
  go_ret
  exact ⟨rfl, (by repeat (first | with_reducible exact Ext.refl _ | refine Ext.drewN ?_ _ | refine Ext.drew ?_ | refine Ext.alloc ?_ _ | assumption | (refine Below.trans ?_ (by assumption)) | (refine Ext.trans ?_ (by assumption)) | (refine Below.trans ?_ (Below.mono (by assumption) (by omega)))))⟩
theorem and192 : ∀ n : Nat, n < 256 → (bits .and .u8 (n : Int) 192 == 128) = decide (128 ≤ (n : Int) ∧ (n : Int) ≤ 191) := by decide +kernel
set_option maxHeartbeats 800000 in
theorem put_any {g B : Nat} {col : Int} {out : List Int} (t : Tm) (c : Int) (w : World) (ht : t.Ok) (h : Pen t.arr g B w col out) (hBg : B ≤ g) (hcol : 0 ≤ col ∧ col ≤ 65535) (hc : 0 ≤ c ∧ c ≤ 255) (hl : out.length ≤ 100000000) :
    Calls Tryz.prog 56 #[.pointer (some ⟨g, 0, none⟩), .int .u8 c] w fun e w' => e = .returned (.tuple #[]) ∧ Pen t.arr g B w' (movedL (hasL t 42) col c) (out ++ [c]) ∧ Below B w w' := by
  have hn := t.size ht
  have hh := fun w' col o h => phas_any (g := g) (col := col) (o := o) t 42 w' ht h
  generalize hasL t 42 = u at *
  generalize t.arr = cs at *
  obtain ⟨A0, _, c0, rfl, hb, ho⟩ := h
  have hglt := hb.lt
  have hlen : (out ++ [c]).length = out.length + 1 := by simp
  obtain ⟨j24, j25, e24, e25⟩ := pen_cells hb hn
  have HB := Lib.hid hb
  have HO := Lib.hid ho
  have HH := Lib.hid hh
  clear hb ho ht hh
  have c9 : (c == 9) = decide (c = 9) := by rw [Bool.eq_iff_iff]; simp
  by_cases h9 : c = 9
  · subst h9
    have hm : movedL u col 9 = colL ((col / 8 + 1) * 8) := by simp [movedL]
    have htm : col.tmod 8 = col % 8 := Int.tmod_eq_emod_of_nonneg hcol.1
    have hv : IntKind.i64.wrap (IntKind.i64.wrap (col - col.tmod 8) + 8) = (col / 8 + 1) * 8 := by
      rw [htm, IntWalk.i64_in (col - col % 8) (by omega), IntWalk.i64_in _ (by omega)]; omega
    have HV := Lib.hid (congrArg colL hv)
    rw [hm]
    clear hm htm hv
    go_enter Tryz.func56, Tryz.ntmps56
    go_wp2_with (at_builtin; go_loud (refine wpList_app (e := Ub) (base := B) (B := fun _ => False) (A := fun _ => False) rfl (.tmp 8) (.tmp 10) rfl Tryz.underlying27 info_u8 rfl (HO.out.alloc _) rfl (RI.y (RI.lit .u8 [9] _ rfl (by simp))) rfl (fun _ _ h => h.elim) (N := out.length + 1) rfl (by simp [maxLen]; omega) (by omega) (by simp; omega) ?_; intro A2 c2 w2 o2 M2 E2; have H2 := Lib.hid (Blk.mod (HB.out.alloc _) M2 (own_blk_ne' HO.out (HB.out) (by decide))); obtain ⟨k24, k25, f24, f25⟩ := pen_cells H2.out hn; have O2 := Lib.hid o2; have H3 := Lib.hid (Blk.cast (H2.out.set_ 25 (.slice A2 (out.length + 1) c2)) (penA_set25 hn _)); have O3 := Lib.hid (own_set H2.out (by decide) 25 (.slice A2 (out.length + 1) c2) O2.out); have E3 := Lib.hid (below_put (below_alloc E2 (by omega)) hBg 25 (.slice A2 (out.length + 1) c2)); obtain ⟨l24, l25, g24, g25⟩ := pen_cells H3.out hn; clear M2 E2))
    go_region_law (go_simp; first | ((go_at_call 30; (with_reducible refine (within_any _ _).mono ?_); rintro e w3 ⟨rfl, rfl⟩)))
    all_goals go_wp2
    all_goals go_end0
    all_goals exact ⟨rfl, Pen.ext (pen_put' H3.out O3.out hlen hn HV.out) (Ext.refl _).drew, Below.drew_ (below_put E3.out hBg 24 _)⟩
  · have i9 : (c == 9) = false := by simpa using h9
    by_cases h8 : c = 8
    · subst h8
      have hm : movedL u col 8 = max 0 (col - 1) := by simp [movedL]
      have HV := Lib.hid hm
      clear hm i9 c9
      go_enter Tryz.func56, Tryz.ntmps56
      go_wp2_with (at_builtin; go_loud (refine wpList_app (e := Ub) (base := B) (B := fun _ => False) (A := fun _ => False) rfl (.tmp 8) (.tmp 10) rfl Tryz.underlying27 info_u8 rfl (HO.out.alloc _) rfl (RI.y (RI.lit .u8 [8] _ rfl (by simp))) rfl (fun _ _ h => h.elim) (N := out.length + 1) rfl (by simp [maxLen]; omega) (by omega) (by simp; omega) ?_; intro A2 c2 w2 o2 M2 E2; have H2 := Lib.hid (Blk.mod (HB.out.alloc _) M2 (own_blk_ne' HO.out (HB.out) (by decide))); obtain ⟨k24, k25, f24, f25⟩ := pen_cells H2.out hn; have O2 := Lib.hid o2; have H3 := Lib.hid (Blk.cast (H2.out.set_ 25 (.slice A2 (out.length + 1) c2)) (penA_set25 hn _)); have O3 := Lib.hid (own_set H2.out (by decide) 25 (.slice A2 (out.length + 1) c2) O2.out); have E3 := Lib.hid (below_put (below_alloc E2 (by omega)) hBg 25 (.slice A2 (out.length + 1) c2)); obtain ⟨l24, l25, g24, g25⟩ := pen_cells H3.out hn; clear M2 E2))
      all_goals go_end0
      all_goals exact ⟨rfl, pen_put' H3.out O3.out hlen hn (by have := HV.out; omega), below_put E3.out hBg 24 _⟩
    · have i8 : (c == 8) = false := by simpa using h8
      by_cases h13 : c = 13
      · subst h13
        have hm : movedL u col 13 = 0 := by simp [movedL]
        rw [hm]
        clear hm i8 i9 c9
        go_enter Tryz.func56, Tryz.ntmps56
        go_wp2_with (at_builtin; go_loud (refine wpList_app (e := Ub) (base := B) (B := fun _ => False) (A := fun _ => False) rfl (.tmp 8) (.tmp 10) rfl Tryz.underlying27 info_u8 rfl (HO.out.alloc _) rfl (RI.y (RI.lit .u8 [13] _ rfl (by simp))) rfl (fun _ _ h => h.elim) (N := out.length + 1) rfl (by simp [maxLen]; omega) (by omega) (by simp; omega) ?_; intro A2 c2 w2 o2 M2 E2; have H2 := Lib.hid (Blk.mod (HB.out.alloc _) M2 (own_blk_ne' HO.out (HB.out) (by decide))); obtain ⟨k24, k25, f24, f25⟩ := pen_cells H2.out hn; have O2 := Lib.hid o2; have H3 := Lib.hid (Blk.cast (H2.out.set_ 25 (.slice A2 (out.length + 1) c2)) (penA_set25 hn _)); have O3 := Lib.hid (own_set H2.out (by decide) 25 (.slice A2 (out.length + 1) c2) O2.out); have E3 := Lib.hid (below_put (below_alloc E2 (by omega)) hBg 25 (.slice A2 (out.length + 1) c2)); obtain ⟨l24, l25, g24, g25⟩ := pen_cells H3.out hn; clear M2 E2))
        go_end0
        exact ⟨rfl, pen_put' H3.out O3.out hlen hn rfl, below_put E3.out hBg 24 _⟩
      · have i13 : (c == 13) = false := by simpa using h13
        by_cases h32 : c < 32
        · have hm : movedL u col c = col := by unfold movedL; rw [if_neg h9, if_neg h8, if_neg h13, if_pos (.inl h32)]
          rw [hm]
          clear hm c9 h9 h8 h13
          go_enter Tryz.func56, Tryz.ntmps56
          go_wp2_with (at_builtin; go_loud (refine wpList_app (e := Ub) (base := B) (B := fun _ => False) (A := fun _ => False) rfl (.tmp 8) (.tmp 10) rfl Tryz.underlying27 info_u8 rfl (HO.out.alloc _) rfl (RI.y (RI.lit .u8 [c] _ rfl (by simp))) rfl (fun _ _ h => h.elim) (N := out.length + 1) rfl (by simp [maxLen]; omega) (by omega) (by simp; omega) ?_; intro A2 c2 w2 o2 M2 E2; have H2 := Lib.hid (Blk.mod (HB.out.alloc _) M2 (own_blk_ne' HO.out (HB.out) (by decide))); obtain ⟨k24, k25, f24, f25⟩ := pen_cells H2.out hn; have O2 := Lib.hid o2; have H3 := Lib.hid (Blk.cast (H2.out.set_ 25 (.slice A2 (out.length + 1) c2)) (penA_set25 hn _)); have O3 := Lib.hid (own_set H2.out (by decide) 25 (.slice A2 (out.length + 1) c2) O2.out); have E3 := Lib.hid (below_put (below_alloc E2 (by omega)) hBg 25 (.slice A2 (out.length + 1) c2)); obtain ⟨l24, l25, g24, g25⟩ := pen_cells H3.out hn; clear M2 E2))
          go_end0
          exact ⟨rfl, ⟨_, _, _, hlen, H3.out, O3.out⟩, E3.out⟩
        · by_cases h127 : c = 127
          · subst h127
            have hm : movedL u col 127 = col := by simp [movedL]
            rw [hm]
            clear hm c9 h9 h8 h13 i9 i8 i13
            go_enter Tryz.func56, Tryz.ntmps56
            go_wp2_with (at_builtin; go_loud (refine wpList_app (e := Ub) (base := B) (B := fun _ => False) (A := fun _ => False) rfl (.tmp 8) (.tmp 10) rfl Tryz.underlying27 info_u8 rfl (HO.out.alloc _) rfl (RI.y (RI.lit .u8 [127] _ rfl (by simp))) rfl (fun _ _ h => h.elim) (N := out.length + 1) rfl (by simp [maxLen]; omega) (by omega) (by simp; omega) ?_; intro A2 c2 w2 o2 M2 E2; have H2 := Lib.hid (Blk.mod (HB.out.alloc _) M2 (own_blk_ne' HO.out (HB.out) (by decide))); obtain ⟨k24, k25, f24, f25⟩ := pen_cells H2.out hn; have O2 := Lib.hid o2; have H3 := Lib.hid (Blk.cast (H2.out.set_ 25 (.slice A2 (out.length + 1) c2)) (penA_set25 hn _)); have O3 := Lib.hid (own_set H2.out (by decide) 25 (.slice A2 (out.length + 1) c2) O2.out); have E3 := Lib.hid (below_put (below_alloc E2 (by omega)) hBg 25 (.slice A2 (out.length + 1) c2)); obtain ⟨l24, l25, g24, g25⟩ := pen_cells H3.out hn; clear M2 E2))
            go_end0
            exact ⟨rfl, ⟨_, _, _, hlen, H3.out, O3.out⟩, E3.out⟩
          · have i127 : (c == 127) = false := by simpa using h127
            have h192 : (bits .and .u8 c 192 == 128) = decide (128 ≤ c ∧ c ≤ 191) := by
              obtain ⟨n, rfl⟩ := Int.eq_ofNat_of_zero_le hc.1
              exact and192 n (by omega)
            have hwr : IntKind.i64.wrap (col + 1) = col + 1 := IntWalk.i64_in _ (by omega)
            by_cases hin : 128 ≤ c ∧ c ≤ 191
            · rw [decide_eq_true hin] at h192
              have hm : movedL u col c = if u = true then col else colL (col + 1) := by
                unfold movedL; rw [if_neg h9, if_neg h8, if_neg h13, if_neg (by omega)]; simp [hin]
              rw [hm]
              clear hm c9 h9 h8 h13 h127
              cases u
              ·
                go_enter Tryz.func56, Tryz.ntmps56
                go_wp2_with (at_builtin; go_loud (refine wpList_app (e := Ub) (base := B) (B := fun _ => False) (A := fun _ => False) rfl (.tmp 8) (.tmp 10) rfl Tryz.underlying27 info_u8 rfl (HO.out.alloc _) rfl (RI.y (RI.lit .u8 [c] _ rfl (by simp))) rfl (fun _ _ h => h.elim) (N := out.length + 1) rfl (by simp [maxLen]; omega) (by omega) (by simp; omega) ?_; intro A2 c2 w2 o2 M2 E2; have H2 := Lib.hid (Blk.mod (HB.out.alloc _) M2 (own_blk_ne' HO.out (HB.out) (by decide))); obtain ⟨k24, k25, f24, f25⟩ := pen_cells H2.out hn; have O2 := Lib.hid o2; have H3 := Lib.hid (Blk.cast (H2.out.set_ 25 (.slice A2 (out.length + 1) c2)) (penA_set25 hn _)); have O3 := Lib.hid (own_set H2.out (by decide) 25 (.slice A2 (out.length + 1) c2) O2.out); have E3 := Lib.hid (below_put (below_alloc E2 (by omega)) hBg 25 (.slice A2 (out.length + 1) c2)); obtain ⟨l24, l25, g24, g25⟩ := pen_cells H3.out hn; clear M2 E2))
                refine (HH.out _ _ _ H3.out).mono ?_
                rintro e w3 ⟨rfl, E4⟩
                have H4 := Lib.hid (H3.out.ext E4)
                have O4 := Lib.hid (O3.out.ext E4)
                obtain ⟨m24, m25, n24, n25⟩ := pen_cells H4.out hn
                have E5 := Lib.hid (Below.ext_ E3.out E4 (by have := H3.out.lt; omega))
                clear l24 l25 g24 g25
                go_wp2_with ((go_at_call 30; (with_reducible refine (within_any _ _).mono ?_); rintro e w5 ⟨rfl, rfl⟩))
                go_end0
                exact ⟨rfl, pen_put' H4.out O4.out hlen hn (by simp), below_put E5.out hBg 24 _⟩
              ·
                go_enter Tryz.func56, Tryz.ntmps56
                go_wp2_with (at_builtin; go_loud (refine wpList_app (e := Ub) (base := B) (B := fun _ => False) (A := fun _ => False) rfl (.tmp 8) (.tmp 10) rfl Tryz.underlying27 info_u8 rfl (HO.out.alloc _) rfl (RI.y (RI.lit .u8 [c] _ rfl (by simp))) rfl (fun _ _ h => h.elim) (N := out.length + 1) rfl (by simp [maxLen]; omega) (by omega) (by simp; omega) ?_; intro A2 c2 w2 o2 M2 E2; have H2 := Lib.hid (Blk.mod (HB.out.alloc _) M2 (own_blk_ne' HO.out (HB.out) (by decide))); obtain ⟨k24, k25, f24, f25⟩ := pen_cells H2.out hn; have O2 := Lib.hid o2; have H3 := Lib.hid (Blk.cast (H2.out.set_ 25 (.slice A2 (out.length + 1) c2)) (penA_set25 hn _)); have O3 := Lib.hid (own_set H2.out (by decide) 25 (.slice A2 (out.length + 1) c2) O2.out); have E3 := Lib.hid (below_put (below_alloc E2 (by omega)) hBg 25 (.slice A2 (out.length + 1) c2)); obtain ⟨l24, l25, g24, g25⟩ := pen_cells H3.out hn; clear M2 E2))
                refine (HH.out _ _ _ H3.out).mono ?_
                rintro e w3 ⟨rfl, E4⟩
                have H4 := Lib.hid (H3.out.ext E4)
                have O4 := Lib.hid (O3.out.ext E4)
                have E5 := Lib.hid (Below.ext_ E3.out E4 (by have := H3.out.lt; omega))
                go_wp2
                go_end0
                exact ⟨rfl, ⟨_, _, _, hlen, by simpa using H4.out, O4.out⟩, E5.out⟩
            · rw [decide_eq_false hin] at h192
              have hm : movedL u col c = colL (col + 1) := by
                unfold movedL; rw [if_neg h9, if_neg h8, if_neg h13, if_neg (by omega), if_neg (fun h => hin h.2)]
              rw [hm]
              clear hm c9 h9 h8 h13 h127 hin
              go_enter Tryz.func56, Tryz.ntmps56
              go_wp2_with (at_builtin; go_loud (refine wpList_app (e := Ub) (base := B) (B := fun _ => False) (A := fun _ => False) rfl (.tmp 8) (.tmp 10) rfl Tryz.underlying27 info_u8 rfl (HO.out.alloc _) rfl (RI.y (RI.lit .u8 [c] _ rfl (by simp))) rfl (fun _ _ h => h.elim) (N := out.length + 1) rfl (by simp [maxLen]; omega) (by omega) (by simp; omega) ?_; intro A2 c2 w2 o2 M2 E2; have H2 := Lib.hid (Blk.mod (HB.out.alloc _) M2 (own_blk_ne' HO.out (HB.out) (by decide))); obtain ⟨k24, k25, f24, f25⟩ := pen_cells H2.out hn; have O2 := Lib.hid o2; have H3 := Lib.hid (Blk.cast (H2.out.set_ 25 (.slice A2 (out.length + 1) c2)) (penA_set25 hn _)); have O3 := Lib.hid (own_set H2.out (by decide) 25 (.slice A2 (out.length + 1) c2) O2.out); have E3 := Lib.hid (below_put (below_alloc E2 (by omega)) hBg 25 (.slice A2 (out.length + 1) c2)); obtain ⟨l24, l25, g24, g25⟩ := pen_cells H3.out hn; clear M2 E2))
              go_wp2_with ((go_at_call 30; (with_reducible refine (within_any _ _).mono ?_); rintro e w5 ⟨rfl, rfl⟩))
              go_end0
              exact ⟨rfl, pen_put' H3.out O3.out hlen hn rfl, below_put E3.out hBg 24 _⟩
end Go.Proofs.YtfnicinnjkbedaaGreatDoor
