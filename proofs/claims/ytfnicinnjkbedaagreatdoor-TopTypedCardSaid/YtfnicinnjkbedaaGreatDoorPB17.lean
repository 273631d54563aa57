/- Written by chain.py of B12. No condition. -/
import Derived.Test.YtfnicinnjkbedaaGreatDoorPA17
namespace Go.Proofs.YtfnicinnjkbedaaGreatDoor
open Go.RowKit Go.Kb
set_option maxRecDepth 100000

theorem Bs.one {c : Int} (h : 0 ≤ c ∧ c ≤ 255) : Bs [c] := fun x hx => by
  rw [List.mem_singleton.1 hx]; exact h
/-- what a pen has written -/
def PPost (cs : Array Value) (g B : Nat) (w : World) (col : Int) (out : List Int) (e : Ending) (w' : World) : Prop := e = .returned (.tuple #[]) ∧ Pen cs g B w' col out ∧ Below B w w'
theorem Pen.blk {cs : Array Value} {g B : Nat} {w : World} {col : Int} {out : List Int} (h : Pen cs g B w col out) : ∃ v, Blk w g 86 (penA cs col v) := by
  obtain ⟨A, n, c, _, h1, _⟩ := h
  exact ⟨_, h1⟩
theorem Pen.lt {cs : Array Value} {g B : Nat} {w : World} {col : Int} {out : List Int} (h : Pen cs g B w col out) : g < w.heap.size := by
  obtain ⟨v, h⟩ := h.blk
  exact h.lt
theorem Pen.zero {cs : Array Value} {g B : Nat} {w : World} {col : Int} {out : List Int} (h : Pen cs g B w col out) (hn : cs.size = 24) : Pen cs g B (w.setCell ⟨g, 24, none⟩ (.int .i64 0)) 0 out := by
  obtain ⟨A, n, c, hl, h1, h2⟩ := h
  exact pen_put h1 h2 hl hn 0
/-- a byte 10 goes out -/
def feedL (p : Pf) (col : Int) : List Int × Int := if p.lret = true then ([10], 0) else ([10], col)
def backL (p : Pf) (col : Int) : List Int × Int := if p.nocr = true ∧ col = 0 then ([], 0) else if p.crnl = false then ([13], 0) else if p.lret = true then ([10], 0) else ([10], col)
theorem moved10 (u : Bool) (col : Int) : movedL u col 10 = col := by simp [movedL]
theorem moved13 (u : Bool) (col : Int) : movedL u col 13 = 0 := by simp [movedL]
section
variable {g B : Nat} {col : Int} {out : List Int}
theorem feedp_any (t : Tm) (w : World) (ht : t.Ok) (h : Pen t.arr g B w col out) (hBg : B ≤ g) (hcol : 0 ≤ col ∧ col ≤ 65535) (hl : out.length ≤ 100000000) :
    Calls Tryz.prog 58 #[.pointer (some ⟨g, 0, none⟩)] w (PPost t.arr g B w (feedL (pfL t) col).2 (out ++ (feedL (pfL t) col).1)) := by
  have hn := t.size ht
  have hP := put_any t 10 w ht h hBg hcol (by decide) hl
  have hh := fun w' col o h => phas_any (g := g) (col := col) (o := o) t 75 w' ht h
  rw [moved10] at hP
  have hf : feedL (pfL t) col = if hasL t 75 = true then ([10], 0) else ([10], col) := rfl
  obtain ⟨z, hz0⟩ : ∃ z, feedL (pfL t) col = z := ⟨_, rfl⟩; rw [hz0]; have HZ := Lib.hid (hz0.symm.trans hf); clear hz0 hf
  generalize hasL t 75 = u at *
  generalize t.arr = cs at *
  have HH := Lib.hid hh
  clear h ht hh
  go_enter Tryz.func58, Tryz.ntmps58
  go_wp2_with fail
  refine hP.mono ?_
  rintro e w1 ⟨rfl, P1, B1⟩
  have P1 := Lib.hid P1
  have hz := P1.out.lt
  obtain ⟨v, hb⟩ := P1.out.blk
  have hb := Lib.hid hb
  go_wp2_with fail
  refine (HH.out _ _ _ hb.out).mono ?_
  rintro e w2 ⟨rfl, E2⟩
  have B2 : Below B w w2 := Below.ext_ B1 E2 (by omega)
  have P2 := Lib.hid (P1.out.ext E2)
  cases u
  · go_wp2
    go_end0
    exact ⟨rfl, by rw [HZ.out]; exact P2.out, B2⟩
  · obtain ⟨k24, k25, f24, f25⟩ := pen_cells (hb.out.ext E2) hn
    go_wp2
    go_end0
    exact ⟨rfl, by rw [HZ.out]; exact P2.out.zero hn, below_put B2 hBg 24 _⟩
set_option maxHeartbeats 400000 in
theorem back_any (t : Tm) (w : World) (ht : t.Ok) (h : Pen t.arr g B w col out) (hBg : B ≤ g) (hcol : 0 ≤ col ∧ col ≤ 65535) (hl : out.length ≤ 100000000) :
    Calls Tryz.prog 57 #[.pointer (some ⟨g, 0, none⟩)] w (PPost t.arr g B w (backL (pfL t) col).2 (out ++ (backL (pfL t) col).1)) := by
  have hn := t.size ht
  have hF := fun w h => feedp_any (g := g) (B := B) (col := col) (out := out) t w ht h hBg hcol hl
  have hP := fun w h => put_any (g := g) (B := B) (col := col) (out := out) t 13 w ht h hBg hcol (by decide) hl
  have h74 := fun w' col o h => phas_any (g := g) (col := col) (o := o) t 74 w' ht h
  have h73 := fun w' col o h => phas_any (g := g) (col := col) (o := o) t 73 w' ht h
  have hf : backL (pfL t) col = if hasL t 74 = true ∧ col = 0 then ([], 0) else if hasL t 73 = false then ([13], 0) else feedL (pfL t) col := rfl
  obtain ⟨z, hz0⟩ : ∃ z, backL (pfL t) col = z := ⟨_, rfl⟩; rw [hz0]; have HZ := Lib.hid (hz0.symm.trans hf); clear hz0 hf
  generalize feedL (pfL t) col = fl at *
  generalize hasL t 74 = u at *
  generalize hasL t 73 = u3 at *
  generalize t.arr = cs at *
  have HP := Lib.hid h
  have HF := Lib.hid hF
  have HPu := Lib.hid hP
  have H74 := Lib.hid h74
  have H73 := Lib.hid h73
  have hz := h.lt
  obtain ⟨v, hb⟩ := h.blk
  obtain ⟨k24, k25, f24, f25⟩ := pen_cells hb hn
  have HB := Lib.hid hb
  clear h ht hF hP h74 h73 hb
  by_cases h0 : col = 0
  · subst h0
    cases u
    · replace HZ := Lib.hid (HZ.out.trans (if_neg (fun h => by cases h.1)))
      go_enter Tryz.func57, Tryz.ntmps57
      go_wp2_with fail
      refine (H74.out _ _ _ HB.out).mono ?_
      rintro e w1 ⟨rfl, E1⟩
      go_wp2_with fail
      refine (H73.out _ _ _ (HB.out.ext E1)).mono ?_
      rintro e w2 ⟨rfl, E2⟩
      have E02 : Ext w w2 := E1.trans E2
      cases u3
      · replace HZ := Lib.hid (HZ.out.trans (if_pos rfl))
        go_wp2_with fail
        refine (HPu.out _ (HP.out.ext E02)).mono ?_
        rintro e w3 ⟨rfl, P3, B3⟩
        rw [moved13] at P3
        go_wp2
        go_end0
        exact ⟨rfl, by rw [HZ.out]; exact P3, (E02.mono (by omega)).trans B3⟩
      · replace HZ := Lib.hid (HZ.out.trans (if_neg (by decide)))
        go_wp2_with fail
        refine (HF.out _ (HP.out.ext E02)).mono ?_
        rintro e w3 ⟨rfl, P3, B3⟩
        go_wp2
        go_end0
        exact ⟨rfl, by rw [HZ.out]; exact P3, (E02.mono (by omega)).trans B3⟩
    · go_enter Tryz.func57, Tryz.ntmps57
      go_wp2_with fail
      refine (H74.out _ _ _ HB.out).mono ?_
      rintro e w1 ⟨rfl, E1⟩
      go_wp2
      go_end0
      replace HZ := Lib.hid (HZ.out.trans (if_pos (by simp)))
      exact ⟨rfl, by rw [HZ.out]; simpa using HP.out.ext E1, E1.mono (by omega)⟩
  · have hc0 : (col == 0) = false := by simpa using h0
    go_enter Tryz.func57, Tryz.ntmps57
    go_wp2_with fail
    refine (H73.out _ _ _ HB.out).mono ?_
    rintro e w2 ⟨rfl, E2⟩
    have E02 : Ext w w2 := E2
    have H0 := Lib.hid h0
    clear h0
    replace HZ := Lib.hid (HZ.out.trans (if_neg (fun h => H0.out h.2)))
    cases u3
    · replace HZ := Lib.hid (HZ.out.trans (if_pos rfl))
      go_wp2_with fail
      refine (HPu.out _ (HP.out.ext E02)).mono ?_
      rintro e w3 ⟨rfl, P3, B3⟩
      rw [moved13] at P3
      go_wp2
      go_end0
      exact ⟨rfl, by rw [HZ.out]; exact P3, (E02.mono (by omega)).trans B3⟩
    · replace HZ := Lib.hid (HZ.out.trans (if_neg (by decide)))
      go_wp2_with fail
      refine (HF.out _ (HP.out.ext E02)).mono ?_
      rintro e w3 ⟨rfl, P3, B3⟩
      go_wp2
      go_end0
      exact ⟨rfl, by rw [HZ.out]; exact P3, (E02.mono (by omega)).trans B3⟩
theorem andNot32 : ∀ n : Nat, n < 256 → 97 ≤ n ∧ n ≤ 122 → bits .andNot .u8 (n : Int) 32 = (n : Int) - 32 := by decide +kernel
set_option maxHeartbeats 800000 in
theorem write_any (t : Tm) (c : Int) (w : World) (ht : t.Ok) (h : Pen t.arr g B w col out) (hBg : B ≤ g) (hcol : 0 ≤ col ∧ col ≤ 65535) (hc : 0 ≤ c ∧ c ≤ 255) (hl : out.length ≤ 99999999) :
    Calls Tryz.prog 31 #[.pointer (some ⟨g, 0, none⟩), .int .u8 c] w (PPost t.arr g B w (byteL (pfL t) col c).2 (out ++ (byteL (pfL t) col c).1)) := by
  have hn := t.size ht
  have hF := fun w h => feedp_any (g := g) (B := B) (col := col) (out := out) t w ht h hBg hcol (by omega)
  have hK := fun w h => back_any (g := g) (B := B) (col := col) (out := out) t w ht h hBg hcol (by omega)
  have hP := fun c hc w h => put_any (g := g) (B := B) (col := col) (out := out) t c w ht h hBg hcol hc (by omega)
  have hP2 := fun w h => put_any (g := g) (B := B) (col := 0) (out := out ++ [13]) t 10 w ht h hBg (by decide) (by decide) (by simp; omega)
  rw [moved10] at hP2
  have h70 := fun w' col o h => phas_any (g := g) (col := col) (o := o) t 70 w' ht h
  have h71 := fun w' col o h => phas_any (g := g) (col := col) (o := o) t 71 w' ht h
  have h72 := fun w' col o h => phas_any (g := g) (col := col) (o := o) t 72 w' ht h
  have hbf : byteL (pfL t) col c = if hasL t 70 = false then ([c], movedL (hasL t 42) col c) else if c = 13 then backL (pfL t) col
    else if c = 10 then (if hasL t 72 = true then ([13, 10], 0) else feedL (pfL t) col)
    else if 97 ≤ c ∧ c ≤ 122 ∧ hasL t 71 = true then ([c - 32], movedL (hasL t 42) col (c - 32)) else ([c], movedL (hasL t 42) col c) := rfl
  obtain ⟨z, hz0⟩ : ∃ z, byteL (pfL t) col c = z := ⟨_, rfl⟩; rw [hz0]; have HZ := Lib.hid (hz0.symm.trans hbf); clear hz0 hbf
  generalize feedL (pfL t) col = fl at *
  generalize backL (pfL t) col = bl at *
  generalize hasL t 70 = u0 at *
  generalize hasL t 71 = u1 at *
  generalize hasL t 72 = u2 at *
  generalize hasL t 42 = u at *
  generalize t.arr = cs at *
  have HP := Lib.hid h
  have HF := Lib.hid hF
  have HK := Lib.hid hK
  have HPu := Lib.hid hP
  have HP2 := Lib.hid hP2
  have H70 := Lib.hid h70
  have H71 := Lib.hid h71
  have H72 := Lib.hid h72
  have HC := Lib.hid hc
  have hz := h.lt
  obtain ⟨v, hb⟩ := h.blk
  have HB := Lib.hid hb
  clear h ht hF hP hK hP2 h70 h71 h72 hb
  cases u0
  · replace HZ := Lib.hid (HZ.out.trans (if_pos rfl))
    go_enter Tryz.func31, Tryz.ntmps31
    go_wp2_with fail
    refine (H70.out _ _ _ HB.out).mono ?_
    rintro e w1 ⟨rfl, E1⟩
    go_wp2_with fail
    refine (HPu.out _ HC.out _ (HP.out.ext E1)).mono ?_
    rintro e w2 ⟨rfl, P2, B2⟩
    go_wp2
    go_end0
    exact ⟨rfl, by rw [HZ.out]; exact P2, (E1.mono (by omega)).trans B2⟩
  · replace HZ := Lib.hid (HZ.out.trans (if_neg (by decide)))
    by_cases h13 : c = 13
    · subst h13
      replace HZ := Lib.hid (HZ.out.trans (if_pos rfl))
      go_enter Tryz.func31, Tryz.ntmps31
      go_wp2_with fail
      refine (H70.out _ _ _ HB.out).mono ?_
      rintro e w1 ⟨rfl, E1⟩
      go_wp2_with fail
      refine (HK.out _ (HP.out.ext E1)).mono ?_
      rintro e w2 ⟨rfl, P2, B2⟩
      go_wp2
      go_end0
      exact ⟨rfl, by rw [HZ.out]; exact P2, (E1.mono (by omega)).trans B2⟩
    · have i13 : (c == 13) = false := by simpa using h13
      replace HZ := Lib.hid (HZ.out.trans (if_neg h13))
      by_cases h10 : c = 10
      · subst h10
        replace HZ := Lib.hid (HZ.out.trans (if_pos rfl))
        clear i13 h13
        go_enter Tryz.func31, Tryz.ntmps31
        go_wp2_with fail
        refine (H70.out _ _ _ HB.out).mono ?_
        rintro e w1 ⟨rfl, E1⟩
        go_wp2_with fail
        refine (H72.out _ _ _ (HB.out.ext E1)).mono ?_
        rintro e w2 ⟨rfl, E2⟩
        have E02 : Ext w w2 := E1.trans E2
        cases u2
        · replace HZ := Lib.hid (HZ.out.trans (if_neg (by decide)))
          go_wp2_with fail
          refine (HF.out _ (HP.out.ext E02)).mono ?_
          rintro e w3 ⟨rfl, P3, B3⟩
          go_wp2
          go_end0
          exact ⟨rfl, by rw [HZ.out]; exact P3, (E02.mono (by omega)).trans B3⟩
        · go_wp2_with fail
          refine (HPu.out 13 (by decide) _ (HP.out.ext E02)).mono ?_
          rintro e w3 ⟨rfl, P3, B3⟩
          rw [moved13] at P3
          have P3 := Lib.hid P3
          go_wp2_with fail
          refine (HP2.out _ P3.out).mono ?_
          rintro e w4 ⟨rfl, P4, B4⟩
          go_wp2
          go_end0
          exact ⟨rfl, by rw [HZ.out]; simpa using P4, (E02.mono (by omega)).trans (B3.trans B4)⟩
      · have i10 : (c == 10) = false := by simpa using h10
        replace HZ := Lib.hid (HZ.out.trans (if_neg h10))
        by_cases hlet : 97 ≤ c ∧ c ≤ 122
        · have h32 : bits .andNot .u8 c 32 = c - 32 := by
            obtain ⟨n, rfl⟩ := Int.eq_ofNat_of_zero_le hc.1
            exact andNot32 n (by omega) (by omega)
          obtain ⟨l1, l2⟩ := hlet
          clear h13 h10
          go_enter Tryz.func31, Tryz.ntmps31
          go_wp2_with fail
          refine (H70.out _ _ _ HB.out).mono ?_
          rintro e w1 ⟨rfl, E1⟩
          go_wp2_with fail
          refine (H71.out _ _ _ (HB.out.ext E1)).mono ?_
          rintro e w2 ⟨rfl, E2⟩
          have E02 : Ext w w2 := E1.trans E2
          cases u1
          · replace HZ := Lib.hid (HZ.out.trans (if_neg (fun h => by cases h.2.2)))
            go_wp2_with fail
            refine (HPu.out _ HC.out _ (HP.out.ext E02)).mono ?_
            rintro e w3 ⟨rfl, P3, B3⟩
            go_wp2
            go_end0
            exact ⟨rfl, by rw [HZ.out]; exact P3, (E02.mono (by omega)).trans B3⟩
          · replace HZ := Lib.hid (HZ.out.trans (if_pos ⟨l1, l2, rfl⟩))
            go_wp2_with fail
            refine (HPu.out (c - 32) (by omega) _ (HP.out.ext E02)).mono ?_
            rintro e w3 ⟨rfl, P3, B3⟩
            go_wp2
            go_end0
            exact ⟨rfl, by rw [HZ.out]; exact P3, (E02.mono (by omega)).trans B3⟩
        · replace HZ := Lib.hid (HZ.out.trans (if_neg (fun h => hlet ⟨h.1, h.2.1⟩)))
          clear h13 h10
          by_cases h97 : 97 ≤ c
          · have h122 : ¬ c ≤ 122 := by omega
            clear hlet
            go_enter Tryz.func31, Tryz.ntmps31
            go_wp2_with fail
            refine (H70.out _ _ _ HB.out).mono ?_
            rintro e w1 ⟨rfl, E1⟩
            go_wp2_with fail
            refine (HPu.out _ HC.out _ (HP.out.ext E1)).mono ?_
            rintro e w2 ⟨rfl, P2, B2⟩
            go_wp2
            go_end0
            exact ⟨rfl, by rw [HZ.out]; exact P2, (E1.mono (by omega)).trans B2⟩
          · clear hlet
            go_enter Tryz.func31, Tryz.ntmps31
            go_wp2_with fail
            refine (H70.out _ _ _ HB.out).mono ?_
            rintro e w1 ⟨rfl, E1⟩
            go_wp2_with fail
            refine (HPu.out _ HC.out _ (HP.out.ext E1)).mono ?_
            rintro e w2 ⟨rfl, P2, B2⟩
            go_wp2
            go_end0
            exact ⟨rfl, by rw [HZ.out]; exact P2, (E1.mono (by omega)).trans B2⟩
end
end Go.Proofs.YtfnicinnjkbedaaGreatDoor
