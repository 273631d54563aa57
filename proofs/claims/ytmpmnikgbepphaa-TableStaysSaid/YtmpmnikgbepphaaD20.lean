/- Two tests in one, the first process that a test holds of, by contract. No condition. -/
import Derived.Test.YtmpmnikgbepphaaC20
namespace Go.Proofs.Ytmpmnikgbepphaa
open Go.RowKit Go.Kb

theorem enters_all (args : Array Value) (w : World) : (callFunc 61 args).run Try.prog w = .ok (.enter 61 args) w := by kernel_rfl
/-- two tests in memory -/
structure Two2 (w : World) (n : Nat) (k1 : Nat) (b1 f1 : Array Value) (k2 : Nat) (b2 f2 : Array Value) : Prop where
  at_ : ∃ b, Blk w n 103 #[.slice (some ⟨b, 0, none⟩) 2 2] ∧ Blk w b 83 #[.func (.func k1) b1 f1, .func (.func k2) b2 f2]
set_option maxRecDepth 100000 in
set_option maxHeartbeats 800000 in
theorem all1_any {k1 k2 : Nat} {b1 f1 b2 f2 : Array Value} {t1 t2 : Pr → Bool} (n : Nat) (p : Pr) (w : World) (hp : p.ok) (h : Two2 w n k1 b1 f1 k2 b2 f2) (h1 : Asks k1 b1 f1 t1 w) (h2 : Asks k2 b2 f2 t2 w) :
    Calls Try.prog 61 #[.agg p.cells.toArray, .pointer (some ⟨n, 0, none⟩)] w fun e w' => e = .returned (.bool (t1 p && t2 p)) ∧ Ext w w' := by
  obtain ⟨b, hn, hb⟩ := h
  have e1 := h1.1
  have e2 := h2.1
  have H1 := Lib.hid fun w' hE => h1.2 p w' hp hE
  have H2 := Lib.hid fun w' hE => h2.2 p w' hp hE
  have hi : (Try.prog.info? 43).map (·.size) = some p.cells.toArray.size := by rw [List.size_toArray]; exact i43' hp
  have hT := Lib.hid (Blk.new w 43 p.cells.toArray)
  have n0 := fun o => (hn.alloc o).cell0
  have HB := Lib.hid hb
  generalize p.cells.toArray = cs at H1 H2 hi hT ⊢
  generalize t1 p = r1 at H1 ⊢
  generalize t2 p = r2 at H2 ⊢
  clear h1 h2 hn hb hp
  go_enter Try.func61, Try.ntmps61
  go_wp2
  go_loopw [8] (fun i wr => ∃ m : Nat, m ≤ 2 ∧ i = .int .i64 m ∧ Hid (m = 0 ∨ r1 = true) ∧ Hid (m ≤ 1 ∨ r2 = true) ∧ Hid (Blk wr w.heap.size 43 cs) ∧ Ext w wr) (fun i _ => 2 - (intOf i).toNat)
  case atStart => exact ⟨0, by omega, rfl, Lib.hid (.inl rfl), Lib.hid (.inl (by omega)), hT, (by repeat (first | with_reducible exact Ext.refl _ | refine Ext.drewN ?_ _ | refine Ext.drew ?_ | refine Ext.alloc ?_ _ | assumption | (refine Below.trans ?_ (by assumption)) | (refine Ext.trans ?_ (by assumption)) | (refine Below.trans ?_ (Below.mono (by assumption) (by omega)))))⟩
  case round =>
    obtain ⟨m, hm, rfl, hr1, hr2, hT, hE⟩ := hrel
    have hb0 := (HB.out.ext hE).cell 0
    have hb1 := (HB.out.ext hE).cell 1
    by_cases hlt : m < 2
    · obtain rfl | rfl : m = 0 ∨ m = 1 := by omega
      · have hb0 : wr.cell? ⟨b, 0, none⟩ = some (.func (.func k1) b1 f1) := hb0
        cases r1
        · go_wp2_with (first | (refine wpList_load_row rfl 43 _ rfl _ rfl 43 _ _ _ hT.out Try.underlying43 rfl hi ?_) | (refine (H1.out _ (by repeat (first | with_reducible exact Ext.refl _ | refine Ext.drewN ?_ _ | refine Ext.drew ?_ | refine Ext.alloc ?_ _ | assumption | (refine Below.trans ?_ (by assumption)) | (refine Ext.trans ?_ (by assumption)) | (refine Below.trans ?_ (Below.mono (by assumption) (by omega)))))).mono ?_; rintro e w2 ⟨rfl, E2⟩))
          go_ret
          exact ⟨rfl, (by repeat (first | with_reducible exact Ext.refl _ | refine Ext.drewN ?_ _ | refine Ext.drew ?_ | refine Ext.alloc ?_ _ | assumption | (refine Below.trans ?_ (by assumption)) | (refine Ext.trans ?_ (by assumption)) | (refine Below.trans ?_ (Below.mono (by assumption) (by omega)))))⟩
        · go_wp2_with (first | (refine wpList_load_row rfl 43 _ rfl _ rfl 43 _ _ _ hT.out Try.underlying43 rfl hi ?_) | (refine (H1.out _ (by repeat (first | with_reducible exact Ext.refl _ | refine Ext.drewN ?_ _ | refine Ext.drew ?_ | refine Ext.alloc ?_ _ | assumption | (refine Below.trans ?_ (by assumption)) | (refine Ext.trans ?_ (by assumption)) | (refine Below.trans ?_ (Below.mono (by assumption) (by omega)))))).mono ?_; rintro e w2 ⟨rfl, E2⟩))
          go_roundw
          case rel => exact ⟨1, by omega, by go_num, Lib.hid (.inr (by simp)), Lib.hid (.inl (by omega)), Lib.hid (hT.out.ext (by repeat (first | with_reducible exact Ext.refl _ | refine Ext.drewN ?_ _ | refine Ext.drew ?_ | refine Ext.alloc ?_ _ | assumption | (refine Below.trans ?_ (by assumption)) | (refine Ext.trans ?_ (by assumption)) | (refine Below.trans ?_ (Below.mono (by assumption) (by omega)))))), (by repeat (first | with_reducible exact Ext.refl _ | refine Ext.drewN ?_ _ | refine Ext.drew ?_ | refine Ext.alloc ?_ _ | assumption | (refine Below.trans ?_ (by assumption)) | (refine Ext.trans ?_ (by assumption)) | (refine Below.trans ?_ (Below.mono (by assumption) (by omega)))))⟩
          case measure => simp [intOf]
      · have hb1 : wr.cell? ⟨b, 1, none⟩ = some (.func (.func k2) b2 f2) := hb1
        obtain rfl : r1 = true := hr1.out.resolve_left (by omega)
        cases r2
        · go_wp2_with (first | (refine wpList_load_row rfl 43 _ rfl _ rfl 43 _ _ _ hT.out Try.underlying43 rfl hi ?_) | (refine (H2.out _ (by repeat (first | with_reducible exact Ext.refl _ | refine Ext.drewN ?_ _ | refine Ext.drew ?_ | refine Ext.alloc ?_ _ | assumption | (refine Below.trans ?_ (by assumption)) | (refine Ext.trans ?_ (by assumption)) | (refine Below.trans ?_ (Below.mono (by assumption) (by omega)))))).mono ?_; rintro e w2 ⟨rfl, E2⟩))
          go_ret
          exact ⟨rfl, (by repeat (first | with_reducible exact Ext.refl _ | refine Ext.drewN ?_ _ | refine Ext.drew ?_ | refine Ext.alloc ?_ _ | assumption | (refine Below.trans ?_ (by assumption)) | (refine Ext.trans ?_ (by assumption)) | (refine Below.trans ?_ (Below.mono (by assumption) (by omega)))))⟩
        · go_wp2_with (first | (refine wpList_load_row rfl 43 _ rfl _ rfl 43 _ _ _ hT.out Try.underlying43 rfl hi ?_) | (refine (H2.out _ (by repeat (first | with_reducible exact Ext.refl _ | refine Ext.drewN ?_ _ | refine Ext.drew ?_ | refine Ext.alloc ?_ _ | assumption | (refine Below.trans ?_ (by assumption)) | (refine Ext.trans ?_ (by assumption)) | (refine Below.trans ?_ (Below.mono (by assumption) (by omega)))))).mono ?_; rintro e w2 ⟨rfl, E2⟩))
          go_roundw
          case rel => exact ⟨2, by omega, by go_num, Lib.hid (.inr (by simp)), Lib.hid (.inr (by simp)), Lib.hid (hT.out.ext (by repeat (first | with_reducible exact Ext.refl _ | refine Ext.drewN ?_ _ | refine Ext.drew ?_ | refine Ext.alloc ?_ _ | assumption | (refine Below.trans ?_ (by assumption)) | (refine Ext.trans ?_ (by assumption)) | (refine Below.trans ?_ (Below.mono (by assumption) (by omega)))))), (by repeat (first | with_reducible exact Ext.refl _ | refine Ext.drewN ?_ _ | refine Ext.drew ?_ | refine Ext.alloc ?_ _ | assumption | (refine Below.trans ?_ (by assumption)) | (refine Ext.trans ?_ (by assumption)) | (refine Below.trans ?_ (Below.mono (by assumption) (by omega)))))⟩
          case measure => simp [intOf]
    · obtain rfl : r1 = true := hr1.out.resolve_left (by omega)
      obtain rfl : r2 = true := hr2.out.resolve_left (by omega)
      go_wp2
      go_ret
      exact ⟨rfl, (by repeat (first | with_reducible exact Ext.refl _ | refine Ext.drewN ?_ _ | refine Ext.drew ?_ | refine Ext.alloc ?_ _ | assumption | (refine Below.trans ?_ (by assumption)) | (refine Ext.trans ?_ (by assumption)) | (refine Below.trans ?_ (Below.mono (by assumption) (by omega)))))⟩
theorem asks_all {k1 k2 : Nat} {b1 f1 b2 f2 : Array Value} {t1 t2 : Pr → Bool} {n : Nat} {w : World} (h : Two2 w n k1 b1 f1 k2 b2 f2) (h1 : Asks k1 b1 f1 t1 w) (h2 : Asks k2 b2 f2 t2 w) : Asks 61 #[] #[.pointer (some ⟨n, 0, none⟩)] (fun p => t1 p && t2 p) w :=
  ⟨enters_all, fun p w' hp hE => all1_any n p w' hp (by obtain ⟨b, x, y⟩ := h; exact ⟨b, x.ext hE, y.ext hE⟩) (h1.ext hE) (h2.ext hE)⟩
set_option maxHeartbeats 400000 in
theorem all_any {k1 k2 : Nat} {b1 f1 b2 f2 : Array Value} {t1 t2 : Pr → Bool} (b : Nat) (w : World) (hb : Blk w b 83 #[.func (.func k1) b1 f1, .func (.func k2) b2 f2]) (h1 : Asks k1 b1 f1 t1 w) (h2 : Asks k2 b2 f2 t2 w) :
    Calls Try.prog 38 #[.slice (some ⟨b, 0, none⟩) 2 2] w fun e w' => ∃ n, e = .returned (.func (.func 61) #[] #[.pointer (some ⟨n, 0, none⟩)]) ∧ Asks 61 #[] #[.pointer (some ⟨n, 0, none⟩)] (fun p => t1 p && t2 p) w' ∧ Ext w w' := by
  have HB := Lib.hid hb
  have H1 := Lib.hid h1
  have H2 := Lib.hid h2
  clear hb h1 h2
  go_enter Try.func38, Try.ntmps38
  go_wp2
  go_ret
  have E : Ext w (w.alloc (.cells #[.slice (some ⟨b, 0, none⟩) 2 2] 103)) := (by repeat (first | with_reducible exact Ext.refl _ | refine Ext.drewN ?_ _ | refine Ext.drew ?_ | refine Ext.alloc ?_ _ | assumption | (refine Below.trans ?_ (by assumption)) | (refine Ext.trans ?_ (by assumption)) | (refine Below.trans ?_ (Below.mono (by assumption) (by omega)))))
  exact ⟨_, rfl, asks_all ⟨b, Blk.new _ _ _, HB.out.ext E⟩ (H1.out.ext E) (H2.out.ext E), E⟩
def zeroP : Pr := ⟨0, 0, 0, 0, 0, 0, 0, 0, 0, List.replicate 32 0, 0, false⟩
theorem zeroP_ok : zeroP.ok := rfl
/-- the first process that a test holds of -/
def FindPost (f : Pr → Bool) (l : List Pr) (Ad : Option Addr) (w : World) (e : Ending) (w' : World) : Prop :=
  Ext w w' ∧ ((idxL f l = -1 ∧ ∃ n, e = .returned (.tuple #[.pointer (some ⟨n, 0, none⟩), .bool false]) ∧ w.heap.size ≤ n ∧ Blk w' n 43 zeroP.cells.toArray) ∨
    ∃ (j : Nat) (b off : Nat), idxL f l = j ∧ j < l.length ∧ Ad = some ⟨b, off, none⟩ ∧ e = .returned (.tuple #[.pointer (some ⟨b, off + j * 43, none⟩), .bool true]))
theorem idx_lt {f : Pr → Bool} {l : List Pr} : idxL f l = -1 ∨ ∃ j : Nat, idxL f l = j ∧ j < l.length := by
  unfold idxL
  cases h : l.findIdx? f with
  | none => exact .inl rfl
  | some i => exact .inr ⟨i, rfl, by have := List.findIdx?_eq_some_iff_getElem.1 h; exact this.1⟩
set_option maxRecDepth 100000 in
set_option maxHeartbeats 800000 in
theorem find_any {A : Nat → Prop} {k : Nat} {bs fs : Array Value} {f : Pr → Bool} (Ad : Option Addr) (c : Nat) (l : List Pr) (nx : Int) (w : World) (h : RdY Rp A w (.slice Ad l.length c) l) (hf : Asks k bs fs f w) :
    Calls Try.prog 37 #[.agg #[.slice Ad l.length c, .int .i64 nx], .func (.func k) bs fs] w (FindPost f l Ad w) := by
  have H := Lib.hid (h.mono (B := fun _ => True) fun _ _ _ => trivial)
  have HF := Lib.hid hf
  obtain ⟨_, _, hv, hc1, hc2⟩ := h.shape
  simp only [Value.slice.injEq] at hv
  obtain ⟨-, -, rfl⟩ := hv
  clear h hf
  rcases idx_lt (f := f) (l := l) with hx | ⟨j, hx, hlt⟩
  · have HX := Lib.hid hx
    clear hx
    go_enter Try.func37, Try.ntmps37
    go_wp2_with fail
    refine (index_any k bs fs f _ l _ (H.out.ext (by repeat (first | with_reducible exact Ext.refl _ | refine Ext.drewN ?_ _ | refine Ext.drew ?_ | refine Ext.alloc ?_ _ | assumption | (refine Below.trans ?_ (by assumption)) | (refine Ext.trans ?_ (by assumption)) | (refine Below.trans ?_ (Below.mono (by assumption) (by omega)))))) (HF.out.ext (by repeat (first | with_reducible exact Ext.refl _ | refine Ext.drewN ?_ _ | refine Ext.drew ?_ | refine Ext.alloc ?_ _ | assumption | (refine Below.trans ?_ (by assumption)) | (refine Ext.trans ?_ (by assumption)) | (refine Below.trans ?_ (Below.mono (by assumption) (by omega))))))).mono ?_
    rintro e w1 ⟨rfl, E1⟩
    rw [HX.out]
    go_wp2
    go_ret2
    exact ⟨(by repeat (first | with_reducible exact Ext.refl _ | refine Ext.drewN ?_ _ | refine Ext.drew ?_ | refine Ext.alloc ?_ _ | assumption | (refine Below.trans ?_ (by assumption)) | (refine Ext.trans ?_ (by assumption)) | (refine Below.trans ?_ (Below.mono (by assumption) (by omega))))), .inl ⟨HX.out, _, rfl, by have := E1.size; simp at this; omega, Blk.at_ _ _ rfl⟩⟩
  · have HX := Lib.hid hx
    obtain ⟨b, off, p, rfl, -, -, -⟩ := pr_at H.out hlt
    have j0 : ¬ ((j : Int) < 0) := by omega
    have j1 : (0 : Int) ≤ (j : Int) := by omega
    have j2 : (j : Int) < (l.length : Int) := by omega
    clear hx
    go_enter Try.func37, Try.ntmps37
    go_wp2_with fail
    refine (index_any k bs fs f _ l _ (H.out.ext (by repeat (first | with_reducible exact Ext.refl _ | refine Ext.drewN ?_ _ | refine Ext.drew ?_ | refine Ext.alloc ?_ _ | assumption | (refine Below.trans ?_ (by assumption)) | (refine Ext.trans ?_ (by assumption)) | (refine Below.trans ?_ (Below.mono (by assumption) (by omega)))))) (HF.out.ext (by repeat (first | with_reducible exact Ext.refl _ | refine Ext.drewN ?_ _ | refine Ext.drew ?_ | refine Ext.alloc ?_ _ | assumption | (refine Below.trans ?_ (by assumption)) | (refine Ext.trans ?_ (by assumption)) | (refine Below.trans ?_ (Below.mono (by assumption) (by omega))))))).mono ?_
    rintro e w1 ⟨rfl, E1⟩
    rw [HX.out]
    have B1 := Blk.ext (Blk.new w 29 #[.slice (some ⟨b, off, none⟩) l.length c, .int .i64 nx]) E1
    obtain ⟨q0, q1, _, _⟩ := B1.two
    go_wp2
    go_ret2
    exact ⟨(by repeat (first | with_reducible exact Ext.refl _ | refine Ext.drewN ?_ _ | refine Ext.drew ?_ | refine Ext.alloc ?_ _ | assumption | (refine Below.trans ?_ (by assumption)) | (refine Ext.trans ?_ (by assumption)) | (refine Below.trans ?_ (Below.mono (by assumption) (by omega))))), .inr ⟨j, b, off, HX.out, hlt, rfl, rfl⟩⟩
end Go.Proofs.Ytmpmnikgbepphaa
