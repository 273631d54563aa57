/- Steps in memory, whether they are too many, bytes compared, by contract. Conditions: steps fewer than ten billions. -/
import Derived.Test.YtefcafohhppmbaaE06
namespace Go.Proofs.Ytefcafohhppmbaa
open Go.RowKit Go.Kb

/- the same bytes -/
theorem take_ne {xs ys : List Int} {k : Nat} {x y : Int} (h1 : xs[k]? = some x) (h2 : ys[k]? = some y) (hne : x ≠ y) : xs ≠ ys := by
  rintro rfl
  rw [h1] at h2
  exact hne (Option.some.inj h2)
theorem take_all {xs ys : List Int} {k : Nat} (hk : k ≤ xs.length) (hn : ¬ k < xs.length) (hl : xs.length = ys.length) (ht : xs.take k = ys.take k) : xs = ys := by
  have : k = xs.length := by omega
  subst this
  rw [List.take_of_length_le (Nat.le_refl _), List.take_of_length_le (by omega)] at ht
  exact ht
set_option maxHeartbeats 400000 in
theorem bytes_q (va vb : Value) (xs ys : List Int) (w : World) (ha : RI .u8 w va xs) (hb : RI .u8 w vb ys) :
    Calls Try.prog 13 #[va, vb] w fun e w' => e = .returned (.bool (decide (xs = ys))) ∧ Qt w w' := by
  have ha' := ha
  have hb' := hb
  obtain ⟨_, A, c, rfl, hnc, hcm, _⟩ := ha'
  obtain ⟨_, A2, c2, rfl, hnc2, hcm2, _⟩ := hb'
  have Ha := Lib.hid ha
  have Hb := Lib.hid hb
  clear ha hb
  unfold maxLen at hcm hcm2
  by_cases hl : xs.length = ys.length
  · have HL := Lib.hid hl
    have hl2 : ((xs.length : Int) == (ys.length : Int)) = true := by simp [hl]
    have hl3 : ((xs.length : Int) != (ys.length : Int)) = false := by simp [hl]
    clear hl
    go_enter Try.func13, Try.ntmps13
    go_wp2
    clear hl2 hl3
    go_loopw [13] (fun i wr => ∃ k : Nat, k ≤ xs.length ∧ i = .int .i64 k ∧ xs.take k = ys.take k ∧ Qt w wr) (fun i _ => xs.length - (intOf i).toNat)
    case atStart => exact ⟨0, Nat.zero_le _, rfl, by simp, Qt.refl _⟩
    case round =>
      obtain ⟨k, hk, rfl, htake, hq⟩ := hrel
      have HT := Lib.hid htake
      have Ha := Lib.hid (Ha.out.ext hq.ext)
      have Hb := Lib.hid (Hb.out.ext hq.ext)
      clear htake
      by_cases hlt : k < xs.length
      · have hlt2 : k < ys.length := by have := HL.out; omega
        obtain ⟨b, off, x, rfl, hc1, hx⟩ := Ha.out.icell hlt
        obtain ⟨b2, off2, y, rfl, hc2, hy⟩ := Hb.out.icell hlt2
        by_cases he : x = y
        · subst he
          go_wp2
          go_quiet (fail)
          go_wp2
          go_roundw
          case rel => exact ⟨k + 1, by omega, by go_num, by rw [take_succ_of hx.out, take_succ_of hy.out, HT.out], (by repeat (first | with_reducible exact Qt.refl _ | refine Qt.drewN ?_ _ | assumption | refine Qt.trans ?_ (by assumption)))⟩
          case measure => simp [intOf]; omega
        · have he2 : (x == y) = false := by simp [he]
          have he3 : (x != y) = true := by simp [he]
          go_wp2
          go_quiet (fail)
          go_wp2
          go_ret
          exact ⟨by simp [take_ne hx.out hy.out he], (by repeat (first | with_reducible exact Qt.refl _ | refine Qt.drewN ?_ _ | assumption | refine Qt.trans ?_ (by assumption)))⟩
      · go_wp2
        go_ret
        exact ⟨by simp [take_all hk hlt HL.out HT.out], (by repeat (first | with_reducible exact Qt.refl _ | refine Qt.drewN ?_ _ | assumption | refine Qt.trans ?_ (by assumption)))⟩
  · have hl2 : ((xs.length : Int) == (ys.length : Int)) = false := by simp; omega
    have hl3 : ((xs.length : Int) != (ys.length : Int)) = true := by simp; omega
    have hne : xs ≠ ys := fun h => hl (by rw [h])
    have HN := Lib.hid hne
    clear hne hl
    go_enter Try.func13, Try.ntmps13
    go_wp2
    go_ret
    exact ⟨by simp [HN.out], Qt.refl _⟩

theorem bytes_any (va vb : Value) (xs ys : List Int) (w : World) (ha : RI .u8 w va xs) (hb : RI .u8 w vb ys) :
    Calls Try.prog 13 #[va, vb] w fun e w' => e = .returned (.bool (decide (xs = ys))) ∧ Ext w w' :=
  (bytes_q va vb xs ys w ha hb).mono fun _ _ ⟨he, hq⟩ => ⟨he, hq.ext⟩
abbrev Po : Rep Opn := Rep.pair (Rep.int .i64) (Rep.sl Ub)
theorem op_cells {A : Nat → Prop} {w : World} {u u2 : Value} {d : Opn} (h : Po.rel A w [u, u2] d) : u = .int .i64 d.1 ∧ RdS Ub A w u2 d.2 := by
  obtain ⟨us, vs, h0, h2, ⟨v, rfl, h1⟩⟩ := h
  have h2 : us = [.int .i64 d.1] := h2
  subst h2
  simp at h0
  obtain ⟨rfl, rfl⟩ := h0
  exact ⟨rfl, h1⟩
theorem op_at {A : Nat → Prop} {w : World} {Ad : Option Addr} {n c : Nat} {ds : List Opn} (h : RdY Po A w (.slice Ad n c) ds) {j : Nat} (hj : j < n) :
    ∃ b off Ad' i l c', Ad = some ⟨b, off, none⟩ ∧ w.cell? ⟨b, off + j * 2, none⟩ = some (.int .i64 i) ∧ w.cell? ⟨b, off + j * 2 + 1, none⟩ = some (.slice Ad' l.length c') ∧ Hid (ds[j]? = some (i, l)) ∧
      Hid (RdS Ub A w (.slice Ad' l.length c') l) ∧ l.length ≤ c' ∧ c' ≤ 9223372036854775807 := by
  obtain ⟨b, off, u, u2, ⟨i, l⟩, rfl, h1, h2, hd, hr⟩ := h.at2 rfl hj
  obtain ⟨rfl, h3⟩ := op_cells hr.out
  obtain ⟨Ad', c', rfl, h4, h5⟩ := h3.shape
  exact ⟨b, off, Ad', i, l, c', rfl, h1, h2, hd, h3, h4, h5⟩
/-- how much is looked at -/
def mnI (n : Nat) : Int := if (100000 : Int) < n then 100000 else n
theorem mnI_bd (n : Nat) : 0 ≤ mnI n ∧ mnI n ≤ 100000 := by unfold mnI; split <;> omega
def minS (l : List Opn) : Int := (l.map fun x => mnI x.2.length).sum
theorem minS_succ {l : List Opn} {k : Nat} {x : Opn} (h : l[k]? = some x) : minS (l.take (k + 1)) = minS (l.take k) + mnI x.2.length := by
  rw [List.take_add_one, h]; simp [minS, List.sum_append]
theorem minS_bd (l : List Opn) : 0 ≤ minS l ∧ minS l ≤ 100000 * l.length := by
  induction l with
  | nil => simp [minS]
  | cons x l ih =>
    have := mnI_bd x.2.length
    simp only [minS, List.map_cons, List.sum_cons, List.length_cons] at *
    omega
def greatL (l : List Opn) : Bool := decide (100 < (l.length : Int)) || decide (100000 < minS l)
theorem great_not {l : List Opn} (h : greatL l = false) : l.length ≤ 100 := by
  simp only [greatL, Bool.or_eq_false_iff, decide_eq_false_iff_not] at h
  omega
set_option maxHeartbeats 400000 in
theorem great_any {A : Nat → Prop} (v : Value) (l : List Opn) (w : World) (h : RdS Po A w v l) (hn : l.length ≤ 10000000000000) :
    Calls Try.prog 8 #[v] w fun e w' => e = .returned (.bool (greatL l)) ∧ Ext w w' := by
  obtain ⟨Ad, c, rfl, hc1, hc2⟩ := h.shape
  have H := Lib.hid (h.y.mono (B := fun _ => True) fun _ _ _ => trivial)
  clear h
  go_enter Try.func8, Try.ntmps8
  go_wp2
  go_loopw [3, 8] (fun s i wr => ∃ k : Nat, k ≤ l.length ∧ i = .int .i64 k ∧ s = .int .i64 (minS (l.take k)) ∧ Ext w wr) (fun _ i _ => l.length - (intOf i).toNat)
  case atStart => exact ⟨0, Nat.zero_le _, rfl, rfl, Ext.refl _⟩
  case round =>
    obtain ⟨k, hk, rfl, rfl, hE⟩ := hrel
    by_cases hlt : k < l.length
    · obtain ⟨b, off, Ad', i, x, c', rfl, hx, hy, hd, hr, hl1, hl2⟩ := op_at (H.out.ext hE) hlt
      have hs := minS_succ hd.out
      have hb1 := minS_bd (l.take k)
      have hb2 : (l.take k).length ≤ 10000000000000 := by simp; omega
      have hb3 := mnI_bd x.length
      have hw : IntKind.i64.wrap (minS (l.take k) + mnI x.length) = minS (l.take k) + mnI x.length := IntWalk.i64_in _ (by omega)
      have HS := Lib.hid hs
      have HW := Lib.hid hw
      unfold mnI at hw
      clear hs hb1 hb2 hb3
      go_wp2
      go_roundw
      case rel => exact ⟨k + 1, by omega, by go_num, by rw [HS.out]; rfl, (by repeat (first | with_reducible exact Ext.refl _ | refine Ext.drewN ?_ _ | refine Ext.drew ?_ | refine Ext.alloc ?_ _ | assumption | (refine Below.trans ?_ (by assumption)) | (refine Ext.trans ?_ (by assumption)) | (refine Below.trans ?_ (Below.mono (by assumption) (by omega)))))⟩
      case measure => simp [intOf]; omega
    · have : k = l.length := by omega
      subst this
      rw [List.take_length]
      obtain ⟨s, hs⟩ : ∃ s, minS l = s := ⟨_, rfl⟩
      have HS := Lib.hid hs
      have hg : greatL l = (decide (100 < (l.length : Int)) || decide (100000 < s)) := by unfold greatL; rw [hs]
      have HG := Lib.hid hg
      rw [hs]
      clear hs hg
      by_cases h1 : 100 < (l.length : Int)
      all_goals by_cases h2 : 100000 < s
      all_goals
        go_wp2
        go_ret
        refine ⟨?_, (by repeat (first | with_reducible exact Ext.refl _ | refine Ext.drewN ?_ _ | refine Ext.drew ?_ | refine Ext.alloc ?_ _ | assumption | (refine Below.trans ?_ (by assumption)) | (refine Ext.trans ?_ (by assumption)) | (refine Below.trans ?_ (Below.mono (by assumption) (by omega)))))⟩
        rw [HG.out]
        simp [h1, h2]
end Go.Proofs.Ytefcafohhppmbaa
