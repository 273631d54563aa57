/- The lines that were typed: how they lie in memory, and the functions that copy and count them, by contract. Conditions: lengths below 2^30. -/
import Derived.Test.YtgahpclgdhghjaaRows
import Derived.Test.YtgahpclgdhghjaaRep
namespace Go.Proofs.Ytgahpclgdhghjaa
open Go.RowKit Go.Kb

/-- bytes, and lines -/
abbrev Ub : Rep Int := Rep.int .u8
abbrev Ln : Rep (List Int × Bool) := Rep.pair (Rep.sl Ub) Rep.bool
theorem ln_cells {A : Nat → Prop} {w : World} {u u2 : Value} {d : List Int × Bool} (h : Ln.rel A w [u, u2] d) : RdS Ub A w u d.1 ∧ u2 = .bool d.2 := by
  obtain ⟨us, vs, h0, ⟨v, rfl, h1⟩, h2⟩ := h
  have h2 : vs = [.bool d.2] := h2
  subst h2
  simp at h0
  obtain ⟨rfl, rfl⟩ := h0
  exact ⟨h1, rfl⟩
theorem ln_rel {A : Nat → Prop} {w : World} {u : Value} {l : List Int} {f : Bool} (h : RdS Ub A w u l) : Ln.rel A w [u, .bool f] (l, f) := ⟨[u], [.bool f], rfl, ⟨u, rfl, h⟩, rfl⟩
theorem ln_at {A : Nat → Prop} {w : World} {Ad : Option Addr} {n c : Nat} {ds : List (List Int × Bool)} (h : RdY Ln A w (.slice Ad n c) ds) {j : Nat} (hj : j < n) :
    ∃ b off Ad' l f c', Ad = some ⟨b, off, none⟩ ∧ w.cell? ⟨b, off + j * 2, none⟩ = some (.slice Ad' l.length c') ∧ w.cell? ⟨b, off + j * 2 + 1, none⟩ = some (.bool f) ∧ Hid (ds[j]? = some (l, f)) ∧
      Hid (RdS Ub A w (.slice Ad' l.length c') l) ∧ l.length ≤ c' ∧ c' ≤ 9223372036854775807 := by
  obtain ⟨b, off, u, u2, ⟨l, f⟩, rfl, h1, h2, hd, hr⟩ := h.at2 rfl hj
  obtain ⟨h3, rfl⟩ := ln_cells hr.out
  obtain ⟨Ad', c', rfl, h4, h5⟩ := h3.shape
  exact ⟨b, off, Ad', l, f, c', rfl, h1, h2, hd, h3, h4, h5⟩

/- slices.Clone at one slice type: slices.Clone[[]byte,byte] (u8), slice type []uint8, element uint8, rep Ub -/
theorem info_u8 : (Try.prog.info? 5).map (fun i => (i.zero, i.size, i.bytes)) = some (some (.int .u8 0), (Ub).size, 1) := by kernel_rfl
set_option maxHeartbeats 400000 in
theorem clone_u8 {A : Nat → Prop} (v : Value) (ds : List _) (w : World) (h : RdY Ub A w v ds) (hn : ds.length * 1 ≤ 140737488355328) :
    Calls Try.prog 23 #[v] w fun e w' => ∃ Ad c, e = .returned (.slice Ad ds.length c) ∧ OwnS Ub 5 w.heap.size (fun k => A k ∧ k < w.heap.size) w' (.slice Ad ds.length c) ds ∧ Ext w w' := by
  obtain ⟨us, ⟨hl, Ad, c, rfl, hnc, hcm, hA⟩, he⟩ := id h
  have H := Lib.hid h
  have HL := Lib.hid hl
  clear h hl he
  have heq := fun u => Lib.run_eql_slice_nil (P := Try.prog) u 25 _ Ad ds.length c 0 0 Try.underlying25
  rcases Ad with _ | ad
  · have h0 : ds.length = 0 ∧ c = 0 := by
      rcases hA with rfl | ⟨b, off, h0, _⟩
      · omega
      · cases h0
    obtain ⟨h1, rfl⟩ := h0
    obtain rfl : ds = [] := List.eq_nil_of_length_eq_zero h1
    clear hA HL h1
    simp only [List.length_nil] at heq ⊢
    go_enter Try.func23, Try.ntmps23
    go_wp2
    go_ret
    exact ⟨_, _, rfl, OwnS.nil _ _ _ _ _, (by repeat (first | with_reducible exact Ext.refl _ | refine Ext.drewN ?_ _ | refine Ext.drew ?_ | refine Ext.alloc ?_ _ | assumption | (refine Below.trans ?_ (by assumption)) | (refine Ext.trans ?_ (by assumption)) | (refine Below.trans ?_ (Below.mono (by assumption) (by omega)))))⟩
  · clear hA
    go_enter Try.func23, Try.ntmps23
    go_wp2_with ((at_builtin; refine wpList_app (e := Ub) (base := w.heap.size) (B := fun k => A k ∧ k < w.heap.size) (A := fun k => A k ∧ k < w.heap.size) rfl _ _ rfl Try.underlying25 info_u8 rfl (OwnS.empty _ _ _ rfl (Nat.le_refl _)) rfl (RdY.alloc (RdY.lt H.out) _) rfl (fun k _ hk => ⟨hk, fun h => by have := hk.2; simp [Value.ownBlock] at h; omega⟩) (N := ds.length) (by simp) (by simp [maxLen]; omega) (by omega) (by simp) ?_; intro A1 c1 w1 hown hM hB; simp only [List.nil_append] at hown))
    go_ret
    exact ⟨_, _, rfl, hown, (by repeat (first | with_reducible exact Ext.refl _ | refine Ext.drewN ?_ _ | refine Ext.drew ?_ | refine Ext.alloc ?_ _ | assumption | (refine Below.trans ?_ (by assumption)) | (refine Ext.trans ?_ (by assumption)) | (refine Below.trans ?_ (Below.mono (by assumption) (by omega)))))⟩

def szL (x : List Int × Bool) : Int := x.1.length + (if x.2 then 1 else 0)
def usedL (l : List (List Int × Bool)) : Int := (l.map szL).sum
theorem szL_nn (x : List Int × Bool) : 0 ≤ szL x := by unfold szL; split <;> omega
theorem usedL_nn (l : List (List Int × Bool)) : 0 ≤ usedL l := by
  induction l with
  | nil => simp [usedL]
  | cons x l ih => simp only [usedL, List.map_cons, List.sum_cons] at *; have := szL_nn x; omega
theorem usedL_append (l m : List (List Int × Bool)) : usedL (l ++ m) = usedL l + usedL m := by simp [usedL, List.sum_append]
theorem usedL_succ {l : List (List Int × Bool)} {k : Nat} {x : List Int × Bool} (h : l[k]? = some x) : usedL (l.take (k + 1)) = usedL (l.take k) + szL x := by
  rw [List.take_add_one, h]; simp [usedL, List.sum_append]
theorem usedL_take (l : List (List Int × Bool)) (k : Nat) : usedL (l.take k) ≤ usedL l := by
  conv => rhs; rw [← List.take_append_drop k l]
  rw [usedL_append]; have := usedL_nn (l.drop k); omega

set_option maxHeartbeats 400000 in
theorem size_any (Ad : Option Addr) (l : List Int) (c : Nat) (f : Bool) (w : World) (hn : l.length ≤ 140737488355328) :
    Calls Try.prog 24 #[.agg #[.slice Ad l.length c, .bool f]] w fun e w' => e = .returned (.int .i64 (szL (l, f))) ∧ Ext w w' := by
  cases f <;>
  · go_enter Try.func24, Try.ntmps24
    go_wp2
    go_ret
    exact ⟨ret_int (by simp [szL]), (by repeat (first | with_reducible exact Ext.refl _ | refine Ext.drewN ?_ _ | refine Ext.drew ?_ | refine Ext.alloc ?_ _ | assumption | (refine Below.trans ?_ (by assumption)) | (refine Ext.trans ?_ (by assumption)) | (refine Below.trans ?_ (Below.mono (by assumption) (by omega)))))⟩
set_option maxHeartbeats 400000 in
theorem used_any {A : Nat → Prop} (v : Value) (ls : List (List Int × Bool)) (w : World) (h : RdY Ln A w v ls) (hn : usedL ls ≤ 140737488355328) :
    Calls Try.prog 15 #[v] w fun e w' => e = .returned (.int .i64 (usedL ls)) ∧ Ext w w' := by
  obtain ⟨Ad, c, rfl, hc1, hc2⟩ := h.shape
  have H := Lib.hid h
  clear h
  go_enter Try.func15, Try.ntmps15
  go_wp2
  go_loopw [3, 8] (fun n i wr => ∃ k : Nat, k ≤ ls.length ∧ i = .int .i64 k ∧ n = .int .i64 (usedL (ls.take k)) ∧ Ext w wr) (fun _ i _ => ls.length - (intOf i).toNat)
  case atStart => exact ⟨0, Nat.zero_le _, rfl, rfl, (by repeat (first | with_reducible exact Ext.refl _ | refine Ext.drewN ?_ _ | refine Ext.drew ?_ | refine Ext.alloc ?_ _ | assumption | (refine Below.trans ?_ (by assumption)) | (refine Ext.trans ?_ (by assumption)) | (refine Below.trans ?_ (Below.mono (by assumption) (by omega)))))⟩
  case round =>
    obtain ⟨k, hk, rfl, rfl, hE⟩ := hrel
    have h0 := usedL_nn (ls.take k)
    have h1 := usedL_take ls k
    by_cases hlt : k < ls.length
    · obtain ⟨b, off, Ad', l, f, c', rfl, hx, hy, hd, hr, hl1, hl2⟩ := ln_at (H.out.ext hE) hlt
      have h2 := usedL_take ls (k + 1)
      have HS := Lib.hid (usedL_succ hd.out)
      have h3 := szL_nn (l, f)
      have h4 : usedL (ls.take k) + szL (l, f) ≤ 140737488355328 := by rw [← HS.out]; omega
      have h5 : l.length ≤ 140737488355328 := by
        have : (l.length : Int) ≤ szL (l, f) := by unfold szL; split <;> simp <;> omega
        omega
      clear hd hr h2
      go_wp2_with ((go_at_call 24; refine (size_any _ l _ _ _ h5).mono ?_; rintro e w1 ⟨rfl, E1⟩))
      go_roundw
      case rel => exact ⟨k + 1, by omega, by go_num, by rw [HS.out], (by repeat (first | with_reducible exact Ext.refl _ | refine Ext.drewN ?_ _ | refine Ext.drew ?_ | refine Ext.alloc ?_ _ | assumption | (refine Below.trans ?_ (by assumption)) | (refine Ext.trans ?_ (by assumption)) | (refine Below.trans ?_ (Below.mono (by assumption) (by omega)))))⟩
      case measure => simp [intOf]; omega
    · go_wp2
      go_ret
      have : k = ls.length := by omega
      exact ⟨ret_int (by rw [this, List.take_length]), (by repeat (first | with_reducible exact Ext.refl _ | refine Ext.drewN ?_ _ | refine Ext.drew ?_ | refine Ext.alloc ?_ _ | assumption | (refine Below.trans ?_ (by assumption)) | (refine Ext.trans ?_ (by assumption)) | (refine Below.trans ?_ (Below.mono (by assumption) (by omega)))))⟩
/- the same bytes -/
theorem take_ne {xs ys : List Int} {k : Nat} {x y : Int} (h1 : xs[k]? = some x) (h2 : ys[k]? = some y) (hne : x ≠ y) : xs ≠ ys := by
  rintro rfl
  rw [h1] at h2
  exact hne (Option.some.inj h2)
theorem take_all {xs ys : List Int} {k : Nat} (hk : k ≤ xs.length) (hn : ¬ k < xs.length) (hl : xs.length = ys.length) (ht : xs.take k = ys.take k) : xs = ys := by
  have : k = xs.length := by omega
  subst this
  rw [List.take_of_length_le (Nat.le_refl _), List.take_of_length_le (by omega)] at ht
  exact ht
set_option maxHeartbeats 400000 in
theorem bytes_q (va vb : Value) (xs ys : List Int) (w : World) (ha : RI .u8 w va xs) (hb : RI .u8 w vb ys) :
    Calls Try.prog 14 #[va, vb] w fun e w' => e = .returned (.bool (decide (xs = ys))) ∧ Qt w w' := by
  have ha' := ha
  have hb' := hb
  obtain ⟨_, A, c, rfl, hnc, hcm, _⟩ := ha'
  obtain ⟨_, A2, c2, rfl, hnc2, hcm2, _⟩ := hb'
  have Ha := Lib.hid ha
  have Hb := Lib.hid hb
  clear ha hb
  unfold maxLen at hcm hcm2
  by_cases hl : xs.length = ys.length
  · have HL := Lib.hid hl
    have hl2 : ((xs.length : Int) == (ys.length : Int)) = true := by simp [hl]
    have hl3 : ((xs.length : Int) != (ys.length : Int)) = false := by simp [hl]
    clear hl
    go_enter Try.func14, Try.ntmps14
    go_wp2
    clear hl2 hl3
    go_loopw [13] (fun i wr => ∃ k : Nat, k ≤ xs.length ∧ i = .int .i64 k ∧ xs.take k = ys.take k ∧ Qt w wr) (fun i _ => xs.length - (intOf i).toNat)
    case atStart => exact ⟨0, Nat.zero_le _, rfl, by simp, Qt.refl _⟩
    case round =>
      obtain ⟨k, hk, rfl, htake, hq⟩ := hrel
      have HT := Lib.hid htake
      have Ha := Lib.hid (Ha.out.ext hq.ext)
      have Hb := Lib.hid (Hb.out.ext hq.ext)
      clear htake
      by_cases hlt : k < xs.length
      · have hlt2 : k < ys.length := by have := HL.out; omega
        obtain ⟨b, off, x, rfl, hc1, hx⟩ := Ha.out.icell hlt
        obtain ⟨b2, off2, y, rfl, hc2, hy⟩ := Hb.out.icell hlt2
        by_cases he : x = y
        · subst he
          go_wp2
          go_quiet (fail)
          go_wp2
          go_roundw
          case rel => exact ⟨k + 1, by omega, by go_num, by rw [take_succ_of hx.out, take_succ_of hy.out, HT.out], (by repeat (first | with_reducible exact Qt.refl _ | refine Qt.drewN ?_ _ | assumption | refine Qt.trans ?_ (by assumption)))⟩
          case measure => simp [intOf]; omega
        · have he2 : (x == y) = false := by simp [he]
          have he3 : (x != y) = true := by simp [he]
          go_wp2
          go_quiet (fail)
          go_wp2
          go_ret
          exact ⟨by simp [take_ne hx.out hy.out he], (by repeat (first | with_reducible exact Qt.refl _ | refine Qt.drewN ?_ _ | assumption | refine Qt.trans ?_ (by assumption)))⟩
      · go_wp2
        go_ret
        exact ⟨by simp [take_all hk hlt HL.out HT.out], (by repeat (first | with_reducible exact Qt.refl _ | refine Qt.drewN ?_ _ | assumption | refine Qt.trans ?_ (by assumption)))⟩
  · have hl2 : ((xs.length : Int) == (ys.length : Int)) = false := by simp; omega
    have hl3 : ((xs.length : Int) != (ys.length : Int)) = true := by simp; omega
    have hne : xs ≠ ys := fun h => hl (by rw [h])
    have HN := Lib.hid hne
    clear hne hl
    go_enter Try.func14, Try.ntmps14
    go_wp2
    go_ret
    exact ⟨by simp [HN.out], Qt.refl _⟩

theorem bytes_any (va vb : Value) (xs ys : List Int) (w : World) (ha : RI .u8 w va xs) (hb : RI .u8 w vb ys) :
    Calls Try.prog 14 #[va, vb] w fun e w' => e = .returned (.bool (decide (xs = ys))) ∧ Ext w w' :=
  (bytes_q va vb xs ys w ha hb).mono fun _ _ ⟨he, hq⟩ => ⟨he, hq.ext⟩
end Go.Proofs.Ytgahpclgdhghjaa
