/- Written by chain.py of +Base +Rep +Row A13@Ca B13[info_cl,ln_snoc]@Ca C13[ln_len]@Ca D13@Ca E13@Ca. No condition. -/
import Derived.Test.YtfnicinnjkbedaaGreatDoorBase
import Derived.Test.YtfnicinnjkbedaaGreatDoorRep
import Derived.Test.YtfnicinnjkbedaaGreatDoorRow
import Derived.Test.YtfnicinnjkbedaaGreatDoorRows
import Derived.IntWalk
namespace Go.Proofs.YtfnicinnjkbedaaGreatDoor.Ca
set_option maxRecDepth 100000
open Go.RowKit Go.Kb

/-- bytes, and lines -/
abbrev Ub : Rep Int := Rep.int .u8
abbrev Ln : Rep (List Int × Bool) := Rep.pair (Rep.sl Ub) Rep.bool
theorem ln_cells {A : Nat → Prop} {w : World} {u u2 : Value} {d : List Int × Bool} (h : Ln.rel A w [u, u2] d) : RdS Ub A w u d.1 ∧ u2 = .bool d.2 := by
  obtain ⟨us, vs, h0, ⟨v, rfl, h1⟩, h2⟩ := h
  have h2 : vs = [.bool d.2] := h2
  subst h2
  simp at h0
  obtain ⟨rfl, rfl⟩ := h0
  exact ⟨h1, rfl⟩
theorem ln_rel {A : Nat → Prop} {w : World} {u : Value} {l : List Int} {f : Bool} (h : RdS Ub A w u l) : Ln.rel A w [u, .bool f] (l, f) := ⟨[u], [.bool f], rfl, ⟨u, rfl, h⟩, rfl⟩
theorem ln_at {A : Nat → Prop} {w : World} {Ad : Option Addr} {n c : Nat} {ds : List (List Int × Bool)} (h : RdY Ln A w (.slice Ad n c) ds) {j : Nat} (hj : j < n) :
    ∃ b off Ad' l f c', Ad = some ⟨b, off, none⟩ ∧ w.cell? ⟨b, off + j * 2, none⟩ = some (.slice Ad' l.length c') ∧ w.cell? ⟨b, off + j * 2 + 1, none⟩ = some (.bool f) ∧ Hid (ds[j]? = some (l, f)) ∧
      Hid (RdS Ub A w (.slice Ad' l.length c') l) ∧ l.length ≤ c' ∧ c' ≤ 9223372036854775807 := by
  obtain ⟨b, off, u, u2, ⟨l, f⟩, rfl, h1, h2, hd, hr⟩ := h.at2 rfl hj
  obtain ⟨h3, rfl⟩ := ln_cells hr.out
  obtain ⟨Ad', c', rfl, h4, h5⟩ := h3.shape
  exact ⟨b, off, Ad', l, f, c', rfl, h1, h2, hd, h3, h4, h5⟩

/- slices.Clone at one slice type: slices.Clone[[]byte,byte] (u8), slice type []uint8, element uint8, rep Ub -/
theorem info_u8 : (Tryz.prog.info? 5).map (fun i => (i.zero, i.size, i.bytes)) = some (some (.int .u8 0), (Ub).size, 1) := by kernel_rfl
set_option maxHeartbeats 400000 in
theorem clone_u8 {A : Nat → Prop} (v : Value) (ds : List _) (w : World) (h : RdY Ub A w v ds) (hn : ds.length * 1 ≤ 140737488355328) :
    Calls Tryz.prog 38 #[v] w fun e w' => ∃ Ad c, e = .returned (.slice Ad ds.length c) ∧ OwnS Ub 5 w.heap.size (fun k => A k ∧ k < w.heap.size) w' (.slice Ad ds.length c) ds ∧ Ext w w' := by
  obtain ⟨us, ⟨hl, Ad, c, rfl, hnc, hcm, hA⟩, he⟩ := id h
  have H := Lib.hid h
  have HL := Lib.hid hl
  clear h hl he
  have heq := fun u => Lib.run_eql_slice_nil (P := Tryz.prog) u 27 _ Ad ds.length c 0 0 Tryz.underlying27
  rcases Ad with _ | ad
  · have h0 : ds.length = 0 ∧ c = 0 := by
      rcases hA with rfl | ⟨b, off, h0, _⟩
      · omega
      · cases h0
    obtain ⟨h1, rfl⟩ := h0
    obtain rfl : ds = [] := List.eq_nil_of_length_eq_zero h1
    clear hA HL h1
    simp only [List.length_nil] at heq ⊢
    go_enter Tryz.func38, Tryz.ntmps38
    go_wp2
    go_ret
    exact ⟨_, _, rfl, OwnS.nil _ _ _ _ _, (by repeat (first | with_reducible exact Ext.refl _ | refine Ext.drewN ?_ _ | refine Ext.drew ?_ | refine Ext.alloc ?_ _ | assumption | (refine Below.trans ?_ (by assumption)) | (refine Ext.trans ?_ (by assumption)) | (refine Below.trans ?_ (Below.mono (by assumption) (by omega)))))⟩
  · clear hA
    go_enter Tryz.func38, Tryz.ntmps38
    go_wp2_with ((at_builtin; refine wpList_app (e := Ub) (base := w.heap.size) (B := fun k => A k ∧ k < w.heap.size) (A := fun k => A k ∧ k < w.heap.size) rfl _ _ rfl Tryz.underlying27 info_u8 rfl (OwnS.empty _ _ _ rfl (Nat.le_refl _)) rfl (RdY.alloc (RdY.lt H.out) _) rfl (fun k _ hk => ⟨hk, fun h => by have := hk.2; simp [Value.ownBlock] at h; omega⟩) (N := ds.length) (by simp) (by simp [maxLen]; omega) (by omega) (by simp) ?_; intro A1 c1 w1 hown hM hB; simp only [List.nil_append] at hown))
    go_ret
    exact ⟨_, _, rfl, hown, (by repeat (first | with_reducible exact Ext.refl _ | refine Ext.drewN ?_ _ | refine Ext.drew ?_ | refine Ext.alloc ?_ _ | assumption | (refine Below.trans ?_ (by assumption)) | (refine Ext.trans ?_ (by assumption)) | (refine Below.trans ?_ (Below.mono (by assumption) (by omega)))))⟩

def szL (x : List Int × Bool) : Int := x.1.length + (if x.2 then 1 else 0)
def usedL (l : List (List Int × Bool)) : Int := (l.map szL).sum
theorem szL_nn (x : List Int × Bool) : 0 ≤ szL x := by unfold szL; split <;> omega
theorem usedL_nn (l : List (List Int × Bool)) : 0 ≤ usedL l := by
  induction l with
  | nil => simp [usedL]
  | cons x l ih => simp only [usedL, List.map_cons, List.sum_cons] at *; have := szL_nn x; omega
theorem usedL_append (l m : List (List Int × Bool)) : usedL (l ++ m) = usedL l + usedL m := by simp [usedL, List.sum_append]
theorem usedL_succ {l : List (List Int × Bool)} {k : Nat} {x : List Int × Bool} (h : l[k]? = some x) : usedL (l.take (k + 1)) = usedL (l.take k) + szL x := by
  rw [List.take_add_one, h]; simp [usedL, List.sum_append]
theorem usedL_take (l : List (List Int × Bool)) (k : Nat) : usedL (l.take k) ≤ usedL l := by
  conv => rhs; rw [← List.take_append_drop k l]
  rw [usedL_append]; have := usedL_nn (l.drop k); omega

set_option maxHeartbeats 400000 in
theorem size_any (Ad : Option Addr) (l : List Int) (c : Nat) (f : Bool) (w : World) (hn : l.length ≤ 140737488355328) :
    Calls Tryz.prog 78 #[.agg #[.slice Ad l.length c, .bool f]] w fun e w' => e = .returned (.int .i64 (szL (l, f))) ∧ Ext w w' := by
  cases f <;>
  · go_enter Tryz.func78, Tryz.ntmps78
    go_wp2
    go_ret
    exact ⟨ret_int (by simp [szL]), (by repeat (first | with_reducible exact Ext.refl _ | refine Ext.drewN ?_ _ | refine Ext.drew ?_ | refine Ext.alloc ?_ _ | assumption | (refine Below.trans ?_ (by assumption)) | (refine Ext.trans ?_ (by assumption)) | (refine Below.trans ?_ (Below.mono (by assumption) (by omega)))))⟩
set_option maxHeartbeats 400000 in
theorem used_any {A : Nat → Prop} (v : Value) (ls : List (List Int × Bool)) (w : World) (h : RdY Ln A w v ls) (hn : usedL ls ≤ 140737488355328) :
    Calls Tryz.prog 40 #[v] w fun e w' => e = .returned (.int .i64 (usedL ls)) ∧ Ext w w' := by
  obtain ⟨Ad, c, rfl, hc1, hc2⟩ := h.shape
  have H := Lib.hid h
  clear h
  go_enter Tryz.func40, Tryz.ntmps40
  go_wp2
  go_loopw [3, 8] (fun n i wr => ∃ k : Nat, k ≤ ls.length ∧ i = .int .i64 k ∧ n = .int .i64 (usedL (ls.take k)) ∧ Ext w wr) (fun _ i _ => ls.length - (intOf i).toNat)
  case atStart => exact ⟨0, Nat.zero_le _, rfl, rfl, (by repeat (first | with_reducible exact Ext.refl _ | refine Ext.drewN ?_ _ | refine Ext.drew ?_ | refine Ext.alloc ?_ _ | assumption | (refine Below.trans ?_ (by assumption)) | (refine Ext.trans ?_ (by assumption)) | (refine Below.trans ?_ (Below.mono (by assumption) (by omega)))))⟩
  case round =>
    obtain ⟨k, hk, rfl, rfl, hE⟩ := hrel
    have h0 := usedL_nn (ls.take k)
    have h1 := usedL_take ls k
    by_cases hlt : k < ls.length
    · obtain ⟨b, off, Ad', l, f, c', rfl, hx, hy, hd, hr, hl1, hl2⟩ := ln_at (H.out.ext hE) hlt
      have h2 := usedL_take ls (k + 1)
      have HS := Lib.hid (usedL_succ hd.out)
      have h3 := szL_nn (l, f)
      have h4 : usedL (ls.take k) + szL (l, f) ≤ 140737488355328 := by rw [← HS.out]; omega
      have h5 : l.length ≤ 140737488355328 := by
        have : (l.length : Int) ≤ szL (l, f) := by unfold szL; split <;> simp <;> omega
        omega
      clear hd hr h2
      go_wp2_with ((go_at_call 78; refine (size_any _ l _ _ _ h5).mono ?_; rintro e w1 ⟨rfl, E1⟩))
      go_roundw
      case rel => exact ⟨k + 1, by omega, by go_num, by rw [HS.out], (by repeat (first | with_reducible exact Ext.refl _ | refine Ext.drewN ?_ _ | refine Ext.drew ?_ | refine Ext.alloc ?_ _ | assumption | (refine Below.trans ?_ (by assumption)) | (refine Ext.trans ?_ (by assumption)) | (refine Below.trans ?_ (Below.mono (by assumption) (by omega)))))⟩
      case measure => simp [intOf]; omega
    · go_wp2
      go_ret
      have : k = ls.length := by omega
      exact ⟨ret_int (by rw [this, List.take_length]), (by repeat (first | with_reducible exact Ext.refl _ | refine Ext.drewN ?_ _ | refine Ext.drew ?_ | refine Ext.alloc ?_ _ | assumption | (refine Below.trans ?_ (by assumption)) | (refine Ext.trans ?_ (by assumption)) | (refine Below.trans ?_ (Below.mono (by assumption) (by omega)))))⟩
/- the same bytes -/
theorem take_ne {xs ys : List Int} {k : Nat} {x y : Int} (h1 : xs[k]? = some x) (h2 : ys[k]? = some y) (hne : x ≠ y) : xs ≠ ys := by
  rintro rfl
  rw [h1] at h2
  exact hne (Option.some.inj h2)
theorem take_all {xs ys : List Int} {k : Nat} (hk : k ≤ xs.length) (hn : ¬ k < xs.length) (hl : xs.length = ys.length) (ht : xs.take k = ys.take k) : xs = ys := by
  have : k = xs.length := by omega
  subst this
  rw [List.take_of_length_le (Nat.le_refl _), List.take_of_length_le (by omega)] at ht
  exact ht
set_option maxHeartbeats 400000 in
theorem bytes_q (va vb : Value) (xs ys : List Int) (w : World) (ha : RI .u8 w va xs) (hb : RI .u8 w vb ys) :
    Calls Tryz.prog 13 #[va, vb] w fun e w' => e = .returned (.bool (decide (xs = ys))) ∧ Qt w w' := by
  have ha' := ha
  have hb' := hb
  obtain ⟨_, A, c, rfl, hnc, hcm, _⟩ := ha'
  obtain ⟨_, A2, c2, rfl, hnc2, hcm2, _⟩ := hb'
  have Ha := Lib.hid ha
  have Hb := Lib.hid hb
  clear ha hb
  unfold maxLen at hcm hcm2
  by_cases hl : xs.length = ys.length
  · have HL := Lib.hid hl
    have hl2 : ((xs.length : Int) == (ys.length : Int)) = true := by simp [hl]
    have hl3 : ((xs.length : Int) != (ys.length : Int)) = false := by simp [hl]
    clear hl
    go_enter Tryz.func13, Tryz.ntmps13
    go_wp2
    clear hl2 hl3
    go_loopw [13] (fun i wr => ∃ k : Nat, k ≤ xs.length ∧ i = .int .i64 k ∧ xs.take k = ys.take k ∧ Qt w wr) (fun i _ => xs.length - (intOf i).toNat)
    case atStart => exact ⟨0, Nat.zero_le _, rfl, by simp, Qt.refl _⟩
    case round =>
      obtain ⟨k, hk, rfl, htake, hq⟩ := hrel
      have HT := Lib.hid htake
      have Ha := Lib.hid (Ha.out.ext hq.ext)
      have Hb := Lib.hid (Hb.out.ext hq.ext)
      clear htake
      by_cases hlt : k < xs.length
      · have hlt2 : k < ys.length := by have := HL.out; omega
        obtain ⟨b, off, x, rfl, hc1, hx⟩ := Ha.out.icell hlt
        obtain ⟨b2, off2, y, rfl, hc2, hy⟩ := Hb.out.icell hlt2
        by_cases he : x = y
        · subst he
          go_wp2
          go_quiet (fail)
          go_wp2
          go_roundw
          case rel => exact ⟨k + 1, by omega, by go_num, by rw [take_succ_of hx.out, take_succ_of hy.out, HT.out], (by repeat (first | with_reducible exact Qt.refl _ | refine Qt.drewN ?_ _ | assumption | refine Qt.trans ?_ (by assumption)))⟩
          case measure => simp [intOf]; omega
        · have he2 : (x == y) = false := by simp [he]
          have he3 : (x != y) = true := by simp [he]
          go_wp2
          go_quiet (fail)
          go_wp2
          go_ret
          exact ⟨by simp [take_ne hx.out hy.out he], (by repeat (first | with_reducible exact Qt.refl _ | refine Qt.drewN ?_ _ | assumption | refine Qt.trans ?_ (by assumption)))⟩
      · go_wp2
        go_ret
        exact ⟨by simp [take_all hk hlt HL.out HT.out], (by repeat (first | with_reducible exact Qt.refl _ | refine Qt.drewN ?_ _ | assumption | refine Qt.trans ?_ (by assumption)))⟩
  · have hl2 : ((xs.length : Int) == (ys.length : Int)) = false := by simp; omega
    have hl3 : ((xs.length : Int) != (ys.length : Int)) = true := by simp; omega
    have hne : xs ≠ ys := fun h => hl (by rw [h])
    have HN := Lib.hid hne
    clear hne hl
    go_enter Tryz.func13, Tryz.ntmps13
    go_wp2
    go_ret
    exact ⟨by simp [HN.out], Qt.refl _⟩

theorem bytes_any (va vb : Value) (xs ys : List Int) (w : World) (ha : RI .u8 w va xs) (hb : RI .u8 w vb ys) :
    Calls Tryz.prog 13 #[va, vb] w fun e w' => e = .returned (.bool (decide (xs = ys))) ∧ Ext w w' :=
  (bytes_q va vb xs ys w ha hb).mono fun _ _ ⟨he, hq⟩ => ⟨he, hq.ext⟩
end Go.Proofs.YtfnicinnjkbedaaGreatDoor.Ca
namespace Go.Proofs.YtfnicinnjkbedaaGreatDoor.Ca
set_option maxRecDepth 100000
open Go.RowKit Go.Kb

theorem info_cl : (Tryz.prog.info? 133).map (fun i => (i.zero, i.size, i.bytes)) = some (some (.agg #[.slice none 0 0, .bool false]), Ln.size, 32) := by kernel_rfl
theorem ln_snoc {ls : List (List Int × Bool)} {k : Nat} {x : List Int × Bool} (h : ls[k]? = some x) : ls.take (k + 1) = ls.take k ++ [x] := by
  rw [List.take_add_one, h]; rfl
end Go.Proofs.YtfnicinnjkbedaaGreatDoor.Ca
namespace Go.Proofs.YtfnicinnjkbedaaGreatDoor.Ca
set_option maxRecDepth 100000
open Go.RowKit Go.Kb

theorem ln_len {ls : List (List Int × Bool)} {k : Nat} {l : List Int} {f : Bool} (hd : ls[k]? = some (l, f)) (hn : usedL ls ≤ 140737488355328) : l.length ≤ 140737488355328 := by
  have : (l.length : Int) ≤ szL (l, f) := by unfold szL; split <;> simp <;> omega
  have := usedL_succ hd
  have := usedL_take ls (k + 1)
  have := usedL_nn (ls.take k)
  omega
end Go.Proofs.YtfnicinnjkbedaaGreatDoor.Ca
namespace Go.Proofs.YtfnicinnjkbedaaGreatDoor.Ca
set_option maxRecDepth 100000
open Go.RowKit Go.Kb

/- append at one slice type -/
theorem info_clr : (Tryz.prog.info? 133).map (fun i => (i.zero, i.size, i.bytes)) = some (some (.agg #[.slice none 0 0, .bool false]), 2, 32) := by kernel_rfl
theorem app_clr (w : World) {ops : Array Oper} {rest : List Oper} {o : Oper} {a : Act} {Q : Exit → Act → World → Prop} (hgd : o.guard = none) (s x : Operand)
    (ho : o.op = .call { callee := .builtin .append, args := #[s, x], argTypes := #[78, 78] })
    (base : Nat) (v : Value) (n : Nat) (xs : List Value) (hs : a.eval s = v) (hown : w.ownsRow base 133 2 v n xs)
    (y : Value) (m : Nat) (news : List Value) (hx : a.eval x = y) (hr : RdN w 2 y m news) (h1 : ∀ u ∈ news, u.oneCell' = true)
    (hb : n + m ≤ 137438953472) (hbase : base ≤ w.heap.size)
    (h : ∀ v' w', w'.ownsRow base 133 2 v' (n + m) (xs ++ news) → Below base w w' → w.grownBy w' v.ownBlock → (v'.ownBlock = v.ownBlock ∨ v'.ownBlock = some w.heap.size) → wpList Tryz.prog ops Q rest (a.put o.dst v') w') : wpList Tryz.prog ops Q (o :: rest) a w := by
  obtain ⟨i0, hi0, hz0, hz1, hz2⟩ := info_parts info_clr
  exact wpList_append_rd w hgd s x _ ho base _ i0 _ 2 32 Tryz.underlying78 hi0 hz0 hz1 hz2 rfl (by omega) v n xs hs hown y m news hx hr h1 (by unfold maxLen; omega) (by omega) hbase
    fun v' w' a1 a2 a3 => h v' w' a1 ((Below.refl _ _).grown a2 hbase fun k hk => (hown.lt k hk).1) a2 a3
theorem sapp_clr (w : World) {ops : Array Oper} {o : Oper} {a : Act} {K : Act → World → Prop} {Q : Exit → Act → World → Prop} {E : Prop} (hgd : o.guard = none) (s x : Operand)
    (ho : o.op = .call { callee := .builtin .append, args := #[s, x], argTypes := #[78, 78] })
    (base : Nat) (v : Value) (n : Nat) (xs : List Value) (hs : a.eval s = v) (hown : w.ownsRow base 133 2 v n xs)
    (y : Value) (m : Nat) (news : List Value) (hx : a.eval x = y) (hr : RdN w 2 y m news) (h1 : ∀ u ∈ news, u.oneCell' = true)
    (hb : n + m ≤ 137438953472) (hbase : base ≤ w.heap.size)
    (h : ∀ v' w', w'.ownsRow base 133 2 v' (n + m) (xs ++ news) → Below base w w' → w.grownBy w' v.ownBlock → (v'.ownBlock = v.ownBlock ∨ v'.ownBlock = some w.heap.size) → K (a.put o.dst v') w') :
    if Region.wanted o (yielded ops a.tmps) = true then Oper.wp Tryz.prog o a w K Q else E := by
  obtain ⟨i0, hi0, hz0, hz1, hz2⟩ := info_parts info_clr
  exact step_append_rd w hgd s x _ ho base _ i0 _ 2 32 Tryz.underlying78 hi0 hz0 hz1 hz2 rfl (by omega) v n xs hs hown y m news hx hr h1 (by unfold maxLen; omega) (by omega) hbase
    fun v' w' a1 a2 a3 => h v' w' a1 ((Below.refl _ _).grown a2 hbase fun k hk => (hown.lt k hk).1) a2 a3
set_option maxHeartbeats 400000 in
theorem grow_clr (n : Int) (w : World) (h0 : 0 ≤ n) (hn : n ≤ 137438953472) :
    Calls Tryz.prog 145 #[.slice none 0 0, .int .i64 n] w fun e w' => ∃ v', e = .returned v' ∧ w'.ownsRow w.heap.size 133 2 v' 0 [] ∧ Ext w w' := by
  obtain ⟨i0, hi0, hz0, hz1, hz2⟩ := info_parts info_clr
  by_cases h : n = 0
  · subst h
    go_enter Tryz.func145, Tryz.ntmps145
    go_wp2
    go_ret
    exact ⟨_, rfl, World.ownsRow_nil _ _ _ _, (by repeat (first | with_reducible exact Ext.refl _ | refine Ext.drewN ?_ _ | refine Ext.drew ?_ | refine Ext.alloc ?_ _ | assumption | (refine Below.trans ?_ (by assumption)) | (refine Ext.trans ?_ (by assumption)) | (refine Below.trans ?_ (Below.mono (by assumption) (by omega)))))⟩
  · obtain ⟨m, rfl⟩ := Int.eq_ofNat_of_zero_le h0
    have hr := Lib.hid (Lib.run_append_nil_zeros (P := Tryz.prog) w 78 3 0 133 i0 _ .i64 .i64 Tryz.underlying78 Tryz.underlying3 hi0 hz0 m (by omega) (by omega) (by omega) (by rw [hz2]; omega))
    have hc1 := Lib.hid (grownCap_ge w m 0 133)
    have hc2 := Lib.hid (grownCap_le_maxLen w m 0 133 (by unfold maxLen; omega))
    go_enter Tryz.func145, Tryz.ntmps145
    go_wp2_with ((at_builtin; refine Lib.wpList_append_run _ rfl _ _ _ _ rfl _ _ rfl rfl _ _ hr.out ?_))
    go_ret
    refine ⟨_, rfl, World.ownsRow_made w.drew _ _ (Nat.le_refl _) hc2.out ?_, (by repeat (first | with_reducible exact Ext.refl _ | refine Ext.drewN ?_ _ | refine Ext.drew ?_ | refine Ext.alloc ?_ _ | assumption | (refine Below.trans ?_ (by assumption)) | (refine Ext.trans ?_ (by assumption)) | (refine Below.trans ?_ (Below.mono (by assumption) (by omega)))))⟩
    have := hc1.out
    simp only [Array.size_append, size_zeroCells, List.size_toArray, List.length_cons, List.length_nil]
    omega
set_option maxHeartbeats 400000 in
theorem concat_clr (v : Value) (ls : List (Nat × List Value)) (w : World) (h : RdLL w 2 v ls) (h1 : ∀ l ∈ ls, ∀ u ∈ l.2, u.oneCell' = true) (hn : tot ls ≤ 137438953472) :
    Calls Tryz.prog 125 #[v] w fun e w' => ∃ v', e = .returned v' ∧ w'.ownsRow w.heap.size 133 2 v' (tot ls) (cat ls) ∧ Ext w w' := by
  obtain ⟨vs, hl, hrd, hvs⟩ := h
  obtain ⟨_, A, c, rfl, hnc, hcm, hA⟩ := id hrd
  have HL := Lib.hid hl
  have HR := Lib.hid hrd
  have HV := Lib.hid hvs
  have H1 := Lib.hid h1
  clear hl hrd hvs hA h1
  unfold maxLen at hcm
  go_enter Tryz.func125, Tryz.ntmps125
  go_wp2
  go_loop [3, 11] (fun t i => ∃ k : Nat, k ≤ ls.length ∧ i = .int .i64 k ∧ t = .int .i64 (tot (ls.take k))) (fun _ i => ls.length - (intOf i).toNat)
  case atStart => exact ⟨0, Nat.zero_le _, rfl, by simp [tot]⟩
  case round =>
    obtain ⟨k, hk, rfl, rfl⟩ := hrel
    by_cases hlt : k < ls.length
    · obtain ⟨b, off, cc, hv, _, _, hc⟩ := HR.out.form (by omega)
      simp only [Value.slice.injEq] at hv
      obtain ⟨rfl, _, rfl⟩ := hv
      have hxl : k < vs.length := by have := HL.out; omega
      obtain ⟨x, hx⟩ : ∃ x, vs[k]? = some x := ⟨_, List.getElem?_eq_getElem hxl⟩
      obtain ⟨l, hl⟩ : ∃ l, ls[k]? = some l := ⟨_, List.getElem?_eq_getElem hlt⟩
      have hcx := hc k x hx
      obtain ⟨_, A2, c2, rfl, hnc2, hcm2, _⟩ := HV.out k x l hx hl
      have hts := Lib.hid (tot_succ hl)
      have hle := tot_take_le ls (k + 1)
      rw [hts.out] at hle
      unfold maxLen at hcm2
      clear hc hx hl
      go_wp2
      go_round
      case rel => exact ⟨k + 1, by omega, by go_num, by rw [hts.out]; go_num⟩
      case measure => simp [intOf]; omega
    · obtain rfl : k = ls.length := by omega
      have HT : Hid (ls.take ls.length = ls) := Lib.hid (List.take_length)
      rw [HT.out]
      go_wp2_with (go_at_call 145; refine (grow_clr _ _ (by omega) (by omega)).mono ?_; rintro e w1 ⟨v1, rfl, hown1, hE1⟩)
      have HO := Lib.hid hown1
      clear hown1
      obtain ⟨hc1, hf1⟩ := And.intro hE1.cell hE1.frozen
      go_loopw [6, 27] (fun s i wr => ∃ k : Nat, k ≤ ls.length ∧ i = .int .i64 k ∧ wr.ownsRow w.heap.size 133 2 s (tot (ls.take k)) (cat (ls.take k)) ∧ Ext w wr) (fun _ i _ => ls.length - (intOf i).toNat)
      case atStart => exact ⟨0, Nat.zero_le _, rfl, HO.out, hE1⟩
      case round =>
        obtain ⟨k, hk, rfl, hown, hE⟩ := hrel
        have HO2 := Lib.hid hown
        clear hown hc1 hf1
        by_cases hlt : k < ls.length
        · obtain ⟨b, off, cc, hv, _, _, hc⟩ := (HR.out.ext hE).form (by omega)
          simp only [Value.slice.injEq] at hv
          obtain ⟨rfl, _, rfl⟩ := hv
          have hxl : k < vs.length := by have := HL.out; omega
          obtain ⟨x, hx⟩ : ∃ x, vs[k]? = some x := ⟨_, List.getElem?_eq_getElem hxl⟩
          obtain ⟨l, hl⟩ : ∃ l, ls[k]? = some l := ⟨_, List.getElem?_eq_getElem hlt⟩
          have hcx := hc k x hx
          have X := Lib.hid ((HV.out k x l hx hl).ext hE)
          have X1 := Lib.hid (H1.out l (List.mem_of_getElem? hl))
          have hts := Lib.hid (tot_succ hl)
          have hcs := Lib.hid (cat_succ hl)
          have hle := tot_take_le ls (k + 1)
          rw [hts.out] at hle
          clear hc hx hl
          go_wp2_with ((at_builtin; refine app_clr _ rfl _ _ rfl w.heap.size _ _ _ rfl HO2.out _ l.1 l.2 rfl X.out X1.out (by omega) hE.size ?_; intro v2 w2 hown2 hB2 hg2 hat2))
          go_roundw
          case rel => exact ⟨k + 1, by omega, by go_num, by rw [hts.out, hcs.out]; exact hown2, (by repeat (first | with_reducible exact Ext.refl _ | refine Ext.drewN ?_ _ | refine Ext.drew ?_ | refine Ext.alloc ?_ _ | assumption | (refine Below.trans ?_ (by assumption)) | (refine Ext.trans ?_ (by assumption)) | (refine Below.trans ?_ (Below.mono (by assumption) (by omega)))))⟩
          case measure => simp [intOf]; omega
        · obtain rfl : k = ls.length := by omega
          go_wp2
          go_ret
          have := HO2.out
          rw [HT.out] at this
          exact ⟨_, rfl, this, (by repeat (first | with_reducible exact Ext.refl _ | refine Ext.drewN ?_ _ | refine Ext.drew ?_ | refine Ext.alloc ?_ _ | assumption | (refine Below.trans ?_ (by assumption)) | (refine Ext.trans ?_ (by assumption)) | (refine Below.trans ?_ (Below.mono (by assumption) (by omega)))))⟩
/-- the elements of two rows -/
theorem concat_cl {A : Nat → Prop} (v : Value) (va vb : Value) (w : World) (ds ds2 : List _) (hv : RdN w 1 v 2 [va, vb]) (h1 : RdS Ln A w va ds) (h2 : RdS Ln A w vb ds2) (hn : ds.length + ds2.length ≤ 137438953472) :
    Calls Tryz.prog 125 #[v] w fun e w' => ∃ Ad c, e = .returned (.slice Ad (ds ++ ds2).length c) ∧ OwnS Ln 133 w.heap.size (fun k => A k ∧ k < w.heap.size) w' (.slice Ad (ds ++ ds2).length c) (ds ++ ds2) ∧ Ext w w' := by
  obtain ⟨us, hu, hue⟩ := h1.lt.y
  obtain ⟨vs, hv1, hve⟩ := h2.lt.y
  have hLL : RdLL w 2 v [(ds.length, us), (ds2.length, vs)] := ⟨[va, vb], rfl, hv, fun j x l hx hl => by
    match j, hx, hl with
    | 0, hx, hl => simp at hx hl; subst hx hl; exact hu
    | 1, hx, hl => simp at hx hl; subst hx hl; exact hv1⟩
  refine (concat_clr v _ w hLL (fun l hl u hu => ?_) (by simp [tot]; omega)).mono ?_
  · simp at hl
    rcases hl with rfl | rfl
    · exact hue.one u hu
    · exact hve.one u hu
  · rintro e w' ⟨v', rfl, hown, hE⟩
    have e1 : tot [(ds.length, us), (ds2.length, vs)] = (ds ++ ds2).length := by simp [tot]
    have e2 : cat [(ds.length, us), (ds2.length, vs)] = us ++ vs := by simp [cat]
    rw [e1, e2] at hown
    obtain ⟨Ad, c, rfl⟩ := own_shape hown
    refine ⟨Ad, c, rfl, ⟨_, hown, (hue.append hve).keep fun k hk ha => ⟨⟨ha, fun h => ?_⟩, hE.block k hk⟩⟩, hE⟩
    have := (hown.lt k h).1
    omega
set_option maxHeartbeats 800000 in
theorem twin_any {A : Nat → Prop} (Ad : Option Addr) (l : List Int) (c : Nat) (f : Bool) (w : World) (h : RdS Ub A w (.slice Ad l.length c) l) (hn : l.length ≤ 140737488355328) :
    Calls Tryz.prog 126 #[.agg #[.slice Ad l.length c, .bool f]] w fun e w' => ∃ Ad' c', e = .returned (.agg #[.slice Ad' l.length c', .bool f]) ∧
      RdS Ub (fun k => w.heap.size ≤ k) w' (.slice Ad' l.length c') l ∧ Ext w w' := by
  have H := Lib.hid h
  clear h
  go_enter Tryz.func126, Tryz.ntmps126
  go_wp2
  go_region_held3 (fun w' => w'.cell? ⟨w.heap.size, 0, none⟩ = some (.slice Ad l.length c) ∧ w'.cell? ⟨w.heap.size, 1, none⟩ = some (.bool f)) (go_keep) (first
    | (((go_at_call 38; refine (clone_u8 (A := fun _ => False) _ l _ (RI.y (RdS.ri (H.out.ext (by repeat (first | exact Ext.refl _ | refine Ext.drew ?_ | refine Ext.alloc ?_ _))))) (by omega)).mono ?_; rintro e w1 ⟨A1, c1, rfl, hown1, hE1⟩); have hc1 := Bc hE1; have hf1 := Bf hE1; have hz1 := Below.size hE1; (try simp at hz1); have hd1 := fun o => hc1 w.heap.size o (by simp; omega))))
  all_goals
    go_wp2
    have BW : Blk w1 (w.heap.size + 1) 133 #[.slice none 0 0, .bool false] := Blk.ext (Blk.drew (Blk.at_ (w := w.alloc (.cells #[.slice Ad l.length c, .bool f] 133)) _ _ (by simp))) hE1
    obtain ⟨q0, q1, _, _⟩ := (BW.put2 (.slice A1 l.length c1) (.bool f)).two
    have hW : Mod (fun k => k = w.heap.size + 1) w1 ((w1.setCell ⟨w.heap.size + 1, 0, none⟩ (.slice A1 l.length c1)).setCell ⟨w.heap.size + 1, 1, none⟩ (.bool f)) := (by repeat (first | with_reducible exact Mod.refl _ _ | refine Mod.drew ?_ | refine Mod.drewN ?_ _ | refine Mod.set1 ?_ _))
    refine bodyPost_ret (v := .agg #[.slice A1 l.length c1, .bool f]) (by simp [results, Tryz.results126, go_sem, q0, q1]) rfl ?_
    have hr := hown1.row
    refine ⟨_, _, rfl, (hown1.mod hW (fun k hk => by have := (hr k hk).1; simp at this; omega) (fun k _ hk => hk.1.elim)).rd (fun k hk => by simp at hk; omega) (fun k hk => hk.1.elim), Mod.toExt (by repeat (first | with_reducible exact Ext.refl _ | refine Ext.drewN ?_ _ | refine Ext.drew ?_ | refine Ext.alloc ?_ _ | assumption | (refine Below.trans ?_ (by assumption)) | (refine Ext.trans ?_ (by assumption)) | (refine Below.trans ?_ (Below.mono (by assumption) (by omega))))) hW (by intro k hk; omega)⟩

set_option maxHeartbeats 800000 in
theorem twins_any {A : Nat → Prop} (v v2 : Value) (ls ms : List (List Int × Bool)) (w : World) (h : RdS Ln A w v ls) (h2 : RdS Ln A w v2 ms) (hn : usedL (ls ++ ms) ≤ 140737488355328) (hm : (ls ++ ms).length ≤ 100000000) :
    Calls Tryz.prog 100 #[v, v2] w fun e w' => ∃ Ad c, e = .returned (.slice Ad (ls ++ ms).length c) ∧ OwnS Ln 133 w.heap.size (fun k => w.heap.size ≤ k) w' (.slice Ad (ls ++ ms).length c) (ls ++ ms) ∧ Ext w w' := by
  obtain ⟨Ad, c, rfl, hc1, hc2⟩ := h.shape
  obtain ⟨Ad2, c2, rfl, hc3, hc4⟩ := h2.shape
  have H := Lib.hid h
  have H2 := Lib.hid h2
  have hm0 : ls.length + ms.length ≤ 100000000 := by simpa using hm
  obtain ⟨zs, hz⟩ : ∃ zs, zs = ls ++ ms := ⟨_, rfl⟩
  rw [← hz] at hn hm ⊢
  have HZ := Lib.hid hz
  clear h h2 hz
  go_enter Tryz.func100, Tryz.ntmps100
  go_wp2_with ((go_at_call 125; refine (concat_cl _ _ _ _ ls ms (RdN.twoB rfl _ _ _) (H.out.alloc _) (H2.out.alloc _) (by omega)).mono ?_; rintro e w1 ⟨A1, c1, rfl, hown1, hE1⟩); rw [← HZ.out] at hown1 ⊢)
  have E1 : Ext w w1 := (by repeat (first | with_reducible exact Ext.refl _ | refine Ext.drewN ?_ _ | refine Ext.drew ?_ | refine Ext.alloc ?_ _ | assumption | (refine Below.trans ?_ (by assumption)) | (refine Ext.trans ?_ (by assumption)) | (refine Below.trans ?_ (Below.mono (by assumption) (by omega)))))
  have H := Lib.hid (hown1.rd (A := fun _ => True) (fun _ _ => trivial) (fun _ _ => trivial)).y
  clear hown1 hE1 H2 hm0
  have hsz1 := E1.size
  go_loopw [5, 13] (fun s i wr => ∃ k : Nat, k ≤ zs.length ∧ i = .int .i64 k ∧ OwnS Ln 133 w1.heap.size (fun k => w1.heap.size ≤ k) wr s (zs.take k) ∧ Ext w1 wr) (fun _ i _ => zs.length - (intOf i).toNat)
  case atStart => exact ⟨0, Nat.zero_le _, rfl, OwnS.nil _ _ _ _ _, Ext.refl _⟩
  case round =>
    obtain ⟨k, hk, rfl, hO, hE⟩ := hrel
    have HO := Lib.hid hO
    have hsz := hE.size
    obtain ⟨Ao, co, rfl, _, _⟩ := hO.shapeN (n := k) (by simp; omega)
    clear hO
    by_cases hlt : k < zs.length
    · obtain ⟨b, off, Ad', l, f, c', rfl, hx, hy, hd, hr, hl1, hl2⟩ := ln_at (H.out.ext hE) hlt
      have h5 := ln_len hd.out hn
      go_wp2_with (first
        | ((go_at_call 126; refine (twin_any _ l _ f _ (hr.out.ext (by repeat (first | exact Ext.refl _ | refine Ext.drew ?_ | refine Ext.alloc ?_ _))) h5).mono ?_; rintro e w2 ⟨A2, c2, rfl, hr2, hE2⟩))
        | ((at_builtin; refine wpList_app (B := fun k => w1.heap.size ≤ k) (A := fun k => (wr.alloc (.cells #[.slice Ad' l.length c', .bool f] 133)).heap.size ≤ k) rfl (.tmp 17) (.tmp 20) rfl Tryz.underlying78 info_cl rfl (HO.out.ext (by repeat (first | with_reducible exact Ext.refl _ | refine Ext.drewN ?_ _ | refine Ext.drew ?_ | refine Ext.alloc ?_ _ | assumption | (refine Below.trans ?_ (by assumption)) | (refine Ext.trans ?_ (by assumption)) | (refine Below.trans ?_ (Below.mono (by assumption) (by omega)))))) rfl (RdY.singleB (ln_rel (hr2.ext (by repeat (first | exact Ext.refl _ | refine Ext.drew ?_ | refine Ext.alloc ?_ _)))) (by repeat (first | ((with_reducible refine Blk.at_ _ _ ?_); simp; done) | with_reducible refine Blk.drew ?_ | with_reducible refine Blk.alloc ?_ _ | refine Blk.ext ?_ (by assumption)))) rfl (fun k _ hk => ⟨by simp at hk; omega, HO.out.newer (by simp at hk; omega)⟩) (N := k + 1) (by simp; omega) (by simp [maxLen]; omega) (by omega) (by have := hE2.size; simp at this ⊢; omega) ?_; intro A3 c3 w3 hown3 hM3 hB3; clear hM3)))
      go_roundw
      case rel => exact ⟨k + 1, by omega, by go_num, by rw [ln_snoc hd.out]; exact hown3, (by repeat (first | with_reducible exact Ext.refl _ | refine Ext.drewN ?_ _ | refine Ext.drew ?_ | refine Ext.alloc ?_ _ | assumption | (refine Below.trans ?_ (by assumption)) | (refine Ext.trans ?_ (by assumption)) | (refine Below.trans ?_ (Below.mono (by assumption) (by omega)))))⟩
      case measure => simp [intOf]; omega
    · go_wp2
      go_ret
      have : k = zs.length := by omega
      subst this
      have h0 := HO.out
      rw [List.take_length] at h0
      exact ⟨_, _, rfl, (h0.lower hsz1).mono (fun k _ hk => by omega), E1.trans hE⟩

theorem usedL_snoc (l : List (List Int × Bool)) (x : List Int × Bool) : usedL (l ++ [x]) = usedL l + szL x := by simp [usedL, List.sum_append]
/-- lines with one more, if there is room -/
def putL (ls : List (List Int × Bool)) (x : List Int × Bool) : List (List Int × Bool) × Bool := if usedL ls + szL x ≤ 1024 then (ls ++ [x], true) else (ls, false)
theorem ln_one {A : Nat → Prop} {w : World} {u : Value} {l : List Int} {f : Bool} {n : Nat} {t : TypeId} (h : RdS Ub A w u l) (hn : Blk w n t #[u, .bool f]) : RdS Ln (fun _ => True) w (.slice (some ⟨n, 0, none⟩) 1 1) [(l, f)] :=
  ⟨(RdY.singleB (ln_rel h) hn).mono fun _ _ _ => trivial, fun _ _ _ => trivial⟩
set_option maxHeartbeats 800000 in
theorem put_any {A : Nat → Prop} (v v2 : Value) (ls : List (List Int × Bool)) (l : List Int) (f : Bool) (w : World) (h : RdS Ln A w v ls) (h2 : RdS Ub A w v2 l) (hn : usedL ls + szL (l, f) ≤ 140737488355328) (hm : ls.length ≤ 1000000) :
    Calls Tryz.prog 144 #[v, .agg #[v2, .bool f]] w fun e w' => ∃ Ad c, e = .returned (.tuple #[.slice Ad (putL ls (l, f)).1.length c, .bool (putL ls (l, f)).2]) ∧ OwnS Ln 133 w.heap.size (fun k => w.heap.size ≤ k) w' (.slice Ad (putL ls (l, f)).1.length c) (putL ls (l, f)).1 ∧ Ext w w' := by
  obtain ⟨Ad, c, rfl, hc1, hc2⟩ := h.shape
  obtain ⟨Ad2, c2, rfl, hc3, hc4⟩ := h2.shape
  have H := Lib.hid (h.mono (B := fun _ => True) fun _ _ _ => trivial)
  have H2 := Lib.hid (h2.mono (B := fun _ => True) fun _ _ _ => trivial)
  have h0 := usedL_nn ls
  have h1 := szL_nn (l, f)
  have h5 : l.length ≤ 140737488355328 := by
    have : (l.length : Int) ≤ szL (l, f) := by unfold szL; split <;> simp <;> omega
    omega
  have hU2 : usedL (ls ++ [(l, f)]) ≤ 140737488355328 := by rw [usedL_snoc]; exact hn
  have hw : IntKind.i64.wrap (usedL ls + szL (l, f)) = usedL ls + szL (l, f) := IntWalk.i64_in _ (by omega)
  clear h h2
  by_cases hp : usedL ls + szL (l, f) ≤ 1024
  · have HP : Hid (putL ls (l, f) = (ls ++ [(l, f)], true)) := Lib.hid (if_pos hp)
    rw [HP.out]
    go_enter Tryz.func144, Tryz.ntmps144
    go_wp2
    go_region_held3 (fun w' => w'.cell? ⟨w.heap.size, 0, none⟩ = some (.slice Ad2 l.length c2) ∧ w'.cell? ⟨w.heap.size, 1, none⟩ = some (.bool f)) (go_keep) (first
      | (((go_at_call 40; refine (used_any _ ls _ (H.out.y.ext (by repeat (first | with_reducible exact Ext.refl _ | refine Ext.drewN ?_ _ | refine Ext.drew ?_ | refine Ext.alloc ?_ _ | assumption | (refine Below.trans ?_ (by assumption)) | (refine Ext.trans ?_ (by assumption)) | (refine Below.trans ?_ (Below.mono (by assumption) (by omega)))))) (by omega)).mono ?_; rintro e w1 ⟨rfl, hE1⟩); have hc1 := Bc hE1; have hf1 := Bf hE1; have hz1 := Below.size hE1; (try simp at hz1); have hd1 := fun o => hc1 w.heap.size o (by (try simp) <;> omega)))
      | (((go_at_call 78; refine (size_any _ l _ _ _ h5).mono ?_; rintro e w2 ⟨rfl, hE2⟩); have hc2 := Bc hE2; have hf2 := Bf hE2; have hz2 := Below.size hE2; (try simp at hz2); have hd2 := fun o => hc2 w.heap.size o (by (try simp) <;> omega))))
    all_goals
      go_wp2_with ((go_at_call 100; refine (twins_any (A := fun _ => True) _ _ ls [(l, f)] _ (H.out.ext (by repeat (first | with_reducible exact Ext.refl _ | refine Ext.drewN ?_ _ | refine Ext.drew ?_ | refine Ext.alloc ?_ _ | assumption | (refine Below.trans ?_ (by assumption)) | (refine Ext.trans ?_ (by assumption)) | (refine Below.trans ?_ (Below.mono (by assumption) (by omega)))))) (ln_one (H2.out.ext (by repeat (first | with_reducible exact Ext.refl _ | refine Ext.drewN ?_ _ | refine Ext.drew ?_ | refine Ext.alloc ?_ _ | assumption | (refine Below.trans ?_ (by assumption)) | (refine Ext.trans ?_ (by assumption)) | (refine Below.trans ?_ (Below.mono (by assumption) (by omega)))))) (by repeat (first | ((with_reducible refine Blk.at_ _ _ ?_); simp; done) | with_reducible refine Blk.drew ?_ | with_reducible refine Blk.alloc ?_ _ | refine Blk.ext ?_ (by assumption)))) hU2 (by simp; omega)).mono ?_; rintro e w3 ⟨A3, c3, rfl, hown3, hE3⟩))
      go_ret2
      have hE : Ext w w3 := (by repeat (first | with_reducible exact Ext.refl _ | refine Ext.drewN ?_ _ | refine Ext.drew ?_ | refine Ext.alloc ?_ _ | assumption | (refine Below.trans ?_ (by assumption)) | (refine Ext.trans ?_ (by assumption)) | (refine Below.trans ?_ (Below.mono (by assumption) (by omega)))))
      exact ⟨A3, c3, by simp, (hown3.lower (by (try simp) <;> omega)).mono (fun k _ hk => Nat.le_trans (by (try simp) <;> omega) hk), hE⟩
  · have HP : Hid (putL ls (l, f) = (ls, false)) := Lib.hid (if_neg hp)
    rw [HP.out]
    go_enter Tryz.func144, Tryz.ntmps144
    go_wp2
    go_region_held3 (fun w' => w'.cell? ⟨w.heap.size, 0, none⟩ = some (.slice Ad2 l.length c2) ∧ w'.cell? ⟨w.heap.size, 1, none⟩ = some (.bool f)) (go_keep) (first
      | (((go_at_call 40; refine (used_any _ ls _ (H.out.y.ext (by repeat (first | with_reducible exact Ext.refl _ | refine Ext.drewN ?_ _ | refine Ext.drew ?_ | refine Ext.alloc ?_ _ | assumption | (refine Below.trans ?_ (by assumption)) | (refine Ext.trans ?_ (by assumption)) | (refine Below.trans ?_ (Below.mono (by assumption) (by omega)))))) (by omega)).mono ?_; rintro e w1 ⟨rfl, hE1⟩); have hc1 := Bc hE1; have hf1 := Bf hE1; have hz1 := Below.size hE1; (try simp at hz1); have hd1 := fun o => hc1 w.heap.size o (by (try simp) <;> omega)))
      | (((go_at_call 78; refine (size_any _ l _ _ _ h5).mono ?_; rintro e w2 ⟨rfl, hE2⟩); have hc2 := Bc hE2; have hf2 := Bf hE2; have hz2 := Below.size hE2; (try simp at hz2); have hd2 := fun o => hc2 w.heap.size o (by (try simp) <;> omega))))
    all_goals
      go_wp2_with ((go_at_call 100; refine (twins_any (A := fun _ => True) _ _ ls [] _ (H.out.ext (by repeat (first | with_reducible exact Ext.refl _ | refine Ext.drewN ?_ _ | refine Ext.drew ?_ | refine Ext.alloc ?_ _ | assumption | (refine Below.trans ?_ (by assumption)) | (refine Ext.trans ?_ (by assumption)) | (refine Below.trans ?_ (Below.mono (by assumption) (by omega)))))) (RdS.nil _ _ _) (by simp; omega) (by simp; omega)).mono ?_; rintro e w3 ⟨A3, c3, rfl, hown3, hE3⟩); rw [List.append_nil] at hown3 ⊢)
      go_ret2
      have hE : Ext w w3 := (by repeat (first | with_reducible exact Ext.refl _ | refine Ext.drewN ?_ _ | refine Ext.drew ?_ | refine Ext.alloc ?_ _ | assumption | (refine Below.trans ?_ (by assumption)) | (refine Ext.trans ?_ (by assumption)) | (refine Below.trans ?_ (Below.mono (by assumption) (by omega)))))
      exact ⟨A3, c3, by simp, (hown3.lower (by (try simp) <;> omega)).mono (fun k _ hk => Nat.le_trans (by (try simp) <;> omega) hk), hE⟩
end Go.Proofs.YtfnicinnjkbedaaGreatDoor.Ca
namespace Go.Proofs.YtfnicinnjkbedaaGreatDoor.Ca
set_option maxRecDepth 100000
open Go.RowKit Go.Kb

/-- what a read takes, what is left, whether there was a line -/
def readL (ls : List (List Int × Bool)) (n : Int) : List Int × List (List Int × Bool) × Bool :=
  match ls with
  | [] => ([], [], false)
  | (l, f) :: t => if n ≤ 0 then ([], (l, f) :: t, true) else if (l.length : Int) ≤ n then (l, t, true) else (l.take n.toNat, (l.drop n.toNat, f) :: t, true)
theorem usedL_cons (x : List Int × Bool) (l : List (List Int × Bool)) : usedL (x :: l) = szL x + usedL l := by simp [usedL]
theorem ln_tail {A : Nat → Prop} {w : World} {b off n c : Nat} {x : List Int × Bool} {t : List (List Int × Bool)} (h : RdS Ln A w (.slice (some ⟨b, off, none⟩) (n + 1) c) (x :: t)) :
    RdS Ln A w (.slice (if c = 1 then some ⟨b, off, none⟩ else some ⟨b, off + 2, none⟩) n (c - 1)) t := by
  have h1 := h.from_ (k := 1) (by omega)
  by_cases hc : c = 1
  · rw [if_pos hc] at h1 ⊢; exact h1
  · rw [if_neg hc] at h1 ⊢; exact h1
/-- what the contracts of reads say -/
def ReadPost (base : Nat) (r : List Int × List (List Int × Bool) × Bool) (w : World) (e : Ending) (w' : World) : Prop :=
  ∃ Ab cb Ar cr, e = .returned (.tuple #[.slice Ab r.1.length cb, .slice Ar r.2.1.length cr, .bool r.2.2]) ∧ RdS Ub (fun k => base ≤ k) w' (.slice Ab r.1.length cb) r.1 ∧ RdS Ln (fun k => base ≤ k) w' (.slice Ar r.2.1.length cr) r.2.1 ∧ Ext w w'
set_option maxHeartbeats 800000 in
theorem read_any {A : Nat → Prop} (v : Value) (ls : List (List Int × Bool)) (n : Int) (w : World) (h : RdS Ln A w v ls) (hn : usedL ls ≤ 140737488355328) (hm : ls.length ≤ 1000000) :
    Calls Tryz.prog 51 #[v, .int .i64 n] w (ReadPost w.heap.size (readL ls n) w) := by
  obtain ⟨Ad, c, rfl, hc1, hc2⟩ := h.shape
  have H := Lib.hid (h.mono (B := fun _ => True) fun _ _ _ => trivial)
  clear h
  rcases ls with _ | ⟨⟨l, f⟩, t⟩
  · have HR : Hid (readL [] n = ([], [], false)) := Lib.hid rfl
    rw [HR.out]
    go_enter Tryz.func51, Tryz.ntmps51
    go_wp2
    refine bodyPost_ret (v := .tuple #[.slice none 0 0, .slice none 0 0, .bool false]) (by simp [results, Tryz.results51, go_sem]) rfl ?_
    exact ⟨_, _, _, _, rfl, RdS.nil _ _ _, RdS.nil _ _ _, (by repeat (first | with_reducible exact Ext.refl _ | refine Ext.drewN ?_ _ | refine Ext.drew ?_ | refine Ext.alloc ?_ _ | assumption | (refine Below.trans ?_ (by assumption)) | (refine Ext.trans ?_ (by assumption)) | (refine Below.trans ?_ (Below.mono (by assumption) (by omega)))))⟩
  · have hlen : ((l, f) :: t).length = t.length + 1 := rfl
    simp only [hlen] at hc1 hm
    have h1 := szL_nn (l, f)
    have h2 := usedL_nn t
    have h3 : szL (l, f) + usedL t ≤ 140737488355328 := by rw [← usedL_cons]; exact hn
    have h5 : l.length ≤ 140737488355328 := by
      have : (l.length : Int) ≤ szL (l, f) := by unfold szL; split <;> simp <;> omega
      omega
    obtain ⟨b, off, Ad', l', f', c', rfl, hx, hy, hd, hr, hl1, hl2⟩ := ln_at (H.out.y) (j := 0) (by simp)
    have hd0 := hd.out
    simp only [List.getElem?_cons_zero, Option.some.injEq, Prod.mk.injEq] at hd0
    obtain ⟨rfl, rfl⟩ := hd0
    rw [Nat.zero_mul, Nat.add_zero] at hx hy
    have hbl : b < w.heap.size := World.block_lt_of_cell? w _ hx
    clear hd
    by_cases hn0 : n ≤ 0
    · have HR : Hid (readL ((l, f) :: t) n = ([], (l, f) :: t, true)) := Lib.hid (by simp [readL, hn0])
      rw [HR.out]
      have hn1 := Lib.hid hn
      clear hn h1 h2 h3 h5
      go_enter Tryz.func51, Tryz.ntmps51
      go_wp2_with ((go_at_call 100; refine (twins_any (A := fun _ => True) _ _ ((l, f) :: t) [] _ (H.out.ext (by repeat (first | with_reducible exact Ext.refl _ | refine Ext.drewN ?_ _ | refine Ext.drew ?_ | refine Ext.alloc ?_ _ | assumption | (refine Below.trans ?_ (by assumption)) | (refine Ext.trans ?_ (by assumption)) | (refine Below.trans ?_ (Below.mono (by assumption) (by omega)))))) (RdS.nil _ _ _) (by rw [List.append_nil]; exact hn1.out) (by simp; omega)).mono ?_; rintro e w3 ⟨A3, c3, rfl, hown3, hE3⟩); rw [List.append_nil] at hown3 ⊢)
      refine bodyPost_ret (v := .tuple #[.slice none 0 0, .slice A3 (t.length + 1) c3, .bool true]) (by simp [results, Tryz.results51, go_sem]) rfl ?_
      exact ⟨_, _, _, _, rfl, RdS.nil _ _ _, hown3.rd (fun _ h => h) (fun _ h => h), (by repeat (first | with_reducible exact Ext.refl _ | refine Ext.drewN ?_ _ | refine Ext.drew ?_ | refine Ext.alloc ?_ _ | assumption | (refine Below.trans ?_ (by assumption)) | (refine Ext.trans ?_ (by assumption)) | (refine Below.trans ?_ (Below.mono (by assumption) (by omega)))))⟩
    · by_cases hle : (l.length : Int) ≤ n
      · have HR : Hid (readL ((l, f) :: t) n = (l, t, true)) := Lib.hid (by simp [readL, hn0, hle])
        rw [HR.out]
        have HT := Lib.hid (ln_tail H.out)
        have h6 := Lib.hid (show usedL (t ++ []) ≤ 140737488355328 by rw [List.append_nil]; omega)
        have h7 := Lib.hid (show (t ++ []).length ≤ 100000000 by simp; omega)
        have i1 : (1 : Int) ≤ (t.length : Int) + 1 := by omega
        clear h1 h2 h3 hn
        rcases Decidable.em (c = 1) with hc | hc
        all_goals
          simp only [hc, if_true, if_false] at HT
          go_enter Tryz.func51, Tryz.ntmps51
          go_wp2
          go_region_held3 (fun w' => w'.cell? ⟨b, off, none⟩ = some (.slice Ad' l.length c')) (go_keep) (first
            | (((go_at_call 38; refine (clone_u8 (A := fun _ => False) _ l _ (RI.y (RdS.ri (hr.out.ext (by repeat (first | with_reducible exact Ext.refl _ | refine Ext.drewN ?_ _ | refine Ext.drew ?_ | refine Ext.alloc ?_ _ | assumption | (refine Below.trans ?_ (by assumption)) | (refine Ext.trans ?_ (by assumption)) | (refine Below.trans ?_ (Below.mono (by assumption) (by omega)))))))) (by omega)).mono ?_; rintro e w1 ⟨A1, c1, rfl, hown1, hE1⟩); have hc1 := Bc hE1; have hf1 := Bf hE1; have hz1 := Below.size hE1; (try simp at hz1); have hd1 := hc1 b off (by (try simp) <;> omega)))
            | (((go_at_call 100; refine (twins_any (A := fun _ => True) _ _ t [] _ (HT.out.ext (by repeat (first | with_reducible exact Ext.refl _ | refine Ext.drewN ?_ _ | refine Ext.drew ?_ | refine Ext.alloc ?_ _ | assumption | (refine Below.trans ?_ (by assumption)) | (refine Ext.trans ?_ (by assumption)) | (refine Below.trans ?_ (Below.mono (by assumption) (by omega)))))) (RdS.nil _ _ _) h6.out h7.out).mono ?_; rintro e w3 ⟨A3, c3, rfl, hown3, hE3⟩); have hc3 := Bc hE3; have hf3 := Bf hE3; have hz3 := Below.size hE3; (try simp at hz3); have hd3 := hc3 b off (by (try simp) <;> omega); rw [List.append_nil] at hown3 ⊢)))
          all_goals
            go_wp2
            refine bodyPost_ret (v := .tuple #[.slice A1 l.length c1, .slice A3 t.length c3, .bool true]) (by simp [results, Tryz.results51, go_sem]) rfl ?_
            first
              | exact ⟨_, _, _, _, rfl, (hown1.ext hE3).rd (fun k hk => Nat.le_trans (by (try simp) <;> omega) hk) (fun k hk => hk.1.elim), hown3.rd (fun k hk => Nat.le_trans (by (try simp) <;> omega) hk) (fun k hk => Nat.le_trans (by (try simp) <;> omega) hk), (by repeat (first | with_reducible exact Ext.refl _ | refine Ext.drewN ?_ _ | refine Ext.drew ?_ | refine Ext.alloc ?_ _ | assumption | (refine Below.trans ?_ (by assumption)) | (refine Ext.trans ?_ (by assumption)) | (refine Below.trans ?_ (Below.mono (by assumption) (by omega)))))⟩
              | exact ⟨_, _, _, _, rfl, hown1.rd (fun k hk => Nat.le_trans (by (try simp) <;> omega) hk) (fun k hk => hk.1.elim), (hown3.ext hE1).rd (fun k hk => Nat.le_trans (by (try simp) <;> omega) hk) (fun k hk => Nat.le_trans (by (try simp) <;> omega) hk), (by repeat (first | with_reducible exact Ext.refl _ | refine Ext.drewN ?_ _ | refine Ext.drew ?_ | refine Ext.alloc ?_ _ | assumption | (refine Below.trans ?_ (by assumption)) | (refine Ext.trans ?_ (by assumption)) | (refine Below.trans ?_ (Below.mono (by assumption) (by omega)))))⟩
      · have HR : Hid (readL ((l, f) :: t) n = (l.take n.toNat, (l.drop n.toNat, f) :: t, true)) := Lib.hid (by simp [readL, hn0, hle])
        rw [HR.out]
        obtain ⟨m, rfl⟩ := Int.eq_ofNat_of_zero_le (show 0 ≤ n by omega)
        have hm1 : 0 < m := by omega
        have hm2 : m < l.length := by omega
        have hn1 := Lib.hid (show usedL ((l, f) :: t ++ []) ≤ 140737488355328 by rw [List.append_nil]; exact hn)
        have h7 := Lib.hid (show ((l, f) :: t ++ []).length ≤ 100000000 by simp; omega)
        clear h1 h2 h3 hn
        go_enter Tryz.func51, Tryz.ntmps51
        go_wp2_with fail
        refine (twins_any (A := fun _ => True) _ _ ((l, f) :: t) [] _ (H.out.ext (by repeat (first | with_reducible exact Ext.refl _ | refine Ext.drewN ?_ _ | refine Ext.drew ?_ | refine Ext.alloc ?_ _ | assumption | (refine Below.trans ?_ (by assumption)) | (refine Ext.trans ?_ (by assumption)) | (refine Below.trans ?_ (Below.mono (by assumption) (by omega)))))) (RdS.nil _ _ _) hn1.out h7.out).mono ?_
        rintro e w3 ⟨A3, c3, rfl, hown3, hE3⟩
        rw [List.append_nil] at hown3 ⊢
        obtain ⟨g, rfl, hg, hfr⟩ := hown3.addr (by simp)
        obtain ⟨b3, off3, A4, l4, f4, c4, hb3, hx3, hy3, hd3, hr3, hl3, hl4⟩ := ln_at hown3.y (j := 0) (by simp)
        have hd0 := hd3.out
        simp only [List.getElem?_cons_zero, Option.some.injEq, Prod.mk.injEq] at hd0
        obtain ⟨rfl, rfl⟩ := hd0
        simp only [Option.some.injEq, Addr.mk.injEq, and_true] at hb3
        obtain ⟨rfl, rfl⟩ := hb3
        simp only [Nat.zero_mul, Nat.add_zero] at hx3 hy3
        have hf0 := hfr 0
        have HO := Lib.hid hown3
        have hrow := (hown3.row g rfl).2
        clear hd3 hown3 hfr
        rcases Decidable.em (c4 = m) with hc | hc
        · omega
        have HF := Lib.hid (RI.fromB (hr3.out.ri) (lo := m) (by omega))
        simp only [hc, if_false] at HF
        go_wp2_with ((go_at_call 38; refine (clone_u8 (A := fun _ => False) _ (l.drop m) _ (RI.y HF.out) (by simp; omega)).mono ?_; rintro e w4 ⟨A5, c5, rfl, hown5, hE5⟩); have hc5 := Bc hE5; have hf5 := Bf hE5; have hz5 := Below.size hE5; (try simp at hz5); have hd5 := hc5 g 0 hrow; have he5 := hf5 g 0 hrow)
        refine bodyPost_ret (v := .tuple #[.slice A4 m m, .slice (some ⟨g, 0, none⟩) (t.length + 1) c3, .bool true]) (by simp [results, Tryz.results51, go_sem]) rfl ?_
        have hM : Mod (fun k => k = g) w4 (w4.setCell ⟨g, 0, none⟩ (.slice A5 (l.length - m) c5)) := (by repeat (first | with_reducible exact Mod.refl _ _ | refine Mod.drew ?_ | refine Mod.drewN ?_ _ | refine Mod.set1 ?_ _))
        have hl : (l.drop m).length = l.length - m := by simp
        rw [hl] at hown5
        have hO := (HO.out.ext hE5).store (j := 0) (i := 0) (x := .slice A5 (l.length - m) c5) (d' := (l.drop m, f)) (by simp) (by decide) (fun cs d hd hrel => by
          simp only [List.getElem?_cons_zero, Option.some.injEq] at hd
          subst hd
          have hln := Ln.len hrel
          match cs, hln with
          | [u, u2], _ =>
            obtain ⟨_, rfl⟩ := ln_cells hrel
            exact ln_rel (hown5.rd (fun k hk => ⟨by omega, by omega⟩) (fun k hk => hk.1.elim)))
        refine ⟨A4, m, some ⟨g, 0, none⟩, c3, by simp; omega, ?_, hO.rd (fun _ h => h) (fun _ h => h), ?_⟩
        · have h1 := ((((RdS.to_ (k := m) (h := ⟨hr3.out.y, hr3.out.2⟩) (by omega)).cap (c' := m) (Nat.le_refl _) (by omega)).ext hE5).mod hM (fun k _ hk => by have := hk.2; simp [Value.ownBlock] at this; omega)).mono (B := fun k => w.heap.size ≤ k) (fun k _ hk => hk.1)
          have h2 : (l.take m).length = m := by simp; omega
          simpa [h2] using h1
        · exact Mod.toExt (by repeat (first | with_reducible exact Ext.refl _ | refine Ext.drewN ?_ _ | refine Ext.drew ?_ | refine Ext.alloc ?_ _ | assumption | (refine Below.trans ?_ (by assumption)) | (refine Ext.trans ?_ (by assumption)) | (refine Below.trans ?_ (Below.mono (by assumption) (by omega))))) hM (by intro k hk; omega)
end Go.Proofs.YtfnicinnjkbedaaGreatDoor.Ca
