/- Written by chain.py of +Base +Rep A02[-number_any,-four_any]@Fr P02. No condition. -/
import Derived.Test.YtldijmappinngaaGreatDoorBase
import Derived.Test.YtldijmappinngaaGreatDoorRep
import Derived.Test.YtldijmappinngaaGreatDoorRows
namespace Go.Proofs.YtldijmappinngaaGreatDoor.Fr
open Go.RowKit Go.Kb
set_option maxRecDepth 100000

set_option maxHeartbeats 400000 in
theorem fits_any (n : Int) (w : World) :
    Calls Tryz.prog 22 #[.int .i64 n] w fun e w' => e = .returned (.bool (decide (1 ≤ n ∧ n ≤ 33792))) ∧ w = w' := by
  by_cases h : 1 ≤ n
  · go_enter Tryz.func22, Tryz.ntmps22
    go_wp2
    go_ret
    simp [h]
  · go_enter Tryz.func22, Tryz.ntmps22
    go_wp2
    go_ret
    simp; omega

theorem take_ne {xs ys : List Int} {k : Nat} {x y : Int} (h1 : xs[k]? = some x) (h2 : ys[k]? = some y) (hne : x ≠ y) : xs ≠ ys := by
  rintro rfl
  rw [h1] at h2
  exact hne (Option.some.inj h2)
theorem take_all {xs ys : List Int} {k : Nat} (hk : k ≤ xs.length) (hn : ¬ k < xs.length) (hl : xs.length = ys.length) (ht : xs.take k = ys.take k) : xs = ys := by
  have : k = xs.length := by omega
  subst this
  rw [List.take_of_length_le (Nat.le_refl _), List.take_of_length_le (by omega)] at ht
  exact ht
set_option maxHeartbeats 400000 in
theorem bytes_q (va vb : Value) (xs ys : List Int) (w : World) (ha : RI .u8 w va xs) (hb : RI .u8 w vb ys) :
    Calls Tryz.prog 19 #[va, vb] w fun e w' => e = .returned (.bool (decide (xs = ys))) ∧ Qt w w' := by
  have ha' := ha
  have hb' := hb
  obtain ⟨_, A, c, rfl, hnc, hcm, _⟩ := ha'
  obtain ⟨_, A2, c2, rfl, hnc2, hcm2, _⟩ := hb'
  have Ha := Lib.hid ha
  have Hb := Lib.hid hb
  clear ha hb
  unfold maxLen at hcm hcm2
  by_cases hl : xs.length = ys.length
  · have HL := Lib.hid hl
    have hl2 : ((xs.length : Int) == (ys.length : Int)) = true := by simp [hl]
    have hl3 : ((xs.length : Int) != (ys.length : Int)) = false := by simp [hl]
    clear hl
    go_enter Tryz.func19, Tryz.ntmps19
    go_wp2
    clear hl2 hl3
    go_loopw [13] (fun i wr => ∃ k : Nat, k ≤ xs.length ∧ i = .int .i64 k ∧ xs.take k = ys.take k ∧ Qt w wr) (fun i _ => xs.length - (intOf i).toNat)
    case atStart => exact ⟨0, Nat.zero_le _, rfl, by simp, Qt.refl _⟩
    case round =>
      obtain ⟨k, hk, rfl, htake, hq⟩ := hrel
      have HT := Lib.hid htake
      have Ha := Lib.hid (Ha.out.ext hq.ext)
      have Hb := Lib.hid (Hb.out.ext hq.ext)
      clear htake
      by_cases hlt : k < xs.length
      · have hlt2 : k < ys.length := by have := HL.out; omega
        obtain ⟨b, off, x, rfl, hc1, hx⟩ := Ha.out.icell hlt
        obtain ⟨b2, off2, y, rfl, hc2, hy⟩ := Hb.out.icell hlt2
        by_cases he : x = y
        · subst he
          go_wp2
          go_quiet (fail)
          go_wp2
          go_roundw
          case rel => exact ⟨k + 1, by omega, by go_num, by rw [take_succ_of hx.out, take_succ_of hy.out, HT.out], (by repeat (first | with_reducible exact Qt.refl _ | refine Qt.drewN ?_ _ | assumption | refine Qt.trans ?_ (by assumption)))⟩
          case measure => simp [intOf]; omega
        · have he2 : (x == y) = false := by simp [he]
          have he3 : (x != y) = true := by simp [he]
          go_wp2
          go_quiet (fail)
          go_wp2
          go_ret
          exact ⟨by simp [take_ne hx.out hy.out he], (by repeat (first | with_reducible exact Qt.refl _ | refine Qt.drewN ?_ _ | assumption | refine Qt.trans ?_ (by assumption)))⟩
      · go_wp2
        go_ret
        exact ⟨by simp [take_all hk hlt HL.out HT.out], (by repeat (first | with_reducible exact Qt.refl _ | refine Qt.drewN ?_ _ | assumption | refine Qt.trans ?_ (by assumption)))⟩
  · have hl2 : ((xs.length : Int) == (ys.length : Int)) = false := by simp; omega
    have hl3 : ((xs.length : Int) != (ys.length : Int)) = true := by simp; omega
    have hne : xs ≠ ys := fun h => hl (by rw [h])
    have HN := Lib.hid hne
    clear hne hl
    go_enter Tryz.func19, Tryz.ntmps19
    go_wp2
    go_ret
    exact ⟨by simp [HN.out], Qt.refl _⟩

theorem bytes_any (va vb : Value) (xs ys : List Int) (w : World) (ha : RI .u8 w va xs) (hb : RI .u8 w vb ys) :
    Calls Tryz.prog 19 #[va, vb] w fun e w' => e = .returned (.bool (decide (xs = ys))) ∧ Ext w w' :=
  (bytes_q va vb xs ys w ha hb).mono fun _ _ ⟨he, hq⟩ => ⟨he, hq.ext⟩
/-- four bytes of a number -/
def four (n : Int) : List Int := [n / 16777216, n / 65536 % 256, n / 256 % 256, n % 256]
theorem four_cells {w : World} {v : Value} {a b c d : Int} {r : List Int} (h : RI .u8 w v (a :: b :: c :: d :: r)) :
    ∃ B off n cap, v = .slice (some ⟨B, off, none⟩) n cap ∧ 4 ≤ n ∧ n ≤ maxLen ∧ w.cell? ⟨B, off, none⟩ = some (.int .u8 a) ∧ w.cell? ⟨B, off + 1, none⟩ = some (.int .u8 b) ∧ w.cell? ⟨B, off + 2, none⟩ = some (.int .u8 c) ∧ w.cell? ⟨B, off + 3, none⟩ = some (.int .u8 d) := by
  obtain ⟨B, off, cap, hv, h1, h2, hc⟩ := h.form (by simp)
  exact ⟨B, off, _, cap, hv, by simp, by simpa using Nat.le_trans h1 h2, hc 0 _ rfl, hc 1 _ rfl, hc 2 _ rfl, hc 3 _ rfl⟩
set_option maxHeartbeats 400000 in
theorem length_any (v : Value) (l : List Int) (w : World) (hl : RI .u8 w v l) (hb : Bs l) (h4 : 4 ≤ l.length) :
    Calls Tryz.prog 25 #[v] w fun e w' => e = .returned (.int .i64 (hd4 l)) ∧ Ext w w' := by
  obtain ⟨a, b, c, d, r, rfl⟩ := four_of h4
  have h := hl
  have hB := hb
  clear hl hb h4
  obtain ⟨B, off, n, cap, rfl, h4, hm, c0, c1, c2, c3⟩ := four_cells h
  unfold maxLen at hm
  have ba := hB a (by simp)
  have bb := hB b (by simp)
  have bc := hB c (by simp)
  have bd := hB d (by simp)
  have i0 : (0 : Int) < (n : Int) := by omega
  have i1 : (1 : Int) < (n : Int) := by omega
  have i2 : (2 : Int) < (n : Int) := by omega
  have i3 : (3 : Int) < (n : Int) := by omega
  clear h hB
  go_enter Tryz.func25, Tryz.ntmps25
  go_wp2
  go_quiet (fail)
  go_wp2
  go_ret
  exact ⟨ret_int (by rw [four_join a b c d ba bb bc bd]; simp [hd4]), (by repeat (first | with_reducible exact Ext.refl _ | refine Ext.drewN ?_ _ | refine Ext.drew ?_ | refine Ext.alloc ?_ _ | assumption | (refine Below.trans ?_ (by assumption)) | (refine Ext.trans ?_ (by assumption)) | (refine Below.trans ?_ (Below.mono (by assumption) (by omega)))))⟩
/- append at one slice type -/
theorem info_u8 : (Tryz.prog.info? 5).map (fun i => (i.zero, i.size, i.bytes)) = some (some (.int .u8 0), 1, 1) := by kernel_rfl
theorem app_u8 (w : World) {ops : Array Oper} {rest : List Oper} {o : Oper} {a : Act} {Q : Exit → Act → World → Prop} (hgd : o.guard = none) (s x : Operand)
    (ho : o.op = .call { callee := .builtin .append, args := #[s, x], argTypes := #[25, 25] })
    (base : Nat) (v : Value) (n : Nat) (xs : List Value) (hs : a.eval s = v) (hown : w.ownsRow base 5 1 v n xs)
    (y : Value) (m : Nat) (news : List Value) (hx : a.eval x = y) (hr : RdN w 1 y m news) (h1 : ∀ u ∈ news, u.oneCell' = true)
    (hb : n + m ≤ 137438953472) (hbase : base ≤ w.heap.size)
    (h : ∀ v' w', w'.ownsRow base 5 1 v' (n + m) (xs ++ news) → Below base w w' → w.grownBy w' v.ownBlock → (v'.ownBlock = v.ownBlock ∨ v'.ownBlock = some w.heap.size) → wpList Tryz.prog ops Q rest (a.put o.dst v') w') : wpList Tryz.prog ops Q (o :: rest) a w := by
  obtain ⟨i0, hi0, hz0, hz1, hz2⟩ := info_parts info_u8
  exact wpList_append_rd w hgd s x _ ho base _ i0 _ 1 1 Tryz.underlying25 hi0 hz0 hz1 hz2 rfl (by omega) v n xs hs hown y m news hx hr h1 (by unfold maxLen; omega) (by omega) hbase
    fun v' w' a1 a2 a3 => h v' w' a1 ((Below.refl _ _).grown a2 hbase fun k hk => (hown.lt k hk).1) a2 a3
theorem sapp_u8 (w : World) {ops : Array Oper} {o : Oper} {a : Act} {K : Act → World → Prop} {Q : Exit → Act → World → Prop} {E : Prop} (hgd : o.guard = none) (s x : Operand)
    (ho : o.op = .call { callee := .builtin .append, args := #[s, x], argTypes := #[25, 25] })
    (base : Nat) (v : Value) (n : Nat) (xs : List Value) (hs : a.eval s = v) (hown : w.ownsRow base 5 1 v n xs)
    (y : Value) (m : Nat) (news : List Value) (hx : a.eval x = y) (hr : RdN w 1 y m news) (h1 : ∀ u ∈ news, u.oneCell' = true)
    (hb : n + m ≤ 137438953472) (hbase : base ≤ w.heap.size)
    (h : ∀ v' w', w'.ownsRow base 5 1 v' (n + m) (xs ++ news) → Below base w w' → w.grownBy w' v.ownBlock → (v'.ownBlock = v.ownBlock ∨ v'.ownBlock = some w.heap.size) → K (a.put o.dst v') w') :
    if Region.wanted o (yielded ops a.tmps) = true then Oper.wp Tryz.prog o a w K Q else E := by
  obtain ⟨i0, hi0, hz0, hz1, hz2⟩ := info_parts info_u8
  exact step_append_rd w hgd s x _ ho base _ i0 _ 1 1 Tryz.underlying25 hi0 hz0 hz1 hz2 rfl (by omega) v n xs hs hown y m news hx hr h1 (by unfold maxLen; omega) (by omega) hbase
    fun v' w' a1 a2 a3 => h v' w' a1 ((Below.refl _ _).grown a2 hbase fun k hk => (hown.lt k hk).1) a2 a3
set_option maxHeartbeats 400000 in
theorem clone_u8 (v : Value) (n : Nat) (xs : List Value) (w : World) (h : RdN w 1 v n xs) (h1 : ∀ u ∈ xs, u.oneCell' = true) (hn : n ≤ 137438953472) :
    Calls Tryz.prog 26 #[v] w fun e w' => ∃ v', e = .returned v' ∧ w'.ownsRow w.heap.size 5 1 v' n xs ∧ Ext w w' := by
  obtain ⟨hl, A, c, rfl, hnc, hcm, hA⟩ := id h
  have HL := Lib.hid hl
  have H := Lib.hid h
  have H1 := Lib.hid h1
  clear h h1 hl
  have heq := fun u => Lib.run_eql_slice_nil (P := Tryz.prog) u 25 _ A n c 0 0 Tryz.underlying25
  rcases A with _ | ad
  · have h0 : n = 0 ∧ c = 0 := by
      rcases hA with rfl | ⟨b, off, h0, _⟩
      · omega
      · cases h0
    obtain ⟨rfl, rfl⟩ := h0
    obtain rfl : xs = [] := List.eq_nil_of_length_eq_zero (by simpa using HL.out)
    go_enter Tryz.func26, Tryz.ntmps26
    go_wp2
    go_ret
    exact ⟨_, rfl, World.ownsRow_nil _ _ _ _, (by repeat (first | with_reducible exact Ext.refl _ | refine Ext.drewN ?_ _ | refine Ext.drew ?_ | refine Ext.alloc ?_ _ | assumption | (refine Below.trans ?_ (by assumption)) | (refine Ext.trans ?_ (by assumption)) | (refine Below.trans ?_ (Below.mono (by assumption) (by omega)))))⟩
  · clear hA
    go_enter Tryz.func26, Tryz.ntmps26
    go_wp2_with ((at_builtin; refine app_u8 _ rfl _ _ rfl w.heap.size _ 0 [] rfl (own_lit w w.heap.size _ #[] (Nat.le_refl _) (Nat.zero_le _)) _ n xs rfl (H.out.alloc _) H1.out (by omega) (by simp) ?_; intro v1 w1 hown hB hg hat))
    go_ret
    exact ⟨_, rfl, by simpa using hown, (by repeat (first | with_reducible exact Ext.refl _ | refine Ext.drewN ?_ _ | refine Ext.drew ?_ | refine Ext.alloc ?_ _ | assumption | (refine Below.trans ?_ (by assumption)) | (refine Ext.trans ?_ (by assumption)) | (refine Below.trans ?_ (Below.mono (by assumption) (by omega)))))⟩
end Go.Proofs.YtldijmappinngaaGreatDoor.Fr
namespace Go.Kb.Frame
open Go.Kb

def num4 (a b c d : Int) : Int := a * 16777216 + b * 65536 + c * 256 + d
def feedGo : Nat → List Int → List (List Int) × Option (List Int)
  | f + 1, a :: b :: c :: d :: t =>
    if 1 ≤ num4 a b c d ∧ num4 a b c d ≤ 33792 then
      if (t.length : Int) < num4 a b c d then ([], some (a :: b :: c :: d :: t))
      else (t.take (num4 a b c d).toNat :: (feedGo f (t.drop (num4 a b c d).toNat)).1, (feedGo f (t.drop (num4 a b c d).toNat)).2)
    else ([], none)
  | _, r => ([], some r)
def feed (r : List Int) : List (List Int) × Option (List Int) := feedGo r.length r

theorem feedGo_fuel : ∀ (f g : Nat) (r : List Int), r.length ≤ f → r.length ≤ g → feedGo f r = feedGo g r := by
  intro f
  induction f with
  | zero =>
    intro g r h _
    have : r = [] := List.eq_nil_of_length_eq_zero (by omega)
    subst this
    cases g <;> rfl
  | succ f ih =>
    intro g r hf hg
    match r, g with
    | [], g => cases g <;> rfl
    | [_], g => cases g <;> rfl
    | [_, _], g => cases g <;> rfl
    | [_, _, _], g => cases g <;> rfl
    | a :: b :: c :: d :: t, 0 => simp at hg
    | a :: b :: c :: d :: t, g + 1 =>
      simp only [List.length_cons] at hf hg
      simp only [feedGo]
      rw [ih g (t.drop (num4 a b c d).toNat) (by rw [List.length_drop]; omega) (by rw [List.length_drop]; omega)]
theorem feed_short {r : List Int} (h : r.length < 4) : feed r = ([], some r) := by
  match r, h with
  | [], _ => rfl
  | [_], _ => rfl
  | [_, _], _ => rfl
  | [_, _, _], _ => rfl
  | _ :: _ :: _ :: _ :: _, h => simp at h; omega
theorem feed_bad {a b c d : Int} {t : List Int} (h : ¬ (1 ≤ num4 a b c d ∧ num4 a b c d ≤ 33792)) : feed (a :: b :: c :: d :: t) = ([], none) := by
  simp only [feed, List.length_cons, feedGo]
  rw [if_neg h]
theorem feed_wait {a b c d : Int} {t : List Int} (h : 1 ≤ num4 a b c d ∧ num4 a b c d ≤ 33792) (ht : (t.length : Int) < num4 a b c d) : feed (a :: b :: c :: d :: t) = ([], some (a :: b :: c :: d :: t)) := by
  simp only [feed, List.length_cons, feedGo]
  rw [if_pos h, if_pos ht]
theorem feed_more {a b c d : Int} {t : List Int} (h : 1 ≤ num4 a b c d ∧ num4 a b c d ≤ 33792) (ht : ¬ (t.length : Int) < num4 a b c d) :
    feed (a :: b :: c :: d :: t) = (t.take (num4 a b c d).toNat :: (feed (t.drop (num4 a b c d).toNat)).1, (feed (t.drop (num4 a b c d).toNat)).2) := by
  simp only [feed, List.length_cons, feedGo]
  rw [if_pos h, if_neg ht, feedGo_fuel _ (t.drop (num4 a b c d).toNat).length _ (by rw [List.length_drop]; omega) (Nat.le_refl _)]

theorem feed_bad4 {r : List Int} (h4 : 4 ≤ r.length) (h : ¬ (1 ≤ hd4 r ∧ hd4 r ≤ 33792)) : feed r = ([], none) := by
  obtain ⟨a, b, c, d, t, rfl⟩ := four_of h4
  exact feed_bad h
theorem feed_wait4 {r : List Int} (h4 : 4 ≤ r.length) (h : 1 ≤ hd4 r ∧ hd4 r ≤ 33792) (ht : (r.length : Int) < 4 + hd4 r) : feed r = ([], some r) := by
  obtain ⟨a, b, c, d, t, rfl⟩ := four_of h4
  have e : num4 a b c d = hd4 (a :: b :: c :: d :: t) := rfl
  refine feed_wait h ?_
  simp only [List.length_cons] at ht
  omega
theorem feed_more4 {r : List Int} {n : Nat} (h4 : 4 ≤ r.length) (h : 1 ≤ hd4 r ∧ hd4 r ≤ 33792) (hn : hd4 r = n) (ht : 4 + n ≤ r.length) :
    feed r = ((r.drop 4).take n :: (feed (r.drop (4 + n))).1, (feed (r.drop (4 + n))).2) := by
  obtain ⟨a, b, c, d, t, rfl⟩ := four_of h4
  have e : num4 a b c d = n := hn
  simp only [List.length_cons] at ht
  have h' : 1 ≤ num4 a b c d ∧ num4 a b c d ≤ 33792 := h
  rw [feed_more h' (by omega), e]
  have e2 : (a :: b :: c :: d :: t).drop (4 + n) = t.drop n := by rw [Nat.add_comm]; rfl
  rw [e2]
  rfl

/-- what a framer comes to: itself, the payloads, the error -/
def feedR (bad : Bool) (buf : List Int) : (List Int × Bool) × List (List Int) × Int :=
  if bad then (([], true), [], 9) else
    match (feed buf).2 with
    | none => (([], true), (feed buf).1, 5)
    | some r => ((r, false), (feed buf).1, 0)
theorem feedR_bad (buf : List Int) : feedR true buf = (([], true), [], 9) := rfl
theorem feedR_none {buf : List Int} {l : List (List Int)} (h : feed buf = (l, none)) : feedR false buf = (([], true), l, 5) := by simp [feedR, h]
theorem feedR_some {buf r : List Int} {l : List (List Int)} (h : feed buf = (l, some r)) : feedR false buf = ((r, false), l, 0) := by simp [feedR, h]
end Go.Kb.Frame
