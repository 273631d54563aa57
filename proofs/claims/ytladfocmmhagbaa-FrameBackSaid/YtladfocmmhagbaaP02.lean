/- The plain law of packets: what a stream comes to, piece by piece. No program in sight. No condition. -/
import Derived.Test.YtladfocmmhagbaaBase
namespace Go.Kb.Frame
open Go.Kb

def num4 (a b c d : Int) : Int := a * 16777216 + b * 65536 + c * 256 + d
def feedGo : Nat → List Int → List (List Int) × Option (List Int)
  | f + 1, a :: b :: c :: d :: t =>
    if 1 ≤ num4 a b c d ∧ num4 a b c d ≤ 33792 then
      if (t.length : Int) < num4 a b c d then ([], some (a :: b :: c :: d :: t))
      else (t.take (num4 a b c d).toNat :: (feedGo f (t.drop (num4 a b c d).toNat)).1, (feedGo f (t.drop (num4 a b c d).toNat)).2)
    else ([], none)
  | _, r => ([], some r)
def feed (r : List Int) : List (List Int) × Option (List Int) := feedGo r.length r

theorem feedGo_fuel : ∀ (f g : Nat) (r : List Int), r.length ≤ f → r.length ≤ g → feedGo f r = feedGo g r := by
  intro f
  induction f with
  | zero =>
    intro g r h _
    have : r = [] := List.eq_nil_of_length_eq_zero (by omega)
    subst this
    cases g <;> rfl
  | succ f ih =>
    intro g r hf hg
    match r, g with
    | [], g => cases g <;> rfl
    | [_], g => cases g <;> rfl
    | [_, _], g => cases g <;> rfl
    | [_, _, _], g => cases g <;> rfl
    | a :: b :: c :: d :: t, 0 => simp at hg
    | a :: b :: c :: d :: t, g + 1 =>
      simp only [List.length_cons] at hf hg
      simp only [feedGo]
      rw [ih g (t.drop (num4 a b c d).toNat) (by rw [List.length_drop]; omega) (by rw [List.length_drop]; omega)]
theorem feed_short {r : List Int} (h : r.length < 4) : feed r = ([], some r) := by
  match r, h with
  | [], _ => rfl
  | [_], _ => rfl
  | [_, _], _ => rfl
  | [_, _, _], _ => rfl
  | _ :: _ :: _ :: _ :: _, h => simp at h; omega
theorem feed_bad {a b c d : Int} {t : List Int} (h : ¬ (1 ≤ num4 a b c d ∧ num4 a b c d ≤ 33792)) : feed (a :: b :: c :: d :: t) = ([], none) := by
  simp only [feed, List.length_cons, feedGo]
  rw [if_neg h]
theorem feed_wait {a b c d : Int} {t : List Int} (h : 1 ≤ num4 a b c d ∧ num4 a b c d ≤ 33792) (ht : (t.length : Int) < num4 a b c d) : feed (a :: b :: c :: d :: t) = ([], some (a :: b :: c :: d :: t)) := by
  simp only [feed, List.length_cons, feedGo]
  rw [if_pos h, if_pos ht]
theorem feed_more {a b c d : Int} {t : List Int} (h : 1 ≤ num4 a b c d ∧ num4 a b c d ≤ 33792) (ht : ¬ (t.length : Int) < num4 a b c d) :
    feed (a :: b :: c :: d :: t) = (t.take (num4 a b c d).toNat :: (feed (t.drop (num4 a b c d).toNat)).1, (feed (t.drop (num4 a b c d).toNat)).2) := by
  simp only [feed, List.length_cons, feedGo]
  rw [if_pos h, if_neg ht, feedGo_fuel _ (t.drop (num4 a b c d).toNat).length _ (by rw [List.length_drop]; omega) (Nat.le_refl _)]

theorem feed_bad4 {r : List Int} (h4 : 4 ≤ r.length) (h : ¬ (1 ≤ hd4 r ∧ hd4 r ≤ 33792)) : feed r = ([], none) := by
  obtain ⟨a, b, c, d, t, rfl⟩ := four_of h4
  exact feed_bad h
theorem feed_wait4 {r : List Int} (h4 : 4 ≤ r.length) (h : 1 ≤ hd4 r ∧ hd4 r ≤ 33792) (ht : (r.length : Int) < 4 + hd4 r) : feed r = ([], some r) := by
  obtain ⟨a, b, c, d, t, rfl⟩ := four_of h4
  have e : num4 a b c d = hd4 (a :: b :: c :: d :: t) := rfl
  refine feed_wait h ?_
  simp only [List.length_cons] at ht
  omega
theorem feed_more4 {r : List Int} {n : Nat} (h4 : 4 ≤ r.length) (h : 1 ≤ hd4 r ∧ hd4 r ≤ 33792) (hn : hd4 r = n) (ht : 4 + n ≤ r.length) :
    feed r = ((r.drop 4).take n :: (feed (r.drop (4 + n))).1, (feed (r.drop (4 + n))).2) := by
  obtain ⟨a, b, c, d, t, rfl⟩ := four_of h4
  have e : num4 a b c d = n := hn
  simp only [List.length_cons] at ht
  have h' : 1 ≤ num4 a b c d ∧ num4 a b c d ≤ 33792 := h
  rw [feed_more h' (by omega), e]
  have e2 : (a :: b :: c :: d :: t).drop (4 + n) = t.drop n := by rw [Nat.add_comm]; rfl
  rw [e2]
  rfl

/-- what a framer comes to: itself, the payloads, the error -/
def feedR (bad : Bool) (buf : List Int) : (List Int × Bool) × List (List Int) × Int :=
  if bad then (([], true), [], 9) else
    match (feed buf).2 with
    | none => (([], true), (feed buf).1, 5)
    | some r => ((r, false), (feed buf).1, 0)
theorem feedR_bad (buf : List Int) : feedR true buf = (([], true), [], 9) := rfl
theorem feedR_none {buf : List Int} {l : List (List Int)} (h : feed buf = (l, none)) : feedR false buf = (([], true), l, 5) := by simp [feedR, h]
theorem feedR_some {buf r : List Int} {l : List (List Int)} (h : feed buf = (l, some r)) : feedR false buf = ((r, false), l, 0) := by simp [feedR, h]
end Go.Kb.Frame
