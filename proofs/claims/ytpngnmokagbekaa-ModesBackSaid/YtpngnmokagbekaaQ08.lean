/- Streams of modes one behind the other; what is decoded over a right setting is right: plain. Conditions: the setting is one, bytes are bytes. -/
import Derived.Test.YtpngnmokagbekaaO08
namespace Go.Proofs.Ytpngnmokagbekaa
open Go.RowKit Go.Kb

/-- whole modes without an end: as many, each opcode one -/
def wholeL : Nat → List Int → Prop
  | 0, l => l = []
  | m + 1, l => ∃ (op a b c d : Int) (r : List Int), l = op :: a :: b :: c :: d :: r ∧ ¬ (op = 0 ∨ 160 ≤ op) ∧ wholeL m r
theorem wholeL_of : ∀ (m : Nat) (l : List Int), l.length = 5 * m → (∀ j : Nat, j < m → ¬ (l.getD (5 * j) 0 = 0 ∨ 160 ≤ l.getD (5 * j) 0)) → wholeL m l
  | 0, l, h, _ => by
    cases l
    · rfl
    · simp at h
  | m + 1, l, h, hg => by
    match l, h with
    | op :: a :: b :: c :: d :: r, h =>
      refine ⟨op, a, b, c, d, r, rfl, by simpa using hg 0 (by omega), wholeL_of m r (by simp at h; omega) fun j hj => ?_⟩
      have := hg (j + 1) (by omega)
      rw [show 5 * (j + 1) = 5 * j + 1 + 1 + 1 + 1 + 1 by omega] at this
      simpa using this
theorem decL_app : ∀ (m : Nat) (l b : List Int) (t : Tm), wholeL m l → decL (l ++ b) t = if (decL l t).2 = 0 then decL b (decL l t).1 else (zeroT, (decL l t).2)
  | 0, l, b, t, h => by
    obtain rfl : l = [] := h
    simp [decL]
  | m + 1, l, b, t, h => by
    obtain ⟨op, a, b', c, d, r, rfl, h0, hr⟩ := h
    by_cases he : (modeL t op (hd4 [a, b', c, d])).2 = 0
    · have e1 : ∀ q, decL (op :: a :: b' :: c :: d :: q) t = decL q (modeL t op (hd4 [a, b', c, d])).1 := fun q => by simp only [decL, if_neg h0, if_pos he]
      rw [show (op :: a :: b' :: c :: d :: r) ++ b = op :: a :: b' :: c :: d :: (r ++ b) from rfl, e1, e1]
      exact decL_app m r b _ hr
    · have e1 : ∀ q, decL (op :: a :: b' :: c :: d :: q) t = (zeroT, (modeL t op (hd4 [a, b', c, d])).2) := fun q => by simp only [decL, if_neg h0, if_neg he]
      rw [show (op :: a :: b' :: c :: d :: r) ++ b = op :: a :: b' :: c :: d :: (r ++ b) from rfl, e1, e1]
      simp only [if_neg he]
theorem rightL_eq {t u : Tm} (h1 : u.f = t.f) (h2 : u.c.getD 0 0 = t.c.getD 0 0) (h3 : u.m = t.m) (h4 : u.t = t.t) : rightL u = rightL t := by
  unfold rightL
  rw [offT_all, offT_all, h1, h2, h3, h4]
theorem rightL_mode {t : Tm} (h : t.Ok) {op : Int} (n : Int) (ho : 0 < op) (he : (modeL t op n).2 = 0) : rightL (modeL t op n).1 = rightL t := by
  unfold modeL at he ⊢
  by_cases h1 : op ≤ 18
  · rw [if_pos h1] at he ⊢
    by_cases h2 : 255 < n
    · rw [if_pos h2] at he
      simp at he
    · rw [if_neg h2]
      refine rightL_eq rfl ?_ rfl rfl
      obtain ⟨k, hk⟩ : ∃ k : Nat, op.toNat = k + 1 := ⟨op.toNat - 1, by omega⟩
      show (t.c.set op.toNat n).getD 0 0 = _
      rw [hk]
      cases t.c <;> rfl
  · rw [if_neg h1]
    by_cases h2 : op = 128
    · rw [if_pos h2]; exact rightL_eq rfl rfl rfl rfl
    · rw [if_neg h2]
      by_cases h3 : op = 129
      · rw [if_pos h3]; exact rightL_eq rfl rfl rfl rfl
      · rw [if_neg h3]; exact rightL_setL h _ _
theorem rightL_dec : ∀ (k : Nat) (l : List Int) (t : Tm), l.length ≤ k → t.Ok → Bs l → (decL l t).2 = 0 → rightL (decL l t).1 = rightL t
  | _, [], _, _, _, _, _ => rfl
  | 0, _ :: _, _, hk, _, _, _ => by simp at hk
  | k + 1, op :: r, t, hk, h, hB, hz => by
    by_cases h0 : op = 0 ∨ 160 ≤ op
    · rw [decL_end h0]
    · by_cases h4 : 4 ≤ r.length
      · have hr : Bs r := fun x hx => hB x (List.mem_cons_of_mem _ hx)
        have ho := hB op (by simp)
        by_cases he : (modeL t op (hd4 r)).2 = 0
        · rw [decL_go h0 h4 he] at hz ⊢
          rw [rightL_dec k _ _ (by simp at hk ⊢; omega) (modeL_ok h (hd4_bd hr)) (Bs.drop4 hr 4) hz]
          exact rightL_mode h _ (by omega) he
        · rw [decL_err h0 h4 he] at hz
          exact absurd hz he
      · rw [decL_short h0 (by omega)] at hz
        simp at hz
end Go.Proofs.Ytpngnmokagbekaa
