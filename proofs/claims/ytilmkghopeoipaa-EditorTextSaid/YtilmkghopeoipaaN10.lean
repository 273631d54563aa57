/- The last word, counted in characters: a plain lemma. No condition. -/
import Derived.Test.YtilmkghopeoipaaM10
namespace Go.Proofs.Ytilmkghopeoipaa
open Go.RowKit Go.Kb

/-- how many bytes the last word has, the characters given from the last one on -/
def dropN : Bool → List (List Int) → Nat
  | _, [] => 0
  | wi, x :: R => if blankL x && wi then 0 else x.length + dropN (wi || !blankL x) R
theorem wordF_dropN {u : Bool} {l : List Int} : ∀ (n p : Nat) (wi : Bool), p ≤ n → p ≤ l.length → wordF u l n p wi + dropN wi (unitsR u l n p) = p
  | 0, p, wi, h1, _ => by
    obtain rfl : p = 0 := by omega
    simp [unitsR, dropN, wordF]
  | n + 1, p, wi, h1, h2 => by
    rcases Nat.eq_zero_or_pos p with rfl | hp
    · rw [unitsR_zero, wordF_stop (Nat.zero_le _) (.inl rfl)]
      rfl
    · have hq := start_take (u := u) hp h2
      obtain ⟨a1, a2⟩ := unitsR_step (u := u) hp h1 h2
      have hlen : ((l.take p).drop (startL u (l.take p))).length = p - startL u (l.take p) := by rw [List.length_drop, List.length_take]; omega
      rw [a2]
      by_cases hb : (blankL ((l.take p).drop (startL u (l.take p))) && wi) = true
      · rw [wordF_stop h1 (.inr hb)]
        simp only [dropN]
        rw [if_pos hb]
        rfl
      · obtain ⟨b1, b2⟩ := wordF_step (u := u) (wi := wi) hp h1 h2 (by simpa using hb)
        rw [b2]
        simp only [dropN]
        rw [if_neg hb, hlen]
        have := wordF_dropN (u := u) (l := l) n (startL u (l.take p)) (wi || !blankL ((l.take p).drop (startL u (l.take p)))) (by omega) (by omega)
        simp only [Nat.add_sub_cancel] at *
        omega
end Go.Proofs.Ytilmkghopeoipaa
