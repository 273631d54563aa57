/- Characters and words of a line, as lists: plain lemmas. No condition. -/
import Derived.Test.YtilmkghopeoipaaBase
namespace Go.Proofs.Ytilmkghopeoipaa
open Go.RowKit Go.Kb

def innerL (c : Int) : Bool := decide (128 ≤ c ∧ c ≤ 191)
def lastR (u : Bool) : Nat → List Int → Nat
  | 0, _ => 0
  | _ + 1, [] => 0
  | n + 1, c :: r => if u && innerL c then 1 + lastR u n r else 1
/-- how many bytes the last character has -/
def lastL (u : Bool) (l : List Int) : Nat := lastR u 4 l.reverse
/-- where it begins -/
def startL (u : Bool) (l : List Int) : Nat := l.length - lastL u l
theorem lastR_le (u : Bool) : ∀ (n : Nat) (r : List Int), lastR u n r ≤ n ∧ lastR u n r ≤ r.length
  | 0, _ => by simp [lastR]
  | _ + 1, [] => by simp [lastR]
  | n + 1, c :: r => by
    have := lastR_le u n r
    simp only [lastR, List.length_cons]
    split <;> omega
theorem lastR_pos (u : Bool) (n : Nat) (c : Int) (r : List Int) : 0 < lastR u (n + 1) (c :: r) := by
  simp only [lastR]
  split <;> omega
theorem lastL_pos {u : Bool} {l : List Int} (h : l ≠ []) : 0 < lastL u l := by
  unfold lastL
  obtain ⟨c, r, e⟩ : ∃ c r, l.reverse = c :: r := List.exists_cons_of_ne_nil (by simpa using h)
  rw [e]; exact lastR_pos u 3 c r
theorem lastL_le (u : Bool) (l : List Int) : lastL u l ≤ 4 ∧ lastL u l ≤ l.length := by
  have := lastR_le u 4 l.reverse
  simpa [lastL] using this
theorem startL_lt {u : Bool} {l : List Int} (h : l ≠ []) : startL u l < l.length := by
  have := lastL_pos (u := u) h
  have := lastL_le u l
  unfold startL; omega
theorem startL_le (u : Bool) (l : List Int) : startL u l ≤ l.length := by unfold startL; omega
theorem startL_nil (u : Bool) : startL u [] = 0 := rfl
theorem lastR_at : ∀ (k n : Nat) (r : List Int), k < r.length → k < n → (∀ j, j < k → ∃ c, r[j]? = some c ∧ innerL c = true) → (k + 1 < r.length → k + 1 < n → ∃ c, r[k]? = some c ∧ innerL c = false) → lastR true n r = k + 1
  | 0, n + 1, c :: r, _, _, _, h => by
    simp only [lastR, Bool.true_and]
    split
    · rename_i hc
      have : lastR true n r = 0 := by
        rcases n with _ | n
        · rfl
        · rcases r with _ | ⟨d, r⟩
          · rfl
          · obtain ⟨x, hx, hx2⟩ := h (by simp) (by omega)
            simp at hx
            subst hx
            rw [hc] at hx2; cases hx2
      omega
    · rfl
  | k + 1, n + 1, c :: r, h1, h2, h3, h4 => by
    obtain ⟨x, hx, hx2⟩ := h3 0 (by omega)
    simp at hx
    subst hx
    have := lastR_at k n r (by simp at h1; omega) (by omega) (fun j hj => by
      have := h3 (j + 1) (by omega)
      simpa using this) (fun a b => by
      have := h4 (by simp; omega) (by omega)
      simpa using this)
    simp only [lastR, Bool.true_and, hx2, if_true, this]
    omega
/-- the last k bytes stand within a character -/
def In (l : List Int) (k : Nat) : Prop := ∀ j, j < k → ∃ c, l[l.length - 1 - j]? = some c ∧ innerL c = true
theorem In.zero (l : List Int) : In l 0 := fun j h => by omega
theorem In.succ {l : List Int} {k m : Nat} {c : Int} (h : In l k) (hm : m + 1 + k = l.length) (hc : l[m]? = some c) (hi : innerL c = true) : In l (k + 1) := by
  intro j hj
  rcases Nat.lt_or_ge j k with h1 | h1
  · exact h j h1
  · obtain rfl : j = k := by omega
    exact ⟨c, by rw [show l.length - 1 - j = m by omega]; exact hc, hi⟩
theorem start_eq {l : List Int} {k m : Nat} (hm : m + 1 + k = l.length) (hk : k < 4) (h : In l k) (hs : 0 < m → k + 1 < 4 → ∃ c, l[m]? = some c ∧ innerL c = false) : startL true l = m := by
  have h1 := lastR_at k 4 l.reverse (by simp; omega) hk (fun j hj => by
    rw [List.getElem?_reverse (by omega)]
    exact h j hj) (fun a b => by
    rw [List.getElem?_reverse (by omega), show l.length - 1 - k = m by omega]
    exact hs (by simp at a; omega) b)
  unfold startL lastL
  rw [h1]; omega
theorem start_false {l : List Int} (h : l ≠ []) : startL false l = l.length - 1 := by
  unfold startL lastL
  obtain ⟨c, r, e⟩ : ∃ c r, l.reverse = c :: r := List.exists_cons_of_ne_nil (by simpa using h)
  rw [e]; simp [lastR]
def blankc (c : Int) : Bool := c == 32 || c == 9
def blankL (l : List Int) : Bool := l.length == 1 && blankc (l.getD 0 0)
theorem blankL_eq {l : List Int} (h : blankL l = true) : ∃ c, l = [c] ∧ blankc c = true := by
  simp only [blankL, Bool.and_eq_true, beq_iff_eq] at h
  match l, h with
  | [c], h => exact ⟨c, rfl, by simpa using h.2⟩
/-- where the last word begins -/
def wordF (u : Bool) (l : List Int) : Nat → Nat → Bool → Nat
  | 0, at_, _ => at_
  | n + 1, at_, wi => if at_ = 0 then 0 else
    if blankL ((l.take at_).drop (startL u (l.take at_))) && wi then at_ else wordF u l n (startL u (l.take at_)) (wi || !blankL ((l.take at_).drop (startL u (l.take at_))))
def wordL (u : Bool) (l : List Int) : Nat := wordF u l l.length l.length false
theorem start_take {u : Bool} {l : List Int} {p : Nat} (hp : 0 < p) (hl : p ≤ l.length) : startL u (l.take p) < p := by
  have h : l.take p ≠ [] := by
    intro h
    have := congrArg List.length h
    rw [List.length_take, List.length_nil] at this
    omega
  have := startL_lt (u := u) h
  rw [List.length_take] at this
  omega
theorem wordF_le {u : Bool} {l : List Int} : ∀ (n p : Nat) (wi : Bool), p ≤ l.length → wordF u l n p wi ≤ p
  | 0, p, wi, _ => Nat.le_refl _
  | n + 1, p, wi, h => by
    simp only [wordF]
    split
    · omega
    · have h1 := start_take (u := u) (show 0 < p by omega) h
      split
      · omega
      · have := wordF_le (u := u) (l := l) n (startL u (l.take p)) (wi || !blankL ((l.take p).drop (startL u (l.take p)))) (by omega)
        omega
theorem wordL_le (u : Bool) (l : List Int) : wordL u l ≤ l.length := wordF_le (l := l) _ _ _ (Nat.le_refl _)
theorem wordL_lt {u : Bool} {l : List Int} (h : l ≠ []) : wordL u l < l.length := by
  unfold wordL
  obtain ⟨n, hn⟩ : ∃ n, l.length = n + 1 := ⟨l.length - 1, by have := List.length_pos_iff.2 h; omega⟩
  have h1 := start_take (u := u) (l := l) (p := l.length) (by omega) (Nat.le_refl _)
  have h2 := wordF_le (u := u) (l := l) n (startL u (l.take l.length)) (false || !blankL ((l.take l.length).drop (startL u (l.take l.length)))) (by omega)
  have h3 : wordF u l l.length l.length false = wordF u l n (startL u (l.take l.length)) (false || !blankL ((l.take l.length).drop (startL u (l.take l.length)))) := by
    rw [show wordF u l l.length l.length false = wordF u l (n + 1) l.length false by rw [hn]]
    simp only [wordF]
    rw [if_neg (by omega), if_neg (by simp)]
  rw [h3]; omega
theorem wordF_step {u : Bool} {l : List Int} {n p : Nat} {wi : Bool} (hp : 0 < p) (hn : p ≤ n) (hl : p ≤ l.length) (hb : (blankL ((l.take p).drop (startL u (l.take p))) && wi) = false) :
    startL u (l.take p) ≤ n - 1 ∧ wordF u l n p wi = wordF u l (n - 1) (startL u (l.take p)) (wi || !blankL ((l.take p).drop (startL u (l.take p)))) := by
  have h1 := start_take (u := u) hp hl
  obtain ⟨m, rfl⟩ : ∃ m, n = m + 1 := ⟨n - 1, by omega⟩
  refine ⟨by omega, ?_⟩
  simp only [wordF, Nat.add_sub_cancel]
  rw [if_neg (by omega), if_neg (by simp only [hb]; simp)]
theorem wordF_stop {u : Bool} {l : List Int} {n p : Nat} {wi : Bool} (hn : p ≤ n) (h : p = 0 ∨ (blankL ((l.take p).drop (startL u (l.take p))) && wi) = true) : wordF u l n p wi = p := by
  rcases n with _ | n
  · rfl
  · simp only [wordF]
    by_cases hp : p = 0
    · rw [if_pos hp]; omega
    · rw [if_neg hp, if_pos (by rcases h with h | h; exact absurd h hp; exact h)]
theorem word_next {u : Bool} {l : List Int} {n p r : Nat} {wi : Bool} (hn : p ≤ n) (hl : p ≤ l.length) (hr : r < p) (h : wordF u l n p wi = r) :
    ∃ n' wi', startL u (l.take p) ≤ n' ∧ wordF u l n' (startL u (l.take p)) wi' = r ∧ r ≤ startL u (l.take p) := by
  by_cases hb : (blankL ((l.take p).drop (startL u (l.take p))) && wi) = true
  · rw [wordF_stop hn (.inr hb)] at h; omega
  · obtain ⟨h1, h2⟩ := wordF_step (u := u) (n := n) (wi := wi) (by omega : 0 < p) hn hl (by simpa using hb)
    rw [h2] at h
    refine ⟨_, _, h1, h, ?_⟩
    rw [← h]
    exact wordF_le (l := l) _ _ _ (by have := start_take (u := u) (show 0 < p by omega) hl; omega)
theorem unit_one {u : Bool} {l : List Int} {p : Nat} (hl : p ≤ l.length) {c : Int} (h : (l.take p).drop (startL u (l.take p)) = [c]) : 0 < p ∧ startL u (l.take p) = p - 1 ∧ l[p - 1]? = some c := by
  have h1 := congrArg List.length h
  rw [List.length_drop, List.length_take, Nat.min_eq_left hl] at h1
  simp at h1
  have h2 : startL u (l.take p) = p - 1 := by omega
  refine ⟨by omega, h2, ?_⟩
  rw [h2] at h
  have h3 := congrArg (fun l => l[0]?) h
  simp only [List.getElem?_drop, List.getElem?_take] at h3
  simpa [show p - 1 < p by omega] using h3
theorem wordF_end {u : Bool} {l : List Int} : ∀ (n p : Nat) (wi : Bool), p ≤ n → p ≤ l.length → wordF u l n p wi = 0 ∨ ∃ c, l[wordF u l n p wi - 1]? = some c ∧ blankc c = true
  | 0, p, wi, h, _ => .inl (by simp only [wordF]; omega)
  | n + 1, p, wi, h, hl => by
    rcases Nat.eq_zero_or_pos p with rfl | hp
    · exact .inl (wordF_stop (Nat.zero_le _) (.inl rfl))
    · by_cases hb : (blankL ((l.take p).drop (startL u (l.take p))) && wi) = true
      · rw [wordF_stop h (.inr hb)]
        right
        simp only [Bool.and_eq_true] at hb
        obtain ⟨c, hc, hbc⟩ := blankL_eq hb.1
        exact ⟨c, (unit_one hl hc).2.2, hbc⟩
      · obtain ⟨h1, h2⟩ := wordF_step (u := u) (n := n + 1) (wi := wi) hp h hl (by simpa using hb)
        rw [h2]
        have := start_take (u := u) hp hl
        exact wordF_end n _ _ h1 (by omega)
theorem unit_false {l : List Int} {p : Nat} (hp : 0 < p) (hl : p ≤ l.length) : ∃ c, l[p - 1]? = some c ∧ startL false (l.take p) = p - 1 ∧ blankL ((l.take p).drop (startL false (l.take p))) = blankc c := by
  have h0 : (l.take p).length = p := by rw [List.length_take]; omega
  have h1 : startL false (l.take p) = p - 1 := by
    rw [start_false (by intro h; rw [h] at h0; simp at h0; omega), h0]
  have h2 : l[p - 1]? = some (l[p - 1]'(by omega)) := List.getElem?_eq_getElem (by omega)
  refine ⟨_, h2, h1, ?_⟩
  have h3 : (l.take p).drop (p - 1) = [l[p - 1]'(by omega)] := by
    apply List.ext_getElem?
    intro i
    rw [List.getElem?_drop, List.getElem?_take]
    rcases i with _ | i
    · rw [if_pos (by omega)]; simp
    · rw [if_neg (by omega)]; simp
  rw [h1, h3]
  simp [blankL]
theorem wordF_false {l : List Int} : ∀ (n p : Nat) (wi : Bool), p ≤ n → p ≤ l.length → ∃ q, wordF false l n p wi ≤ q ∧ q ≤ p ∧ (∀ j, wordF false l n p wi ≤ j → j < q → ∃ c, l[j]? = some c ∧ blankc c = false) ∧ (∀ j, q ≤ j → j < p → ∃ c, l[j]? = some c ∧ blankc c = true) ∧ (wi = true → q = p)
  | 0, p, wi, h, _ => ⟨p, Nat.le_refl _, Nat.le_refl _, fun j h1 h2 => by simp only [wordF] at h1; omega, fun j h1 h2 => by omega, fun _ => rfl⟩
  | n + 1, p, wi, h, hl => by
    rcases Nat.eq_zero_or_pos p with rfl | hp
    · have e : wordF false l (n + 1) 0 wi = 0 := wordF_stop (Nat.zero_le _) (.inl rfl)
      exact ⟨0, by omega, by omega, fun j h1 h2 => by omega, fun j h1 h2 => by omega, fun _ => rfl⟩
    · obtain ⟨c, hc, hs, hbc⟩ := unit_false hp hl
      by_cases hb : (blankL ((l.take p).drop (startL false (l.take p))) && wi) = true
      · rw [wordF_stop h (.inr hb)]
        exact ⟨p, Nat.le_refl _, Nat.le_refl _, fun j h1 h2 => by omega, fun j h1 h2 => by omega, fun _ => rfl⟩
      · obtain ⟨h1, h2⟩ := wordF_step (u := false) (n := n + 1) (wi := wi) hp h hl (by simpa using hb)
        rw [h2]
        rw [hbc] at hb ⊢
        rw [hs] at h1 ⊢
        obtain ⟨q, q1, q2, q3, q4, q5⟩ := wordF_false (l := l) n (p - 1) (wi || !blankc c) (by omega) (by omega)
        simp only [Nat.add_sub_cancel]
        rcases Bool.eq_false_or_eq_true (blankc c) with hx | hx
        rotate_left
        · rw [hx] at q1 q3 q5 ⊢
          have := q5 (by simp)
          subst this
          refine ⟨p, by omega, Nat.le_refl _, fun j a b => ?_, fun j a b => by omega, fun _ => rfl⟩
          rcases Nat.lt_or_ge j (p - 1) with hj | hj
          · exact q3 j a hj
          · obtain rfl : j = p - 1 := by omega
            exact ⟨c, hc, hx⟩
        · rw [hx] at q1 q3 q5 hb ⊢
          have hw : wi = false := by simpa using hb
          refine ⟨q, q1, by omega, q3, fun j a b => ?_, fun h => by rw [hw] at h; cases h⟩
          rcases Nat.lt_or_ge j (p - 1) with hj | hj
          · exact q4 j a hj
          · obtain rfl : j = p - 1 := by omega
            exact ⟨c, hc, hx⟩
end Go.Proofs.Ytilmkghopeoipaa
