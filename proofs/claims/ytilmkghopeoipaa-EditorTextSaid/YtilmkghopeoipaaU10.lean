/- The characters of a text in UTF-8: plain lemmas. No condition. -/
import Derived.Test.YtilmkghopeoipaaM10
import Derived.Laws.RangeAny
import Derived.Laws.IdiomStrings
import Derived.Laws.Cover4
namespace Go.Proofs.Ytilmkghopeoipaa
open Go.RowKit Go.Kb

/-- a text's bytes -/
def txt (s : ByteArray) : List Int := s.data.toList.map fun b => (b.toNat : Int)
theorem txt_len (s : ByteArray) : (txt s).length = s.size := by simp [txt]
theorem txt_bs (s : ByteArray) : Bs (txt s) := by
  intro x hx
  simp only [txt, List.mem_map] at hx
  obtain ⟨b, _, rfl⟩ := hx
  have := b.toNat_lt
  omega
theorem txt_get {s : ByteArray} {i : Nat} (h : i < s.size) : (txt s)[i]? = some ((s.get! i).toNat : Int) := by
  have h2 : s.get! i = s[i]'h := by simp [ByteArray.get!, getElem!_pos, h]; rfl
  rw [h2]
  simp only [txt, List.getElem?_map]
  have : s.data.toList[i]? = some (s[i]'h) := by
    rw [Array.getElem?_toList]
    exact Array.getElem?_eq_getElem (by exact h)
  rw [this]; rfl
/-- one character: a first byte, at most three behind it -/
def Chr (l : List Int) : Prop := ∃ a t, l = a :: t ∧ t.length ≤ 3 ∧ innerL a = false ∧ ∀ x ∈ t, innerL x = true
theorem units_nil (u : Bool) : unitsL u [] = [] := rfl
theorem units_snoc {A ch : List Int} (h : Chr ch) : unitsL true (A ++ ch) = unitsL true A ++ [ch] := by
  obtain ⟨a, t, rfl, ht, ha, hi⟩ := h
  have hs : startL true (A ++ a :: t) = A.length := by
    refine start_eq (k := t.length) (by simp; omega) (by omega) (fun j hj => ?_) fun _ _ => ⟨a, by simp, ha⟩
    have e1 : (A ++ a :: t).length - 1 - j = A.length + 1 + (t.length - 1 - j) := by simp; omega
    have hlt : t.length - 1 - j < t.length := by omega
    refine ⟨t[t.length - 1 - j], ?_, hi _ (List.getElem_mem hlt)⟩
    rw [e1, List.getElem?_append_right (by omega), show A.length + 1 + (t.length - 1 - j) - A.length = (t.length - 1 - j) + 1 by omega, List.getElem?_cons_succ, List.getElem?_eq_getElem hlt]
  rw [unitsL_step (by simp), hs]
  simp
theorem units_false_len : ∀ (n : Nat) (l : List Int), l.length = n → (unitsL false l).length = n
  | 0, l, h => by
    obtain rfl := List.eq_nil_of_length_eq_zero h
    rfl
  | n + 1, l, h => by
    have hne : l ≠ [] := fun hl => by rw [hl] at h; simp at h
    rw [unitsL_step hne, start_false hne, List.length_append, List.length_singleton, units_false_len n _ (by rw [List.length_take]; omega)]
theorem u8_nat (n : Nat) (h : n < 256) : ((UInt8.ofNat n).toNat : Int) = n := by
  rw [UInt8.toNat_ofNat']
  have : n % 256 = n := Nat.mod_eq_of_lt h
  simp [this]
theorem enc1 (c : Nat) (h : c < 128) : txt (Utf8.encode (c : Int)) = [(c : Int)] := by
  have hv : Utf8.valid (c : Int) = true := by simp [Utf8.valid]; omega
  simp only [Utf8.encode, hv, if_true, Int.toNat_natCast, h, txt, List.map_cons, List.map_nil]
  rw [u8_nat _ (by omega)]
theorem enc2 (c : Nat) (h1 : 128 ≤ c) (h2 : c < 2048) : txt (Utf8.encode (c : Int)) = [((192 + c / 64 : Nat) : Int), ((128 + c % 64 : Nat) : Int)] := by
  have hv : Utf8.valid (c : Int) = true := by simp [Utf8.valid]; omega
  have k1 : ¬ c < 128 := by omega
  simp only [Utf8.encode, hv, if_true, Int.toNat_natCast, k1, h2, if_false, txt, List.map_cons, List.map_nil]
  rw [u8_nat _ (by omega), u8_nat _ (by omega)]
theorem enc3 (c : Nat) (h1 : 2048 ≤ c) (h2 : c < 65536) (hv : Utf8.valid (c : Int) = true) : txt (Utf8.encode (c : Int)) = [((224 + c / 4096 : Nat) : Int), ((128 + c / 64 % 64 : Nat) : Int), ((128 + c % 64 : Nat) : Int)] := by
  have k1 : ¬ c < 128 := by omega
  have k2 : ¬ c < 2048 := by omega
  simp only [Utf8.encode, hv, if_true, Int.toNat_natCast, k1, k2, h2, if_false, txt, List.map_cons, List.map_nil]
  rw [u8_nat _ (by omega), u8_nat _ (by omega), u8_nat _ (by omega)]
theorem enc4 (c : Nat) (h1 : 65536 ≤ c) (h2 : c ≤ 1114111) (hv : Utf8.valid (c : Int) = true) : txt (Utf8.encode (c : Int)) = [((240 + c / 262144 : Nat) : Int), ((128 + c / 4096 % 64 : Nat) : Int), ((128 + c / 64 % 64 : Nat) : Int), ((128 + c % 64 : Nat) : Int)] := by
  have k1 : ¬ c < 128 := by omega
  have k2 : ¬ c < 2048 := by omega
  have k3 : ¬ c < 65536 := by omega
  simp only [Utf8.encode, hv, if_true, Int.toNat_natCast, k1, k2, k3, if_false, txt, List.map_cons, List.map_nil]
  rw [u8_nat _ (by omega), u8_nat _ (by omega), u8_nat _ (by omega), u8_nat _ (by omega)]
theorem take_bytes {s : ByteArray} {pos : Nat} : ∀ (w : Nat), pos + w ≤ s.size → (txt s).take (pos + w) = (txt s).take pos ++ (List.range w).map fun k => ((s.get! (pos + k)).toNat : Int)
  | 0, _ => by simp
  | w + 1, h => by
    rw [← Nat.add_assoc, List.take_add_one, txt_get (by omega), take_bytes w (by omega), List.range_succ, List.map_append]
    simp
theorem inner_hi (b : Nat) (h : b / 64 = 2) : innerL (b : Int) = true := by
  unfold innerL; rw [decide_eq_true]; omega
theorem inner_no (b : Nat) (h : b < 128 ∨ 192 ≤ b) : innerL (b : Int) = false := by
  unfold innerL; rw [decide_eq_false]; omega
/-- what a text's next character is -/
theorem chr_next {s : ByteArray} {pos : Nat} (h : pos < s.size) (hr : (Utf8.decode s pos).1 ≠ 65533) :
    pos + (Utf8.decode s pos).2 ≤ s.size ∧ 1 ≤ (Utf8.decode s pos).2 ∧ Chr (txt (Utf8.encode ((Utf8.decode s pos).1 : Nat))) ∧ (txt s).take (pos + (Utf8.decode s pos).2) = (txt s).take pos ++ txt (Utf8.encode ((Utf8.decode s pos).1 : Nat)) := by
  have hb : ∀ k, (s.get! (pos + k)).toNat < 256 := fun k => (s.get! (pos + k)).toNat_lt
  have h0 := hb 0
  have h1 := hb 1
  have h2 := hb 2
  have h3 := hb 3
  have hf : ∀ w, pos + w ≤ s.size → (txt s).take (pos + w) = (txt s).take pos ++ (List.range w).map fun k => ((s.get! (pos + k)).toNat : Int) := fun w hw => take_bytes w hw
  simp only [Utf8.decode] at hr ⊢
  obtain ⟨b0, hg0⟩ : ∃ b, (s.get! (pos + 0)).toNat = b := ⟨_, rfl⟩
  obtain ⟨b1, hg1⟩ : ∃ b, (s.get! (pos + 1)).toNat = b := ⟨_, rfl⟩
  obtain ⟨b2, hg2⟩ : ∃ b, (s.get! (pos + 2)).toNat = b := ⟨_, rfl⟩
  obtain ⟨b3, hg3⟩ : ∃ b, (s.get! (pos + 3)).toNat = b := ⟨_, rfl⟩
  simp only [hg0, hg1, hg2, hg3] at hr h0 h1 h2 h3 ⊢
  have hg0' : (s.get! pos).toNat = b0 := hg0
  clear hb
  by_cases c1 : b0 < 128
  · simp only [if_pos c1] at hr ⊢
    rw [enc1 _ c1, hf 1 (by omega)]
    exact ⟨by omega, Nat.le_refl _, ⟨_, [], rfl, by simp, inner_no _ (.inl c1), by simp⟩, by simp [hg0']⟩
  simp only [if_neg c1] at hr ⊢
  by_cases c2 : (b0 / 32 == 6 && (decide (pos + 1 < s.size) && b1 / 64 == 2)) = true
  · simp only [if_pos c2] at hr ⊢
    simp only [Bool.and_eq_true, beq_iff_eq, decide_eq_true_eq] at c2
    by_cases c3 : b0 % 32 * 64 + b1 % 64 ≥ 128
    · simp only [if_pos c3] at hr ⊢
      rw [enc2 _ c3 (by omega), hf 2 (by omega)]
      have e0 : 192 + (b0 % 32 * 64 + b1 % 64) / 64 = b0 := by omega
      have e1 : 128 + (b0 % 32 * 64 + b1 % 64) % 64 = b1 := by omega
      rw [e0, e1]
      exact ⟨by omega, by omega, ⟨_, _, rfl, by simp, inner_no _ (.inr (by omega)), by simp [inner_hi _ c2.2.2]⟩, by simp [List.range_succ, hg0', hg1]⟩
    · simp only [if_neg c3] at hr
      exact absurd rfl hr
  simp only [if_neg c2] at hr ⊢
  by_cases c4 : (b0 / 16 == 14 && (decide (pos + 1 < s.size) && b1 / 64 == 2) && (decide (pos + 2 < s.size) && b2 / 64 == 2)) = true
  · simp only [if_pos c4] at hr ⊢
    simp only [Bool.and_eq_true, beq_iff_eq, decide_eq_true_eq] at c4
    by_cases c5 : (decide (b0 % 16 * 4096 + b1 % 64 * 64 + b2 % 64 ≥ 2048) && Utf8.valid ((b0 % 16 * 4096 + b1 % 64 * 64 + b2 % 64 : Nat) : Int)) = true
    · simp only [if_pos c5] at hr ⊢
      simp only [Bool.and_eq_true, decide_eq_true_eq] at c5
      rw [enc3 _ c5.1 (by omega) c5.2, hf 3 (by omega)]
      have e0 : 224 + (b0 % 16 * 4096 + b1 % 64 * 64 + b2 % 64) / 4096 = b0 := by omega
      have e1 : 128 + (b0 % 16 * 4096 + b1 % 64 * 64 + b2 % 64) / 64 % 64 = b1 := by omega
      have e2 : 128 + (b0 % 16 * 4096 + b1 % 64 * 64 + b2 % 64) % 64 = b2 := by omega
      rw [e0, e1, e2]
      exact ⟨by omega, by omega, ⟨_, _, rfl, by simp, inner_no _ (.inr (by omega)), by simp [inner_hi _ c4.1.2.2, inner_hi _ c4.2.2]⟩, by simp [List.range_succ, hg0', hg1, hg2]⟩
    · simp only [if_neg c5] at hr
      exact absurd rfl hr
  simp only [if_neg c4] at hr ⊢
  by_cases c6 : (b0 / 8 == 30 && (decide (pos + 1 < s.size) && b1 / 64 == 2) && (decide (pos + 2 < s.size) && b2 / 64 == 2) && (decide (pos + 3 < s.size) && b3 / 64 == 2)) = true
  · simp only [if_pos c6] at hr ⊢
    simp only [Bool.and_eq_true, beq_iff_eq, decide_eq_true_eq] at c6
    by_cases c7 : (decide (b0 % 8 * 262144 + b1 % 64 * 4096 + b2 % 64 * 64 + b3 % 64 ≥ 65536) && Utf8.valid ((b0 % 8 * 262144 + b1 % 64 * 4096 + b2 % 64 * 64 + b3 % 64 : Nat) : Int)) = true
    · simp only [if_pos c7] at hr ⊢
      simp only [Bool.and_eq_true, decide_eq_true_eq] at c7
      have hm : b0 % 8 * 262144 + b1 % 64 * 4096 + b2 % 64 * 64 + b3 % 64 ≤ 1114111 := by
        have := c7.2
        simp [Utf8.valid] at this
        omega
      rw [enc4 _ c7.1 hm c7.2, hf 4 (by omega)]
      have e0 : 240 + (b0 % 8 * 262144 + b1 % 64 * 4096 + b2 % 64 * 64 + b3 % 64) / 262144 = b0 := by omega
      have e1 : 128 + (b0 % 8 * 262144 + b1 % 64 * 4096 + b2 % 64 * 64 + b3 % 64) / 4096 % 64 = b1 := by omega
      have e2 : 128 + (b0 % 8 * 262144 + b1 % 64 * 4096 + b2 % 64 * 64 + b3 % 64) / 64 % 64 = b2 := by omega
      have e3 : 128 + (b0 % 8 * 262144 + b1 % 64 * 4096 + b2 % 64 * 64 + b3 % 64) % 64 = b3 := by omega
      rw [e0, e1, e2, e3]
      exact ⟨by omega, by omega, ⟨_, _, rfl, by simp, inner_no _ (.inr (by omega)), by simp [inner_hi _ c6.1.1.2.2, inner_hi _ c6.1.2.2, inner_hi _ c6.2.2]⟩, by simp [List.range_succ, hg0', hg1, hg2, hg3]⟩
    · simp only [if_neg c7] at hr
      exact absurd rfl hr
  simp only [if_neg c6] at hr
  exact absurd rfl hr
end Go.Proofs.Ytilmkghopeoipaa
