/- What is encoded is decoded: plain. Conditions: settings are such, and right. -/
import Derived.Test.YtpngnmokagbekaaW08
namespace Go.Proofs.Ytpngnmokagbekaa
open Go.RowKit Go.Kb

theorem hd4_four {n : Int} (_ : 0 ≤ n ∧ n < 4294967296) (r : List Int) : hd4 (fourL n ++ r) = n := by
  have e : hd4 (fourL n ++ r) = hd4 (fourL n) := rfl
  rw [e]
  simp [fourL, hd4]
  omega
def goP (u : Tm) (p : Int × Int) : Tm := (modeL u p.1 p.2).1
def okP (p : Int × Int) : Prop := 1 ≤ p.1 ∧ p.1 < 160 ∧ 0 ≤ p.2 ∧ p.2 < 4294967296 ∧ (p.1 ≤ 18 → p.2 ≤ 255)
theorem okP_err {p : Int × Int} (h : okP p) (u : Tm) : (modeL u p.1 p.2).2 = 0 := by
  obtain ⟨h1, h2, h3, h4, h5⟩ := h
  unfold modeL
  by_cases a : p.1 ≤ 18
  · rw [if_pos a, if_neg (by have := h5 a; omega)]
  · rw [if_neg a]
    split
    · rfl
    · split <;> rfl
theorem dec_prs : ∀ (l : List (Int × Int)) (r : List Int) (u : Tm), (∀ p ∈ l, okP p) → decL (l.flatMap (fun p => fiveL p.1 p.2) ++ r) u = decL r (l.foldl goP u)
  | [], _, _, _ => rfl
  | p :: l, r, u, h => by
    have hp := h p (by simp)
    have h0 : ¬ (p.1 = 0 ∨ 160 ≤ p.1) := by have := hp.1; have := hp.2.1; omega
    have hf := hd4_four (n := p.2) ⟨hp.2.2.1, hp.2.2.2.1⟩ (l.flatMap (fun p => fiveL p.1 p.2) ++ r)
    have e : (p :: l).flatMap (fun p => fiveL p.1 p.2) ++ r = p.1 :: (fourL p.2 ++ (l.flatMap (fun p => fiveL p.1 p.2) ++ r)) := by
      rw [List.flatMap_cons, List.append_assoc]; rfl
    rw [e, decL_go h0 (by simp [fourL]) (by rw [hf]; exact okP_err hp u), hf]
    exact dec_prs l r _ fun q hq => h q (by simp [hq])
/-- a setting's modes -/
def prsL (t : Tm) : List (Int × Int) := ((List.range 18).map fun (j : Nat) => ((j : Int) + 1, t.c.getD (j + 1) 0)) ++ (flagsAll.map fun op => (op, if hasL t op then 1 else 0)) ++ [(128, t.i), (129, t.o)]
theorem enc_prs (t : Tm) : encL t = (prsL t).flatMap (fun p => fiveL p.1 p.2) ++ [0] := by
  unfold encL prsL headL flagsE
  rw [List.flatMap_append, List.flatMap_append, List.flatMap_map, List.flatMap_map]
  simp only [List.flatMap_cons, List.flatMap_nil, List.append_nil, List.append_assoc]
theorem prs_ok {t : Tm} (h : t.Ok) : ∀ p ∈ prsL t, okP p := by
  intro p hp
  unfold prsL at hp
  simp only [List.mem_append, List.mem_map, List.mem_range, List.mem_cons, List.not_mem_nil, or_false] at hp
  rcases hp with (⟨j, hj, rfl⟩ | ⟨op, ho, rfl⟩) | rfl | rfl
  · have hb := h.b (t.c.getD (j + 1) 0) (by have hc := h.c; rw [getD_at (by omega)]; exact List.getElem_mem _)
    generalize t.c.getD (j + 1) 0 = x at *
    exact ⟨by show (1 : Int) ≤ (j : Int) + 1; omega, by show (j : Int) + 1 < 160; omega, hb.1, by show x < 4294967296; omega, fun _ => hb.2⟩
  · have hb := flag_bd (flagsAll_flag op ho)
    refine ⟨by simp; omega, by simp; omega, ?_, ?_, fun hh => by simp at hh; omega⟩
    all_goals cases hasL t op <;> simp
  · exact ⟨by simp, by simp, h.i.1, h.i.2, fun hh => by simp at hh⟩
  · exact ⟨by simp, by simp, h.o.1, h.o.2, fun hh => by simp at hh⟩
def setC (d : List Int) (k : Nat) (c : List Int) : List Int := (List.range k).foldl (fun c (j : Nat) => c.set (j + 1) (d.getD (j + 1) 0)) c
theorem fold_head (d : List Int) (u : Tm) (hd : ∀ j : Nat, j < 18 → ¬ 255 < d.getD (j + 1) 0) : ∀ k, k ≤ 18 → ((List.range k).map fun (j : Nat) => ((j : Int) + 1, d.getD (j + 1) 0)).foldl goP u = { u with c := setC d k u.c }
  | 0, _ => rfl
  | k + 1, hk => by
    have ih := fold_head d u hd k (by omega)
    have e : setC d (k + 1) u.c = (setC d k u.c).set (k + 1) (d.getD (k + 1) 0) := by
      unfold setC
      rw [List.range_succ, List.foldl_append]
      rfl
    rw [List.range_succ, List.map_append, List.foldl_append, ih, e]
    show goP { u with c := setC d k u.c } ((k : Int) + 1, d.getD (k + 1) 0) = _
    unfold goP modeL
    rw [if_pos (show (k : Int) + 1 ≤ 18 by omega), if_neg (hd k (by omega)), show ((k : Int) + 1).toNat = k + 1 by omega]
theorem setC_len (d c : List Int) : ∀ k, (setC d k c).length = c.length
  | 0 => rfl
  | k + 1 => by
    unfold setC
    rw [List.range_succ, List.foldl_append]
    show ((setC d k c).set (k + 1) (d.getD (k + 1) 0)).length = _
    rw [List.length_set, setC_len d c k]
theorem setC_at (d c : List Int) (i : Nat) (hi : i < c.length) : ∀ k, k < c.length → (setC d k c).getD i 0 = if 1 ≤ i ∧ i ≤ k then d.getD i 0 else c.getD i 0
  | 0, _ => by
    rw [if_neg (by omega)]; rfl
  | k + 1, hk => by
    have ih := setC_at d c i hi k (by omega)
    have hl := setC_len d c k
    have e : setC d (k + 1) c = (setC d k c).set (k + 1) (d.getD (k + 1) 0) := by
      unfold setC
      rw [List.range_succ, List.foldl_append]
      rfl
    rw [e]
    by_cases hx : i = k + 1
    · subst hx
      rw [if_pos ⟨by omega, by omega⟩, getD_at (by rw [List.length_set]; omega), List.getElem_set_self]
    · rw [getD_at (by rw [List.length_set]; omega), List.getElem_set_ne (by omega), ← getD_at (by omega), ih]
      by_cases h2 : 1 ≤ i ∧ i ≤ k
      · rw [if_pos h2, if_pos (by omega)]
      · rw [if_neg h2, if_neg (by omega)]
theorem setC_all {c d : List Int} (hc : c.length = 19) (hd : d.length = 19) (h0 : c.getD 0 0 = d.getD 0 0) : setC d 18 c = d := by
  have hl := setC_len d c 18
  apply List.ext_getElem
  · omega
  · intro i h1 h2
    have h := setC_at d c i (by omega) 18 (by omega)
    rw [← getD_at h1, ← getD_at h2, h]
    by_cases hi : 1 ≤ i ∧ i ≤ 18
    · rw [if_pos hi]
    · rw [if_neg hi]
      obtain rfl : i = 0 := by omega
      exact h0
theorem onL_fold (g : Int → Bool) {q : Int} (hq : 30 ≤ q ∧ q ≤ 93) : ∀ (l : List Int) {f : Int}, 0 ≤ f ∧ f < 18446744073709551616 → (∀ x ∈ l, flagL x = true) → onL (l.foldl (fun f op => fset f op (g op)) f) q = if q ∈ l then g q else onL f q
  | [], _, _, _ => rfl
  | x :: l, f, hf, hl => by
    have hx := flag_bd (hl x (by simp))
    have ih := onL_fold g hq l (fset_bd (g x) hf hx) (fun y hy => hl y (by simp [hy]))
    show onL (l.foldl _ (fset f x (g x))) q = _
    rw [ih, onL_fset (g x) hf hx hq]
    by_cases h1 : q ∈ l
    · rw [if_pos h1, if_pos (by simp [h1])]
    · rw [if_neg h1]
      by_cases h2 : q = x
      · subst h2
        rw [if_pos rfl, if_pos (by simp)]
      · rw [if_neg h2, if_neg (by simp [h1, h2])]
theorem fold_bd (g : Int → Bool) : ∀ (l : List Int) {f : Int}, 0 ≤ f ∧ f < 18446744073709551616 → (∀ x ∈ l, flagL x = true) → 0 ≤ l.foldl (fun f op => fset f op (g op)) f ∧ l.foldl (fun f op => fset f op (g op)) f < 18446744073709551616
  | [], _, hf, _ => hf
  | x :: l, _, hf, hl => fold_bd g l (fset_bd (g x) hf (flag_bd (hl x (by simp)))) fun y hy => hl y (by simp [hy])
theorem onL_ext {f g : Int} (hf : 0 ≤ f ∧ f < 18446744073709551616) (hg : 0 ≤ g ∧ g < 18446744073709551616) (h : ∀ q : Int, 30 ≤ q ∧ q ≤ 93 → onL f q = onL g q) : f = g := by
  obtain ⟨X, rfl⟩ := Int.eq_ofNat_of_zero_le hf.1
  obtain ⟨Y, rfl⟩ := Int.eq_ofNat_of_zero_le hg.1
  congr 1
  apply Nat.eq_of_testBit_eq
  intro i
  by_cases hi : i < 64
  · have := h (30 + (i : Int)) (by omega)
    rw [onL_bit, onL_bit] at this
    rw [show (30 + (i : Int) - 30).toNat = i by omega] at this
    exact this
  · have h64 : (2 : Nat) ^ 64 ≤ 2 ^ i := Nat.pow_le_pow_right (by decide) (by omega)
    rw [Nat.testBit_lt_two_pow (by omega), Nat.testBit_lt_two_pow (by omega)]
theorem right_off {f : Int} (hf : 0 ≤ f ∧ f < 18446744073709551616) (h : offF f flagsAll = 0) {q : Int} (hq : 30 ≤ q ∧ q ≤ 93) (hn : ¬ q ∈ flagsAll) : onL f q = false := by
  have h1 := onL_fold (fun _ => false) hq flagsAll hf flagsAll_flag
  have h2 : flagsAll.foldl (fun f op => fset f op false) f = 0 := h
  rw [if_neg hn, h2] at h1
  rw [← h1]
  unfold onL
  simp
theorem fold_flags (t : Tm) : ∀ (l : List Int) (u : Tm), u.Ok → (∀ x ∈ l, x ∈ flagsAll) → (l.map fun op => ((op, if hasL t op then 1 else 0) : Int × Int)).foldl goP u = { u with f := l.foldl (fun f op => fset f op (hasL t op)) u.f }
  | [], _, _, _ => rfl
  | x :: l, u, hu, hl => by
    have hx := flagsAll_flag x (hl x (by simp))
    have hb := flag_bd hx
    have e : goP u (x, if hasL t x then 1 else 0) = { u with f := fset u.f x (hasL t x) } := by
      unfold goP modeL setL
      have hne : ¬ (x = 128) ∧ ¬ (x = 129) := by omega
      rw [if_neg (show ¬ x ≤ 18 by omega), if_neg hne.1, if_neg hne.2, if_pos hx]
      cases hasL t x <;> rfl
    rw [List.map_cons, List.foldl_cons, e]
    exact fold_flags t l { u with f := fset u.f x (hasL t x) } ⟨hu.c, hu.b, fset_bd _ hu.f hb, hu.i, hu.o, hu.m, hu.t⟩ fun y hy => hl y (by simp [hy])
/-- what is encoded of a right setting, decoded over a right one -/
theorem dec_enc {t u : Tm} (ht : t.Ok) (hu : u.Ok) (hrt : rightL t = true) (hru : rightL u = true) (r : List Int) : decL (encL t ++ r) u = ({ t with m := u.m, t := u.t }, 0) := by
  have ft : offF t.f flagsAll = 0 ∧ t.c.getD 0 0 = 0 := by
    unfold rightL at hrt
    have := of_decide_eq_true hrt
    rw [offT_all] at this
    exact ⟨this.1, this.2.1⟩
  have fu : offF u.f flagsAll = 0 ∧ u.c.getD 0 0 = 0 := by
    unfold rightL at hru
    have := of_decide_eq_true hru
    rw [offT_all] at this
    exact ⟨this.1, this.2.1⟩
  rw [enc_prs, List.append_assoc, dec_prs _ _ _ (prs_ok ht)]
  have e0 : ∀ v, decL ([0] ++ r) v = (v, 0) := fun v => decL_end (.inl rfl)
  rw [e0]
  have hcb : ∀ j : Nat, j < 18 → ¬ 255 < t.c.getD (j + 1) 0 := fun j hj => by
    have hb := ht.b (t.c.getD (j + 1) 0) (by have hc := ht.c; rw [getD_at (by omega)]; exact List.getElem_mem _)
    omega
  unfold prsL
  rw [List.foldl_append, List.foldl_append, fold_head t.c u hcb 18 (Nat.le_refl _), setC_all hu.c ht.c (by rw [ft.2, fu.2])]
  rw [fold_flags t flagsAll { u with c := t.c } ⟨ht.c, ht.b, hu.f, hu.i, hu.o, hu.m, hu.t⟩ fun _ h => h]
  have hf : flagsAll.foldl (fun f op => fset f op (hasL t op)) u.f = t.f := by
    refine onL_ext (fold_bd (hasL t) flagsAll hu.f flagsAll_flag) ht.f fun q hq => ?_
    rw [onL_fold (hasL t) hq flagsAll hu.f flagsAll_flag]
    by_cases h : q ∈ flagsAll
    · rw [if_pos h]
      unfold hasL
      rw [flagsAll_flag q h, Bool.true_and]
    · rw [if_neg h, right_off hu.f fu.1 hq h, right_off ht.f ft.1 hq h]
  show ([((128 : Int), t.i), ((129 : Int), t.o)].foldl goP { u with c := t.c, f := flagsAll.foldl (fun f op => fset f op (hasL t op)) u.f }, (0 : Int)) = _
  rw [hf]
  rfl
theorem right_back {t u : Tm} (hrt : rightL t = true) (hru : rightL u = true) : rightL { t with m := u.m, t := u.t } = true := by
  unfold rightL at hrt hru ⊢
  have h1 := of_decide_eq_true hrt
  have h2 := of_decide_eq_true hru
  rw [offT_all] at h1 ⊢
  exact decide_eq_true ⟨h1.1, h1.2.1, h2.2.2⟩
end Go.Proofs.Ytpngnmokagbekaa
