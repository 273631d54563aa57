/- Plain laws of packets (printed by chain.py of +OS04 J02[Less,feedGo_less,feedR_cases]@Fr K02[feed_append]@Fr L02[Ub,rdls_y,y_rdls,ownvs_y,ownvs_mod,pack,pack_succ,hd4_four,feed_put,feed_pack,pack_len,four_bs,pack_bs,feed_stuck,feed_step,feedR_len]@Fr). No condition. -/
import Derived.Test.YtldijmappinngaaGreatDoorOS04
import Derived.Deep.DeepCutAuto
namespace Go.Proofs.YtldijmappinngaaGreatDoor.Fr
set_option maxRecDepth 100000
open Go.RowKit Go.Kb Go.Kb.Frame

/-- what is left holds less than a packet -/
def Less (r : List Int) : Prop := r.length < 4 ∨ (4 ≤ r.length ∧ 1 ≤ hd4 r ∧ hd4 r ≤ 33792 ∧ (r.length : Int) < 4 + hd4 r)
theorem feedGo_less : ∀ (f : Nat) (buf r : List Int), buf.length ≤ f → (feedGo f buf).2 = some r → Less r ∧ (∀ x ∈ r, x ∈ buf) := by
  intro f
  induction f with
  | zero =>
    intro buf r hl h
    have : buf = [] := List.eq_nil_of_length_eq_zero (by omega)
    subst this
    simp [feedGo] at h
    subst h
    exact ⟨.inl (by simp), fun x hx => hx⟩
  | succ f ih =>
    intro buf r hl h
    match buf, hl, h with
    | [], _, h => simp [feedGo] at h; subst h; exact ⟨.inl (by simp), fun x hx => hx⟩
    | [_], _, h => simp [feedGo] at h; subst h; exact ⟨.inl (by simp), fun x hx => hx⟩
    | [_, _], _, h => simp [feedGo] at h; subst h; exact ⟨.inl (by simp), fun x hx => hx⟩
    | [_, _, _], _, h => simp [feedGo] at h; subst h; exact ⟨.inl (by simp), fun x hx => hx⟩
    | a :: b :: c :: d :: t, hl, h =>
      simp only [feedGo] at h
      split at h
      · rename_i hn
        split at h
        · rename_i hw
          simp at h
          subst h
          have e : num4 a b c d = hd4 (a :: b :: c :: d :: t) := rfl
          rw [e] at hn hw
          refine ⟨.inr ⟨by simp, hn.1, hn.2, ?_⟩, fun x hx => hx⟩
          simp only [List.length_cons]
          omega
        · obtain ⟨h1, h2⟩ := ih _ r (by simp only [List.length_cons, List.length_drop] at hl ⊢; omega) h
          exact ⟨h1, fun x hx => by
            have := List.mem_of_mem_drop (h2 x hx)
            simp [this]⟩
      · simp at h
theorem feedR_cases (bad : Bool) (buf : List Int) : ∃ r b ls n, feedR bad buf = ((r, b), ls, n) ∧
    ((b = true ∧ r = [] ∧ (n = 5 ∨ (bad = true ∧ n = 9))) ∨ (b = false ∧ n = 0 ∧ Less r ∧ ∀ x ∈ r, x ∈ buf)) := by
  cases bad
  · cases h : (feed buf).2 with
    | none => exact ⟨[], true, (feed buf).1, 5, by simp [feedR, h], .inl ⟨rfl, rfl, .inl rfl⟩⟩
    | some r =>
      obtain ⟨h1, h2⟩ := feedGo_less buf.length buf r (Nat.le_refl _) h
      exact ⟨r, false, (feed buf).1, 0, by simp [feedR, h], .inr ⟨rfl, rfl, h1, h2⟩⟩
  · exact ⟨[], true, [], 9, rfl, .inl ⟨rfl, rfl, .inr ⟨rfl, rfl⟩⟩⟩

end Go.Proofs.YtldijmappinngaaGreatDoor.Fr
namespace Go.Proofs.YtldijmappinngaaGreatDoor.Fr
set_option maxRecDepth 100000
open Go.RowKit Go.Kb Go.Kb.Frame

/-- bytes in two pieces are bytes at once -/
theorem feed_append : ∀ (f : Nat) (a b : List Int), a.length ≤ f →
    (∀ l, feed a = (l, none) → feed (a ++ b) = (l, none)) ∧ (∀ l r, feed a = (l, some r) → feed (a ++ b) = (l ++ (feed (r ++ b)).1, (feed (r ++ b)).2)) := by
  intro f
  induction f with
  | zero =>
    intro a b hl
    have : a = [] := List.eq_nil_of_length_eq_zero (by omega)
    subst this
    refine ⟨fun l h => by simp [feed, feedGo] at h, fun l r h => ?_⟩
    simp [feed, feedGo] at h
    obtain ⟨rfl, rfl⟩ := h
    simp
  | succ f ih =>
    intro a b hl
    by_cases h4 : 4 ≤ a.length
    · have h4b : 4 ≤ (a ++ b).length := by simp; omega
      have hd : hd4 (a ++ b) = hd4 a := by
        obtain ⟨x, y, z, u, t, rfl⟩ := four_of h4
        rfl
      by_cases hin : 1 ≤ hd4 a ∧ hd4 a ≤ 33792
      · obtain ⟨n, hn⟩ := Int.eq_ofNat_of_zero_le (show 0 ≤ hd4 a by omega)
        by_cases hw : (a.length : Int) < 4 + hd4 a
        · rw [feed_wait4 h4 hin hw]
          refine ⟨fun l h => by simp at h, fun l r h => ?_⟩
          simp only [Prod.mk.injEq, Option.some.injEq] at h
          obtain ⟨rfl, rfl⟩ := h
          simp
        · have e1 := feed_more4 h4 hin hn (by omega)
          have e2 := feed_more4 h4b (by rw [hd]; exact hin) (by rw [hd]; exact hn) (by simp; omega)
          have e3 : ((a ++ b).drop 4).take n = (a.drop 4).take n := by
            rw [List.drop_append_of_le_length h4, List.take_append_of_le_length (by simp; omega)]
          have e4 : (a ++ b).drop (4 + n) = a.drop (4 + n) ++ b := List.drop_append_of_le_length (by omega)
          obtain ⟨i1, i2⟩ := ih (a.drop (4 + n)) b (by simp; omega)
          rw [e1, e2, e3, e4]
          refine ⟨fun l h => ?_, fun l r h => ?_⟩
          · simp only [Prod.mk.injEq] at h
            obtain ⟨rfl, h⟩ := h
            have := i1 _ (Prod.ext rfl h)
            rw [this]
          · simp only [Prod.mk.injEq] at h
            obtain ⟨rfl, h⟩ := h
            have := i2 _ r (Prod.ext rfl h)
            rw [this]
            simp
      · rw [feed_bad4 h4 hin, feed_bad4 h4b (by rw [hd]; exact hin)]
        exact ⟨fun l h => h, fun l r h => by simp at h⟩
    · rw [feed_short (by omega)]
      refine ⟨fun l h => by simp at h, fun l r h => ?_⟩
      simp only [Prod.mk.injEq, Option.some.injEq] at h
      obtain ⟨rfl, rfl⟩ := h
      simp
end Go.Proofs.YtldijmappinngaaGreatDoor.Fr
namespace Go.Proofs.YtldijmappinngaaGreatDoor.Fr
set_option maxRecDepth 100000
open Go.RowKit Go.Kb Go.Kb.Frame

abbrev Ub : Rep Int := Rep.int .u8
theorem rdls_y {w : World} {v : Value} {ls : List (List Int)} (h : RdLs w v ls) : RdY (Rep.sl Ub) (fun _ => True) w v ls := by
  obtain ⟨vs, h1, h2, h3⟩ := h
  refine ⟨vs, h2, by rw [h1]; exact (Nat.mul_one _).symm, fun j l hl => ?_⟩
  have hj : j < vs.length := by rw [h1]; exact (List.getElem?_eq_some_iff.1 hl).1
  refine ⟨vs[j], ?_, (h3 j _ l (List.getElem?_eq_getElem hj) hl).s⟩
  show (vs.drop (j * 1)).take 1 = _
  rw [Nat.mul_one, List.take_one, List.head?_drop, List.getElem?_eq_getElem hj]; rfl
theorem y_rdls {A : Nat → Prop} {w : World} {v : Value} {ls : List (List Int)} (h : RdY (Rep.sl Ub) A w v ls) : RdLs w v ls := by
  obtain ⟨vs, h2, h1, h3⟩ := h
  have h1 : vs.length = ls.length := h1.trans (Nat.mul_one _)
  refine ⟨vs, h1, h2, fun j x l hx hl => ?_⟩
  obtain ⟨u, hu, hr⟩ := h3 j l hl
  have hu : (vs.drop (j * 1)).take 1 = [u] := hu
  rw [Nat.mul_one, List.take_one, List.head?_drop, hx] at hu
  simp at hu
  subst hu
  exact hr.ri
theorem ownvs_y {w : World} {base : Nat} {v : Value} {ls : List (List Int)} {vs : List Value} (h : OwnVs w base v ls vs) : RdY (Rep.sl Ub) (fun k => base ≤ k) w v ls := by
  obtain ⟨h1, h2, h3⟩ := h
  refine ⟨vs, RdN.of_own h2, by rw [h1]; exact (Nat.mul_one _).symm, fun j l hl => ?_⟩
  have hj : j < vs.length := by rw [h1]; exact (List.getElem?_eq_some_iff.1 hl).1
  have ho := h3 j _ l (List.getElem?_eq_getElem hj) hl
  refine ⟨vs[j], ?_, (OwnS.of_ints (B := fun _ => False) ho).rd (fun _ h => h) (fun _ h => h.elim)⟩
  show (vs.drop (j * 1)).take 1 = _
  rw [Nat.mul_one, List.take_one, List.head?_drop, List.getElem?_eq_getElem hj]; rfl

theorem ownvs_mod {S : Nat → Prop} {w w' : World} {base : Nat} {v : Value} {ls : List (List Int)} {vs : List Value} (h : OwnVs w base v ls vs) (hM : Mod S w w') (hS : ∀ k, base ≤ k → ¬ S k) : OwnVs w' base v ls vs :=
  ⟨h.1, own_mod h.2.1 hM fun k hk => hS k (h.2.1.lt k hk).1, fun j x l hx hl => own_mod (h.2.2 j x l hx hl) hM fun k hk => hS k ((h.2.2 j x l hx hl).lt k hk).1⟩
/-- packets behind one another -/
def pack (ls : List (List Int)) : List Int := (ls.map fun p => four p.length ++ p).flatten
theorem pack_succ {ls : List (List Int)} {k : Nat} {p : List Int} (h : ls[k]? = some p) : pack (ls.take (k + 1)) = pack (ls.take k) ++ (four p.length ++ p) := by
  simp [pack, List.take_add_one, h]
theorem hd4_four (n : Int) (t : List Int) : hd4 (four n ++ t) = n := by
  simp only [hd4, four, List.cons_append, List.nil_append, List.getD_cons_zero, List.getD_cons_succ]
  omega
theorem feed_put (p t : List Int) (h : 1 ≤ p.length ∧ p.length ≤ 33792) : feed (four p.length ++ p ++ t) = (p :: (feed t).1, (feed t).2) := by
  have e1 : hd4 (four p.length ++ p ++ t) = (p.length : Int) := by rw [List.append_assoc]; exact hd4_four _ _
  have hl : (four (p.length : Int)).length = 4 := rfl
  rw [feed_more4 (n := p.length) (by simp only [List.length_append, hl]; omega) (by rw [e1]; omega) e1 (by simp only [List.length_append, hl]; omega)]
  have e2 : ((four (p.length : Int) ++ p ++ t).drop 4).take p.length = p := by
    rw [List.append_assoc, List.drop_append_of_le_length (by simp [hl])]
    simp [four]
  have e3 : (four (p.length : Int) ++ p ++ t).drop (4 + p.length) = t := by
    rw [← List.drop_drop, List.append_assoc, List.drop_append_of_le_length (by simp [hl])]
    simp [four]
  rw [e2, e3]
theorem feed_pack : ∀ ls : List (List Int), (∀ p ∈ ls, 1 ≤ p.length ∧ p.length ≤ 33792) → feed (pack ls) = (ls, some [])
  | [], _ => rfl
  | p :: ls, h => by
    have : pack (p :: ls) = four p.length ++ p ++ pack ls := by simp [pack]
    rw [this, feed_put p _ (h p (by simp)), feed_pack ls fun q hq => h q (by simp [hq])]
theorem pack_len (ls : List (List Int)) (h : ∀ p ∈ ls, 1 ≤ p.length ∧ p.length ≤ 33792) : (pack ls).length ≤ ls.length * 33796 := by
  induction ls with
  | nil => simp [pack]
  | cons p ls ih =>
    have h1 := ih fun q hq => h q (by simp [hq])
    have h2 := (h p (by simp)).2
    have : (pack (p :: ls)).length = 4 + p.length + (pack ls).length := by simp [pack, four]; omega
    rw [this, List.length_cons]
    omega
theorem four_bs (n : Int) (h0 : 0 ≤ n) (h1 : n < 4294967296) : Bs (four n) := by
  intro x hx
  simp only [four, List.mem_cons, List.not_mem_nil, or_false] at hx
  rcases hx with rfl | rfl | rfl | rfl <;> omega
theorem pack_bs (ls : List (List Int)) (h : ∀ p ∈ ls, 1 ≤ p.length ∧ p.length ≤ 33792) (hb : ∀ p ∈ ls, Bs p) : Bs (pack ls) := by
  intro x hx
  simp only [pack, List.mem_flatten, List.mem_map] at hx
  obtain ⟨l, ⟨p, hp, rfl⟩, hx⟩ := hx
  rcases List.mem_append.1 hx with hx | hx
  · exact four_bs _ (by omega) (by have := (h p hp).2; omega) x hx
  · exact hb p hp x hx
theorem feed_stuck : ∀ (f : Nat) (a : List Int) (l : List (List Int)) (r : List Int), a.length ≤ f → feed a = (l, some r) → feed r = ([], some r) := by
  intro f
  induction f with
  | zero =>
    intro a l r hl h
    obtain rfl : a = [] := List.eq_nil_of_length_eq_zero (by omega)
    simp [feed, feedGo] at h
    obtain ⟨_, rfl⟩ := h
    rfl
  | succ f ih =>
    intro a l r hl h
    by_cases h4 : 4 ≤ a.length
    · by_cases hin : 1 ≤ hd4 a ∧ hd4 a ≤ 33792
      · obtain ⟨n, hn⟩ := Int.eq_ofNat_of_zero_le (show 0 ≤ hd4 a by omega)
        by_cases hw : (a.length : Int) < 4 + hd4 a
        · have e := feed_wait4 h4 hin hw
          rw [e] at h
          simp only [Prod.mk.injEq, Option.some.injEq] at h
          obtain ⟨_, rfl⟩ := h
          exact e
        · rw [feed_more4 h4 hin hn (by omega)] at h
          simp only [Prod.mk.injEq] at h
          exact ih (a.drop (4 + n)) _ r (by simp; omega) (Prod.ext rfl h.2)
      · rw [feed_bad4 h4 hin] at h
        simp at h
    · have e := feed_short (r := a) (by omega)
      rw [e] at h
      simp only [Prod.mk.injEq, Option.some.injEq] at h
      obtain ⟨_, rfl⟩ := h
      exact e
/-- one piece more -/
theorem feed_step {buf a b : List Int} {rem : List (List Int)} (h : feed (buf ++ (a ++ b)) = (rem, some [])) :
    ∃ l r rem2, feedR false (buf ++ a) = ((r, false), l, 0) ∧ rem = l ++ rem2 ∧ feed (r ++ b) = (rem2, some []) ∧ feed r = ([], some r) := by
  have key := feed_append (buf ++ a).length (buf ++ a) b (Nat.le_refl _)
  rw [List.append_assoc] at key
  cases hc : (feed (buf ++ a)).2 with
  | none =>
    have e := key.1 _ (Prod.ext rfl hc)
    rw [e] at h
    simp at h
  | some s =>
    have e := key.2 _ s (Prod.ext rfl hc)
    rw [e] at h
    simp only [Prod.mk.injEq] at h
    exact ⟨_, s, _, feedR_some (Prod.ext rfl hc), h.1.symm, Prod.ext rfl h.2, feed_stuck _ _ _ s (Nat.le_refl _) (Prod.ext rfl hc)⟩
theorem feedR_len {buf r : List Int} {l : List (List Int)} (h : feedR false buf = ((r, false), l, 0)) : Bs buf → Bs r ∧ r.length ≤ 37892 := by
  intro hb
  obtain ⟨r', b', ls', n', h', hcase⟩ := feedR_cases false buf
  rw [h] at h'
  simp only [Prod.mk.injEq] at h'
  obtain ⟨⟨rfl, rfl⟩, rfl, rfl⟩ := h'
  rcases hcase with ⟨h1, _⟩ | ⟨_, _, hless, hmem⟩
  · cases h1
  · refine ⟨fun x hx => hb x (hmem x hx), ?_⟩
    rcases hless with h | ⟨_, _, h, h'⟩ <;> omega
end Go.Proofs.YtldijmappinngaaGreatDoor.Fr
