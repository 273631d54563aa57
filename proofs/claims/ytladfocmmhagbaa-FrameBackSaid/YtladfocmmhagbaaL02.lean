/- The plain law of packets that are cut anywhere: their payloads come out, and nothing is left. And rows of bytes as data. Conditions: none. -/
import Derived.Test.YtladfocmmhagbaaK02
import Derived.Test.YtladfocmmhagbaaRep
namespace Go.Proofs.Ytladfocmmhagbaa
open Go.RowKit Go.Kb Go.Kb.Frame

abbrev Ub : Rep Int := Rep.int .u8
theorem rdls_y {w : World} {v : Value} {ls : List (List Int)} (h : RdLs w v ls) : RdY (Rep.sl Ub) (fun _ => True) w v ls := by
  obtain ⟨vs, h1, h2, h3⟩ := h
  refine ⟨vs, h2, by rw [h1]; exact (Nat.mul_one _).symm, fun j l hl => ?_⟩
  have hj : j < vs.length := by rw [h1]; exact (List.getElem?_eq_some_iff.1 hl).1
  refine ⟨vs[j], ?_, (h3 j _ l (List.getElem?_eq_getElem hj) hl).s⟩
  show (vs.drop (j * 1)).take 1 = _
  rw [Nat.mul_one, List.take_one, List.head?_drop, List.getElem?_eq_getElem hj]; rfl
theorem y_rdls {A : Nat → Prop} {w : World} {v : Value} {ls : List (List Int)} (h : RdY (Rep.sl Ub) A w v ls) : RdLs w v ls := by
  obtain ⟨vs, h2, h1, h3⟩ := h
  have h1 : vs.length = ls.length := h1.trans (Nat.mul_one _)
  refine ⟨vs, h1, h2, fun j x l hx hl => ?_⟩
  obtain ⟨u, hu, hr⟩ := h3 j l hl
  have hu : (vs.drop (j * 1)).take 1 = [u] := hu
  rw [Nat.mul_one, List.take_one, List.head?_drop, hx] at hu
  simp at hu
  subst hu
  exact hr.ri
theorem ownvs_y {w : World} {base : Nat} {v : Value} {ls : List (List Int)} {vs : List Value} (h : OwnVs w base v ls vs) : RdY (Rep.sl Ub) (fun k => base ≤ k) w v ls := by
  obtain ⟨h1, h2, h3⟩ := h
  refine ⟨vs, RdN.of_own h2, by rw [h1]; exact (Nat.mul_one _).symm, fun j l hl => ?_⟩
  have hj : j < vs.length := by rw [h1]; exact (List.getElem?_eq_some_iff.1 hl).1
  have ho := h3 j _ l (List.getElem?_eq_getElem hj) hl
  refine ⟨vs[j], ?_, (OwnS.of_ints (B := fun _ => False) ho).rd (fun _ h => h) (fun _ h => h.elim)⟩
  show (vs.drop (j * 1)).take 1 = _
  rw [Nat.mul_one, List.take_one, List.head?_drop, List.getElem?_eq_getElem hj]; rfl

theorem ownvs_mod {S : Nat → Prop} {w w' : World} {base : Nat} {v : Value} {ls : List (List Int)} {vs : List Value} (h : OwnVs w base v ls vs) (hM : Mod S w w') (hS : ∀ k, base ≤ k → ¬ S k) : OwnVs w' base v ls vs :=
  ⟨h.1, own_mod h.2.1 hM fun k hk => hS k (h.2.1.lt k hk).1, fun j x l hx hl => own_mod (h.2.2 j x l hx hl) hM fun k hk => hS k ((h.2.2 j x l hx hl).lt k hk).1⟩
theorem rds_from {A : Nat → Prop} {w : World} {Ad : Option Addr} {n c m : Nat} {l : List Int} (h : RdS Ub A w (.slice Ad n c) l) (hm : m ≤ n) : RdS Ub A w (.slice (if c = m then Ad else Option.map (fun x => x.add m) Ad) (n - m) (c - m)) (l.drop m) := by
  have h1 : RdS Ub A w (.slice (if c = m then Ad else Ad.map (·.add (m * 1))) (n - m) (c - m)) (l.drop m) := h.from_ hm
  rw [Nat.mul_one] at h1
  exact h1
/-- what one piece more leaves in memory -/
theorem back_post {g : Nat} {wo wr w6 w6' w7 : World} {l done : List (List Int)} {mid : Nat} {A6 Ag A7 As : Option Addr} {c6 cg c7 cs m : Nat} {r rest : List Int} {cells : Array Value}
    (hg : wo.heap.size = g) (hEx : Ext wo wr) (E6 : Ext wr w6) (hbx : Blk wr g 34 cells) (r6 : OwnB w6 mid (.slice A6 r.length c6) r)
    (hM : Mod (fun k => k = g) w6 w6') (hbx' : Blk w6' g 34 #[.slice A6 r.length c6, .bool false])
    (hgo : OwnS (Rep.sl Ub) 22 (g + 1) (fun k => k ≠ g) wr (.slice Ag done.length cg) done)
    (o7 : OwnS (Rep.sl Ub) 22 (g + 1) (fun k => k ≠ g) w7 (.slice A7 (done.length + l.length) c7) (done ++ l)) (M7 : Mod (fun k => (Value.slice Ag done.length cg).ownBlock = some k) w6' w7)
    (hst : RdS Ub (fun k => k < g) wr (.slice As rest.length cs) rest) (hm : m ≤ rest.length) :
    RdS Ub (fun k => k < g) w7 (.slice (if cs = m then As else Option.map (fun x => x.add m) As) (rest.length - m) (cs - m)) (rest.drop m) ∧ Blk w7 g 34 #[.slice A6 r.length c6, .bool false] ∧
      RdS Ub (fun k => k ≠ g ∧ (Value.slice A7 (done.length + l.length) c7).ownBlock ≠ some k) w7 (.slice A6 r.length c6) r ∧ Ext wo w7 := by
  have hgrow := hgo.row
  have hr6 : ∀ k, (Value.slice A6 r.length c6).ownBlock = some k → ¬ k = g := fun k hk he => own_blk_ne r6 (hbx.ext E6) (by decide) (by rw [hk, he])
  have r6' := own_mod r6 hM hr6
  obtain ⟨us, hu, _⟩ := hgo
  have hu6 := own_mod (own_ext hu E6) hM fun k hk => by have := (hu.lt k hk).1; omega
  have hne : ∀ k, (Value.slice A6 r.length c6).ownBlock = some k → ¬ (Value.slice Ag done.length cg).ownBlock = some k := fun k hk he => by
    rcases own_own_ne r6' hu6 (by decide) with h | h
    · rw [hk] at h; cases h
    · exact h (by rw [hk, he])
  have r7 := own_mod r6' M7 hne
  refine ⟨rds_from ((((hst.ext E6).mod hM fun k _ hk => by omega).mod M7 fun k _ hk he => by have := (hgrow k he).1; omega)) hm, hbx'.mod M7 fun he => by have := (hgrow g he).1; omega, ⟨RI.y (OwnB.rd r7), fun _ k hk => ⟨hr6 k hk, fun he => ?_⟩⟩, ?_⟩
  · obtain ⟨us7, hu7, _⟩ := o7
    rcases own_own_ne r7 hu7 (by decide) with h | h
    · rw [hk] at h; cases h
    · exact h (by rw [hk, he])
  · exact Mod.toExt (Mod.toExt (hEx.trans E6) hM (by intro k hk; omega)) M7 (by intro k hk he; have := (hgrow k he).1; omega)
/-- packets behind one another -/
def pack (ls : List (List Int)) : List Int := (ls.map fun p => four p.length ++ p).flatten
theorem pack_succ {ls : List (List Int)} {k : Nat} {p : List Int} (h : ls[k]? = some p) : pack (ls.take (k + 1)) = pack (ls.take k) ++ (four p.length ++ p) := by
  simp [pack, List.take_add_one, h]
theorem hd4_four (n : Int) (t : List Int) : hd4 (four n ++ t) = n := by
  simp only [hd4, four, List.cons_append, List.nil_append, List.getD_cons_zero, List.getD_cons_succ]
  omega
theorem feed_put (p t : List Int) (h : 1 ≤ p.length ∧ p.length ≤ 33792) : feed (four p.length ++ p ++ t) = (p :: (feed t).1, (feed t).2) := by
  have e1 : hd4 (four p.length ++ p ++ t) = (p.length : Int) := by rw [List.append_assoc]; exact hd4_four _ _
  have hl : (four (p.length : Int)).length = 4 := rfl
  rw [feed_more4 (n := p.length) (by simp only [List.length_append, hl]; omega) (by rw [e1]; omega) e1 (by simp only [List.length_append, hl]; omega)]
  have e2 : ((four (p.length : Int) ++ p ++ t).drop 4).take p.length = p := by
    rw [List.append_assoc, List.drop_append_of_le_length (by simp [hl])]
    simp [four]
  have e3 : (four (p.length : Int) ++ p ++ t).drop (4 + p.length) = t := by
    rw [← List.drop_drop, List.append_assoc, List.drop_append_of_le_length (by simp [hl])]
    simp [four]
  rw [e2, e3]
theorem feed_pack : ∀ ls : List (List Int), (∀ p ∈ ls, 1 ≤ p.length ∧ p.length ≤ 33792) → feed (pack ls) = (ls, some [])
  | [], _ => rfl
  | p :: ls, h => by
    have : pack (p :: ls) = four p.length ++ p ++ pack ls := by simp [pack]
    rw [this, feed_put p _ (h p (by simp)), feed_pack ls fun q hq => h q (by simp [hq])]
theorem pack_len (ls : List (List Int)) (h : ∀ p ∈ ls, 1 ≤ p.length ∧ p.length ≤ 33792) : (pack ls).length ≤ ls.length * 33796 := by
  induction ls with
  | nil => simp [pack]
  | cons p ls ih =>
    have h1 := ih fun q hq => h q (by simp [hq])
    have h2 := (h p (by simp)).2
    have : (pack (p :: ls)).length = 4 + p.length + (pack ls).length := by simp [pack, four]; omega
    rw [this, List.length_cons]
    omega
theorem four_bs (n : Int) (h0 : 0 ≤ n) (h1 : n < 4294967296) : Bs (four n) := by
  intro x hx
  simp only [four, List.mem_cons, List.not_mem_nil, or_false] at hx
  rcases hx with rfl | rfl | rfl | rfl <;> omega
theorem pack_bs (ls : List (List Int)) (h : ∀ p ∈ ls, 1 ≤ p.length ∧ p.length ≤ 33792) (hb : ∀ p ∈ ls, Bs p) : Bs (pack ls) := by
  intro x hx
  simp only [pack, List.mem_flatten, List.mem_map] at hx
  obtain ⟨l, ⟨p, hp, rfl⟩, hx⟩ := hx
  rcases List.mem_append.1 hx with hx | hx
  · exact four_bs _ (by omega) (by have := (h p hp).2; omega) x hx
  · exact hb p hp x hx
theorem feed_stuck : ∀ (f : Nat) (a : List Int) (l : List (List Int)) (r : List Int), a.length ≤ f → feed a = (l, some r) → feed r = ([], some r) := by
  intro f
  induction f with
  | zero =>
    intro a l r hl h
    obtain rfl : a = [] := List.eq_nil_of_length_eq_zero (by omega)
    simp [feed, feedGo] at h
    obtain ⟨_, rfl⟩ := h
    rfl
  | succ f ih =>
    intro a l r hl h
    by_cases h4 : 4 ≤ a.length
    · by_cases hin : 1 ≤ hd4 a ∧ hd4 a ≤ 33792
      · obtain ⟨n, hn⟩ := Int.eq_ofNat_of_zero_le (show 0 ≤ hd4 a by omega)
        by_cases hw : (a.length : Int) < 4 + hd4 a
        · have e := feed_wait4 h4 hin hw
          rw [e] at h
          simp only [Prod.mk.injEq, Option.some.injEq] at h
          obtain ⟨_, rfl⟩ := h
          exact e
        · rw [feed_more4 h4 hin hn (by omega)] at h
          simp only [Prod.mk.injEq] at h
          exact ih (a.drop (4 + n)) _ r (by simp; omega) (Prod.ext rfl h.2)
      · rw [feed_bad4 h4 hin] at h
        simp at h
    · have e := feed_short (r := a) (by omega)
      rw [e] at h
      simp only [Prod.mk.injEq, Option.some.injEq] at h
      obtain ⟨_, rfl⟩ := h
      exact e
/-- one piece more -/
theorem feed_step {buf a b : List Int} {rem : List (List Int)} (h : feed (buf ++ (a ++ b)) = (rem, some [])) :
    ∃ l r rem2, feedR false (buf ++ a) = ((r, false), l, 0) ∧ rem = l ++ rem2 ∧ feed (r ++ b) = (rem2, some []) ∧ feed r = ([], some r) := by
  have key := feed_append (buf ++ a).length (buf ++ a) b (Nat.le_refl _)
  rw [List.append_assoc] at key
  cases hc : (feed (buf ++ a)).2 with
  | none =>
    have e := key.1 _ (Prod.ext rfl hc)
    rw [e] at h
    simp at h
  | some s =>
    have e := key.2 _ s (Prod.ext rfl hc)
    rw [e] at h
    simp only [Prod.mk.injEq] at h
    exact ⟨_, s, _, feedR_some (Prod.ext rfl hc), h.1.symm, Prod.ext rfl h.2, feed_stuck _ _ _ s (Nat.le_refl _) (Prod.ext rfl hc)⟩
theorem feedR_len {buf r : List Int} {l : List (List Int)} (h : feedR false buf = ((r, false), l, 0)) : Bs buf → Bs r ∧ r.length ≤ 37892 := by
  intro hb
  obtain ⟨r', b', ls', n', h', hcase⟩ := feedR_cases false buf
  rw [h] at h'
  simp only [Prod.mk.injEq] at h'
  obtain ⟨⟨rfl, rfl⟩, rfl, rfl⟩ := h'
  rcases hcase with ⟨h1, _⟩ | ⟨_, _, hless, hmem⟩
  · cases h1
  · refine ⟨fun x hx => hb x (hmem x hx), ?_⟩
    rcases hless with h | ⟨_, _, h, h'⟩ <;> omega
end Go.Proofs.Ytladfocmmhagbaa
