/- Heaps, plain: what goes up and down leaves a heap; the least comes first; sorted lists. No condition. -/
namespace Go.Proofs.Ytapajcgfdiamdaa

/-- an entry: its block, its number, its time -/
structure En where
  (b : Nat) (id due : Int)
deriving DecidableEq, Inhabited
def En.k (e : En) : Int × Int := (e.id, e.due)
def befK (x y : Int × Int) : Bool := decide (x.2 < y.2) || (x.2 == y.2 && decide (x.1 < y.1))
def bef (x y : En) : Bool := befK x.k y.k
theorem bef_iff {x y : En} : bef x y = true ↔ x.due < y.due ∨ (x.due = y.due ∧ x.id < y.id) := by
  unfold bef befK En.k
  simp
theorem befK_iff {x y : Int × Int} : befK x y = true ↔ x.2 < y.2 ∨ (x.2 = y.2 ∧ x.1 < y.1) := by
  unfold befK
  simp
theorem befK_not {x y : Int × Int} : befK x y = false ↔ ¬ (x.2 < y.2 ∨ (x.2 = y.2 ∧ x.1 < y.1)) := by
  rw [← befK_iff, Bool.not_eq_true]
theorem bef_not {x y : En} : bef x y = false ↔ ¬ (x.due < y.due ∨ (x.due = y.due ∧ x.id < y.id)) := by
  rw [← bef_iff, Bool.not_eq_true]
theorem bef_irr (x : En) : bef x x = false := by rw [bef_not]; omega
theorem bef_asym {x y : En} (h : bef x y = true) : bef y x = false := by rw [bef_iff] at h; rw [bef_not]; omega
/-- neither is y ahead of x, nor z ahead of y -/
theorem bef_tr {x y z : En} (h : bef y x = false) (g : bef z y = false) : bef z x = false := by rw [bef_not] at *; omega
def ent (es : List En) (k : Nat) : En := es.getD k default
theorem ent_some {es : List En} {k : Nat} (h : k < es.length) : es[k]? = some (ent es k) := by
  unfold ent
  rw [List.getD, List.getElem?_eq_getElem h]
  rfl
def swp (es : List En) (i k : Nat) : List En := (es.set i (ent es k)).set k (ent es i)
theorem swp_len {es : List En} {i k : Nat} : (swp es i k).length = es.length := by unfold swp; simp
theorem ent_swp {es : List En} {i k j : Nat} (hi : i < es.length) (hk : k < es.length) : ent (swp es i k) j = if j = k then ent es i else if j = i then ent es k else ent es j := by
  unfold swp ent
  simp only [List.getD, List.getElem?_set, List.length_set]
  by_cases h1 : k = j
  · subst h1; simp [hk]
  · rw [if_neg h1, if_neg (Ne.symm h1)]
    by_cases h2 : i = j
    · subst h2; simp [hi]
    · rw [if_neg h2, if_neg (Ne.symm h2)]
theorem swp_perm {es : List En} {i k : Nat} (hi : i < es.length) (hk : k < es.length) : (swp es i k).Perm es := by
  unfold swp ent
  have h1 : es.getD k default = es[k] := by rw [List.getD, List.getElem?_eq_getElem hk]; rfl
  have h2 : es.getD i default = es[i] := by rw [List.getD, List.getElem?_eq_getElem hi]; rfl
  rw [h1, h2]
  exact List.set_set_perm hi hk
/-- who stands above -/
def par (k : Nat) : Nat := (k - 1) / 2
theorem par_lt {k : Nat} (h : 0 < k) : par k < k := by unfold par; omega
def HeapN (es : List En) (n : Nat) : Prop := ∀ k, 0 < k → k < n → bef (ent es k) (ent es (par k)) = false
def UpI (es : List En) (n j : Nat) : Prop := (∀ k, 0 < k → k < n → k ≠ j → bef (ent es k) (ent es (par k)) = false) ∧ (∀ c, 0 < c → c < n → par c = j → 0 < j → bef (ent es c) (ent es (par j)) = false)
def DnI (es : List En) (n i0 i : Nat) : Prop := (∀ k, 0 < k → k < n → par k ≠ i → (i = i0 → k ≠ i0) → bef (ent es k) (ent es (par k)) = false) ∧ (∀ c, 0 < c → c < n → par c = i → 0 < i → bef (ent es c) (ent es (par i)) = false)
theorem up_end {es : List En} {n j : Nat} (h : UpI es n j) (hj : j = 0 ∨ bef (ent es j) (ent es (par j)) = false) : HeapN es n := by
  intro k h0 hk
  by_cases he : k = j
  · subst he
    rcases hj with rfl | hj
    · omega
    · exact hj
  · exact h.1 k h0 hk he
theorem up_step {es : List En} {n j : Nat} (h : UpI es n j) (h0 : 0 < j) (hj : j < n) (hn : n ≤ es.length) (hb : bef (ent es j) (ent es (par j)) = true) : UpI (swp es (par j) j) n (par j) := by
  have hp := par_lt h0
  have hS := fun x => ent_swp (es := es) (i := par j) (k := j) (j := x) (by omega) (by omega)
  have ha := bef_asym hb
  constructor
  · intro k k0 kn kj
    have kp := par_lt k0
    by_cases h1 : k = j
    · subst h1
      rw [hS, hS, if_pos rfl, if_neg (by omega), if_pos rfl]
      exact ha
    · rw [hS k, if_neg h1, if_neg kj, hS (par k)]
      by_cases h2 : par k = j
      · rw [if_pos h2]
        exact h.2 k k0 kn h2 h0
      · rw [if_neg h2]
        by_cases h3 : par k = par j
        · rw [if_pos h3]
          have := h.1 k k0 kn h1
          rw [h3] at this
          exact bef_tr ha this
        · rw [if_neg h3]
          exact h.1 k k0 kn h1
  · intro c c0 cn cj i0
    have ip := par_lt i0
    have hii := h.1 (par j) i0 (by omega) (by omega)
    rw [hS (par (par j)), if_neg (by omega), if_neg (by omega), hS c]
    by_cases h1 : c = j
    · rw [if_pos h1]
      exact hii
    · have cp := par_lt c0
      rw [if_neg h1, if_neg (by omega)]
      have := h.1 c c0 cn h1
      rw [cj] at this
      exact bef_tr hii this
theorem dn_step {es : List En} {n i0 i j : Nat} (h : DnI es n i0 i) (hn : n ≤ es.length) (hj : j < n) (h0 : 0 < j) (hp : par j = i) (hm : ∀ c, 0 < c → c < n → par c = i → bef (ent es c) (ent es j) = false) (hb : bef (ent es j) (ent es i) = true) (hi0 : i0 ≤ i) : DnI (swp es i j) n i0 j := by
  have hij : i < j := by rw [← hp]; exact par_lt h0
  have hS := fun x => ent_swp (es := es) (i := i) (k := j) (j := x) (by omega) (by omega)
  have ha := bef_asym hb
  constructor
  · intro k k0 kn kj _
    have kp := par_lt k0
    rw [hS (par k), if_neg kj, hS k]
    by_cases h1 : k = j
    · subst h1
      rw [if_pos rfl, if_pos hp]
      exact ha
    · rw [if_neg h1]
      by_cases h2 : k = i
      · subst h2
        rw [if_pos rfl, if_neg (by omega)]
        exact h.2 j h0 hj hp k0
      · rw [if_neg h2]
        by_cases h3 : par k = i
        · rw [if_pos h3]
          exact hm k k0 kn h3
        · rw [if_neg h3]
          refine h.1 k k0 kn h3 ?_
          intro he hk
          exact h2 (by omega)
  · intro c c0 cn cj _
    have cp := par_lt c0
    rw [hp, hS c, if_neg (by omega), if_neg (by omega), hS i, if_neg (by omega), if_pos rfl, ← cj]
    exact h.1 c c0 cn (by omega) (by omega)
/-- the end of what goes down: nothing below is ahead -/
theorem dn_end {es : List En} {n i0 i : Nat} (h : DnI es n i0 i) (hm : ∀ c, 0 < c → c < n → par c = i → bef (ent es c) (ent es i) = false) : (i ≠ i0 → HeapN es n) ∧ (i = i0 → UpI es n i0) := by
  constructor
  · intro hi k k0 kn
    by_cases h1 : par k = i
    · rw [h1]; exact hm k k0 kn h1
    · exact h.1 k k0 kn h1 (fun he => absurd he hi)
  · rintro rfl
    refine ⟨fun k k0 kn kj => ?_, h.2⟩
    by_cases h1 : par k = i
    · rw [h1]; exact hm k k0 kn h1
    · exact h.1 k k0 kn h1 (fun _ => kj)
theorem heap_min {es : List En} {n : Nat} (h : HeapN es n) : ∀ j, j < n → bef (ent es j) (ent es 0) = false := by
  intro j
  induction j using Nat.strongRecOn with
  | _ j ih =>
    intro hj
    by_cases h0 : j = 0
    · subst h0; exact bef_irr _
    · have hp := par_lt (Nat.pos_of_ne_zero h0)
      exact bef_tr (ih (par j) hp (by omega)) (h j (by omega) hj)
/-- a heap in which one entry was changed -/
theorem fix_start {es es' : List En} {n i : Nat} (h : HeapN es n) (hs : ∀ k, k ≠ i → ent es' k = ent es k) : DnI es' n i i := by
  constructor
  · intro k k0 kn kp ki
    rw [hs k (ki rfl), hs (par k) kp]
    exact h k k0 kn
  · intro c c0 cn ci i0
    have cp := par_lt c0
    have ip := par_lt i0
    rw [hs c (by omega), hs (par i) (by omega)]
    have h1 := h c c0 cn
    have h2 := h i i0 (by omega)
    rw [ci] at h1
    exact bef_tr h2 h1
theorem heap_le {es : List En} {n m : Nat} (h : HeapN es n) (hm : m ≤ n) : HeapN es m := fun k k0 km => h k k0 (by omega)
theorem heap_same {es es' : List En} {n : Nat} (h : HeapN es n) (hs : ∀ k, k < n → ent es' k = ent es k) : HeapN es' n := by
  intro k k0 kn
  have := par_lt k0
  rw [hs k kn, hs (par k) (by omega)]
  exact h k k0 kn
theorem push_start {es : List En} {x : En} (h : HeapN es es.length) : UpI (es ++ [x]) (es.length + 1) es.length := by
  have hs : ∀ k, k < es.length → ent (es ++ [x]) k = ent es k := by
    intro k hk
    unfold ent
    simp [List.getD, List.getElem?_append_left hk]
  constructor
  · intro k k0 kn kj
    have := par_lt k0
    rw [hs k (by omega), hs (par k) (by omega)]
    exact h k k0 (by omega)
  · intro c c0 cn ce
    have := par_lt c0
    omega
/-! lists that rise -/
def srt (L : List (Int × Int)) : Prop := L.Pairwise fun x y => befK x y = true
def insL (x : Int × Int) : List (Int × Int) → List (Int × Int)
  | [] => [x]
  | y :: r => if befK y x then y :: insL x r else x :: y :: r
def remL (id : Int) (L : List (Int × Int)) : List (Int × Int) := L.filter fun y => y.1 != id
theorem ins_perm (x : Int × Int) : ∀ L, (insL x L).Perm (x :: L)
  | [] => .refl _
  | y :: r => by
    unfold insL
    split
    · exact ((ins_perm x r).cons y).trans (.swap x y r)
    · exact .refl _
theorem ins_srt {x : Int × Int} : ∀ {L : List (Int × Int)}, srt L → (∀ y ∈ L, y.1 ≠ x.1) → srt (insL x L)
  | [], _, _ => by simp [insL, srt]
  | y :: r, h, hx => by
    have h' := List.pairwise_cons.1 h
    unfold insL
    have hne := hx y (by simp)
    split
    · rename_i hb
      refine List.pairwise_cons.2 ⟨fun z hz => ?_, ins_srt h'.2 fun z hz => hx z (by simp [hz])⟩
      rcases List.mem_cons.1 ((ins_perm x r).mem_iff.1 hz) with rfl | hz
      · exact hb
      · exact h'.1 z hz
    · rename_i hb
      have hb : befK y x = false := by simpa using hb
      have hxy : befK x y = true := by
        rw [befK_not] at hb
        rw [befK_iff]
        omega
      refine List.pairwise_cons.2 ⟨fun z hz => ?_, h⟩
      rcases List.mem_cons.1 hz with rfl | hz
      · exact hxy
      · have := h'.1 z hz
        rw [befK_iff] at *
        omega
theorem rem_srt {id : Int} {L : List (Int × Int)} (h : srt L) : srt (remL id L) := h.sublist List.filter_sublist
theorem srt_ext : ∀ {L M : List (Int × Int)}, srt L → srt M → L.Perm M → L = M
  | [], M, _, _, h => (List.nil_perm.1 h).symm
  | x :: r, M, hL, hM, h => by
    match M, hM, h with
    | [], _, h => exact absurd (List.perm_nil.1 h) (by simp)
    | y :: s, hM, h =>
      have h1 := List.pairwise_cons.1 hL
      have h2 := List.pairwise_cons.1 hM
      have hxy : x = y := by
        have hx : x ∈ y :: s := h.mem_iff.1 (by simp)
        have hy : y ∈ x :: r := h.mem_iff.2 (by simp)
        rcases List.mem_cons.1 hx with rfl | hx
        · rfl
        · rcases List.mem_cons.1 hy with rfl | hy
          · rfl
          · have a := h1.1 y hy
            have b := h2.1 x hx
            rw [befK_iff] at a b
            omega
      subst hxy
      rw [srt_ext h1.2 h2.2 ((List.perm_cons x).1 h)]
end Go.Proofs.Ytapajcgfdiamdaa
