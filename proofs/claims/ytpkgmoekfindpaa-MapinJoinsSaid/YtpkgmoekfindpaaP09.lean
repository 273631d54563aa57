/- What becomes of bytes that come in, as lists: plain lemmas. No condition. -/
import Derived.Test.YtpkgmoekfindpaaMoS
namespace Go.Proofs.Ytpkgmoekfindpaa
open Go.RowKit Go.Kb

theorem Bs.take {l : List Int} (h : Bs l) (k : Nat) : Bs (l.take k) := fun x hx => h x (List.mem_of_mem_take hx)
theorem Bs.drop {l : List Int} (h : Bs l) (k : Nat) : Bs (l.drop k) := fun x hx => h x (List.mem_of_mem_drop hx)
/-- the flags that are asked -/
structure Mf where
  s : Bool
  a : Bool
  b : Bool
  gn : Bool
  ic : Bool
  il : Bool
  pm : Bool
def mfL (t : Tm) : Mf := ⟨hasL t 33, hasL t 37, hasL t 59, hasL t 35, hasL t 36, hasL t 34, hasL t 31⟩
def lowL (f : Mf) (c : Int) : Int := if f.s = true then c % 128 else c
def smallL (f : Mf) (c : Int) : Int := if 65 ≤ c ∧ c ≤ 90 ∧ f.a = true ∧ f.b = true then c + 32 else c
def stripL (f : Mf) (c : Int) : Int := smallL f (lowL f c)
def endsL (f : Mf) (c : Int) : Int × Bool :=
  if c = 13 then (if f.gn = true then (0, false) else if f.ic = true then (10, true) else (13, true))
  else if c = 10 then (if f.il = true then (13, true) else (10, true)) else (c, true)
def markL (f : Mf) (c : Int) : List Int := if c = 255 ∧ f.pm = true ∧ f.s = false then [255, 255] else [c]
/-- what is read of one byte -/
def byteL (f : Mf) (c : Int) : List Int := if (endsL f (stripL f c)).2 = true then markL f (endsL f (stripL f c)).1 else []
def mapL (f : Mf) (l : List Int) : List Int := l.flatMap (byteL f)
theorem lowL_bd {f : Mf} {c : Int} (h : 0 ≤ c ∧ c ≤ 255) : 0 ≤ lowL f c ∧ lowL f c ≤ 255 := by
  unfold lowL; split <;> omega
theorem smallL_bd {f : Mf} {c : Int} (h : 0 ≤ c ∧ c ≤ 255) : 0 ≤ smallL f c ∧ smallL f c ≤ 255 := by
  unfold smallL; split <;> omega
theorem stripL_bd {f : Mf} {c : Int} (h : 0 ≤ c ∧ c ≤ 255) : 0 ≤ stripL f c ∧ stripL f c ≤ 255 := smallL_bd (lowL_bd h)
theorem endsL_bd {f : Mf} {c : Int} (h : 0 ≤ c ∧ c ≤ 255) : 0 ≤ (endsL f c).1 ∧ (endsL f c).1 ≤ 255 := by
  unfold endsL
  repeat' split
  all_goals first | exact h | exact ⟨by decide, by decide⟩
theorem markL_len (f : Mf) (c : Int) : (markL f c).length ≤ 2 := by
  unfold markL; split <;> simp
theorem byteL_len (f : Mf) (c : Int) : (byteL f c).length ≤ 2 := by
  unfold byteL
  split
  · exact markL_len _ _
  · simp
theorem byteL_bs {f : Mf} {c : Int} (h : 0 ≤ c ∧ c ≤ 255) : Bs (byteL f c) := by
  have h1 := endsL_bd (f := f) (stripL_bd (f := f) h)
  unfold byteL
  split
  · unfold markL
    intro x hx
    split at hx
    · simp at hx; omega
    · simp at hx; omega
  · intro x hx; simp at hx
theorem mapL_nil (f : Mf) : mapL f [] = [] := rfl
theorem mapL_append (f : Mf) (a b : List Int) : mapL f (a ++ b) = mapL f a ++ mapL f b := by simp [mapL]
theorem mapL_succ {f : Mf} {l : List Int} {k : Nat} {c : Int} (h : l[k]? = some c) : mapL f (l.take (k + 1)) = mapL f (l.take k) ++ byteL f c := by
  rw [take_succ_of h, mapL_append]
  simp [mapL]
theorem mapL_len (f : Mf) (l : List Int) : (mapL f l).length ≤ 2 * l.length := by
  induction l with
  | nil => simp [mapL]
  | cons c l ih =>
    have := byteL_len f c
    have e : mapL f (c :: l) = byteL f c ++ mapL f l := by simp [mapL]
    rw [e, List.length_append, List.length_cons]
    omega
theorem mapL_bs {f : Mf} {l : List Int} (h : Bs l) : Bs (mapL f l) := by
  intro x hx
  simp only [mapL, List.mem_flatMap] at hx
  obtain ⟨c, hc, hx⟩ := hx
  exact byteL_bs (h c hc) x hx
theorem mapL_plain {f : Mf} (h1 : f.s = false) (h2 : f.a = false) (h3 : f.gn = false) (h4 : f.ic = false) (h5 : f.il = false) (h6 : f.pm = false) (l : List Int) : mapL f l = l := by
  have key : ∀ c, byteL f c = [c] := by
    intro c
    have e1 : stripL f c = c := by simp [stripL, lowL, smallL, h1, h2]
    have e2 : endsL f c = (c, true) := by
      unfold endsL
      simp only [h3, h4, h5, Bool.false_eq_true, if_false]
      split
      · simp_all
      · split <;> simp_all
    simp [byteL, e1, e2, markL, h6]
  induction l with
  | nil => rfl
  | cons c l ih =>
    have e : mapL f (c :: l) = byteL f c ++ mapL f l := by simp [mapL]
    rw [e, key, ih]; rfl
/-- which bytes are not read -/
theorem byteL_13 {f : Mf} {c x : Int} (h1 : f.ic = true) (h2 : f.il = false) (hx : x ∈ byteL f c) : x ≠ 13 := by
  unfold byteL at hx
  split at hx
  · have key : (endsL f (stripL f c)).1 ≠ 13 := by
      rename_i hk
      intro h
      unfold endsL at h hk
      simp only [h1, h2, if_true, Bool.false_eq_true, if_false] at h hk
      split at h
      · split at h
        · omega
        · omega
      · split at h
        · omega
        · omega
    unfold markL at hx
    split at hx
    · simp at hx; omega
    · simp at hx; omega
  · simp at hx
theorem byteL_127 {f : Mf} {c x : Int} (h1 : f.s = true) (hx : x ∈ byteL f c) : x ≤ 127 := by
  unfold byteL at hx
  split at hx
  · have h2 : lowL f c ≤ 127 ∧ 0 ≤ lowL f c := by unfold lowL; rw [if_pos h1]; omega
    have h3 : stripL f c ≤ 127 := by
      unfold stripL smallL
      split <;> omega
    have h4 : (endsL f (stripL f c)).1 ≤ 127 := by
      unfold endsL
      repeat' split
      all_goals first | exact h3 | decide
    unfold markL at hx
    rw [if_neg (by rw [h1]; intro h; cases h.2.2)] at hx
    simp at hx
    omega
  · simp at hx
theorem mapL_13 {f : Mf} {l : List Int} {x : Int} (h1 : f.ic = true) (h2 : f.il = false) (hx : x ∈ mapL f l) : x ≠ 13 := by
  simp only [mapL, List.mem_flatMap] at hx
  obtain ⟨c, _, hx⟩ := hx
  exact byteL_13 h1 h2 hx
theorem mapL_127 {f : Mf} {l : List Int} {x : Int} (h1 : f.s = true) (hx : x ∈ mapL f l) : x ≤ 127 := by
  simp only [mapL, List.mem_flatMap] at hx
  obtain ⟨c, _, hx⟩ := hx
  exact byteL_127 h1 hx
/-- how many bytes 255 stand at the end -/
def rowL : List Int → Nat := fun l => l.foldl (fun n c => if c = 255 then n + 1 else 0) 0
theorem rowL_snoc (l : List Int) (c : Int) : rowL (l ++ [c]) = if c = 255 then rowL l + 1 else 0 := by simp [rowL, List.foldl_append]
theorem rowL_take {l : List Int} {k : Nat} {c : Int} (h : l[k]? = some c) : rowL (l.take (k + 1)) = if c = 255 then rowL (l.take k) + 1 else 0 := by rw [take_succ_of h, rowL_snoc]
theorem rowL_le (l : List Int) : rowL l ≤ l.length := by
  have : ∀ (l : List Int) (n : Nat), l.foldl (fun n c => if c = 255 then n + 1 else 0) n ≤ n + l.length := by
    intro l
    induction l with
    | nil => intro n; simp
    | cons c l ih =>
      intro n
      simp only [List.foldl_cons, List.length_cons]
      split
      · have := ih (n + 1); omega
      · have := ih 0; omega
  have h := this l 0
  simpa [rowL] using h
/-- at a byte that is not 255 an even number of them stands ahead -/
def EvenR (n : Nat) : List Int → Prop
  | [] => True
  | c :: l => (c ≠ 255 → n % 2 = 0) ∧ EvenR (if c = 255 then n + 1 else 0) l
theorem evenR_byte {f : Mf} (h1 : f.pm = true) (h2 : f.s = false) (c : Int) (n : Nat) (hn : n % 2 = 0) : EvenR n (byteL f c) ∧ ((byteL f c).foldl (fun n c => if c = 255 then n + 1 else 0) n) % 2 = 0 := by
  unfold byteL
  split
  · unfold markL
    split
    · refine ⟨⟨fun h => hn, ⟨fun h => absurd rfl h, trivial⟩⟩, ?_⟩
      simp
      omega
    · rename_i hx
      have : (endsL f (stripL f c)).1 ≠ 255 := fun h => hx ⟨h, h1, h2⟩
      refine ⟨⟨fun _ => hn, trivial⟩, ?_⟩
      simp [this]
  · exact ⟨trivial, by simpa using hn⟩
theorem evenR_append {a b : List Int} : ∀ {n : Nat}, EvenR n a → EvenR (a.foldl (fun n c => if c = 255 then n + 1 else 0) n) b → EvenR n (a ++ b) := by
  induction a with
  | nil => intro n _ h; exact h
  | cons c a ih => intro n h g; exact ⟨h.1, ih h.2 g⟩
theorem evenR_map {f : Mf} (h1 : f.pm = true) (h2 : f.s = false) : ∀ (l : List Int) (n : Nat), n % 2 = 0 → EvenR n (mapL f l)
  | [], _, _ => trivial
  | c :: l, n, hn => by
    have e : mapL f (c :: l) = byteL f c ++ mapL f l := by simp [mapL]
    obtain ⟨a1, a2⟩ := evenR_byte h1 h2 c n hn
    rw [e]
    exact evenR_append a1 (evenR_map h1 h2 l _ a2)
theorem evenR_at : ∀ {l : List Int} {n k : Nat} {c : Int}, EvenR n l → l[k]? = some c → c ≠ 255 → ((l.take k).foldl (fun n c => if c = 255 then n + 1 else 0) n) % 2 = 0
  | [], _, _, _, _, hk, _ => by simp at hk
  | x :: l, n, 0, c, h, hk, hc => by
    simp at hk
    subst hk
    simpa using h.1 hc
  | x :: l, n, k + 1, c, h, hk, hc => by
    simp only [List.take_succ_cons, List.foldl_cons]
    exact evenR_at h.2 (by simpa using hk) hc
theorem mapL_even {f : Mf} (h1 : f.pm = true) (h2 : f.s = false) {l : List Int} {k : Nat} {c : Int} (hk : (mapL f l)[k]? = some c) (hc : c ≠ 255) : rowL ((mapL f l).take k) % 2 = 0 :=
  evenR_at (evenR_map h1 h2 l 0 rfl) hk hc
end Go.Proofs.Ytpkgmoekfindpaa
