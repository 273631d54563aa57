/- What plain text that is typed leaves in a terminal, plainly: lines, the line, what goes out. Conditions: the setting turns nothing that comes in, and echoes. -/
import Derived.Test.YtfnicinnjkbedaaGreatDoorQQ17
namespace Go.Proofs.YtfnicinnjkbedaaGreatDoor
open Go.RowKit Go.Kb
set_option maxRecDepth 100000

/-- a text's lines, and what stands behind the last one -/
def splS (x : List (List Int × Bool) × List Int) (c : Int) : List (List Int × Bool) × List Int := if c = 10 then (x.1 ++ [(x.2 ++ [10], false)], []) else (x.1, x.2 ++ [c])
def spl (l : List Int) : List (List Int × Bool) × List Int := l.foldl splS ([], [])
theorem spl_snoc (l : List Int) (c : Int) : spl (l ++ [c]) = splS (spl l) c := by simp [spl]
def flatL (ls : List (List Int × Bool)) : List Int := (ls.map (·.1)).flatten
theorem flatL_append (a b : List (List Int × Bool)) : flatL (a ++ b) = flatL a ++ flatL b := by simp [flatL]
/-- lines that end with 10 -/
def GoodL (ls : List (List Int × Bool)) : Prop := ∀ x ∈ ls, x.2 = false ∧ ∃ pre, x.1 = pre ++ [10]
structure SplP (l : List Int) : Prop where
  flat : flatL (spl l).1 ++ (spl l).2 = l
  good : GoodL (spl l).1
  no : (10 : Int) ∉ (spl l).2
  used : Ca.usedL (spl l).1 + ((spl l).2.length : Int) = l.length
  len : (spl l).1.length ≤ l.length
theorem splP (l : List Int) : SplP l := by
  induction l using snoc_ind with
  | h0 => exact ⟨rfl, (fun x hx => by cases hx), (fun hx => by cases hx), by simp [spl, Ca.usedL], by simp [spl]⟩
  | h1 l c ih =>
    have hs := spl_snoc l c
    unfold splS at hs
    by_cases hc : c = 10
    · rw [if_pos hc] at hs
      refine ⟨?_, ?_, ?_, ?_, ?_⟩
      · rw [hs]
        show flatL ((spl l).1 ++ [((spl l).2 ++ [10], false)]) ++ [] = l ++ [c]
        rw [flatL_append, List.append_nil]
        have h1 : flatL [((spl l).2 ++ [10], false)] = (spl l).2 ++ [10] := by simp [flatL]
        rw [h1, ← List.append_assoc, ih.flat, hc]
      · rw [hs]
        intro x hx
        rcases List.mem_append.1 hx with hx | hx
        · exact ih.good x hx
        · rw [List.mem_singleton.1 hx]; exact ⟨rfl, _, rfl⟩
      · rw [hs]; intro hx; cases hx
      · rw [hs]
        show Ca.usedL ((spl l).1 ++ [((spl l).2 ++ [10], false)]) + (([] : List Int).length : Int) = ((l ++ [c]).length : Nat)
        rw [Ca.usedL_append]
        have h1 : Ca.usedL [((spl l).2 ++ [10], false)] = ((spl l).2.length : Int) + 1 := by simp [Ca.usedL, szL_false]
        rw [h1, List.length_append]
        have := ih.used
        simp
        omega
      · rw [hs]
        show ((spl l).1 ++ [((spl l).2 ++ [10], false)]).length ≤ (l ++ [c]).length
        have := ih.len
        rw [List.length_append, List.length_append]
        simp
        omega
    · rw [if_neg hc] at hs
      refine ⟨?_, ?_, ?_, ?_, ?_⟩
      · rw [hs]
        show flatL (spl l).1 ++ ((spl l).2 ++ [c]) = l ++ [c]
        rw [← List.append_assoc, ih.flat]
      · rw [hs]; exact ih.good
      · rw [hs]
        intro hx
        rcases List.mem_append.1 hx with hx | hx
        · exact ih.no hx
        · exact hc (List.mem_singleton.1 hx).symm
      · rw [hs]
        show Ca.usedL (spl l).1 + (((spl l).2 ++ [c]).length : Nat) = ((l ++ [c]).length : Nat)
        rw [List.length_append, List.length_append]
        have := ih.used
        simp
        omega
      · rw [hs]
        show (spl l).1.length ≤ (l ++ [c]).length
        have := ih.len
        rw [List.length_append]
        omega
theorem good_flat {ls : List (List Int × Bool)} (h : GoodL ls) : flatL ls = [] ∨ ∃ pre, flatL ls = pre ++ [10] := by
  rcases List.eq_nil_or_concat ls with hl | ⟨l, x, hl⟩
  · subst hl; exact .inl rfl
  · subst hl
    right
    obtain ⟨_, pre, hp⟩ := h x (by simp)
    refine ⟨flatL l ++ pre, ?_⟩
    rw [List.concat_eq_append, flatL_append, List.append_assoc, ← hp]
    simp [flatL]
theorem take_eq_pre {F C l : List Int} (h : F ++ C = l) : F = l.take F.length := by rw [← h, List.take_left' rfl]
theorem at_left {F C l : List Int} (h : F ++ C = l) {i : Nat} (hi : i < F.length) : l[i]? = F[i]? := by rw [← h, List.getElem?_append_left hi]
theorem at_right {F C l : List Int} (h : F ++ C = l) {i : Nat} {c : Int} (hi : F.length ≤ i) (he : l[i]? = some c) : c ∈ C := by
  rw [← h, List.getElem?_append_right hi] at he
  exact List.mem_of_getElem? he
/-- where the last end of a line stands -/
theorem end_uniq {l : List Int} {j : Nat} (h1 : j = 0 ∨ l[j - 1]? = some 10) (h2 : ∀ i, j ≤ i → l[i]? ≠ some 10) : flatL (spl l).1 = l.take j := by
  have P := splP l
  have hf := P.flat
  have hlen : (flatL (spl l).1).length ≤ l.length := by
    have := congrArg List.length hf
    rw [List.length_append] at this
    omega
  have hpre : flatL (spl l).1 = l.take (flatL (spl l).1).length := take_eq_pre hf
  have hat : ∀ i, i < (flatL (spl l).1).length → l[i]? = (flatL (spl l).1)[i]? := fun i hi => at_left hf hi
  have hbeh : ∀ i, (flatL (spl l).1).length ≤ i → l[i]? ≠ some 10 := fun i hi he => P.no (at_right hf hi he)
  have hm : (flatL (spl l).1).length = j := by
    rcases Nat.lt_trichotomy (flatL (spl l).1).length j with h | h | h
    · exfalso
      rcases h1 with h1 | h1
      · omega
      · exact hbeh (j - 1) (by omega) h1
    · exact h
    · exfalso
      rcases good_flat P.good with hg | ⟨pre, hg⟩
      · rw [hg] at h; simp at h
      · have hL : (flatL (spl l).1).length = pre.length + 1 := by rw [hg]; simp
        have h9 := hat pre.length (by omega)
        rw [hg, List.getElem?_append_right (Nat.le_refl _)] at h9
        simp at h9
        exact h2 pre.length (by omega) h9
  rw [hm] at hpre
  exact hpre
/-- behind k bytes of a text: lines, the line, and what went out -/
structure TypS (s : Tm) (text : List Int) (k : Nat) (d : Ds) : Prop where
  l : LineS s (spl (text.take k)).1 (spl (text.take k)).2 d
  o : d.out = (bytesL (pfL s) 0 (text.take k)).1
  c : d.col = (bytesL (pfL s) 0 (text.take k)).2
  st : d.st = false
theorem showL_plain {q : Bool} {c : Int} (h : 32 ≤ c ∧ c ≤ 126) : Ec.showL q c = [c] := by
  unfold Ec.showL
  rw [if_neg]
  intro hh
  have := Ec.hat_q hh
  omega
/-- showing a byte that fits -/
theorem showD_one {d : Ds} {l : List Int} {c : Int} (ho : d.out = (bytesL (pfL d.t) 0 l).1) (hc : d.col = (bytesL (pfL d.t) 0 l).2) (hl : l.length ≤ 1000) :
    d.showD [c] = { d with out := (bytesL (pfL d.t) 0 (l ++ [c])).1, col := (bytesL (pfL d.t) 0 (l ++ [c])).2 } := by
  have h1 := bytesL_len (pfL d.t) 0 l
  have h2 := bytesL_len (pfL d.t) d.col [c]
  unfold Ds.showD
  rw [if_pos (by rw [ho]; simp at h2; omega), bytesL_append, hc, ho]
theorem TypS.text {s : Tm} {text : List Int} {k : Nat} {d : Ds} {c : Int} (h : TypS s text k d) (h53 : hasL s 53 = true) (hc : text[k]? = some c) (h10 : c ≠ 10) (hb : 32 ≤ c ∧ c ≤ 126) (hl : text.length ≤ 200) : TypS s text (k + 1) (d.idle0.takeD c [c]) := by
  have ht := take_succ_of hc
  have hn := h.l.text c
  have e : d.idle0.takeD c [c] = (d.idle0.lineD [c]).showD [c] := by
    unfold Ds.takeD Ds.echoOfD Ds.echoD
    rw [showL_plain hb]
    have : hasL (d.idle0.lineD [c]).t 53 = true := by show hasL d.t 53 = true; rw [h.l.t]; exact h53
    rw [if_pos this]
  have hst : (d.idle0.lineD [c]).t = s := h.l.t
  have e2 := showD_one (d := d.idle0.lineD [c]) (l := text.take k) (c := c) (by rw [hst]; exact h.o) (by rw [hst]; exact h.c) (by rw [List.length_take]; omega)
  rw [hst] at e2
  refine ⟨?_, ?_, ?_, ?_⟩
  · rw [ht, spl_snoc]
    unfold splS
    rw [if_neg h10]
    exact hn
  · rw [e, e2, ht]
  · rw [e, e2, ht]
  · rw [e, e2]; exact h.st
theorem TypS.nl {s : Tm} {text : List Int} {k : Nat} {d : Ds} (h : TypS s text k d) (h53 : hasL s 53 = true) (hc : text[k]? = some 10) (hl : text.length ≤ 200) : TypS s text (k + 1) (d.idle0.newlineD 10) := by
  have ht := take_succ_of hc
  have hn := h.l.newline 10
  have e : d.idle0.newlineD 10 = (d.idle0.endD [10] false).showD [10] := by
    unfold Ds.newlineD
    have : hasL d.idle0.t 53 = true := by show hasL d.t 53 = true; rw [h.l.t]; exact h53
    rw [if_pos (Or.inl this)]
  have hst : (d.idle0.endD [10] false).t = s := h.l.t
  have e2 := showD_one (d := d.idle0.endD [10] false) (l := text.take k) (c := 10) (by rw [hst]; exact h.o) (by rw [hst]; exact h.c) (by rw [List.length_take]; omega)
  rw [hst] at e2
  refine ⟨?_, ?_, ?_, ?_⟩
  · rw [ht, spl_snoc]
    unfold splS
    rw [if_pos rfl]
    exact hn
  · rw [e, e2, ht]
  · rw [e, e2, ht]
  · rw [e, e2]; exact h.st
theorem tyok_typed {S : Nat → Prop} {g : Nat} {s : Tm} {text : List Int} (ht : PlT s) (h53 : hasL s 53 = true) (hp : PTx s text) : TyOk S g text (TypS s text) := by
  have hl := hp.len
  have hused : ∀ k, k ≤ text.length → Ca.usedL (spl (text.take k)).1 + ((spl (text.take k)).2.length : Int) ≤ 200 ∧ (spl (text.take k)).1.length ≤ 200 := fun k hk => by
    have P := splP (text.take k)
    have h1 := P.used
    have h2 := P.len
    rw [List.length_take] at h1 h2
    omega
  refine ⟨fun k d hk hS => hS.l.ask (by have := (hused k (by omega)).1; omega), fun k d c w hc hS hD => ?_⟩
  have hk := (List.getElem?_eq_some_iff.1 hc).1
  have hcm := hp.ch c (List.mem_of_getElem? hc)
  have hu1 := hused k (by omega)
  have hu2 := hused (k + 1) (by omega)
  have hn0 := Ca.usedL_nn (spl (text.take k)).1
  by_cases h10 : c = 10
  · subst h10
    have hnew := hS.nl h53 hc hl
    refine (input_newline d w hD hS.l.nx (by rw [hS.l.t]; exact ht) (by rw [hS.l.t]; exact hcm.1) (by rw [hS.l.ls, hS.l.line, szL_false, List.length_append]; simp; omega) (by rw [hS.l.ls]; omega) (hnew.l.mko (by omega))).mono fun e w' h => h.mono fun d2 h2 => by rw [h2]; exact hnew
  · have hb : 32 ≤ c ∧ c ≤ 126 := hcm.2.resolve_left h10
    have hnew := hS.text h53 hc h10 hb hl
    refine (input_text d c w hD hS.l.nx (by rw [hS.l.t]; exact ht) (by rw [hS.l.t]; exact hcm.1) h10 (by rw [hS.l.line]; omega) (hnew.l.mko (by omega))).mono fun e w' h => h.mono fun d2 h2 => by rw [h2]; exact hnew
/-- behind some reads: what was read, which lines wait; at least a byte a read -/
structure TyR (s : Tm) (text : List Int) (k : Nat) (rd : List Int) (ls : List (List Int × Bool)) (d : Ds) : Prop where
  all : rd ++ flatL ls = flatL (spl text).1
  good : GoodL ls
  cnt : k ≤ rd.length
  l : LineS s ls (spl text).2 d
  o : d.out = (bytesL (pfL s) 0 text).1
  st : d.st = false
  used : Ca.usedL ls + ((spl text).2.length : Int) ≤ 200
  len : ls.length ≤ 200
section
variable {s : Tm} {text rd : List Int} {k : Nat} {ls : List (List Int × Bool)} {d : Ds}
theorem TyR.start (h : TypS s text text.length d) (hl : text.length ≤ 200) : TyR s text 0 [] (spl text).1 d := by
  obtain ⟨h1, h2, h3, h4⟩ := h
  rw [List.take_length] at h1 h2 h3
  have P := splP text
  have hu := P.used
  have hn := P.len
  exact ⟨rfl, P.good, Nat.zero_le _, h1, h2, h4, by omega, by omega⟩
theorem TyR.few (h : TyR s text k rd ls d) (hl : text.length ≤ 200) : rd.length ≤ 200 ∧ k ≤ 200 := by
  have P := congrArg List.length (splP text).flat
  have h1 := congrArg List.length h.all
  rw [List.length_append] at P h1
  have := h.cnt
  omega
theorem TyR.ask (h : TyR s text k rd ls d) : Ca.usedL d.ls ≤ 100000 ∧ d.ls.length ≤ 100000 := by
  rw [h.l.ls]
  have := h.used
  have := h.len
  omega
theorem TyR.mko (h : TyR s text k rd ls d) : MkOk d := h.l.mko (by have := h.used; omega)
theorem TyR.none (h : TyR s text k rd [] d) : Ca.readL d.ls 99 = ([], [], false) ∧ TyR s text k rd [] (d.readD 99) ∧ rd = flatL (spl text).1 := by
  have e : Ca.readL d.ls 99 = ([], [], false) := by rw [h.l.ls]; rfl
  refine ⟨e, ⟨h.all, h.good, h.cnt, ⟨h.l.t, h.l.line, ?_, h.l.nx, h.l.raw, h.l.hd⟩, h.o, h.st, h.used, h.len⟩, ?_⟩
  · show (Ca.readL d.ls 99).2.1 = []
    rw [e]
  · have := h.all
    simpa [flatL] using this
/-- a read -/
structure OneR (s : Tm) (text : List Int) (k : Nat) (rd : List Int) (d : Ds) (b : List Int) (ls2 : List (List Int × Bool)) : Prop where
  e : Ca.readL d.ls 99 = (b, ls2, true)
  pos : 0 < b.length
  le : b.length ≤ 99
  last : ∀ x, b[b.length - 1]? = some x → x = 10 ∨ b.length = 99
  r : TyR s text (k + 1) (rd ++ b) ls2 (d.readD 99)
theorem TyR.some {a : List Int} {f : Bool} {r : List (List Int × Bool)} (h : TyR s text k rd ((a, f) :: r) d) : ∃ b ls2, OneR s text k rd d b ls2 := by
  obtain ⟨hf, pre, hp⟩ := h.good (a, f) (by simp)
  dsimp only at hf hp
  subst hf
  have hal : a.length = pre.length + 1 := by rw [hp]; simp
  have hg : GoodL r := fun x hx => h.good x (by simp [hx])
  have hall := h.all
  have hfl : ∀ (x : List Int) (q : Bool), flatL ((x, q) :: r) = x ++ flatL r := fun x q => by simp [flatL]
  rw [hfl] at hall
  have hu := h.used
  rw [Ca.usedL_cons, szL_false] at hu
  have hc := h.cnt
  have hn := h.len
  have hls := h.l.ls
  rw [List.length_cons] at hn
  by_cases h99 : (a.length : Int) ≤ 99
  · have e : Ca.readL d.ls 99 = (a, r, true) := by
      rw [hls]
      unfold Ca.readL
      dsimp only
      rw [if_neg (by omega), if_pos h99]
    refine ⟨a, r, e, by omega, by omega, fun x hx => ?_, ?_⟩
    · left
      rw [hal, hp] at hx
      simp at hx
      exact hx.symm
    · refine ⟨by rw [List.append_assoc]; exact hall, hg, by rw [List.length_append]; omega, ⟨h.l.t, h.l.line, ?_, h.l.nx, h.l.raw, h.l.hd⟩, h.o, h.st, by omega, by omega⟩
      show (Ca.readL d.ls 99).2.1 = r
      rw [e]
  · have e : Ca.readL d.ls 99 = (a.take 99, (a.drop 99, false) :: r, true) := by
      rw [hls]
      unfold Ca.readL
      dsimp only
      rw [if_neg (by omega), if_neg h99]
      rfl
    have htl : (a.take 99).length = 99 := by rw [List.length_take]; omega
    refine ⟨a.take 99, (a.drop 99, false) :: r, e, by omega, by omega, fun x hx => .inr htl, ?_⟩
    refine ⟨?_, ?_, by rw [List.length_append]; omega, ⟨h.l.t, h.l.line, ?_, h.l.nx, h.l.raw, h.l.hd⟩, h.o, h.st, ?_, by rw [List.length_cons]; omega⟩
    · rw [hfl, List.append_assoc, ← List.append_assoc (a.take 99), List.take_append_drop]
      exact hall
    · intro x hx
      rcases List.mem_cons.1 hx with hx | hx
      · subst hx
        refine ⟨rfl, pre.drop 99, ?_⟩
        show a.drop 99 = _
        rw [hp, List.drop_append_of_le_length (by omega)]
      · exact hg x hx
    · show (Ca.readL d.ls 99).2.1 = _
      rw [e]
    · rw [Ca.usedL_cons, szL_false, List.length_drop]
      omega
end
/-- a setting that is plain, echoing besides -/
theorem plT_echo {t : Tm} (h : PlT t) : PlT (setL t 53 true) ∧ hasL (setL t 53 true) 53 = true := by
  have key : ∀ q : Int, q ≠ 53 → hasL (setL t 53 true) q = hasL t q := fun q hq => by
    rw [hasL_setL h.ok, if_neg (by intro hh; exact hq hh.2)]
  refine ⟨⟨setL_ok h.ok _ _, by rw [key 51 (by decide)]; exact h.canon, by rw [key 33 (by decide)]; exact h.strip, by rw [key 37 (by decide)]; exact h.low, by rw [key 31 (by decide)]; exact h.mark, by rw [key 34 (by decide)]; exact h.nl, by rw [key 35 (by decide)]; exact h.cr, by rw [key 39 (by decide)]; exact h.any⟩, ?_⟩
  rw [hasL_setL h.ok, if_pos ⟨by decide, rfl⟩]
theorem typS_zero (s : Tm) (text : List Int) : TypS s text 0 (newD s) := ⟨⟨rfl, rfl, rfl, rfl, rfl, rfl⟩, rfl, rfl, rfl⟩
end Go.Proofs.YtfnicinnjkbedaaGreatDoor
