/- The document's timers: Cancel, Set, by contract. Condition: at most 256 timers. -/
import Derived.Test.YtapajcgfdiamdaaT07
namespace Go.Proofs.Ytapajcgfdiamdaa
open Go.RowKit Go.Kb

/-- the document's timers in memory: box R, the row's block in F -/
structure Rf (R : Nat) (F : Nat → Prop) (w : World) (L : List (Int × Int)) : Prop where
  ex : ∃ v, Blk w R 29 #[v] ∧ RdS Kp (fun k => F k ∧ k ≠ R) w v L
  hR : F R
  lt : ∀ k, F k → k < w.heap.size
theorem Rf.ext {R : Nat} {F : Nat → Prop} {w w' : World} {L : List (Int × Int)} (h : Rf R F w L) (E : Ext w w') : Rf R F w' L := by
  obtain ⟨v, h1, h2⟩ := h.ex
  exact ⟨⟨v, h1.ext E, h2.ext E⟩, h.hR, fun k hk => Nat.lt_of_lt_of_le (h.lt k hk) E.size⟩
theorem Rf.mod {R : Nat} {F S : Nat → Prop} {w w' : World} {L : List (Int × Int)} (h : Rf R F w L) (M : Mod S w w') (hS : ∀ k, S k → ¬ F k) : Rf R F w' L := by
  obtain ⟨v, h1, h2⟩ := h.ex
  exact ⟨⟨v, h1.mod M fun hk => hS R hk h.hR, h2.mod M fun k _ hk hs => hS k hs hk.1⟩, h.hR, fun k hk => Nat.lt_of_lt_of_le (h.lt k hk) M.size⟩
/-- a new row in the box -/
theorem Rf.put {R : Nat} {F : Nat → Prop} {w w1 w2 : World} {L L' : List (Int × Int)} {v' : Value} (h : Rf R F w L) (B : Blk w2 R 29 #[v']) (O : OwnS Kp 43 w.heap.size (fun _ => False) w1 v' L') (M : Mod (fun k => k = R) w1 w2) (hs : w.heap.size ≤ w1.heap.size) :
    ∃ F', Rf R F' w2 L' ∧ (∀ k, F' k → F k ∨ w.heap.size ≤ k) := by
  have hRl := h.lt R h.hR
  have O2 := O.mod M (fun k hk he => by have := (O.row k hk).1; omega) (fun _ _ hk _ => hk)
  refine ⟨fun k => F k ∨ (w.heap.size ≤ k ∧ k < w2.heap.size), ⟨⟨v', B, ?_⟩, .inl h.hR, fun k hk => hk.elim (fun h3 => Nat.lt_of_lt_of_le (h.lt k h3) (Nat.le_trans hs M.size)) (·.2)⟩, fun k hk => hk.imp_right (·.1)⟩
  exact (O2.rd (A := fun k => w.heap.size ≤ k) (fun k hk => hk) (fun k hk => hk.elim)).mono fun k hk ha => ⟨.inr ⟨ha, hk⟩, by omega⟩
theorem ins_at {x : Int × Int} : ∀ {l : List (Int × Int)} {m : Nat} (_ : ∀ j d, j < m → l[j]? = some d → befK d x = true) (_ : m = l.length ∨ ∃ d, l[m]? = some d ∧ befK d x = false) (_ : m ≤ l.length), insL x l = l.take m ++ [x] ++ l.drop m
  | [], m, _, _, h => by
    obtain rfl : m = 0 := by simpa using h
    rfl
  | y :: r, 0, _, h, _ => by
    rcases h with h | ⟨d, hd, hb⟩
    · simp at h
    · simp at hd
      subst hd
      unfold insL
      rw [if_neg (by simp [hb])]
      rfl
  | y :: r, m + 1, h, h2, h3 => by
    unfold insL
    rw [if_pos (h 0 y (by omega) rfl), ins_at (m := m) (fun j d hj hd => h (j + 1) d (by omega) (by simpa using hd)) (by simpa using h2) (by simpa using h3)]
    rfl
theorem rem_cut (id : Int) (L : List (Int × Int)) : decide ((remL id L).length < L.length) = hasL L id := by
  cases hh : hasL L id
  · rw [rem_none hh]
    simp
  · unfold hasL at hh
    obtain ⟨x, hx, he⟩ := List.any_eq_true.1 hh
    rw [decide_eq_true_iff]
    unfold remL
    exact List.length_filter_lt_length_iff_exists.2 ⟨x, hx, by simpa using he⟩
set_option maxRecDepth 100000 in
set_option maxHeartbeats 3000000 in
theorem rcancel_any (R : Nat) (F : Nat → Prop) (L : List (Int × Int)) (id : Int) (hl : L.length ≤ 1000) (w : World) (h : Rf R F w L) :
    Calls Try.prog 12 #[.pointer (some ⟨R, 0, none⟩), .int .i64 id] w fun e w' => e = .returned (.bool (hasL L id)) ∧ ∃ F', Rf R F' w' (remL id L) ∧ (∀ k, F' k → F k ∨ w.heap.size ≤ k) ∧ Mod (fun k => k = R) w w' := by
  have H := Lib.hid h
  obtain ⟨v, B, S⟩ := h.ex
  have B := Lib.hid B
  have kR := B.out.cell0
  have HC := Lib.hid (cut_any v L id hl w S.y)
  clear h S
  go_enter Try.func12, Try.ntmps12
  go_wp2_with fail
  refine HC.out.mono ?_
  rintro e w1 ⟨A1, c1, rfl, O1, E1⟩
  rw [rem_cut]
  have O1 := Lib.hid O1
  have B1 := Lib.hid (B.out.ext E1)
  have kR1 := B1.out.cell0
  have fR1 := B1.out.frozen 0
  have E1 := Lib.hid E1
  clear kR HC B
  go_wp2
  have B2 := B1.out.set_ 0 (.slice A1 (remL id L).length c1)
  have M2 : Mod (fun k => k = R) w1 _ := (Mod.refl _ w1).set1 (.slice A1 (remL id L).length c1) (o := 0)
  obtain ⟨F', h1, h2⟩ := H.out.put B2 O1.out M2 E1.out.size
  go_ret
  exact ⟨rfl, F', h1, h2, Mod.trans (Mod.of_ext E1.out) M2⟩
end Go.Proofs.Ytapajcgfdiamdaa
