/- What the law of steps needs beside: numbers that fit, rows that stores elsewhere spare, maps that are asked, steps as arguments. No condition. -/
import Derived.Test.YtmpmnikgbepphaaNB20
import Derived.Test.YtmpmnikgbepphaaHB20
import Derived.Test.YtmpmnikgbepphaaIB20
import Derived.Test.YtmpmnikgbepphaaRA20
/- Plain: what stays right through any steps. No condition. -/
namespace Go.Proofs.Ytmpmnikgbepphaa
open Go.RowKit Go.Kb

structure Inv (l : List Pr) (nx : Int) : Prop where
  right : rightL l nx = true
  par : ∀ p ∈ l, p.parent = 0 ∨ ∃ q ∈ l, q.pid = p.parent ∧ liveP q = true
  zom : ∀ p ∈ l, liveP p = false → p.parent ≠ 0
  ses : ∀ p ∈ l, ∀ q ∈ l, liveP p = true → liveP q = true → p.group = q.group → p.session = q.session
  led : ∀ p ∈ l, ∀ q ∈ l, liveP p = true → liveP q = true → q.pid = p.group → q.session = p.session
  old : ∀ p ∈ l, liveP p = true → p.group < nx
theorem inv_start : Inv [] 1 := ⟨by decide, by simp, by simp, by simp, by simp, by simp⟩
def Like (p q : Pr) : Prop := q.pid = p.pid ∧ q.parent = p.parent ∧ q.state = p.state ∧ q.group = p.group ∧ q.session = p.session
theorem Like.live {p q : Pr} (h : Like p q) : liveP q = liveP p := by unfold liveP; rw [h.2.2.1]
theorem inv_like {l L : List Pr} {nx : Int} (h : Inv l nx) (hr : rightL L nx = true) (h1 : ∀ q ∈ L, ∃ p ∈ l, Like p q) (h2 : ∀ p ∈ l, ∃ q ∈ L, Like p q) : Inv L nx := by
  refine ⟨hr, ?_, ?_, ?_, ?_, ?_⟩
  · intro q hq
    obtain ⟨p, hp, e⟩ := h1 q hq
    rcases h.par p hp with h0 | ⟨r, hr, e1, e2⟩
    · exact .inl (e.2.1.trans h0)
    · obtain ⟨s, hs, e3⟩ := h2 r hr
      exact .inr ⟨s, hs, by rw [e3.1, e1, e.2.1], by rw [e3.live, e2]⟩
  · intro q hq hl
    obtain ⟨p, hp, e⟩ := h1 q hq
    rw [e.2.1]
    exact h.zom p hp (by rw [← e.live]; exact hl)
  · intro p hp q hq lp lq hg
    obtain ⟨p0, hp0, e⟩ := h1 p hp
    obtain ⟨q0, hq0, f⟩ := h1 q hq
    rw [e.2.2.2.2, f.2.2.2.2]
    exact h.ses p0 hp0 q0 hq0 (by rw [← e.live]; exact lp) (by rw [← f.live]; exact lq) (by rw [← e.2.2.2.1, ← f.2.2.2.1]; exact hg)
  · intro p hp q hq lp lq hg
    obtain ⟨p0, hp0, e⟩ := h1 p hp
    obtain ⟨q0, hq0, f⟩ := h1 q hq
    rw [e.2.2.2.2, f.2.2.2.2]
    exact h.led p0 hp0 q0 hq0 (by rw [← e.live]; exact lp) (by rw [← f.live]; exact lq) (by rw [← e.2.2.2.1, ← f.1]; exact hg)
  · intro p hp lp
    obtain ⟨p0, hp0, e⟩ := h1 p hp
    rw [e.2.2.2.1]
    exact h.old p0 hp0 (by rw [← e.live]; exact lp)
theorem change_img {k : Int} {g : Pr → Pr} : ∀ {l : List Pr} {p : Pr}, p ∈ l → ∃ q ∈ changeL g k l, q = p ∨ (p.pid = k ∧ q = g p)
  | [], _, h => by cases h
  | a :: l, p, h => by
    rw [changeL_cons]
    by_cases ha : a.pid = k
    · rw [if_pos ha]
      rcases List.mem_cons.1 h with rfl | h
      · exact ⟨_, List.mem_cons_self, .inr ⟨ha, rfl⟩⟩
      · exact ⟨p, List.mem_cons_of_mem _ h, .inl rfl⟩
    · rw [if_neg ha]
      rcases List.mem_cons.1 h with rfl | h
      · exact ⟨_, List.mem_cons_self, .inl rfl⟩
      · obtain ⟨q, hq, e⟩ := change_img (k := k) (g := g) h
        exact ⟨q, List.mem_cons_of_mem _ hq, e⟩
theorem inv_change {l : List Pr} {nx k : Int} {g : Pr → Pr} (hg : ∀ p, Like p (g p)) (h : Inv l nx) : Inv (changeL g k l) nx := by
  refine inv_like h (by rw [right_change (fun p => (hg p).1)]; exact h.right) (fun q hq => ?_) (fun p hp => ?_)
  · rcases change_mem (right_rise h.right).2.2 q hq with ⟨h1, _⟩ | ⟨p, h1, _, rfl⟩
    · exact ⟨q, h1, rfl, rfl, rfl, rfl, rfl⟩
    · exact ⟨p, h1, hg p⟩
  · obtain ⟨q, hq, rfl | ⟨_, rfl⟩⟩ := change_img (k := k) (g := g) hp
    · exact ⟨q, hq, rfl, rfl, rfl, rfl, rfl⟩
    · exact ⟨_, hq, hg p⟩
theorem inv_gone {l : List Pr} {nx : Int} {p : Pr} (hp : p ∈ l) (hd : p.state = 3) (h : Inv l nx) : Inv (goneL l p.pid) nx := by
  obtain ⟨h1, h2, h3⟩ := right_rise h.right
  have hsub : ∀ q ∈ goneL l p.pid, q ∈ l := fun q hq => (List.mem_filter.1 hq).1
  have hle : (goneL l p.pid).length ≤ l.length := List.length_filter_le _ _
  refine ⟨?_, ?_, ?_, ?_, ?_, ?_⟩
  · unfold rightL
    rw [rise_gone_ok h3, decide_eq_true h1, decide_eq_true (show (goneL l p.pid).length ≤ 32 by omega)]
    rfl
  · intro q hq
    rcases h.par q (hsub q hq) with h0 | ⟨r, hr, e1, e2⟩
    · exact .inl h0
    · refine .inr ⟨r, List.mem_filter.2 ⟨hr, ?_⟩, e1, e2⟩
      cases hk : (r.pid == p.pid)
      · rfl
      · exfalso
        have a1 := rise_find h3 r hr
        have a2 := rise_find h3 p hp
        rw [beq_iff_eq] at hk
        rw [hk, a2] at a1
        cases a1
        unfold liveP at e2
        rw [hd] at e2
        cases e2
  · intro q hq; exact h.zom q (hsub q hq)
  · intro a ha b hb; exact h.ses a (hsub a ha) b (hsub b hb)
  · intro a ha b hb; exact h.led a (hsub a ha) b (hsub b hb)
  · intro a ha; exact h.old a (hsub a ha)
theorem free_live : ∀ (n : Nat) (l : List Pr) (p : Pr), p ∈ l → liveP p = true → p ∈ freeN n l
  | 0, l, p, h, _ => by unfold freeN; exact h
  | n + 1, l, p, h, hl => by
    unfold freeN
    split
    · exact h
    · rename_i j hj
      refine free_live n _ p ?_ hl
      rw [List.findIdx?_eq_some_iff_getElem] at hj
      obtain ⟨hlt, hi, _⟩ := hj
      rw [List.mem_eraseIdx_iff_getElem?]
      obtain ⟨i, hi2⟩ := List.mem_iff_getElem?.1 h
      refine ⟨i, ?_, hi2⟩
      rintro rfl
      rw [List.getElem?_eq_getElem hlt] at hi2
      cases hi2
      unfold idleL at hi
      rw [hl] at hi
      cases hi
theorem free_done : ∀ (n : Nat) (l : List Pr), l.length ≤ n → ∀ q ∈ freeN n l, idleL (freeN n l) q = false
  | 0, l, h, q, hq => by
    have : l = [] := List.eq_nil_of_length_eq_zero (by omega)
    subst this
    unfold freeN at hq
    cases hq
  | n + 1, l, h, q, hq => by
    have key : freeN (n + 1) l = match l.findIdx? (idleL l) with | none => l | some i => freeN n (l.eraseIdx i) := rfl
    cases hf : l.findIdx? (idleL l) with
    | none =>
      have e : freeN (n + 1) l = l := by rw [key, hf]
      rw [e] at hq ⊢
      rw [List.findIdx?_eq_none_iff] at hf
      exact hf q hq
    | some j =>
      have e : freeN (n + 1) l = freeN n (l.eraseIdx j) := by rw [key, hf]
      rw [e] at hq ⊢
      have hlt := (List.findIdx?_eq_some_iff_getElem.1 hf).1
      exact free_done n _ (by rw [List.length_eraseIdx, if_pos hlt]; omega) q hq
theorem tell_img {gp : Int} {l : List Pr} {p : Pr} (h : p ∈ l) : ∃ q ∈ tellUp gp l, q.pid = p.pid ∧ q.state = p.state := by
  unfold tellUp
  split
  · exact ⟨p, h, rfl, rfl⟩
  · split
    · exact ⟨p, h, rfl, rfl⟩
    · rename_i k hk _ up hup
      obtain ⟨i, hi⟩ := List.mem_iff_getElem?.1 h
      by_cases he : k = i
      · subst he
        rw [hi] at hup
        cases hup
        exact ⟨_, List.mem_of_getElem? (List.getElem?_set_self (List.getElem?_eq_some_iff.1 hi).1), rfl, rfl⟩
      · exact ⟨p, List.mem_of_getElem? (by rw [List.getElem?_set_ne he]; exact hi), rfl, rfl⟩
theorem end_live {l : List Pr} {x st : Int} {p : Pr} (h : p ∈ l) (hl : liveP p = true) (hx : p.pid ≠ x) : ∃ q ∈ endL l x st, q.pid = p.pid ∧ liveP q = true := by
  have h1 : p ∈ changeL (endP st) x l := by
    obtain ⟨q, hq, rfl | ⟨e, _⟩⟩ := change_img (k := x) (g := endP st) h
    · exact hq
    · exact absurd e hx
  have h2 : ∃ q ∈ (changeL (endP st) x l).map (orphan x), q.pid = p.pid ∧ q.state = p.state := ⟨_, List.mem_map.2 ⟨p, h1, rfl⟩, by unfold orphan; split <;> rfl, by unfold orphan; split <;> rfl⟩
  obtain ⟨q, hq, e1, e2⟩ := h2
  unfold endL
  obtain ⟨r, hr, e3, e4⟩ := tell_img (gp := match ((changeL (endP st) x l).map (orphan x)).find? (fun p => p.pid == x) with | none => 0 | some p => p.parent) hq
  have hlr : liveP r = true := by unfold liveP at hl ⊢; rw [e4, e2]; exact hl
  exact ⟨r, free_live _ _ r hr hlr, by rw [e3, e1], hlr⟩
theorem inv_end {l : List Pr} {nx x st : Int} (h : Inv l nx) : Inv (endL l x st) nx := by
  have hr := end_right (x := x) (st := st) h.right
  obtain ⟨_, _, h3⟩ := right_rise hr
  have hm : ∀ q ∈ endL l x st, ∃ p ∈ l, From x p q := fun q hq => end_mem h.right hq
  have hlv : ∀ {p q : Pr}, From x p q → liveP q = true → liveP p = true := fun {p q} e hl => by
    rcases e.2.2.2.2 with ⟨_, e5⟩ | ⟨_, e5⟩
    · rw [e5] at hl; cases hl
    · unfold liveP at hl ⊢; rw [← e5]; exact hl
  refine ⟨hr, ?_, ?_, ?_, ?_, ?_⟩
  · intro q hq
    obtain ⟨p, hp, e⟩ := hm q hq
    rcases e.2.2.2.1 with ⟨_, e4⟩ | ⟨hne, e4⟩
    · exact .inl e4
    · rcases h.par p hp with h0 | ⟨r, hr, e1, e2⟩
      · exact .inl (e4.trans h0)
      · obtain ⟨s, hs, f1, f2⟩ := end_live (x := x) (st := st) hr e2 (by rw [e1]; exact hne)
        exact .inr ⟨s, hs, by rw [f1, e1, e4], f2⟩
  · intro q hq hd h0
    have hi : idleL (endL l x st) q = false := free_done _ _ (Nat.le_refl _) q hq
    unfold idleL at hi
    rw [hd, h0] at hi
    have : (endL l x st).find? (fun q => q.pid == 0) = none := by
      rw [List.find?_eq_none]
      intro r hr
      have := (rise_mem h3 r hr).1
      simp
      omega
    rw [this] at hi
    cases hi
  · intro p hp q hq lp lq hg
    obtain ⟨p0, hp0, e⟩ := hm p hp
    obtain ⟨q0, hq0, f⟩ := hm q hq
    rw [e.2.2.1, f.2.2.1]
    exact h.ses p0 hp0 q0 hq0 (hlv e lp) (hlv f lq) (by rw [← e.2.1, ← f.2.1]; exact hg)
  · intro p hp q hq lp lq hg
    obtain ⟨p0, hp0, e⟩ := hm p hp
    obtain ⟨q0, hq0, f⟩ := hm q hq
    rw [e.2.2.1, f.2.2.1]
    exact h.led p0 hp0 q0 hq0 (hlv e lp) (hlv f lq) (by rw [← e.2.1, ← f.1]; exact hg)
  · intro p hp lp
    obtain ⟨p0, hp0, e⟩ := hm p hp
    rw [e.2.1]
    exact h.old p0 hp0 (hlv e lp)
end Go.Proofs.Ytmpmnikgbepphaa
/- Plain: every step leaves a right table right. No condition. -/
namespace Go.Proofs.Ytmpmnikgbepphaa
open Go.RowKit Go.Kb

theorem rise_push {nx : Int} {q : Pr} (hq : q.pid = nx) : ∀ {l : List Pr} {last : Int}, rise nx last l = true → last < nx → rise (nx + 1) last (l ++ [q]) = true
  | [], last, _, h => by
    simp only [List.nil_append, rise, Bool.and_eq_true, decide_eq_true_eq]
    exact ⟨by omega, by omega, trivial⟩
  | a :: l, last, h, hl => by
    simp only [rise, Bool.and_eq_true, decide_eq_true_eq] at h
    simp only [List.cons_append, rise, Bool.and_eq_true, decide_eq_true_eq]
    exact ⟨h.1, by omega, rise_push hq h.2.2 h.2.1⟩
theorem inv_push {l : List Pr} {nx : Int} {q : Pr} (h : Inv l nx) (h32 : l.length ≠ 32) (hpid : q.pid = nx) (hlive : liveP q = true) (hpar : q.parent = 0 ∨ ∃ r ∈ l, r.pid = q.parent ∧ liveP r = true)
    (hgrp : (q.group = nx ∧ q.session = nx) ∨ ∃ p ∈ l, liveP p = true ∧ q.group = p.group ∧ q.session = p.session) : Inv (l ++ [q]) (nx + 1) := by
  obtain ⟨h1, h2, h3⟩ := right_rise h.right
  have hm : ∀ a, a ∈ l ++ [q] → a ∈ l ∨ a = q := fun a ha => by
    rcases List.mem_append.1 ha with ha | ha
    · exact .inl ha
    · simp at ha; exact .inr ha
  have hin : ∀ a ∈ l, a ∈ l ++ [q] := fun a ha => List.mem_append.2 (.inl ha)
  refine ⟨?_, ?_, ?_, ?_, ?_, ?_⟩
  · unfold rightL
    rw [rise_push hpid h3 (by omega), decide_eq_true (show 1 ≤ nx + 1 by omega), decide_eq_true (show (l ++ [q]).length ≤ 32 by rw [List.length_append]; exact Nat.lt_of_le_of_ne h2 h32)]
    rfl
  · intro a ha
    rcases hm a ha with ha | rfl
    · rcases h.par a ha with h0 | ⟨r, hr, e⟩
      · exact .inl h0
      · exact .inr ⟨r, hin r hr, e⟩
    · rcases hpar with h0 | ⟨r, hr, e⟩
      · exact .inl h0
      · exact .inr ⟨r, hin r hr, e⟩
  · intro a ha hd
    rcases hm a ha with ha | rfl
    · exact h.zom a ha hd
    · rw [hlive] at hd; cases hd
  · intro a ha b hb la lb hg
    rcases hm a ha with ha2 | ea
    · rcases hm b hb with hb2 | eb
      · exact h.ses a ha2 b hb2 la lb hg
      · rw [eb] at hg ⊢
        rcases hgrp with ⟨g1, _⟩ | ⟨p, hp, lp, g1, g2⟩
        · have := h.old a ha2 la; omega
        · rw [g2]; exact h.ses a ha2 p hp la lp (by omega)
    · rw [ea] at hg ⊢
      rcases hm b hb with hb2 | eb
      · rcases hgrp with ⟨g1, _⟩ | ⟨p, hp, lp, g1, g2⟩
        · have := h.old b hb2 lb; omega
        · rw [g2]; exact h.ses p hp b hb2 lp lb (by omega)
      · rw [eb]
  · intro a ha b hb la lb hg
    rcases hm a ha with ha2 | ea
    · rcases hm b hb with hb2 | eb
      · exact h.led a ha2 b hb2 la lb hg
      · rw [eb] at hg
        have := h.old a ha2 la; omega
    · rw [ea] at hg ⊢
      rcases hm b hb with hb2 | eb
      · rcases hgrp with ⟨g1, _⟩ | ⟨p, hp, lp, g1, g2⟩
        · have := (rise_mem h3 b hb2).2; omega
        · rw [g2]; exact h.led p hp b hb2 lp lb (by omega)
      · rw [eb]
  · intro a ha la
    rcases hm a ha with ha | rfl
    · have := h.old a ha la; omega
    · rcases hgrp with ⟨g1, _⟩ | ⟨p, hp, lp, g1, g2⟩
      · omega
      · have := h.old p hp lp; omega
theorem inv_move {l : List Pr} {nx : Int} {x : Pr} {g : Pr → Pr} (h : Inv l nx) (hx : x ∈ l) (g1 : ∀ p, (g p).pid = p.pid ∧ (g p).parent = p.parent ∧ (g p).state = p.state)
    (hs1 : ∀ b ∈ l, liveP b = true → b.pid ≠ x.pid → b.group = (g x).group → b.session = (g x).session)
    (hs2 : ∀ b ∈ l, liveP b = true → b.pid ≠ x.pid → b.pid = (g x).group → b.session = (g x).session)
    (hs3 : ∀ a ∈ l, liveP a = true → a.pid ≠ x.pid → x.pid = a.group → liveP x = true → (g x).session = a.session)
    (ho : (g x).group < nx) : Inv (changeL g x.pid l) nx := by
  obtain ⟨h1, h2, h3⟩ := right_rise h.right
  have hm : ∀ q ∈ changeL g x.pid l, (q ∈ l ∧ q.pid ≠ x.pid) ∨ q = g x := fun q hq => by
    rcases change_mem h3 q hq with h1 | ⟨p, hp, he, rfl⟩
    · exact .inl h1
    · have a1 := rise_find h3 p hp
      have a2 := rise_find h3 x hx
      rw [he, a2] at a1
      cases a1
      exact .inr rfl
  have hlg : ∀ p, liveP (g p) = liveP p := fun p => by unfold liveP; rw [(g1 p).2.2]
  refine ⟨by rw [right_change (fun p => (g1 p).1)]; exact h.right, ?_, ?_, ?_, ?_, ?_⟩
  · intro q hq
    have key : ∀ p ∈ l, q.parent = p.parent → q.parent = 0 ∨ ∃ r ∈ changeL g x.pid l, r.pid = q.parent ∧ liveP r = true := fun p hp e => by
      rcases h.par p hp with h0 | ⟨r, hr, e1, e2⟩
      · exact .inl (e.trans h0)
      · obtain ⟨s, hs, rfl | ⟨_, rfl⟩⟩ := change_img (k := x.pid) (g := g) hr
        · exact .inr ⟨s, hs, by omega, e2⟩
        · exact .inr ⟨_, hs, by rw [(g1 r).1]; omega, by rw [hlg]; exact e2⟩
    rcases hm q hq with ⟨hq, _⟩ | rfl
    · exact key q hq rfl
    · exact key x hx (g1 x).2.1
  · intro q hq hd
    rcases hm q hq with ⟨hq, _⟩ | rfl
    · exact h.zom q hq hd
    · rw [(g1 x).2.1]; exact h.zom x hx (by rw [← hlg]; exact hd)
  · intro a ha b hb la lb hg
    rcases hm a ha with ⟨ha, na⟩ | rfl
    · rcases hm b hb with ⟨hb, _⟩ | rfl
      · exact h.ses a ha b hb la lb hg
      · exact hs1 a ha la na hg
    · rcases hm b hb with ⟨hb, nb⟩ | rfl
      · exact (hs1 b hb lb nb hg.symm).symm
      · rfl
  · intro a ha b hb la lb hg
    rcases hm a ha with ⟨ha, na⟩ | rfl
    · rcases hm b hb with ⟨hb, _⟩ | rfl
      · exact h.led a ha b hb la lb hg
      · exact hs3 a ha la na (by rw [← (g1 x).1]; exact hg) (by rw [← hlg]; exact lb)
    · rcases hm b hb with ⟨hb, nb⟩ | rfl
      · exact hs2 b hb lb nb hg
      · rfl
  · intro a ha la
    rcases hm a ha with ⟨ha, _⟩ | rfl
    · exact h.old a ha la
    · exact ho
theorem inv_step {l L : List Pr} {nx nx' k N E : Int} (h : Inv l nx) (hn : nextNo nx = nx + 1) (s : Stp l nx k L nx' N E) : Inv L nx' := by
  obtain ⟨h1, h2, h3⟩ := right_rise h.right
  cases s with
  | same _ => exact h
  | spawn prog hr h32 =>
    rw [hn]
    exact inv_push h h32 rfl rfl (.inl rfl) (.inl ⟨rfl, rfl⟩)
  | fork pid prog ha h32 =>
    rw [hn]
    obtain ⟨_, p, hg, hp, hpp⟩ := askL_live ha
    have hl : liveP p = true := by
      have : liveL l nx pid = true := by
        unfold askL at ha
        rw [h.right] at ha
        cases hl : liveL l nx pid
        · simp [hl] at ha
        · rfl
      rw [live_get, hg] at this
      exact this
    rw [hg]
    exact inv_push h h32 rfl rfl (.inr ⟨p, hp, hpp, hl⟩) (.inr ⟨p, hp, hl, rfl, rfl⟩)
  | exec pid prog => exact inv_change (fun p => ⟨rfl, rfl, rfl, rfl, rfl⟩) h
  | quit pid st _ => exact inv_end h
  | gone p hp hd => exact inv_gone hp hd h
  | told pid => exact inv_change (fun p => ⟨rfl, rfl, rfl, rfl, rfl⟩) h
  | group x g _ hx hlv hg =>
    have hlx : liveP x = true := by
      rw [live_get, right_get h.right hx] at hlv
      exact hlv
    refine inv_move h hx (fun p => ⟨rfl, rfl, rfl⟩) ?_ ?_ ?_ ?_
    · intro b hb lb _ he
      have he : b.group = g := he
      rcases hg with hg | ⟨m, hm, lm, m1, m2⟩
      · exact (h.led b hb x hx lb hlx (by omega)).symm
      · exact (h.ses b hb m hm lb lm (by omega)).trans m2
    · intro b hb lb nb he
      have he : b.pid = g := he
      rcases hg with hg | ⟨m, hm, lm, m1, m2⟩
      · omega
      · exact (h.led m hm b hb lm lb (by omega)).trans m2
    · intro a ha la _ he _
      exact h.led a ha x hx la hlx he
    · show g < nx
      rcases hg with hg | ⟨m, hm, lm, m1, m2⟩
      · have := (rise_mem h3 x hx).2; omega
      · have := h.old m hm lm; omega
  | session pid ha hm =>
    obtain ⟨_, x, hg, hx, rfl⟩ := askL_live ha
    have hno : ∀ b ∈ l, liveP b = true → b.group ≠ x.pid := fun b hb lb he => by
      unfold memL at hm
      rw [if_pos h.right, List.length_map] at hm
      have : b ∈ l.filter (ofP x.pid) := List.mem_filter.2 ⟨hb, by unfold ofP; simp [lb, he]⟩
      rw [List.eq_nil_of_length_eq_zero hm] at this
      cases this
    refine inv_move h hx (fun p => ⟨rfl, rfl, rfl⟩) ?_ ?_ ?_ ?_
    · intro b hb lb _ he
      exact absurd he (hno b hb lb)
    · intro b hb lb nb he
      exact absurd he nb
    · intro a ha la _ he _
      exact absurd he.symm (hno a ha la)
    · exact (rise_mem h3 x hx).2
theorem stp_pids {l L : List Pr} {nx nx' k N E : Int} (h : rightL l nx = true) (s : Stp l nx k L nx' N E) : ((k = 1 ∨ k = 2) ∧ E = 0 ∧ N = nx ∧ nx' = nextNo nx ∧ ∀ q ∈ L, q.pid = nx ∨ ∃ p ∈ l, p.pid = q.pid) ∨
    (¬ ((k = 1 ∨ k = 2) ∧ E = 0) ∧ nx' = nx ∧ ∀ q ∈ L, ∃ p ∈ l, p.pid = q.pid) := by
  obtain ⟨_, _, h3⟩ := right_rise h
  have hc : ∀ (g : Pr → Pr) (t : Int), (∀ p, (g p).pid = p.pid) → ∀ q ∈ changeL g t l, ∃ p ∈ l, p.pid = q.pid := fun g t hg q hq => by
    rcases change_mem h3 q hq with ⟨h1, _⟩ | ⟨p, hp, _, rfl⟩
    · exact ⟨q, h1, rfl⟩
    · exact ⟨p, hp, (hg p).symm⟩
  cases s with
  | same hne => exact .inr ⟨fun ⟨a, b⟩ => hne a b, rfl, fun q hq => ⟨q, hq, rfl⟩⟩
  | spawn prog hr h32 =>
    refine .inl ⟨.inl rfl, rfl, rfl, rfl, fun q hq => ?_⟩
    rcases List.mem_append.1 hq with hq | hq
    · exact .inr ⟨q, hq, rfl⟩
    · simp at hq; subst hq; exact .inl rfl
  | fork pid prog ha h32 =>
    refine .inl ⟨.inr rfl, rfl, rfl, rfl, fun q hq => ?_⟩
    rcases List.mem_append.1 hq with hq | hq
    · exact .inr ⟨q, hq, rfl⟩
    · simp at hq; subst hq; exact .inl rfl
  | exec pid prog => exact .inr ⟨by omega, rfl, hc _ _ fun _ => rfl⟩
  | quit pid st _ =>
    refine .inr ⟨by omega, rfl, fun q hq => ?_⟩
    obtain ⟨p, hp, e, _⟩ := end_mem h hq
    exact ⟨p, hp, e.symm⟩
  | gone p hp hd => exact .inr ⟨by omega, rfl, fun q hq => ⟨q, (List.mem_filter.1 hq).1, rfl⟩⟩
  | told pid => exact .inr ⟨by omega, rfl, hc _ _ fun _ => rfl⟩
  | group x g _ hx hlv hg => exact .inr ⟨by omega, rfl, hc _ _ fun _ => rfl⟩
  | session pid ha hm => exact .inr ⟨by omega, rfl, hc _ _ fun _ => rfl⟩
end Go.Proofs.Ytmpmnikgbepphaa
namespace Go.Proofs.Ytmpmnikgbepphaa
open Go.RowKit Go.Kb Go.Maps Go.ChangeShapes Go.WideShapes Go.ChangeAt Go.Deep

abbrev Wf (x : Int) : Prop := (Lit.int .i64 x).wf = true
theorem wf_small {x : Int} (h0 : 0 ≤ x) (h1 : x ≤ 100000) : Wf x := by
  simp [Wf, Lit.wf, IntKind.min, IntKind.max, IntKind.signed, IntKind.bits]
  omega
def Fits (l : List Pr) : Prop := ∀ p ∈ l, Wf p.group ∧ Wf p.session
theorem fit_change {l : List Pr} {nx k : Int} {g : Pr → Pr} (hr : rightL l nx = true) (hg : ∀ p ∈ l, p.pid = k → Wf (g p).group ∧ Wf (g p).session) (f : Fits l) : Fits (changeL g k l) := by
  intro q hq
  rcases change_mem (right_rise hr).2.2 q hq with ⟨h1, _⟩ | ⟨p, hp, he, rfl⟩
  · exact f q h1
  · exact hg p hp he
theorem fit_step {l L : List Pr} {nx nx' k N E : Int} (h : Inv l nx) (hn : nx ≤ 1000) (s : Stp l nx k L nx' N E) (f : Fits l) : Fits L := by
  obtain ⟨h1, h2, h3⟩ := right_rise h.right
  cases s with
  | same _ => exact f
  | spawn prog hr h32 =>
    intro q hq
    rcases List.mem_append.1 hq with hq | hq
    · exact f q hq
    · simp at hq; subst hq; exact ⟨wf_small (by show 0 ≤ nx; omega) (by show nx ≤ _; omega), wf_small (by show 0 ≤ nx; omega) (by show nx ≤ _; omega)⟩
  | fork pid prog ha h32 =>
    obtain ⟨_, p, hg, hp, hpp⟩ := askL_live ha
    intro q hq
    rcases List.mem_append.1 hq with hq | hq
    · exact f q hq
    · simp at hq; subst hq; rw [hg]; exact f p hp
  | exec pid prog => exact fit_change h.right (fun p hp _ => f p hp) f
  | quit pid st _ =>
    intro q hq
    obtain ⟨p, hp, _, e2, e3, _⟩ := end_mem h.right hq
    rw [e2, e3]
    exact f p hp
  | gone p hp hd => exact fun q hq => f q (List.mem_filter.1 hq).1
  | told pid => exact fit_change h.right (fun p hp _ => f p hp) f
  | group x g _ hx hlv hg =>
    refine fit_change h.right (fun p hp _ => ⟨?_, (f p hp).2⟩) f
    show Wf g
    rcases hg with hg | ⟨m, hm, _, m1, _⟩
    · have := rise_mem h3 x hx
      exact wf_small (by omega) (by omega)
    · rw [← m1]; exact (f m hm).1
  | session pid ha hm =>
    obtain ⟨_, x, hg, hx, rfl⟩ := askL_live ha
    have := rise_mem h3 x hx
    have hw : Wf x.pid := wf_small (by omega) (by omega)
    exact fit_change h.right (fun p hp _ => ⟨hw, hw⟩) f
theorem rdy_mod {S : Nat → Prop} {w w' : World} {v : Value} {l : List Pr} (h : RdY Rp (fun _ => False) w v l) (hM : Mod S w w') (hS : ∀ k, S k → ∀ o, 3 ≤ o → w.cell? ⟨k, o, none⟩ = none) : RdY Rp (fun _ => False) w' v l := by
  obtain ⟨us, ⟨hl, A, c, hv, hnc, hm, hA⟩, he⟩ := h
  have hl : us.length = l.length * 43 := hl
  refine ⟨us, ⟨hl, A, c, hv, hnc, hm, ?_⟩, RdE.keep he fun k _ hk => hk.elim⟩
  rcases hA with hA | ⟨b, off, hA, hc⟩
  · exact .inl hA
  · refine .inr ⟨b, off, hA, fun j u hu => ?_⟩
    have hj := (List.getElem?_eq_some_iff.1 hu).1
    have h42 := hc 42 _ (List.getElem?_eq_getElem (show 42 < us.length by omega))
    have hb : ¬ S b := fun hs => by
      rw [hS b hs (off + 42) (by omega)] at h42
      cases h42
    rw [hM.cell b _ (World.block_lt_of_cell? w _ h42) hb]
    exact hc j u hu
theorem map_cells {k n b : Nat} {R : Value → Option (DataW Unit × List MemPlace)} {D : DataW Unit} {w : World} (h : w.ownsMap Try.prog k R b n D) (o : Nat) : w.cell? ⟨b, o, none⟩ = none := by
  obtain ⟨es, clock, hb, _⟩ := h
  simp [World.cell?, hb]
theorem rise_at {nx : Int} : ∀ {l : List Pr} {last : Int} {t : Nat} {p q : Pr}, rise nx last l = true → l[t]? = some p → l[t + 1]? = some q → p.pid < q.pid
  | [], _, _, _, _, _, h, _ => by simp at h
  | a :: l, last, 0, p, q, h, hp, hq => by
    simp only [rise, Bool.and_eq_true, decide_eq_true_eq] at h
    simp at hp hq
    subst hp
    exact (rise_mem h.2.2 q (List.mem_of_getElem? hq)).1
  | a :: l, last, t + 1, p, q, h, hp, hq => by
    simp only [rise, Bool.and_eq_true, decide_eq_true_eq] at h
    simp at hp hq
    exact rise_at h.2.2 hp hq
theorem grown_to_mod {w w' : World} {b : Nat} (h : w.grownBy w' (some b)) : Mod (fun k => k = b) w w' := ⟨h.os, h.tape, h.output, h.size, fun k hk hn => h.block k hk (fun e => hn (by cases e; rfl))⟩
theorem owns_mod {S : Nat → Prop} {k b n : Nat} {R : Value → Option (DataW Unit × List MemPlace)} {D : DataW Unit} {w w' : World} (h : w.ownsMap Try.prog k R b n D) (hM : Mod S w w') (hb : ¬ S b) : w'.ownsMap Try.prog k R b n D := by
  obtain ⟨es, clock, he, r⟩ := h
  exact ⟨es, clock, (hM.block b (lt_of_block he) hb).trans he, r⟩
theorem up_at {U : List Int} {x : Int} : (upD U).atKey (.int .i64 x) (.lit (.bool false)) = .lit (.bool (decide (x ∈ U))) := by
  have key : ∀ (r : List Int), (upD r.reverse).atKey (.int .i64 x) (.lit (.bool false)) = .lit (.bool (decide (x ∈ r.reverse))) := by
    intro r
    induction r with
    | nil => rfl
    | cons a r ih =>
      rw [List.reverse_cons, upD_snoc]
      by_cases ha : x = a
      · subst ha
        rw [atKey_put_same (D := upD r.reverse) (k := .int .i64 x) (up_map r.reverse) (show WideAt.IsKeyLit (.int .i64 x) from trivial)]
        simp
      · rw [atKey_put_other (by intro e; cases e; exact ha rfl), ih]
        congr 2
        simp [ha]
  have := key U.reverse
  rwa [List.reverse_reverse] at this
theorem up_look {U : List Int} {x : Int} {w : World} {b n : Nat} (h : w.ownsMap Try.prog 3 (plainElem Try.prog 4) b n (upD U)) (hx : Wf x) : (Instr.lookup 52 (.map (some b)) (.int .i64 x) false).run Try.prog w = .ok (.bool (decide (x ∈ U))) w := by
  have hz : (zeroValue 4).run Try.prog w = .ok (.bool false) w := by kernel_rfl
  obtain ⟨v, ps, hrun, hv⟩ := h.lookup keyed_int Try.underlying52 hz (plainElem_bool Try.underlying4 false) (keyOf_int_mk Try.underlying3 hx)
  obtain ⟨c, rfl⟩ := pl_bool hv
  rw [plainElem_bool Try.underlying4, up_at] at hv
  simp only [Option.some.injEq, Prod.mk.injEq, DataW.lit.injEq, Lit.bool.injEq] at hv
  rw [hrun, hv.1]
/-- the sessions of the groups that live, of some processes -/
def Ses (D : DataW Unit) (l : List Pr) : Prop := IsMap D ∧ ∀ g, Maps.has D (.int .i64 g) = true → ∃ q ∈ l, liveP q = true ∧ q.group = g ∧ D.atKey (.int .i64 g) (.lit (.int .i64 0)) = .lit (.int .i64 q.session)
theorem ses_start : Ses (.map []) [] := ⟨isMap_empty, fun g h => by cases h⟩
theorem ses_more {D : DataW Unit} {l : List Pr} {p : Pr} (h : Ses D l) : Ses D (l ++ [p]) := ⟨h.1, fun g hg => by
  obtain ⟨q, hq, e⟩ := h.2 g hg
  exact ⟨q, List.mem_append.2 (.inl hq), e⟩⟩
theorem ses_put {D : DataW Unit} {l : List Pr} {p : Pr} (h : Ses D l) (hp : liveP p = true) : Ses (D.put (.int .i64 p.group) (.lit (.int .i64 p.session))) (l ++ [p]) := by
  refine ⟨h.1.put _ _, fun g hg => ?_⟩
  by_cases hk : p.group = g
  · subst hk
    exact ⟨p, List.mem_append.2 (.inr (by simp)), hp, rfl, atKey_put_same (k := .int .i64 p.group) h.1 (show WideAt.IsKeyLit (.int .i64 p.group) from trivial) _ _⟩
  · have hne : (Lit.int .i64 g) ≠ Lit.int .i64 p.group := by intro e; cases e; exact hk rfl
    rw [has_put_other hne] at hg
    obtain ⟨q, hq, e1, e2, e3⟩ := h.2 g hg
    exact ⟨q, List.mem_append.2 (.inl hq), e1, e2, by rw [atKey_put_other hne]; exact e3⟩
theorem zero_int (w : World) : (zeroValue 3).run Try.prog w = .ok (.int .i64 0) w := by kernel_rfl
/-- a step, as four numbers -/
def Rep.op4 : Rep (Int × Int × Int × Int) where
  size := 4
  pos := by decide
  rel := fun _ _ cs d => cs = [.int .i64 d.1, .int .i64 d.2.1, .int .i64 d.2.2.1, .int .i64 d.2.2.2]
  len := fun h => by rw [h]; rfl
  one := fun h u hu => by
    rw [h] at hu
    simp only [List.mem_cons, List.not_mem_nil, or_false] at hu
    rcases hu with rfl | rfl | rfl | rfl <;> rfl
  keep := fun h _ => h
set_option maxRecDepth 100000 in
theorem opens_op {H : Type} {enc : TypeId × Value → H} (W : World) : Opens enc Try.prog W 72 Rep.op4 (fun _ => True) := by
  intro fuel cs x h _
  obtain ⟨xs, n, rfl, rfl, hl, hxl, hf⟩ := DataW.trod_struct Try.underlying72 h
  have cT : Try.prog.cellsOf 72 = 4 := by kernel_rfl
  have cI : Try.prog.cellsOf 3 = 1 := by kernel_rfl
  have e0 : DataW.trod enc Try.prog W 0 (fun _ => true) true n 3 ((cs.drop 0).take (Try.prog.cellsOf 3)) = _ := hf 0 _ rfl
  have e1 : DataW.trod enc Try.prog W 0 (fun _ => true) true n 3 ((cs.drop 1).take (Try.prog.cellsOf 3)) = _ := hf 1 _ rfl
  have e2 : DataW.trod enc Try.prog W 0 (fun _ => true) true n 3 ((cs.drop 2).take (Try.prog.cellsOf 3)) = _ := hf 2 _ rfl
  have e3 : DataW.trod enc Try.prog W 0 (fun _ => true) true n 3 ((cs.drop 3).take (Try.prog.cellsOf 3)) = _ := hf 3 _ rfl
  rw [cI] at e0 e1 e2 e3
  match xs, hxl with
  | [a0, a1, a2, a3], _ =>
    rw [cT] at hl
    obtain ⟨f0, g0, _, _⟩ := DataW.trod_int Try.underlying3 e0
    obtain ⟨f1, g1, _, _⟩ := DataW.trod_int Try.underlying3 e1
    obtain ⟨f2, g2, _, _⟩ := DataW.trod_int Try.underlying3 e2
    obtain ⟨f3, g3, _, _⟩ := DataW.trod_int Try.underlying3 e3
    refine ⟨(f0, f1, f2, f3), ?_, trivial⟩
    show cs = _
    match cs, hl with
    | [x0, x1, x2, x3], _ =>
      simp at g0 g1 g2 g3
      rw [g0, g1, g2, g3]
end Go.Proofs.Ytmpmnikgbepphaa
