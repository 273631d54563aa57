/- Plain: a process that ends leaves a group it alone saw to orphaned. No condition. -/
import Derived.Test.YtmpmnikgbepphaaCB20
namespace Go.Proofs.Ytmpmnikgbepphaa
open Go.RowKit Go.Kb

theorem rise_low {nx : Int} {l : List Pr} {a b : Int} (hab : a ≤ b) (h : rise nx b l = true) : rise nx a l = true := by
  cases l with
  | nil => rfl
  | cons x t =>
    simp only [rise, Bool.and_eq_true, decide_eq_true_eq] at h ⊢
    exact ⟨by omega, h.2⟩
theorem rise_sub {nx : Int} : ∀ {l l' : List Pr}, l'.Sublist l → ∀ {last : Int}, rise nx last l = true → rise nx last l' = true := by
  intro l l' h
  induction h with
  | slnil => intro last h; exact h
  | cons a _ ih =>
    intro last h
    simp only [rise, Bool.and_eq_true, decide_eq_true_eq] at h
    exact ih (rise_low (by omega) h.2.2)
  | cons_cons a _ ih =>
    intro last h
    simp only [rise, Bool.and_eq_true, decide_eq_true_eq] at h ⊢
    exact ⟨h.1, h.2.1, ih h.2.2⟩
theorem rise_congr {nx : Int} : ∀ {l l' : List Pr} {last : Int}, l.map (·.pid) = l'.map (·.pid) → rise nx last l = rise nx last l'
  | [], [], _, _ => rfl
  | [], _ :: _, _, h => by simp at h
  | _ :: _, [], _, h => by simp at h
  | a :: l, b :: l', last, h => by
    simp only [List.map_cons, List.cons.injEq] at h
    simp only [rise, h.1, rise_congr h.2]
theorem free_sub : ∀ (n : Nat) (l : List Pr), (freeN n l).Sublist l
  | 0, l => by unfold freeN; exact List.Sublist.refl _
  | n + 1, l => by
    unfold freeN
    split
    · exact List.Sublist.refl _
    · exact (free_sub n _).trans (List.eraseIdx_sublist _ _)
theorem change_mem {nx k : Int} {g : Pr → Pr} : ∀ {l : List Pr} {last : Int}, rise nx last l = true → ∀ q ∈ changeL g k l, (q ∈ l ∧ q.pid ≠ k) ∨ ∃ p ∈ l, p.pid = k ∧ q = g p
  | [], _, _, q, hq => by cases hq
  | a :: l, last, h, q, hq => by
    simp only [rise, Bool.and_eq_true, decide_eq_true_eq] at h
    rw [changeL_cons] at hq
    split at hq
    · rename_i ha
      rcases List.mem_cons.1 hq with rfl | hq
      · exact .inr ⟨a, List.mem_cons_self, ha, rfl⟩
      · have := rise_mem h.2.2 q hq
        exact .inl ⟨List.mem_cons_of_mem _ hq, by omega⟩
    · rename_i ha
      rcases List.mem_cons.1 hq with rfl | hq
      · exact .inl ⟨List.mem_cons_self, ha⟩
      · rcases change_mem h.2.2 q hq with ⟨h1, h2⟩ | ⟨p, h1, h2, h3⟩
        · exact .inl ⟨List.mem_cons_of_mem _ h1, h2⟩
        · exact .inr ⟨p, List.mem_cons_of_mem _ h1, h2, h3⟩
/-- q is what has become of p when x ended -/
def From (x : Int) (p q : Pr) : Prop := q.pid = p.pid ∧ q.group = p.group ∧ q.session = p.session ∧ ((p.parent = x ∧ q.parent = 0) ∨ (p.parent ≠ x ∧ q.parent = p.parent)) ∧ ((p.pid = x ∧ liveP q = false) ∨ (p.pid ≠ x ∧ q.state = p.state))
theorem tell_mem {gp : Int} {l : List Pr} {q : Pr} (h : q ∈ tellUp gp l) : q ∈ l ∨ ∃ p ∈ l, q = { p with pending := orL p.pending 17 } := by
  unfold tellUp at h
  split at h
  · exact .inl h
  · split at h
    · exact .inl h
    · rename_i up hup
      rcases List.mem_or_eq_of_mem_set h with h | rfl
      · exact .inl h
      · exact .inr ⟨up, List.mem_of_getElem? hup, rfl⟩
theorem tell_pids {gp : Int} {l : List Pr} : (tellUp gp l).map (·.pid) = l.map (·.pid) := by
  unfold tellUp
  split
  · rfl
  · split
    · rfl
    · rename_i i _ up hup
      rw [List.map_set]
      apply List.ext_getElem?
      intro t
      rw [List.getElem?_set]
      split
      · rename_i h
        subst h
        split
        · rw [List.getElem?_map, hup]; rfl
        · rename_i h2; rw [List.getElem?_eq_none (by simpa using h2)]
      · rfl
theorem orphan_pids {x : Int} {l : List Pr} : (l.map (orphan x)).map (·.pid) = l.map (·.pid) := by
  rw [List.map_map]
  congr 1
  funext p
  show (orphan x p).pid = p.pid
  unfold orphan
  split <;> rfl
theorem end_sub {l : List Pr} {x st : Int} : ∃ gp, (endL l x st).Sublist (tellUp gp ((changeL (endP st) x l).map (orphan x))) := by
  unfold endL freeL
  exact ⟨_, free_sub _ _⟩
theorem end_right {l : List Pr} {nx x st : Int} (h : rightL l nx = true) : rightL (endL l x st) nx = true := by
  obtain ⟨h1, h2, h3⟩ := right_rise h
  obtain ⟨gp, hs⟩ := end_sub (l := l) (x := x) (st := st)
  have hp : (tellUp gp ((changeL (endP st) x l).map (orphan x))).map (·.pid) = (changeL (endP st) x l).map (·.pid) := by rw [tell_pids, orphan_pids]
  have hl := congrArg List.length hp
  rw [List.length_map, List.length_map, changeL_len] at hl
  unfold rightL
  rw [rise_sub hs (by rw [rise_congr hp, rise_change (g := endP st) (fun _ => rfl)]; exact h3)]
  have := hs.length_le
  rw [decide_eq_true h1, decide_eq_true (show (endL l x st).length ≤ 32 by omega)]
  rfl
theorem end_mem {l : List Pr} {nx x st : Int} (h : rightL l nx = true) {q : Pr} (hq : q ∈ endL l x st) : ∃ p ∈ l, From x p q := by
  obtain ⟨_, _, h3⟩ := right_rise h
  obtain ⟨gp, hs⟩ := end_sub (l := l) (x := x) (st := st)
  have hq := hs.subset hq
  have key : ∀ q1 ∈ (changeL (endP st) x l).map (orphan x), ∃ p ∈ l, From x p q1 := by
    intro q1 hq1
    obtain ⟨q2, hq2, rfl⟩ := List.mem_map.1 hq1
    rcases change_mem h3 q2 hq2 with ⟨hm, hne⟩ | ⟨p, hm, hp, rfl⟩
    · refine ⟨q2, hm, ?_⟩
      unfold orphan
      split
      · rename_i hpar
        exact ⟨rfl, rfl, rfl, .inl ⟨by simpa using hpar, rfl⟩, .inr ⟨hne, rfl⟩⟩
      · rename_i hpar
        exact ⟨rfl, rfl, rfl, .inr ⟨by simpa using hpar, rfl⟩, .inr ⟨hne, rfl⟩⟩
    · refine ⟨p, hm, ?_⟩
      unfold orphan
      split
      · rename_i hpar
        exact ⟨rfl, rfl, rfl, .inl ⟨by simpa [endP] using hpar, rfl⟩, .inl ⟨hp, rfl⟩⟩
      · rename_i hpar
        exact ⟨rfl, rfl, rfl, .inr ⟨by simpa [endP] using hpar, rfl⟩, .inl ⟨hp, rfl⟩⟩
  rcases tell_mem hq with hq | ⟨q1, hq1, rfl⟩
  · exact key q hq
  · obtain ⟨p, hp, h1, h2, h3, h4, h5⟩ := key q1 hq1
    exact ⟨p, hp, h1, h2, h3, h4, h5⟩
theorem orph_end {l : List Pr} {nx x st g : Int} (hr : rightL l nx = true) (hx : ∀ p ∈ l, ofP g p = true → seenP l g p = true → p.parent = x) : orphL (endL l x st) nx g = true := by
  obtain ⟨_, _, hri⟩ := right_rise hr
  have hr2 := end_right (x := x) (st := st) hr
  unfold orphL
  rw [hr2]
  have : ((endL l x st).filter (ofP g)).any (seenP (endL l x st) g) = false := by
    rw [List.any_eq_false]
    intro q hq
    obtain ⟨hq, hog⟩ := List.mem_filter.1 hq
    unfold ofP at hog
    simp only [Bool.and_eq_true, beq_iff_eq] at hog
    obtain ⟨p, hp, e1, e2, e3, e4, e5⟩ := end_mem hr hq
    unfold seenP
    cases hf : (endL l x st).find? (fun q' => q'.pid == q.parent && liveP q') with
    | none => simp
    | some up' =>
      have hm := List.mem_of_find?_eq_some hf
      have hu := List.find?_some hf
      simp only [Bool.and_eq_true, beq_iff_eq] at hu
      obtain ⟨up, hup, u1, u2, u3, _, u5⟩ := end_mem hr hm
      rcases u5 with ⟨_, u5⟩ | ⟨_, u5⟩
      · rw [u5] at hu; simp at hu
      · have hlu : liveP up = true := by unfold liveP at hu ⊢; rw [← u5]; exact hu.2
        have hpos := (rise_mem hri up hup).1
        rcases e4 with ⟨_, e4⟩ | ⟨hne, e4⟩
        · omega
        · simp only [Bool.not_eq_true]
          cases hc : (up'.session == q.session && up'.group != g)
          · rfl
          · exfalso
            apply hne
            refine hx p hp ?_ ?_
            · unfold ofP
              rcases e5 with ⟨_, e5⟩ | ⟨_, e5⟩
              · rw [e5] at hog; simp at hog
              · have : liveP p = true := by unfold liveP at hog ⊢; rw [← e5]; exact hog.1
                rw [this, ← e2, hog.2]; simp
            · unfold seenP
              have hpu : up.pid = p.parent := by omega
              have hf2 : l.find? (fun q' => q'.pid == p.parent && liveP q') = some up := by
                cases hff : l.find? (fun q' => q'.pid == p.parent && liveP q') with
                | none =>
                  rw [List.find?_eq_none] at hff
                  have := hff up hup
                  simp [hpu, hlu] at this
                | some z =>
                  have hz := List.find?_some hff
                  simp only [Bool.and_eq_true, beq_iff_eq] at hz
                  have h1 := rise_find hri z (List.mem_of_find?_eq_some hff)
                  have h2 := rise_find hri up hup
                  rw [hz.1, ← hpu] at h1
                  rw [h1] at h2
                  exact h2
              rw [hf2]
              show (up.session == p.session && up.group != g) = true
              rw [← u3, ← e3, ← u2]
              exact hc
  rw [this]
  rfl
end Go.Proofs.Ytmpmnikgbepphaa
