/- Plain: tables that rise, a process taken out or changed. No condition. -/
import Derived.Test.YtmpmnikgbepphaaPA20
namespace Go.Proofs.Ytmpmnikgbepphaa
open Go.RowKit Go.Kb

theorem rise_mem {nx : Int} : ∀ {l : List Pr} {last : Int}, rise nx last l = true → ∀ p ∈ l, last < p.pid ∧ p.pid < nx
  | [], _, _, p, hp => by cases hp
  | q :: r, last, h, p, hp => by
    simp only [rise, Bool.and_eq_true, decide_eq_true_eq] at h
    rcases List.mem_cons.1 hp with rfl | hp
    · exact ⟨h.1, h.2.1⟩
    · have := rise_mem h.2.2 p hp
      exact ⟨by omega, this.2⟩
theorem rise_find {nx : Int} : ∀ {l : List Pr} {last : Int}, rise nx last l = true → ∀ p ∈ l, l.find? (fun q => q.pid == p.pid) = some p
  | [], _, _, p, hp => by cases hp
  | q :: r, last, h, p, hp => by
    simp only [rise, Bool.and_eq_true, decide_eq_true_eq] at h
    rcases List.mem_cons.1 hp with rfl | hp
    · simp
    · have h1 := rise_mem h.2.2 p hp
      rw [List.find?_cons_of_neg (by simp; omega)]
      exact rise_find h.2.2 p hp
theorem rise_gone {nx : Int} {k : Int} : ∀ {l : List Pr} {last : Int}, rise nx last l = true → k ≤ last → goneL l k = l
  | [], _, _, _ => rfl
  | q :: r, last, h, hk => by
    simp only [rise, Bool.and_eq_true, decide_eq_true_eq] at h
    have := rise_gone (k := k) h.2.2 (by omega)
    unfold goneL at this ⊢
    rw [List.filter_cons_of_pos (by simp; omega), this]
theorem rise_gone_len {nx : Int} : ∀ {l : List Pr} {last : Int}, rise nx last l = true → ∀ p ∈ l, (goneL l p.pid).length + 1 = l.length
  | [], _, _, p, hp => by cases hp
  | q :: r, last, h, p, hp => by
    simp only [rise, Bool.and_eq_true, decide_eq_true_eq] at h
    rcases List.mem_cons.1 hp with rfl | hp
    · have := rise_gone (k := p.pid) h.2.2 (by omega)
      unfold goneL at this ⊢
      rw [List.filter_cons_of_neg (by simp), this]
      rfl
    · have h1 := rise_mem h.2.2 p hp
      have := rise_gone_len h.2.2 p hp
      unfold goneL at this ⊢
      rw [List.filter_cons_of_pos (by simp; omega), List.length_cons, List.length_cons, this]
theorem rise_gone_ok {nx k : Int} : ∀ {l : List Pr} {last : Int}, rise nx last l = true → rise nx last (goneL l k) = true
  | [], _, h => h
  | q :: r, last, h => by
    simp only [rise, Bool.and_eq_true, decide_eq_true_eq] at h
    unfold goneL
    cases hq : (q.pid == k)
    · rw [List.filter_cons_of_pos (by simp [hq])]
      simp only [rise, Bool.and_eq_true, decide_eq_true_eq]
      exact ⟨h.1, h.2.1, rise_gone_ok h.2.2⟩
    · rw [List.filter_cons_of_neg (by simp [hq])]
      have : ∀ {l : List Pr} {a b : Int}, a ≤ b → rise nx b l = true → rise nx a l = true := fun {l a b} hab hl => by
        cases l with
        | nil => rfl
        | cons x t =>
          simp only [rise, Bool.and_eq_true, decide_eq_true_eq] at hl ⊢
          exact ⟨by omega, hl.2⟩
      exact this (by omega) (rise_gone_ok h.2.2)
theorem right_rise {l : List Pr} {nx : Int} (h : rightL l nx = true) : 1 ≤ nx ∧ l.length ≤ 32 ∧ rise nx 0 l = true := by
  simpa only [rightL, Bool.and_eq_true, decide_eq_true_eq] using h
theorem right_get {l : List Pr} {nx : Int} (h : rightL l nx = true) {p : Pr} (hp : p ∈ l) : getL l nx p.pid = (p, true) := by
  unfold getL
  rw [h, rise_find (right_rise h).2.2 p hp]
  rfl
theorem get_gone {l : List Pr} {nx k : Int} : getL (goneL l k) nx k = (zeroP, false) := by
  unfold getL
  split
  · have : (goneL l k).find? (fun p => p.pid == k) = none := by
      rw [List.find?_eq_none]
      intro x hx
      have := (List.mem_filter.1 hx).2
      simpa using this
    rw [this]
  · rfl
theorem changeL_nil {g : Pr → Pr} {k : Int} : changeL g k [] = [] := rfl
theorem changeL_cons {g : Pr → Pr} {k : Int} {p : Pr} {r : List Pr} : changeL g k (p :: r) = if p.pid = k then g p :: r else p :: changeL g k r := by
  unfold changeL
  rw [List.findIdx?_cons]
  by_cases h : p.pid = k
  · simp [h]
  · have : (p.pid == k) = false := by simpa using h
    rw [this, if_neg h]
    simp only [Bool.false_eq_true, if_false]
    cases r.findIdx? (fun p => p.pid == k) with
    | none => rfl
    | some j =>
      simp only [Option.map_some, List.getElem?_cons_succ]
      cases r[j]? with
      | none => rfl
      | some q => rfl
theorem rise_change {nx k : Int} {g : Pr → Pr} (hg : ∀ p, (g p).pid = p.pid) : ∀ {l : List Pr} {last : Int}, rise nx last (changeL g k l) = rise nx last l
  | [], _ => rfl
  | q :: r, last => by
    rw [changeL_cons]
    split
    · simp only [rise, hg]
    · simp only [rise, rise_change hg]
theorem right_change {nx k : Int} {g : Pr → Pr} (hg : ∀ p, (g p).pid = p.pid) {l : List Pr} : rightL (changeL g k l) nx = rightL l nx := by
  unfold rightL
  rw [rise_change hg, changeL_len]
theorem find_change {k : Int} {g : Pr → Pr} (hg : ∀ p, (g p).pid = p.pid) : ∀ {l : List Pr} {p : Pr}, l.find? (fun q => q.pid == k) = some p → (changeL g k l).find? (fun q => q.pid == k) = some (g p)
  | [], p, h => by simp at h
  | q :: r, p, h => by
    rw [changeL_cons]
    by_cases hq : q.pid = k
    · rw [List.find?_cons_of_pos (by simpa using hq)] at h
      cases h
      rw [if_pos hq, List.find?_cons_of_pos (by simpa [hg] using hq)]
    · rw [List.find?_cons_of_neg (by simpa using hq)] at h
      rw [if_neg hq, List.find?_cons_of_neg (by simpa using hq)]
      exact find_change hg h
theorem get_change {l : List Pr} {nx k : Int} {g : Pr → Pr} {p : Pr} (hg : ∀ p, (g p).pid = p.pid) (h : getL l nx k = (p, true)) : getL (changeL g k l) nx k = (g p, true) := by
  unfold getL at h ⊢
  rw [right_change hg]
  split at h
  · rename_i hr
    rw [if_pos hr]
    split at h
    · rename_i q hq
      cases h
      rw [find_change hg hq]
    · cases h
  · cases h
/-- what a wait answers, for a table that stands: nobody, a zombie, a stop -/
theorem wait_cases {l : List Pr} {nx pid : Int} {Ad : Option Addr} {c : Nat} {w w' : World} {e : Ending} (h : WaitPost l nx pid Ad c w e w') :
    Ext w w' ∧ ((∃ x : Int, e = .returned (.tuple #[tv Ad l.length c nx, .int .i64 0, .int .i64 0, .int .i64 x])) ∨
     (∃ p A' c', getL l nx p.pid = (p, true) ∧ getL (goneL l p.pid) nx p.pid = (zeroP, false) ∧ p.pid ≠ 0 ∧ p.parent = pid ∧ p.state = 3 ∧ (goneL l p.pid).length + 1 = l.length ∧ l.length ≤ 32 ∧ p ∈ l ∧ e = .returned (.tuple #[tv A' (goneL l p.pid).length c' nx, .int .i64 p.pid, .int .i64 p.status, .int .i64 0]) ∧ OwnS Rp 43 w.heap.size (fun _ => False) w' (.slice A' (goneL l p.pid).length c') (goneL l p.pid)) ∨
     (∃ p A' c', getL l nx p.pid = (p, true) ∧ getL (changeL toldP p.pid l) nx p.pid = (toldP p, true) ∧ p.pid ≠ 0 ∧ p.parent = pid ∧ p.state = 2 ∧ p.told = false ∧ l.length ≤ 32 ∧ p ∈ l ∧ e = .returned (.tuple #[tv A' l.length c' nx, .int .i64 p.pid, .int .i64 p.status, .int .i64 0]) ∧ OwnS Rp 43 w.heap.size (fun _ => False) w' (.slice A' l.length c') (changeL toldP p.pid l))) := by
  rcases h with ⟨hE, (⟨_, rfl⟩ | ⟨_, _, rfl⟩ | ⟨h0, p, hf, A', c', rfl, O⟩ | ⟨h0, _, p, hf, A', c', rfl, O⟩ | ⟨_, _, x, _, rfl⟩)⟩
  · exact ⟨hE, .inl ⟨_, rfl⟩⟩
  · exact ⟨hE, .inl ⟨_, rfl⟩⟩
  · obtain ⟨hr, _⟩ := askL_live h0
    have hm := List.mem_of_find?_eq_some hf
    have hp := List.find?_some hf
    simp only [Bool.and_eq_true, childP, deadP, beq_iff_eq] at hp
    obtain ⟨_, h32, hri⟩ := right_rise hr
    have := rise_mem hri p hm
    exact ⟨hE, .inr (.inl ⟨p, A', c', right_get hr hm, get_gone, by omega, hp.1, hp.2, rise_gone_len hri p hm, h32, hm, rfl, O⟩)⟩
  · obtain ⟨hr, _⟩ := askL_live h0
    have hm := List.mem_of_find?_eq_some hf
    have hp := List.find?_some hf
    simp only [Bool.and_eq_true, childP, newsP, beq_iff_eq, Bool.not_eq_true'] at hp
    obtain ⟨_, h32, hri⟩ := right_rise hr
    have := rise_mem hri p hm
    exact ⟨hE, .inr (.inr ⟨p, A', c', right_get hr hm, get_change (fun _ => rfl) (right_get hr hm), by omega, hp.1, hp.2.1, hp.2.2, h32, hm, rfl, O⟩)⟩
  · exact ⟨hE, .inl ⟨_, rfl⟩⟩
/-- whom a wait tells of -/
theorem wait_who {l : List Pr} {nx pid k : Int} (hk : k ≠ 0) {Ad : Option Addr} {c : Nat} {w w' : World} {e : Ending} (h : WaitPost (goneL l k) nx pid Ad c w e w') :
    Ext w w' ∧ ∃ A' n' c' n s x, e = .returned (.tuple #[tv A' n' c' nx, .int .i64 n, .int .i64 s, .int .i64 x]) ∧ (n == k) = false := by
  have hno : ∀ p ∈ goneL l k, (p.pid == k) = false := fun p hp => by simpa using (List.mem_filter.1 hp).2
  have h0 : ((0 : Int) == k) = false := by simpa using fun h => hk h.symm
  rcases h with ⟨hE, (⟨_, rfl⟩ | ⟨_, _, rfl⟩ | ⟨_, p, hf, A', c', rfl, _⟩ | ⟨_, _, p, hf, A', c', rfl, _⟩ | ⟨_, _, x, _, rfl⟩)⟩
  · exact ⟨hE, _, _, _, _, _, _, rfl, h0⟩
  · exact ⟨hE, _, _, _, _, _, _, rfl, h0⟩
  · exact ⟨hE, _, _, _, _, _, _, rfl, hno p (List.mem_of_find?_eq_some hf)⟩
  · exact ⟨hE, _, _, _, _, _, _, rfl, hno p (List.mem_of_find?_eq_some hf)⟩
  · exact ⟨hE, _, _, _, _, _, _, rfl, h0⟩
end Go.Proofs.Ytmpmnikgbepphaa
