/- What stays of processes that are sent a signal: plain; Front and Leave by one answer each. Conditions: sets have 64 bits. -/
import Derived.Test.YtcncacllaonplaaT22
import Derived.Test.YtcncacllaonplaaL22
namespace Go.Proofs.Ytcncacllaonplaa
open Go.RowKit Go.Kb

/-- a process without what is pending -/
def strip (p : Pr) : Pr := { p with pending := 0 }
theorem strip_send {sig : Int} {p : Pr} : strip (sendP sig p) = strip p := rfl
theorem change_const {g : Pr → Pr} {k : Int} : ∀ {l : List Pr} {p : Pr}, l.find? (fun q => q.pid == k) = some p → changeL (fun _ => g p) k l = changeL g k l
  | [], _, h => by cases h
  | x :: r, p, h => by
    rw [changeL_cons, changeL_cons]
    rw [List.find?_cons] at h
    by_cases hx : x.pid = k
    · have hb : (x.pid == k) = true := by simpa using hx
      rw [hb] at h
      cases h
      rw [if_pos hx, if_pos hx]
    · have hb : (x.pid == k) = false := by simpa using hx
      rw [hb] at h
      rw [if_neg hx, if_neg hx, change_const h]
theorem strip_change {g : Pr → Pr} {k : Int} (hg : ∀ p, strip (g p) = strip p) : ∀ {l : List Pr}, (changeL g k l).map strip = l.map strip
  | [] => by rw [changeL_nil]
  | x :: r => by
    rw [changeL_cons]
    split
    · simp [hg]
    · simp [strip_change (l := r) hg]
theorem strip_rise {nx : Int} : ∀ {l l' : List Pr} {last : Int}, l.map strip = l'.map strip → rise nx last l = rise nx last l'
  | [], [], _, _ => rfl
  | [], _ :: _, _, h => by simp at h
  | _ :: _, [], _, h => by simp at h
  | p :: r, q :: s, last, h => by
    simp only [List.map_cons, List.cons.injEq] at h
    have hp : p.pid = q.pid := by have := congrArg Pr.pid h.1; exact this
    simp only [rise]
    rw [hp, strip_rise h.2]
theorem strip_len {l l' : List Pr} (h : l.map strip = l'.map strip) : l.length = l'.length := by
  have := congrArg List.length h
  simpa using this
theorem strip_right {l l' : List Pr} {nx : Int} (h : l.map strip = l'.map strip) : rightL l nx = rightL l' nx := by
  unfold rightL
  rw [strip_rise h, strip_len h]
theorem strip_find {k : Int} : ∀ {l l' : List Pr}, l.map strip = l'.map strip → (l.find? (fun p => p.pid == k)).map strip = (l'.find? (fun p => p.pid == k)).map strip
  | [], [], _ => rfl
  | [], _ :: _, h => by simp at h
  | _ :: _, [], h => by simp at h
  | p :: r, q :: s, h => by
    simp only [List.map_cons, List.cons.injEq] at h
    have hp : p.pid = q.pid := by have := congrArg Pr.pid h.1; exact this
    rw [List.find?_cons, List.find?_cons, hp]
    cases q.pid == k
    · exact strip_find h.2
    · simp [h.1]
theorem strip_get {l l' : List Pr} {nx k : Int} (h : l.map strip = l'.map strip) : strip (getL l nx k).1 = strip (getL l' nx k).1 ∧ (getL l nx k).2 = (getL l' nx k).2 := by
  unfold getL
  rw [strip_right h]
  have hf := strip_find (k := k) h
  split
  · cases h1 : l.find? (fun p => p.pid == k) <;> cases h2 : l'.find? (fun p => p.pid == k) <;> rw [h1, h2] at hf <;> simp at hf ⊢
    exact hf
  · exact ⟨rfl, rfl⟩
theorem strip_live {l l' : List Pr} {nx k : Int} (h : l.map strip = l'.map strip) : liveL l nx k = liveL l' nx k := by
  obtain ⟨h1, h2⟩ := strip_get (nx := nx) (k := k) h
  rw [live_get, live_get, h2]
  have : (getL l nx k).1.state = (getL l' nx k).1.state := by have := congrArg Pr.state h1; exact this
  unfold liveP
  rw [this]
theorem get_find {l : List Pr} {nx k : Int} {p : Pr} (h : getL l nx k = (p, true)) : l.find? (fun q => q.pid == k) = some p := by
  unfold getL at h
  split at h
  · split at h
    · rename_i q hq
      cases h
      exact hq
    · cases h
  · cases h
theorem strip_sendL {l : List Pr} {nx k sig : Int} : (sendL l nx k sig).1.map strip = l.map strip := by
  unfold sendL
  split
  · split
    · rename_i hl
      obtain ⟨_, p, hgp, _, hpk⟩ := askL_live (live_ask hl)
      rw [hgp]
      show (changeL (fun _ => sendP sig p) p.pid l).map strip = _
      rw [hpk, change_const (get_find hgp)]
      exact strip_change (g := sendP sig) fun _ => rfl
    · rfl
  · rfl
theorem strip_sends {nx sig : Int} : ∀ {ks : List Int} {l : List Pr}, (sendsL l nx sig ks).map strip = l.map strip
  | [], _ => rfl
  | k :: ks, l => by
    show (sendsL (sendL l nx k sig).1 nx sig ks).map strip = l.map strip
    rw [strip_sends, strip_sendL]
theorem strip_group {l : List Pr} {nx g sig : Int} : (groupL l nx g sig).map strip = l.map strip := strip_sends
theorem strip_masks {l l' : List Pr} (h : l'.map strip = l.map strip) (hm : ∀ p ∈ l, Sig.U64 p.mask) : ∀ p ∈ l', Sig.U64 p.mask := by
  intro p hp
  have h1 : strip p ∈ l'.map strip := List.mem_map_of_mem hp
  rw [h] at h1
  obtain ⟨q, hq, he⟩ := List.mem_map.1 h1
  have : q.mask = p.mask := by have := congrArg Pr.mask he; exact this
  rw [← this]
  exact hm q hq
/-- who is in front, or of another session, goes -/
theorem acc_go {l : List Pr} {nx s g pid : Int} {ts wr : Bool} (hl : liveL l nx pid = true) (hb : behP s g (getL l nx pid).1 = false) : accL l nx s g ts pid wr = (1, 0) := by
  unfold accL
  rw [if_pos hl, hb]
  rfl
theorem acc_same {l : List Pr} {nx s g pid : Int} {ts wr : Bool} (hl : liveL l nx pid = true) (hg : (getL l nx pid).1.group = g) : accL l nx s g ts pid wr = (1, 0) :=
  acc_go hl (by unfold behP; rw [hg]; simp)
theorem front_one {A : Nat → Prop} (Ad : Option Addr) (c : Nat) (l : List Pr) (nx s g0 : Int) (ts : Bool) (pid group : Int) (w : World) (h : RdY Rp A w (.slice Ad l.length c) l) (hm : ∀ p ∈ l, Sig.U64 p.mask) (hb : ∀ p ∈ l, Sig.U64 p.pending) :
    Calls Try.prog 21 #[tv Ad l.length c nx, .agg #[.int .i64 s, .int .i64 g0, .bool ts], .int .i64 pid, .int .i64 group] w fun e w' => ∃ A' c' l' g' x, e = .returned (.tuple #[tv A' l.length c' nx, .agg #[.int .i64 s, .int .i64 g', .bool ts], .int .i64 x]) ∧ TabS 40 Ad c l w.heap.size w' A' c' l' ∧ (x = 0 → l' = l ∧ g' = group ∧ liveL l nx pid = true ∧ (getL l nx pid).1.session = s) ∧ Ext w w' := by
  refine (front_any Ad c l nx s g0 ts pid group w h hm hb).mono ?_
  rintro e w' ⟨E, ⟨h1, h2, rfl⟩ | ⟨A', c', l', x, hx, rfl, T⟩⟩
  · exact ⟨Ad, c, l, group, 0, rfl, .inl ⟨rfl, rfl, rfl⟩, fun _ => ⟨rfl, rfl, h1, h2⟩, E⟩
  · exact ⟨A', c', l', g0, x, rfl, T, fun h0 => (by rw [h0] at hx; cases hx), E⟩
theorem leave_one {A : Nat → Prop} (Ad : Option Addr) (c : Nat) (l : List Pr) (nx s g0 : Int) (ts : Bool) (w : World) (h : RdY Rp A w (.slice Ad l.length c) l) (hb : ∀ p ∈ l, Sig.U64 p.pending) :
    Calls Try.prog 22 #[tv Ad l.length c nx, .agg #[.int .i64 s, .int .i64 g0, .bool ts], .int .i64 s] w fun e w' => ∃ A' c' l' s' g', e = .returned (.tuple #[tv A' l.length c' nx, .agg #[.int .i64 s', .int .i64 g', .bool ts]]) ∧ TabS 40 Ad c l w.heap.size w' A' c' l' ∧ (s ≠ 0 → l' = groupL l nx g0 1 ∧ s' = 0 ∧ g' = 0) ∧ Ext w w' := by
  refine (leave_any Ad c l nx s g0 ts s w h hb).mono ?_
  rintro e w' ⟨E, ⟨h1, rfl⟩ | ⟨h1, h2, A', c', rfl, T⟩⟩
  · exact ⟨Ad, c, l, s, g0, rfl, .inl ⟨rfl, rfl, rfl⟩, fun h => (h1.elim h (fun h => h rfl)).elim, E⟩
  · exact ⟨A', c', _, 0, 0, rfl, T, fun _ => ⟨rfl, rfl, rfl⟩, E⟩
end Go.Proofs.Ytcncacllaonplaa
