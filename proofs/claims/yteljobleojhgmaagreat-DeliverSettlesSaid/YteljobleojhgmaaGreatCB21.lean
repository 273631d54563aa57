/- Printed by allb.py of XAA21, and more: what settles keep: the numbers fit, the pids stay in order, nothing more is to be taken. No program in sight. -/
import Derived.Test.YteljobleojhgmaaGreatCA21
import Derived.Test.YteljobleojhgmaaGreatUA21
namespace Go.Proofs.YteljobleojhgmaaGreat
open Go.RowKit Go.Kb

/-- what is kept by all that takes do -/
structure KeepB (R : Pr → Pr → Prop) : Prop where
  refl : ∀ p, R p p
  trans : ∀ {a b c}, R a b → R b c → R a c
  took : ∀ p, Sig.U64 p.pending → (Sig.pickL p.pending p.mask).2 = true → R p (tookP p (sigL p))
  stop : ∀ s p, 1 ≤ s → s ≤ 28 → p.state = 1 → R p (stopP s p)
  sent : ∀ s p, (s = 1 ∨ s = 17 ∨ s = 18) → Sig.U64 p.pending → R p (sentP s p)
  ended : ∀ st p, 0 ≤ st → st ≤ 10000 → R p (endP st p)
  orph : ∀ k p, R p (orphan k p)
  told : ∀ p, Sig.U64 p.pending → R p { p with pending := orL p.pending 17 }
section
variable {R : Pr → Pr → Prop} (K : KeepB R)
include K
theorem AllB.refl (l : List Pr) : AllD R l l := fun q hq => ⟨q, hq, K.refl q⟩
theorem AllB.trans {a b c : List Pr} (h : AllD R a b) (g : AllD R b c) : AllD R a c := fun q hq => by
  obtain ⟨p, hp, h1⟩ := g q hq
  obtain ⟨o, ho, h2⟩ := h p hp
  exact ⟨o, ho, K.trans h2 h1⟩
theorem AllB.put {l : List Pr} {p q : Pr} {k : Int} (hp : p ∈ l) (h : R p q) : AllD R l (changeL (fun _ => q) k l) := fun x hx => by
  rcases change_in hx with h1 | ⟨_, _, rfl⟩
  · exact ⟨x, h1, K.refl x⟩
  · exact ⟨p, hp, h⟩
theorem AllB.change {l : List Pr} {g : Pr → Pr} {k : Int} (h : ∀ p ∈ l, R p (g p)) : AllD R l (changeL g k l) := fun x hx => by
  rcases change_in hx with h1 | ⟨p, hp, rfl⟩
  · exact ⟨x, h1, K.refl x⟩
  · exact ⟨p, hp, h p hp⟩
theorem AllB.free {l : List Pr} : AllD R l (freeL l) := fun x hx => ⟨x, freeN_sub _ hx, K.refl x⟩
theorem AllB.end_ {l : List Pr} {pid st : Int} (h0 : 0 ≤ st) (h9 : st ≤ 10000) (hb : ∀ p ∈ l, Sig.U64 p.pending) : AllD R l (endL l pid st) := by
  have h1 : AllD R l (changeL (endP st) pid l) := AllB.change K fun p _ => K.ended st p h0 h9
  have b1 : ∀ p ∈ changeL (endP st) pid l, Sig.U64 p.pending := by
    intro q hq
    rcases change_in hq with h2 | ⟨x, _, rfl⟩
    · exact hb q h2
    · exact ⟨Int.le_refl 0, by show (0 : Int) < _; decide⟩
  have h2 : AllD R l ((changeL (endP st) pid l).map (orphan pid)) := AllB.trans K h1 fun q hq => by
    obtain ⟨p, hp, rfl⟩ := List.mem_map.1 hq
    exact ⟨p, hp, K.orph pid p⟩
  have b2 : ∀ p ∈ (changeL (endP st) pid l).map (orphan pid), Sig.U64 p.pending := by
    intro q hq
    obtain ⟨p, hp, rfl⟩ := List.mem_map.1 hq
    have e : (orphan pid p).pending = p.pending := by unfold orphan; split <;> rfl
    rw [e]
    exact b1 p hp
  unfold endL
  refine AllB.trans K (AllB.trans K h2 ?_) (AllB.free K)
  unfold tellUp
  split
  · exact AllB.refl K _
  · split
    · exact AllB.refl K _
    · rename_i k _ up hup
      intro q hq
      rcases List.mem_or_eq_of_mem_set hq with h3 | rfl
      · exact ⟨q, h3, K.refl q⟩
      · have hm := List.mem_of_getElem? hup
        exact ⟨up, hm, K.told up (b2 up hm)⟩
theorem AllB.sent {l : List Pr} {nx k s : Int} (hs : s = 1 ∨ s = 17 ∨ s = 18) (hb : ∀ p ∈ l, Sig.U64 p.pending) : AllD R l (sentL l nx k s).1 := by
  unfold sentL
  split
  · split
    · split
      · rename_i hl
        obtain ⟨_, p, hgp, hpl, _⟩ := askL_live (live_ask hl)
        rw [hgp]
        exact AllB.put K hpl (K.sent s p hs (hb p hpl))
      · exact AllB.refl K _
    · exact AllB.refl K _
  · exact AllB.refl K _
theorem AllB.sents {nx s : Int} (hs : s = 1 ∨ s = 17 ∨ s = 18) : ∀ {ks : List Int} {l : List Pr}, (∀ p ∈ l, Sig.U64 p.pending) → AllD R l (sentsL l nx s ks)
  | [], l, _ => AllB.refl K l
  | k :: ks, _, hb => AllB.trans K (AllB.sent K hs hb) (AllB.sents (ks := ks) hs (sentL_bd (nx := nx) (k := k) (sig := s) hb))
theorem AllB.grps {nx g : Int} : ∀ {ss : List Int} {l : List Pr}, (∀ s ∈ ss, s = 1 ∨ s = 17 ∨ s = 18) → (∀ p ∈ l, Sig.U64 p.pending) → AllD R l (grpsL l nx g ss)
  | [], l, _, _ => AllB.refl K l
  | s :: ss, _, hs, hb => AllB.trans K (AllB.sents K (hs s (by simp)) hb) (AllB.grps (ss := ss) (fun x hx => hs x (by simp [hx])) (sgrpL_bd (nx := nx) (g := g) (s := s) hb))
theorem AllB.tell {l0 u : List Pr} {nx : Int} : ∀ {gs : List Int} {l : List Pr}, (∀ p ∈ l, Sig.U64 p.pending) → AllD R l (tellL l0 u nx l gs)
  | [], l, _ => AllB.refl K l
  | g :: gs, l, hb => by
    show AllD R l (tellL l0 u nx (if newP l0 u nx g = true then grpsL l nx g hupS else l) gs)
    split
    · exact AllB.trans K (AllB.grps K (by decide) hb) (AllB.tell (gs := gs) (grpsL_bd hb))
    · exact AllB.tell (gs := gs) hb
theorem AllB.fin {l : List Pr} {nx pid st : Int} (h0 : 0 ≤ st) (h9 : st ≤ 10000) (hb : ∀ p ∈ l, Sig.U64 p.pending) : AllD R l (finL l nx pid st).1 := by
  unfold finL
  split
  · exact AllB.trans K (AllB.end_ K h0 h9 hb) (AllB.tell K (endL_bd hb))
  · exact AllB.refl K _
theorem AllB.stop {l : List Pr} {nx s : Int} {q : Pr} (hs1 : 1 ≤ s) (hs2 : s ≤ 28) (hst : q.state = 1) (hq : q ∈ l) (hb : ∀ p ∈ l, Sig.U64 p.pending) : AllD R l (stopL l nx q s) := by
  unfold stopL
  refine AllB.trans K (AllB.put K hq (K.stop s q hs1 hs2 hst)) (AllB.sent K (by decide) ?_)
  intro x hx
  rcases change_in hx with h1 | ⟨_, _, rfl⟩
  · exact hb x h1
  · exact hb q hq
/-- behind a take each member comes of one before -/
theorem AllB.take {l : List Pr} {nx pid : Int} (hb : ∀ p ∈ l, Sig.U64 p.pending) : AllD R l (takeL l nx pid).1 := by
  unfold takeL
  split
  · rename_i hc
    unfold canL at hc
    simp only [Bool.and_eq_true] at hc
    obtain ⟨hg, hst, hpk⟩ := hc
    obtain ⟨hm, hpid, _⟩ := get_mem hg
    obtain ⟨p, hp⟩ : ∃ p, (getL l nx pid).1 = p := ⟨_, rfl⟩
    rw [hp] at hm hpid hpk hst ⊢
    have hst : p.state = 1 := by simpa using hst
    have h1 : AllD R l (tookL l p (sigL p)) := AllB.put K hm (K.took p (hb p hm) hpk)
    have b1 := tookL_bd (sig := sigL p) hb (hb p hm)
    have hq : tookP p (sigL p) ∈ tookL l p (sigL p) := by
      rcases idx_any (f := fun x => x.pid == p.pid) (l := l) with ⟨_, h4⟩ | ⟨j, y, h4, h5, _⟩
      · rw [List.any_eq_false] at h4
        exact absurd (h4 p hm) (by simp)
      · unfold tookL
        rw [changeL_some h4 h5]
        exact List.mem_set (List.getElem?_eq_some_iff.1 h5).1 _
    have hsg := pick_bd hpk
    rw [show (Sig.pickL p.pending p.mask).1 = sigL p from rfl] at hsg
    refine AllB.trans K h1 ?_
    show AllD R _ (doL _ _ _ _ _).1
    unfold doL
    split
    · exact AllB.fin K (by omega) (by omega) b1
    · split
      · exact AllB.fin K (by omega) (by omega) b1
      · split
        · split
          · exact AllB.refl K _
          · exact AllB.stop K hsg.1 hsg.2 (show (tookP p (sigL p)).state = 1 from hst) hq b1
        · exact AllB.refl K _
  · exact AllB.refl K _
end
theorem u64_wf {x : Int} (h : Sig.U64 x) : (Lit.int .u64 x).wf = true := by
  have h1 : IntKind.u64.min = 0 := rfl
  have h2 : IntKind.u64.max = 18446744073709551615 := rfl
  have h3 := h.1
  have h4 := h.2
  simp [Lit.wf]
  rw [h1, h2]
  omega
theorem i64_wf {x : Int} (h : 0 ≤ x) (h2 : x ≤ 100000) : (Lit.int .i64 x).wf = true := by
  have h1 : IntKind.i64.min = -9223372036854775808 := rfl
  simp [Lit.wf]
  rw [h1]
  omega
theorem Pr.wf.move {p q : Pr} (h : p.wf) (e1 : q.pid = p.pid) (e2 : q.parent = p.parent ∨ q.parent = 0) (e3 : q.group = p.group) (e4 : q.session = p.session) (e5 : (Lit.int .i64 q.state).wf = true)
    (e6 : q.prog = p.prog) (e7 : q.pc = p.pc) (e8 : Sig.U64 q.pending) (e9 : q.mask = p.mask) (e10 : q.acts = p.acts) (e11 : (Lit.int .i64 q.status).wf = true) : q.wf := by
  obtain ⟨a1, a2, a3, a4, _, a6, a7, _, a9, a10, _⟩ := h
  refine ⟨by rw [e1]; exact a1, ?_, by rw [e3]; exact a3, by rw [e4]; exact a4, e5, by rw [e6]; exact a6, by rw [e7]; exact a7, u64_wf e8, by rw [e9]; exact a9, by rw [e10]; exact a10, e11⟩
  rcases e2 with e | e
  · rw [e]; exact a2
  · rw [e]; exact i64_wf (by omega) (by omega)
theorem sentP_same {s : Int} {p : Pr} : (sentP s p).pid = p.pid ∧ (sentP s p).parent = p.parent ∧ (sentP s p).group = p.group ∧ (sentP s p).session = p.session ∧ ((sentP s p).state = p.state ∨ (sentP s p).state = 1) ∧
    (sentP s p).prog = p.prog ∧ (sentP s p).pc = p.pc ∧ (sentP s p).acts = p.acts ∧ (sentP s p).status = p.status := by
  unfold sentP preP contP fallP wakeP
  repeat' split
  all_goals first
    | exact ⟨rfl, rfl, rfl, rfl, .inl rfl, rfl, rfl, rfl, rfl⟩
    | exact ⟨rfl, rfl, rfl, rfl, .inr rfl, rfl, rfl, rfl, rfl⟩
theorem keepsWf : KeepB fun p q => p.wf → q.wf where
  refl := fun _ h => h
  trans := fun h g x => g (h x)
  took := fun p hb _ h => h.move rfl (.inl rfl) rfl rfl h.2.2.2.2.1 rfl rfl (Sig.delL_bd hb _) rfl rfl h.2.2.2.2.2.2.2.2.2.2
  stop := fun s p h1 h2 _ h => h.move rfl (.inl rfl) rfl rfl (i64_wf (x := 2) (by omega) (by omega)) rfl rfl ((good_wf (l := [p]) (by simpa using h)).1 p (by simp)) rfl rfl (i64_wf (x := 3000 + s) (by omega) (by omega))
  sent := fun s p _ hb h => by
    obtain ⟨a1, a2, a3, a4, a5, a6, a7, a8, a9⟩ := sentP_same (s := s) (p := p)
    refine h.move a1 (.inl a2) a3 a4 ?_ a6 a7 (sentP_bd hb) sentP_mask a8 (by rw [a9]; exact h.2.2.2.2.2.2.2.2.2.2)
    rcases a5 with e | e
    · rw [e]; exact h.2.2.2.2.1
    · rw [e]; exact i64_wf (by omega) (by omega)
  ended := fun st p h0 h9 h => h.move rfl (.inl rfl) rfl rfl (i64_wf (x := 3) (by omega) (by omega)) rfl rfl ⟨Int.le_refl 0, by show (0 : Int) < _; decide⟩ rfl rfl (i64_wf (x := st) h0 (by omega))
  orph := fun k p h => by
    have hb : Sig.U64 p.pending := (good_wf (l := [p]) (by simpa using h)).1 p (by simp)
    unfold orphan
    split
    · exact h.move rfl (.inr rfl) rfl rfl h.2.2.2.2.1 rfl rfl hb rfl rfl h.2.2.2.2.2.2.2.2.2.2
    · exact h
  told := fun p hb h => h.move rfl (.inl rfl) rfl rfl h.2.2.2.2.1 rfl rfl (by show Sig.U64 (orL p.pending 17); rw [orL_add hb]; exact Sig.addL_bd hb 17) rfl rfl h.2.2.2.2.2.2.2.2.2.2
def WfL (l : List Pr) : Prop := ∀ p ∈ l, p.wf
theorem WfL.good {l : List Pr} (h : WfL l) : Good l := good_wf h
theorem WfL.take {l : List Pr} {nx pid : Int} (h : WfL l) : WfL (takeL l nx pid).1 := fun q hq => by
  obtain ⟨p, hp, h1⟩ := AllB.take keepsWf (nx := nx) (pid := pid) h.good.1 q hq
  exact h1 (h p hp)
theorem Drain.wf {nx pid : Int} {l l' : List Pr} {b : Bool} (h : Drain nx pid l l' b) : WfL l → WfL l' := by
  induction h with
  | stop _ => exact id
  | go _ _ ih => exact fun g => ih g.take
theorem Pass.wf {nx : Int} {ks : List Int} {l l' : List Pr} {b : Bool} (h : Pass nx ks l l' b) : WfL l → WfL l' := by
  induction h with
  | nil => exact id
  | cons d _ ih => exact fun g => ih (d.wf g)
theorem Sett.wf {nx : Int} {l l' : List Pr} (h : Sett nx l l') : WfL l → WfL l' := by
  induction h with
  | done p => exact p.wf
  | again p _ ih => exact fun g => ih (p.wf g)
/-- the pids are some of those that there were, in their order -/
def SubP (l l' : List Pr) : Prop := (l'.map (·.pid)).Sublist (l.map (·.pid))
theorem SubP.refl (l : List Pr) : SubP l l := List.Sublist.refl _
theorem SubP.trans {a b c : List Pr} (h : SubP a b) (g : SubP b c) : SubP a c := List.Sublist.trans g h
theorem SubP.of {l l' : List Pr} (h : l'.map (·.pid) = l.map (·.pid)) : SubP l l' := by unfold SubP; rw [h]; exact List.Sublist.refl _
theorem set_pids {l : List Pr} {j : Nat} {p q : Pr} (hp : l[j]? = some p) (e : q.pid = p.pid) : (l.set j q).map (·.pid) = l.map (·.pid) := by
  rw [List.map_set, e]
  apply List.ext_getElem?
  intro t
  rw [List.getElem?_set]
  split
  · rename_i h
    subst h
    have h1 := List.getElem?_eq_some_iff.1 hp
    simp [h1.1, h1.2]
  · rfl
theorem change_pids {l : List Pr} {g : Pr → Pr} {k : Int} (hg : ∀ p, p.pid = k → (g p).pid = k) : (changeL g k l).map (·.pid) = l.map (·.pid) := by
  rcases idx_any (f := fun p => p.pid == k) (l := l) with ⟨h1, _⟩ | ⟨j, p, h1, h2, h3, _⟩
  · rw [changeL_none h1]
  · have e : p.pid = k := by simpa using h3
    rw [changeL_some h1 h2, set_pids h2 (by rw [hg p e, e])]
theorem SubP.free : ∀ (n : Nat) {l : List Pr}, SubP l (freeN n l)
  | 0, l => SubP.refl l
  | n + 1, l => by
    unfold freeN
    split
    · exact SubP.refl l
    · rename_i i _
      exact SubP.trans (show SubP l (l.eraseIdx i) from (List.eraseIdx_sublist l i).map _) (SubP.free n)
theorem SubP.end_ {l : List Pr} {pid st : Int} : SubP l (endL l pid st) := by
  unfold endL
  refine SubP.trans (SubP.trans (SubP.of (l' := (changeL (endP st) pid l).map (orphan pid)) ?_) ?_) (SubP.free _)
  · rw [List.map_map, show ((fun p : Pr => p.pid) ∘ orphan pid) = fun p => p.pid from funext fun p => orphan_mask.2.2.2]
    exact change_pids fun _ e => e
  · unfold tellUp
    split
    · exact SubP.refl _
    · split
      · exact SubP.refl _
      · rename_i hup
        exact SubP.of (set_pids hup rfl)
theorem SubP.sent {l : List Pr} {nx k s : Int} : SubP l (sentL l nx k s).1 := by
  unfold sentL
  split
  · split
    · split
      · exact SubP.of (change_pids fun p _ => sentP_same.1)
      · exact SubP.refl _
    · exact SubP.refl _
  · exact SubP.refl _
theorem SubP.sents {nx s : Int} : ∀ {ks : List Int} {l : List Pr}, SubP l (sentsL l nx s ks)
  | [], l => SubP.refl l
  | k :: ks, l => SubP.trans SubP.sent (SubP.sents (ks := ks) (l := (sentL l nx k s).1))
theorem SubP.grps {nx g : Int} : ∀ {ss : List Int} {l : List Pr}, SubP l (grpsL l nx g ss)
  | [], l => SubP.refl l
  | s :: ss, l => SubP.trans SubP.sents (SubP.grps (ss := ss) (l := sgrpL l nx g s))
theorem SubP.tell {l0 u : List Pr} {nx : Int} : ∀ {gs : List Int} {l : List Pr}, SubP l (tellL l0 u nx l gs)
  | [], l => SubP.refl l
  | g :: gs, l => by
    show SubP l (tellL l0 u nx (if newP l0 u nx g = true then grpsL l nx g hupS else l) gs)
    split
    · exact SubP.trans SubP.grps (SubP.tell (gs := gs))
    · exact SubP.tell (gs := gs)
theorem SubP.fin {l : List Pr} {nx pid st : Int} : SubP l (finL l nx pid st).1 := by
  unfold finL
  split
  · exact SubP.trans SubP.end_ SubP.tell
  · exact SubP.refl _
theorem SubP.take {l : List Pr} {nx pid : Int} : SubP l (takeL l nx pid).1 := by
  unfold takeL
  split
  · refine SubP.trans (b := tookL l (getL l nx pid).1 (sigL (getL l nx pid).1)) (SubP.of (change_pids fun _ _ => rfl)) ?_
    show SubP _ (doL _ _ _ _ _).1
    unfold doL
    split
    · exact SubP.fin
    · split
      · exact SubP.fin
      · split
        · split
          · exact SubP.refl _
          · exact SubP.trans (SubP.of (change_pids fun _ _ => rfl)) SubP.sent
        · exact SubP.refl _
  · exact SubP.refl _
theorem Drain.sub {nx pid : Int} {l l' : List Pr} {b : Bool} (h : Drain nx pid l l' b) : SubP l l' := by
  induction h with
  | stop _ => exact SubP.refl _
  | go _ _ ih => exact SubP.trans SubP.take ih
theorem Pass.sub {nx : Int} {ks : List Int} {l l' : List Pr} {b : Bool} (h : Pass nx ks l l' b) : SubP l l' := by
  induction h with
  | nil => exact SubP.refl _
  | cons d _ ih => exact SubP.trans d.sub ih
theorem Sett.sub {nx : Int} {l l' : List Pr} (h : Sett nx l l') : SubP l l' := by
  induction h with
  | done p => exact p.sub
  | again p _ ih => exact SubP.trans p.sub ih
def riseK (nx : Int) : Int → List Int → Bool
  | _, [] => true
  | last, k :: r => decide (last < k) && (decide (k < nx) && riseK nx k r)
theorem rise_k {nx : Int} : ∀ {l : List Pr} {last : Int}, rise nx last l = riseK nx last (l.map (·.pid))
  | [], _ => rfl
  | p :: r, last => by
    show (_ && (_ && rise nx p.pid r)) = (_ && (_ && riseK nx p.pid (r.map (·.pid))))
    rw [rise_k]
theorem riseK_less {nx : Int} : ∀ {ks : List Int} {a b : Int}, a ≤ b → riseK nx b ks = true → riseK nx a ks = true
  | [], _, _, _, _ => rfl
  | k :: r, a, b, h, g => by
    simp only [riseK, Bool.and_eq_true, decide_eq_true_eq] at g ⊢
    exact ⟨by omega, g.2⟩
theorem riseK_sub {nx : Int} {a b : List Int} (h : a.Sublist b) : ∀ {last : Int}, riseK nx last b = true → riseK nx last a = true := by
  induction h with
  | slnil => exact fun h => h
  | cons x _ ih =>
    intro last g
    simp only [riseK, Bool.and_eq_true, decide_eq_true_eq] at g
    exact ih (riseK_less (by omega) g.2.2)
  | cons_cons x _ ih =>
    intro last g
    simp only [riseK, Bool.and_eq_true, decide_eq_true_eq] at g ⊢
    exact ⟨g.1, g.2.1, ih g.2.2⟩
theorem SubP.right {l l' : List Pr} {nx : Int} (h : SubP l l') (hr : rightL l nx = true) : rightL l' nx = true := by
  obtain ⟨h1, h2, h3⟩ := right_rise hr
  have hl := h.length_le
  rw [List.length_map, List.length_map] at hl
  rw [rise_k] at h3
  unfold rightL
  rw [rise_k, riseK_sub h h3]
  simp
  omega
theorem Drain.none {nx pid : Int} {l l' : List Pr} {b : Bool} (h : Drain nx pid l l' b) : b = false → l' = l ∧ (takeL l nx pid).2.1 = 0 := by
  cases h with
  | stop h0 => exact fun _ => ⟨rfl, h0⟩
  | go _ _ => exact fun h => by cases h
theorem Pass.none {nx : Int} {ks : List Int} {l l' : List Pr} {b : Bool} (h : Pass nx ks l l' b) : b = false → l' = l ∧ ∀ k ∈ ks, (takeL l nx k).2.1 = 0 := by
  induction h with
  | nil => exact fun _ => ⟨rfl, fun _ h => by cases h⟩
  | cons d _ ih =>
    intro hb
    rw [Bool.or_eq_false_iff] at hb
    obtain ⟨rfl, h2⟩ := d.none hb.1
    obtain ⟨rfl, h3⟩ := ih hb.2
    refine ⟨rfl, fun k hk => ?_⟩
    rcases List.mem_cons.1 hk with rfl | hk
    · exact h2
    · exact h3 k hk
/-- settled: a pass more takes nothing -/
theorem Sett.still {nx : Int} {l l' : List Pr} (h : Sett nx l l') : Pass nx (l'.map (·.pid)) l' l' false := by
  induction h with
  | done p =>
    obtain ⟨rfl, _⟩ := p.none rfl
    exact p
  | again _ _ ih => exact ih
theorem Sett.again_same {nx : Int} {l l' l2 : List Pr} (h : Sett nx l l') (g : Sett nx l' l2) : l2 = l' := g.one (Sett.done h.still)
/-- settled: nobody that runs has something to take -/
theorem Sett.idle {nx : Int} {l l' : List Pr} (h : Sett nx l l') (hr : rightL l nx = true) : ∀ p ∈ l', p.state = 1 → (Sig.pickL p.pending p.mask).2 = false := by
  intro p hp hs
  have hr2 := h.sub.right hr
  have h0 := (h.still.none rfl).2 p.pid (List.mem_map.2 ⟨p, hp, rfl⟩)
  cases hk : (Sig.pickL p.pending p.mask).2 with
  | false => rfl
  | true =>
    have hc : canL l' nx p.pid = true := by
      unfold canL
      rw [right_get hr2 hp, hs, hk]
      rfl
    unfold takeL at h0
    rw [if_pos hc, right_get hr2 hp] at h0
    have h1 := pick_bd hk
    have h2 : (Sig.pickL p.pending p.mask).1 = 0 := h0
    omega
end Go.Proofs.YteljobleojhgmaaGreat
