/- What takes leave of each process, plainly: members of the new table come of members of the old one. No condition. -/
import Derived.Test.YteljobleojhgmaaGreatZ21
namespace Go.Proofs.YteljobleojhgmaaGreat
open Go.RowKit Go.Kb

/-- each member of the new list comes of one of the old -/
def AllD (R : Pr → Pr → Prop) (l l' : List Pr) : Prop := ∀ q ∈ l', ∃ p ∈ l, R p q
/-- what is kept by all that takes do -/
structure Keeps (R : Pr → Pr → Prop) : Prop where
  refl : ∀ p, R p p
  trans : ∀ {a b c}, R a b → R b c → R a c
  took : ∀ p, Sig.U64 p.pending → (Sig.pickL p.pending p.mask).2 = true → R p (tookP p (sigL p))
  stop : ∀ s p, p.state = 1 → R p (stopP s p)
  sent : ∀ s p, (s = 1 ∨ s = 17 ∨ s = 18) → Sig.U64 p.pending → R p (sentP s p)
  ended : ∀ st p, R p (endP st p)
  orph : ∀ k p, R p (orphan k p)
  told : ∀ p, Sig.U64 p.pending → R p { p with pending := orL p.pending 17 }
section
variable {R : Pr → Pr → Prop} (K : Keeps R)
include K
theorem AllD.refl (l : List Pr) : AllD R l l := fun q hq => ⟨q, hq, K.refl q⟩
theorem AllD.trans {a b c : List Pr} (h : AllD R a b) (g : AllD R b c) : AllD R a c := fun q hq => by
  obtain ⟨p, hp, h1⟩ := g q hq
  obtain ⟨o, ho, h2⟩ := h p hp
  exact ⟨o, ho, K.trans h2 h1⟩
theorem AllD.put {l : List Pr} {p q : Pr} {k : Int} (hp : p ∈ l) (h : R p q) : AllD R l (changeL (fun _ => q) k l) := fun x hx => by
  rcases change_in hx with h1 | ⟨_, _, rfl⟩
  · exact ⟨x, h1, K.refl x⟩
  · exact ⟨p, hp, h⟩
theorem AllD.change {l : List Pr} {g : Pr → Pr} {k : Int} (h : ∀ p ∈ l, R p (g p)) : AllD R l (changeL g k l) := fun x hx => by
  rcases change_in hx with h1 | ⟨p, hp, rfl⟩
  · exact ⟨x, h1, K.refl x⟩
  · exact ⟨p, hp, h p hp⟩
theorem AllD.free {l : List Pr} : AllD R l (freeL l) := fun x hx => ⟨x, freeN_sub _ hx, K.refl x⟩
theorem AllD.end_ {l : List Pr} {pid st : Int} (hb : ∀ p ∈ l, Sig.U64 p.pending) : AllD R l (endL l pid st) := by
  have h1 : AllD R l (changeL (endP st) pid l) := AllD.change K fun p _ => K.ended st p
  have b1 : ∀ p ∈ changeL (endP st) pid l, Sig.U64 p.pending := by
    intro q hq
    rcases change_in hq with h2 | ⟨x, _, rfl⟩
    · exact hb q h2
    · exact ⟨Int.le_refl 0, by show (0 : Int) < _; decide⟩
  have h2 : AllD R l ((changeL (endP st) pid l).map (orphan pid)) := AllD.trans K h1 fun q hq => by
    obtain ⟨p, hp, rfl⟩ := List.mem_map.1 hq
    exact ⟨p, hp, K.orph pid p⟩
  have b2 : ∀ p ∈ (changeL (endP st) pid l).map (orphan pid), Sig.U64 p.pending := by
    intro q hq
    obtain ⟨p, hp, rfl⟩ := List.mem_map.1 hq
    have e : (orphan pid p).pending = p.pending := by unfold orphan; split <;> rfl
    rw [e]
    exact b1 p hp
  unfold endL
  refine AllD.trans K (AllD.trans K h2 ?_) (AllD.free K)
  unfold tellUp
  split
  · exact AllD.refl K _
  · split
    · exact AllD.refl K _
    · rename_i k _ up hup
      intro q hq
      rcases List.mem_or_eq_of_mem_set hq with h3 | rfl
      · exact ⟨q, h3, K.refl q⟩
      · have hm := List.mem_of_getElem? hup
        exact ⟨up, hm, K.told up (b2 up hm)⟩
theorem AllD.sent {l : List Pr} {nx k s : Int} (hs : s = 1 ∨ s = 17 ∨ s = 18) (hb : ∀ p ∈ l, Sig.U64 p.pending) : AllD R l (sentL l nx k s).1 := by
  unfold sentL
  split
  · split
    · split
      · rename_i hl
        obtain ⟨_, p, hgp, hpl, _⟩ := askL_live (live_ask hl)
        rw [hgp]
        exact AllD.put K hpl (K.sent s p hs (hb p hpl))
      · exact AllD.refl K _
    · exact AllD.refl K _
  · exact AllD.refl K _
theorem AllD.sents {nx s : Int} (hs : s = 1 ∨ s = 17 ∨ s = 18) : ∀ {ks : List Int} {l : List Pr}, (∀ p ∈ l, Sig.U64 p.pending) → AllD R l (sentsL l nx s ks)
  | [], l, _ => AllD.refl K l
  | k :: ks, _, hb => AllD.trans K (AllD.sent K hs hb) (AllD.sents (ks := ks) hs (sentL_bd (nx := nx) (k := k) (sig := s) hb))
theorem AllD.grps {nx g : Int} : ∀ {ss : List Int} {l : List Pr}, (∀ s ∈ ss, s = 1 ∨ s = 17 ∨ s = 18) → (∀ p ∈ l, Sig.U64 p.pending) → AllD R l (grpsL l nx g ss)
  | [], l, _, _ => AllD.refl K l
  | s :: ss, _, hs, hb => AllD.trans K (AllD.sents K (hs s (by simp)) hb) (AllD.grps (ss := ss) (fun x hx => hs x (by simp [hx])) (sgrpL_bd (nx := nx) (g := g) (s := s) hb))
theorem AllD.tell {l0 u : List Pr} {nx : Int} : ∀ {gs : List Int} {l : List Pr}, (∀ p ∈ l, Sig.U64 p.pending) → AllD R l (tellL l0 u nx l gs)
  | [], l, _ => AllD.refl K l
  | g :: gs, l, hb => by
    show AllD R l (tellL l0 u nx (if newP l0 u nx g = true then grpsL l nx g hupS else l) gs)
    split
    · exact AllD.trans K (AllD.grps K (by decide) hb) (AllD.tell (gs := gs) (grpsL_bd hb))
    · exact AllD.tell (gs := gs) hb
theorem AllD.fin {l : List Pr} {nx pid st : Int} (hb : ∀ p ∈ l, Sig.U64 p.pending) : AllD R l (finL l nx pid st).1 := by
  unfold finL
  split
  · exact AllD.trans K (AllD.end_ K hb) (AllD.tell K (endL_bd hb))
  · exact AllD.refl K _
theorem AllD.stop {l : List Pr} {nx s : Int} {q : Pr} (hst : q.state = 1) (hq : q ∈ l) (hb : ∀ p ∈ l, Sig.U64 p.pending) : AllD R l (stopL l nx q s) := by
  unfold stopL
  refine AllD.trans K (AllD.put K hq (K.stop s q hst)) (AllD.sent K (by decide) ?_)
  intro x hx
  rcases change_in hx with h1 | ⟨_, _, rfl⟩
  · exact hb x h1
  · exact hb q hq
/-- behind a take each member comes of one before -/
theorem AllD.take {l : List Pr} {nx pid : Int} (hb : ∀ p ∈ l, Sig.U64 p.pending) : AllD R l (takeL l nx pid).1 := by
  unfold takeL
  split
  · rename_i hc
    unfold canL at hc
    simp only [Bool.and_eq_true] at hc
    obtain ⟨hg, hst, hpk⟩ := hc
    obtain ⟨hm, hpid, _⟩ := get_mem hg
    obtain ⟨p, hp⟩ : ∃ p, (getL l nx pid).1 = p := ⟨_, rfl⟩
    rw [hp] at hm hpid hpk hst ⊢
    have hst : p.state = 1 := by simpa using hst
    have h1 : AllD R l (tookL l p (sigL p)) := AllD.put K hm (K.took p (hb p hm) hpk)
    have b1 := tookL_bd (sig := sigL p) hb (hb p hm)
    have hq : tookP p (sigL p) ∈ tookL l p (sigL p) := by
      rcases idx_any (f := fun x => x.pid == p.pid) (l := l) with ⟨_, h4⟩ | ⟨j, y, h4, h5, _⟩
      · rw [List.any_eq_false] at h4
        exact absurd (h4 p hm) (by simp)
      · unfold tookL
        rw [changeL_some h4 h5]
        exact List.mem_set (List.getElem?_eq_some_iff.1 h5).1 _
    refine AllD.trans K h1 ?_
    show AllD R _ (doL _ _ _ _ _).1
    unfold doL
    split
    · exact AllD.fin K b1
    · split
      · exact AllD.fin K b1
      · split
        · split
          · exact AllD.refl K _
          · exact AllD.stop K (show (tookP p (sigL p)).state = 1 from hst) hq b1
        · exact AllD.refl K _
  · exact AllD.refl K _
end
end Go.Proofs.YteljobleojhgmaaGreat
