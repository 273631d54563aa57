/- What is blocked stays pending, plainly. Condition: pending signals and masks have 64 bits. -/
import Derived.Test.YteljobleojhgmaaIA21
namespace Go.Proofs.Yteljobleojhgmaa
open Go.RowKit Go.Kb

section
variable {R : Pr → Pr → Prop} (K : Keeps R)
include K
theorem drain_all {nx pid : Int} {l l' : List Pr} {b : Bool} (h : Drain nx pid l l' b) : Good l → AllD R l l' ∧ Good l' := by
  induction h with
  | stop _ => intro hg; exact ⟨AllD.refl K _, hg⟩
  | go _ _ ih =>
    intro hg
    have h1 := AllD.take K (nx := nx) (pid := pid) hg.1
    obtain ⟨h2, h3⟩ := ih hg.take
    exact ⟨AllD.trans K h1 h2, h3⟩
theorem pass_all {nx : Int} {ks : List Int} {l l' : List Pr} {b : Bool} (h : Pass nx ks l l' b) : Good l → AllD R l l' ∧ Good l' := by
  induction h with
  | nil => intro hg; exact ⟨AllD.refl K _, hg⟩
  | cons h0 _ ih =>
    intro hg
    obtain ⟨h1, g1⟩ := drain_all K h0 hg
    obtain ⟨h2, g2⟩ := ih g1
    exact ⟨AllD.trans K h1 h2, g2⟩
theorem sett_all {nx : Int} {l l' : List Pr} (h : Sett nx l l') : Good l → AllD R l l' ∧ Good l' := by
  induction h with
  | done h0 => intro hg; exact pass_all K h0 hg
  | again h0 _ ih =>
    intro hg
    obtain ⟨h1, g1⟩ := pass_all K h0 hg
    obtain ⟨h2, g2⟩ := ih g1
    exact ⟨AllD.trans K h1 h2, g2⟩
end
/-- a process that comes of another one, with a signal of it that is blocked -/
def Der (sig : Int) (p q : Pr) : Prop := q.pid = p.pid ∧ q.mask = p.mask ∧ (p.state = 3 → q.state = 3) ∧ (Sig.hasL (Sig.blockL p.mask) sig = true → Sig.hasL p.pending sig = true → q.state = 3 ∨ Sig.hasL q.pending sig = true)
theorem fall_has {sig : Int} (hn : sig ≠ 20 ∧ sig ≠ 21 ∧ sig ≠ 22 ∧ sig ≠ 19) {p : Pr} (hb : Sig.U64 p.pending) (h : Sig.hasL p.pending sig = true) : Sig.hasL (fallP p).pending sig = true := by
  show Sig.hasL (Sig.delL (Sig.delL (Sig.delL (Sig.delL p.pending 19) 20) 21) 22) sig = true
  have b1 := Sig.delL_bd hb 19
  have b2 := Sig.delL_bd b1 20
  have b3 := Sig.delL_bd b2 21
  rw [Sig.hasL_del b3, Sig.hasL_del b2, Sig.hasL_del b1, Sig.hasL_del hb, h]
  simp [hn.1, hn.2.1, hn.2.2.1, hn.2.2.2]
theorem pre_has {sig s : Int} (hn : sig ≠ 20 ∧ sig ≠ 21 ∧ sig ≠ 22 ∧ sig ≠ 19) (hs : s = 1 ∨ s = 17 ∨ s = 18) {p : Pr} (hb : Sig.U64 p.pending) (h : Sig.hasL p.pending sig = true) : Sig.hasL (preP s p).pending sig = true := by
  unfold preP
  rcases hs with rfl | rfl | rfl
  · rw [if_neg (by decide), if_neg (by decide), if_neg (by decide)]; exact h
  · rw [if_neg (by decide), if_neg (by decide), if_neg (by decide)]; exact h
  · rw [if_pos rfl]
    unfold contP
    rw [wakeP_pend]
    split
    · exact fall_has hn hb h
    · exact fall_has hn hb h
theorem keepsDer {sig : Int} (hn : sig ≠ 18 ∧ sig ≠ 20 ∧ sig ≠ 21 ∧ sig ≠ 22) : Keeps (Der sig) where
  refl := fun _ => ⟨rfl, rfl, fun h => h, fun _ h => .inr h⟩
  trans := fun h g => ⟨g.1.trans h.1, g.2.1.trans h.2.1, fun x => g.2.2.1 (h.2.2.1 x), fun hb hp => by
    rcases h.2.2.2 hb hp with h3 | h3
    · exact .inl (g.2.2.1 h3)
    · exact g.2.2.2 (by rw [h.2.1]; exact hb) h3⟩
  took := fun p hb hpk => ⟨rfl, rfl, fun h => h, fun hbl hp => by
    right
    show Sig.hasL (Sig.delL p.pending (sigL p)) sig = true
    rw [Sig.hasL_del hb, hp]
    have h1 := pick_has hpk
    rw [Sig.hasL_open hb] at h1
    simp only [Bool.and_eq_true] at h1
    have h2 : sig ≠ sigL p := by
      rintro rfl
      have h3 : (!Sig.hasL (Sig.blockL p.mask) (sigL p)) = true := h1.2
      rw [hbl] at h3
      cases h3
    simp [h2]⟩
  stop := fun _ p h1 => ⟨rfl, rfl, fun h => (by rw [h1] at h; cases h), fun _ hp => .inr hp⟩
  sent := fun s p hs hb => ⟨sentP_pid, sentP_mask, fun h => (sent_state h).1, fun hbl hp => by
    right
    have h19 : sig ≠ 19 := by
      rintro rfl
      rw [block_no (.inr rfl)] at hbl; cases hbl
    show Sig.hasL (Sig.addL (preP s p).pending s) sig = true
    rw [Sig.hasL_add (preP_bd hb), pre_has ⟨hn.2.1, hn.2.2.1, hn.2.2.2, h19⟩ hs hb hp]
    rfl⟩
  ended := fun _ _ => ⟨rfl, rfl, fun _ => rfl, fun _ _ => .inl rfl⟩
  orph := fun k p => ⟨(orphan_mask (k := k) (p := p)).2.2.2, (orphan_mask (k := k) (p := p)).1, fun h => by rw [(orphan_mask (k := k) (p := p)).2.2.1]; exact h, fun _ hp => .inr (by rw [(orphan_mask (k := k) (p := p)).2.1]; exact hp)⟩
  told := fun p hb => ⟨rfl, rfl, fun h => h, fun _ hp => .inr (by
    show Sig.hasL (orL p.pending 17) sig = true
    rw [orL_add hb, Sig.hasL_add hb, hp]; rfl)⟩
theorem Good.sent {l : List Pr} {nx k s : Int} (h : Good l) : Good (sentL l nx k s).1 := ⟨sentL_bd h.1, sentL_mask h.2⟩
theorem blocks_plain {l : List Pr} {nx pid sig : Int} (hg : Good l) (hn : sig ≠ 18 ∧ sig ≠ 20 ∧ sig ≠ 21 ∧ sig ≠ 22) (h : (sentL l nx pid sig).2 = 0) :
    ∃ p1, getL (sentL l nx pid sig).1 nx pid = (p1, true) ∧ Sig.U64 p1.mask ∧ (Sig.hasL (Sig.blockL p1.mask) sig = true → ∀ l2, Sett nx (sentL l nx pid sig).1 l2 → Good l2 ∧ ((getL l2 nx pid).2 = true → (getL l2 nx pid).1.state = 3 ∨ Sig.hasL (getL l2 nx pid).1.pending sig = true)) := by
  obtain ⟨p, hpl, hpid, hlv, hs, hgp, hch, hg1, hr⟩ := sent_get h
  have hg2 := hg.sent (nx := nx) (k := pid) (s := sig)
  have hm1 := get_mem (l := (sentL l nx pid sig).1) (nx := nx) (pid := pid) (by rw [hg1])
  rw [hg1] at hm1
  refine ⟨sentP sig p, hg1, hg2.2 _ hm1.1, fun hbl l2 hst => ?_⟩
  obtain ⟨hall, hgood⟩ := sett_all (keepsDer hn) hst hg2
  refine ⟨hgood, fun hq => ?_⟩
  obtain ⟨hqm, hqp, _⟩ := get_mem hq
  obtain ⟨p0, hp0, h1, h2, h3, h4⟩ := hall _ hqm
  have e : p0 = sentP sig p := rise_uniq (right_rise hr).2.2 hp0 hm1.1 (by rw [← h1, hqp, hm1.2.1])
  subst e
  refine h4 hbl ?_
  show Sig.hasL (Sig.addL (preP sig p).pending sig) sig = true
  rw [Sig.hasL_add (preP_bd (hg.1 p hpl)), hs]
  simp
end Go.Proofs.Yteljobleojhgmaa
