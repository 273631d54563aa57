/- Whether a process is stopped by a terminal's stop, plainly. Condition: pending signals and masks have 64 bits. -/
import Derived.Test.YteljobleojhgmaaLA21
namespace Go.Proofs.Yteljobleojhgmaa
open Go.RowKit Go.Kb

def key (p : Pr) : Int × Int × Int × Int × Int := (p.pid, p.parent, p.group, p.session, p.state)
theorem key_eq {p q : Pr} (h : key p = key q) : p.pid = q.pid ∧ p.parent = q.parent ∧ p.group = q.group ∧ p.session = q.session ∧ p.state = q.state := by
  simp only [key, Prod.mk.injEq] at h
  exact h
theorem rise_key {nx : Int} : ∀ {l l' : List Pr} {last : Int}, l.map key = l'.map key → rise nx last l = rise nx last l'
  | [], [], _, _ => rfl
  | [], _ :: _, _, h => by simp at h
  | _ :: _, [], _, h => by simp at h
  | p :: l, q :: l', last, h => by
    simp only [List.map_cons, List.cons.injEq] at h
    have h1 := (key_eq h.1).1
    simp only [rise, h1, rise_key h.2]
theorem find_key {f : Pr → Bool} (hf : ∀ p q, key p = key q → f p = f q) : ∀ {l l' : List Pr}, l.map key = l'.map key → (l.find? f).map key = (l'.find? f).map key
  | [], [], _ => rfl
  | [], _ :: _, h => by simp at h
  | _ :: _, [], h => by simp at h
  | p :: l, q :: l', h => by
    simp only [List.map_cons, List.cons.injEq] at h
    have h1 := hf p q h.1
    cases hq : f q
    · rw [List.find?_cons_of_neg (by rw [h1, hq]; simp), List.find?_cons_of_neg (by simp [hq])]
      exact find_key hf h.2
    · rw [List.find?_cons_of_pos (by rw [h1, hq]), List.find?_cons_of_pos hq]
      simp [h.1]
theorem any_key {f g : Pr → Bool} (hf : ∀ p q, key p = key q → f p = g q) : ∀ {l l' : List Pr}, l.map key = l'.map key → l.any f = l'.any g
  | [], [], _ => rfl
  | [], _ :: _, h => by simp at h
  | _ :: _, [], h => by simp at h
  | p :: l, q :: l', h => by
    simp only [List.map_cons, List.cons.injEq] at h
    simp only [List.any_cons, hf p q h.1, any_key hf h.2]
theorem seen_key {l l' : List Pr} {g : Int} (h : l.map key = l'.map key) {p q : Pr} (hk : key p = key q) : seenP l g p = seenP l' g q := by
  have hk2 := key_eq hk
  unfold seenP
  rw [hk2.2.1]
  have h1 := find_key (f := fun x => x.pid == q.parent && liveP x) (fun a b hab => by
    have := key_eq hab
    unfold liveP
    simp only [this.1, this.2.2.2.2]) h
  cases ha : l.find? (fun x => x.pid == q.parent && liveP x) with
  | none =>
    rw [ha] at h1
    cases hb : l'.find? (fun x => x.pid == q.parent && liveP x) with
    | none => rfl
    | some y => rw [hb] at h1; simp at h1
  | some x =>
    rw [ha] at h1
    cases hb : l'.find? (fun x => x.pid == q.parent && liveP x) with
    | none => rw [hb] at h1; simp at h1
    | some y =>
      rw [hb] at h1
      simp only [Option.map_some, Option.some.injEq] at h1
      have := key_eq h1
      simp only [this.2.2.1, this.2.2.2.1, hk2.2.2.2.1]
theorem orph_key {l l' : List Pr} {nx g : Int} (h : l.map key = l'.map key) : orphL l nx g = orphL l' nx g := by
  have hl : l.length = l'.length := by simpa using congrArg List.length h
  unfold orphL rightL
  rw [rise_key h, hl, List.any_filter, List.any_filter]
  rw [any_key (f := fun a => ofP g a && seenP l g a) (g := fun a => ofP g a && seenP l' g a) (fun p q hk => by
    have hk2 := key_eq hk
    rw [seen_key h hk]
    unfold ofP liveP
    simp only [hk2.2.2.1, hk2.2.2.2.2]) h]
theorem mid_key {a r : List Pr} {p q : Pr} (h : key p = key q) : (a ++ p :: r).map key = (a ++ q :: r).map key := by
  simp [h]
theorem find_far {k pid : Int} {q : Pr} (hq : q.pid = k) (hne : k ≠ pid) : ∀ {l : List Pr}, (changeL (fun _ => q) k l).find? (fun p => p.pid == pid) = l.find? (fun p => p.pid == pid)
  | [] => rfl
  | x :: l => by
    rw [changeL_cons]
    split
    · rename_i hx
      rw [List.find?_cons_of_neg (by simp [hq, hne]), List.find?_cons_of_neg (by simp [hx, hne])]
    · cases hx : x.pid == pid
      · rw [List.find?_cons_of_neg (by simp [hx]), List.find?_cons_of_neg (by simp [hx]), find_far hq hne]
      · rw [List.find?_cons_of_pos (by simp [hx]), List.find?_cons_of_pos (by simp [hx])]
theorem get_far {l : List Pr} {nx k pid : Int} {q : Pr} (hq : q.pid = k) (hne : k ≠ pid) : getL (changeL (fun _ => q) k l) nx pid = getL l nx pid := by
  unfold getL
  rw [right_put hq, find_far hq hne]
theorem get_put {l : List Pr} {nx pid : Int} {p q : Pr} (h : getL l nx pid = (p, true)) (hq : q.pid = pid) : getL (changeL (fun _ => q) pid l) nx pid = (q, true) ∧ rightL (changeL (fun _ => q) pid l) nx = true := by
  have hg2 : (getL l nx pid).2 = true := by rw [h]
  obtain ⟨hm, hpid, hr⟩ := get_mem hg2
  obtain ⟨a, r, e, ha⟩ := get_split hg2
  rw [h] at e ha hpid
  have e1 : changeL (fun _ => q) pid l = a ++ q :: r := by rw [e]; exact change_mid hpid (by rw [← hpid]; exact ha)
  have hr2 : rightL (changeL (fun _ => q) pid l) nx = true := by rw [right_put hq]; exact hr
  have := right_get hr2 (p := q) (by rw [e1]; simp)
  rw [hq] at this
  exact ⟨this, hr2⟩
/-- a process with one signal pending, which nothing keeps off -/
def quietP (p : Pr) (sig : Int) : Pr := { p with pending := Sig.ofL [sig], mask := 0, acts := p.acts.set sig.toNat 0 }
theorem quiet_pick {sig : Int} (hs : sig = 20 ∨ sig = 21 ∨ sig = 22) : Sig.pickL (Sig.ofL [sig]) 0 = (sig, true) := by
  rcases hs with rfl | rfl | rfl <;> kernel_rfl
theorem quiet_eff {a : List Int} {sig : Int} (ha : a.length = 32) (hs : sig = 20 ∨ sig = 21 ∨ sig = 22) : Sig.effL (a.set sig.toNat 0) sig = 4 := by
  have h0 : (a.set sig.toNat 0).getD sig.toNat 0 = 0 := by
    rw [List.getD_eq_getElem?_getD, List.getElem?_set_self (by rw [ha]; omega)]
    rfl
  have h1 : Sig.isL sig = true := by rcases hs with rfl | rfl | rfl <;> decide
  have h2 : (sig == 9 || sig == 19) = false := by rcases hs with rfl | rfl | rfl <;> decide
  have h3 : Sig.doesL sig = 4 := by
    rcases hs with h | h | h
    · rw [h]; kernel_rfl
    · rw [h]; kernel_rfl
    · rw [h]; kernel_rfl
  unfold Sig.effL
  rw [h0, h1, h2, h3]
  rfl
theorem quiet_good {l : List Pr} {k sig : Int} {p : Pr} (h : Good l) : Good (changeL (fun _ => quietP p sig) k l) := by
  constructor
  · intro q hq
    rcases change_in hq with h1 | ⟨_, _, rfl⟩
    · exact h.1 q h1
    · exact Sig.ofL_bd _
  · intro q hq
    rcases change_in hq with h1 | ⟨_, _, rfl⟩
    · exact h.2 q h1
    · exact ⟨Int.le_refl 0, by show (0 : Int) < _; decide⟩
theorem orphans_plain {l : List Pr} {nx pid sig : Int} {p : Pr} (hg : Good l) (hok : p.ok) (hget : getL l nx pid = (p, true)) (h1 : p.state = 1) (hs : sig = 20 ∨ sig = 21 ∨ sig = 22) :
    (orphL (changeL (fun _ => quietP p sig) pid l) nx p.group = true → ∃ l2 z, takeL (changeL (fun _ => quietP p sig) pid l) nx pid = (l2, sig, 3) ∧ getL l2 nx pid = (z, true) ∧ z.state = 1) ∧
    (orphL (changeL (fun _ => quietP p sig) pid l) nx p.group = false → ∃ l2 z, takeL (changeL (fun _ => quietP p sig) pid l) nx pid = (l2, sig, 4) ∧ getL l2 nx pid = (z, true) ∧ z.state = 2 ∧ z.status = 3000 + sig ∧ z.told = false ∧ Good l2 ∧
      ((getL l2 nx p.parent).2 = true → (getL l2 nx p.parent).1.state = 3 ∨ p.parent = pid ∨ Sig.hasL (getL l2 nx p.parent).1.pending 17 = true)) := by
  have hpid : p.pid = pid := by
    have := (get_mem (l := l) (nx := nx) (pid := pid) (by rw [hget])).2.1
    rw [hget] at this; exact this
  obtain ⟨hg1, hr1⟩ := get_put (q := quietP p sig) hget hpid
  have hgood := quiet_good (k := pid) (sig := sig) (p := p) hg
  obtain ⟨q, hq⟩ : ∃ q, quietP p sig = q := ⟨_, rfl⟩
  have hqp : q.pid = pid := by rw [← hq]; exact hpid
  have hqs : q.state = 1 := by rw [← hq]; exact h1
  have hqg : q.group = p.group := by rw [← hq]; rfl
  have hqr : q.parent = p.parent := by rw [← hq]; rfl
  have hpk : Sig.pickL q.pending q.mask = (sig, true) := by rw [← hq]; exact quiet_pick hs
  have hef : Sig.effL q.acts sig = 4 := by rw [← hq]; exact quiet_eff hok hs
  rw [hq] at hg1 hr1 hgood ⊢
  obtain ⟨l1, hl1⟩ : ∃ l1, changeL (fun _ => q) pid l = l1 := ⟨_, rfl⟩
  rw [hl1] at hg1 hr1 hgood ⊢
  have hsg : sigL q = sig := by unfold sigL; rw [hpk]
  have hcan : canL l1 nx pid = true := by
    unfold canL
    rw [hg1, hpk]
    simp [hqs]
  have htk : takeL l1 nx pid = ((doL (tookL l1 q sig) nx (tookP q sig) sig 4).1, sig, (doL (tookL l1 q sig) nx (tookP q sig) sig 4).2) := by
    unfold takeL
    rw [if_pos hcan, hg1]
    simp only [hsg, hef]
  have hL2 : tookL l1 q sig = changeL (fun _ => tookP q sig) pid l1 := by unfold tookL; rw [hqp]
  obtain ⟨hg2, hr2⟩ := get_put (q := tookP q sig) hg1 hqp
  rw [← hL2] at hg2 hr2
  have hgd2 : Good (tookL l1 q sig) := by
    have h0 : ∀ x ∈ l1, Sig.U64 x.pending := hgood.1
    have hqm := (get_mem (l := l1) (nx := nx) (pid := pid) (by rw [hg1])).1
    rw [hg1] at hqm
    refine ⟨tookL_bd h0 (h0 q hqm), fun x hx => ?_⟩
    rcases change_in hx with h3 | ⟨_, _, rfl⟩
    · exact hgood.2 x h3
    · exact hgood.2 q hqm
  have hor : orphL (tookL l1 q sig) nx (tookP q sig).group = orphL l1 nx p.group := by
    have hgg : (getL l1 nx pid).2 = true := by rw [hg1]
    obtain ⟨a, r, e, ha⟩ := get_split hgg
    rw [hg1] at e ha
    have e1 : tookL l1 q sig = a ++ tookP q sig :: r := by unfold tookL; rw [e]; exact change_mid rfl ha
    rw [show (tookP q sig).group = p.group from hqg]
    refine orph_key ?_
    rw [e1, e]
    exact mid_key rfl
  have hs19 : sig ≠ 19 := by omega
  constructor
  · intro ho
    refine ⟨tookL l1 q sig, tookP q sig, ?_, hg2, hqs⟩
    rw [htk, doL_orph ⟨hs19, by rw [hor]; exact ho⟩]
  · intro ho
    refine ⟨stopL (tookL l1 q sig) nx (tookP q sig) sig, ?_⟩
    have htk2 : takeL l1 nx pid = (stopL (tookL l1 q sig) nx (tookP q sig) sig, sig, 4) := by
      rw [htk, doL_stop (.inr (by rw [hor]; exact ho))]
    obtain ⟨r, hr⟩ : ∃ r, tookP q sig = r := ⟨_, rfl⟩
    obtain ⟨L2, hL2'⟩ : ∃ L2, tookL l1 q sig = L2 := ⟨_, rfl⟩
    have hrp : r.pid = pid := by rw [← hr]; exact hqp
    have hrr : r.parent = p.parent := by rw [← hr]; exact hqr
    rw [hr] at hg2
    rw [hr, hL2'] at htk2 ⊢
    rw [hL2'] at hg2 hr2 hgd2
    obtain ⟨hg3, hr3⟩ := get_put (q := stopP sig r) hg2 hrp
    have hst : stopL L2 nx r sig = (sentL (changeL (fun _ => stopP sig r) pid L2) nx p.parent 17).1 := by unfold stopL; rw [hrp, hrr]
    have hgd3 : Good (changeL (fun _ => stopP sig r) pid L2) := by
      have hqm := (get_mem (l := L2) (nx := nx) (pid := pid) (by rw [hg2])).1
      rw [hg2] at hqm
      constructor
      · intro x hx
        rcases change_in hx with h3 | ⟨_, _, rfl⟩
        · exact hgd2.1 x h3
        · exact hgd2.1 r hqm
      · intro x hx
        rcases change_in hx with h3 | ⟨_, _, rfl⟩
        · exact hgd2.2 x h3
        · exact hgd2.2 r hqm
    obtain ⟨L3, hL3⟩ : ∃ L3, changeL (fun _ => stopP sig r) pid L2 = L3 := ⟨_, rfl⟩
    rw [hL3] at hst hg3 hr3 hgd3
    rw [hst] at htk2 ⊢
    by_cases her : (sentL L3 nx p.parent 17).2 = 0
    · obtain ⟨p2, hp2, hp2p, hp2l, hs17, hgp, hch, hgs, _⟩ := sent_get her
      have hhas : Sig.hasL (sentP 17 p2).pending 17 = true := by
        show Sig.hasL (Sig.addL (preP 17 p2).pending 17) 17 = true
        rw [Sig.hasL_add (preP_bd (hgd3.1 p2 hp2)), hs17]
        simp
      by_cases hpp : p.parent = pid
      · rw [hpp] at hgs hgp
        rw [hg3] at hgp
        have e2 : stopP sig r = p2 := by cases hgp; rfl
        refine ⟨sentP 17 p2, htk2, by rw [hpp]; exact hgs, ?_, ?_, ?_, hgd3.sent, fun _ => .inr (.inl hpp)⟩
        · rw [← e2]; rfl
        · rw [← e2]; rfl
        · rw [← e2]; rfl
      · refine ⟨stopP sig r, htk2, ?_, rfl, rfl, rfl, hgd3.sent, fun _ => .inr (.inr ?_)⟩
        · rw [hch, get_far (by rw [sentP_pid, hp2p]) hpp]
          exact hg3
        · rw [hgs]; exact hhas
    · have hlv := sent_err (by decide) her
      have hsame : (sentL L3 nx p.parent 17).1 = L3 := by
        unfold sentL
        rw [if_pos hr3, if_pos (by decide), if_neg (by rw [hlv]; simp)]
      rw [hsame] at htk2 ⊢
      refine ⟨stopP sig r, htk2, hg3, rfl, rfl, rfl, hgd3, fun h => .inl ?_⟩
      rw [live_get, h] at hlv
      unfold liveP at hlv
      simpa using hlv
end Go.Proofs.Yteljobleojhgmaa
