/- What KILL comes to, and what stays pending, plainly. Condition: pending signals and masks have 64 bits. -/
import Derived.Test.YteljobleojhgmaaHA21
namespace Go.Proofs.Yteljobleojhgmaa
open Go.RowKit Go.Kb

theorem block_no {m s : Int} (h : s = 9 ∨ s = 19) : Sig.hasL (Sig.blockL m) s = false := by
  unfold Sig.blockL
  have b1 := Sig.ofL_bd (Sig.listL m)
  have b2 := Sig.delL_bd b1 9
  rw [Sig.hasL_del b2, Sig.hasL_del b1]
  rcases h with rfl | rfl
  · have : Sig.isL 9 = true := by decide
    simp [this]
  · have : Sig.isL 19 = true := by decide
    simp [this]
theorem kill_pick {p : Pr} (hb : Sig.U64 p.pending) (h9 : Sig.hasL p.pending 9 = true) : Sig.pickL p.pending p.mask = (9, true) := by
  unfold Sig.pickL
  rw [if_pos]
  rw [Sig.hasL_open hb, h9, block_no (.inl rfl)]
  rfl
theorem kill_eff (a : List Int) : Sig.effL a 9 = 1 := by
  unfold Sig.effL
  rw [if_neg (by decide), if_pos (by decide)]
  kernel_rfl
/-- what holds of all processes holds behind what an end tells -/
theorem tell_inv {F : Pr → Prop} (hF : ∀ s p, (s = 1 ∨ s = 18) → F p → F (sentP s p)) {l0 u : List Pr} {nx : Int} {gs : List Int} {l : List Pr} (h : ∀ p ∈ l, F p) : ∀ p ∈ tellL l0 u nx l gs, F p := by
  have one : ∀ {l : List Pr} {k s : Int}, (s = 1 ∨ s = 18) → (∀ p ∈ l, F p) → ∀ p ∈ (sentL l nx k s).1, F p := by
    intro l k s hs h q hq
    unfold sentL at hq
    split at hq
    · split at hq
      · split at hq
        · rename_i hl
          obtain ⟨_, p, hgp, hpl, _⟩ := askL_live (live_ask hl)
          rw [hgp] at hq
          rcases change_in hq with h1 | ⟨_, _, rfl⟩
          · exact h q h1
          · exact hF s p hs (h p hpl)
        · exact h q hq
      · exact h q hq
    · exact h q hq
  have many : ∀ {ks : List Int} {l : List Pr} {s : Int}, (s = 1 ∨ s = 18) → (∀ p ∈ l, F p) → ∀ p ∈ sentsL l nx s ks, F p := by
    intro ks
    induction ks with
    | nil => intro l s _ h; exact h
    | cons k ks ih => intro l s hs h; exact ih hs (one hs h)
  have grp : ∀ {g : Int} {l : List Pr}, (∀ p ∈ l, F p) → ∀ p ∈ grpsL l nx g hupS, F p := fun h => many (.inr rfl) (many (.inl rfl) h)
  induction gs generalizing l with
  | nil => exact h
  | cons g gs ih =>
    show ∀ p ∈ tellL l0 u nx (if newP l0 u nx g = true then grpsL l nx g hupS else l) gs, F p
    refine ih ?_
    split
    · exact grp h
    · exact h
theorem sent_state {s : Int} {p : Pr} (h : p.state = 3) : (sentP s p).state = 3 ∧ (sentP s p).status = p.status := by
  have h2 : ¬ p.state = 2 := by omega
  unfold sentP preP contP fallP wakeP
  repeat' split
  all_goals first | exact ⟨h, rfl⟩ | (simp_all; done) | skip
theorem sentP_status {s : Int} {p : Pr} : (sentP s p).status = p.status := by
  unfold sentP preP contP fallP wakeP
  repeat' split
  all_goals rfl
theorem rise_uniq {nx : Int} : ∀ {l : List Pr} {last : Int}, rise nx last l = true → ∀ {p q : Pr}, p ∈ l → q ∈ l → p.pid = q.pid → p = q
  | [], _, _, _, _, hp, _, _ => by cases hp
  | x :: l, last, h, p, q, hp, hq, e => by
    have h2 : rise nx x.pid l = true := by
      unfold rise at h
      simp only [Bool.and_eq_true] at h
      exact h.2.2
    have h3 := rise_mem h2
    rcases List.mem_cons.1 hp with hp1 | hp1 <;> rcases List.mem_cons.1 hq with hq1 | hq1
    · rw [hp1, hq1]
    · have := (h3 q hq1).1; rw [hp1] at e; omega
    · have := (h3 p hp1).1; rw [hq1] at e; omega
    · exact rise_uniq h2 hp1 hq1 e
/-- a process that ended, and what comes of it: nobody of its number lives -/
theorem fin_dead {l : List Pr} {nx pid st : Int} {p : Pr} (hg : getL l nx pid = (p, true)) (hl : liveP p = true) :
    ∀ q ∈ (finL l nx pid st).1, q.pid = pid → q.state = 3 ∧ q.status = st := by
  have hg2 : (getL l nx pid).2 = true := by rw [hg]
  obtain ⟨hm, hpid, hr⟩ := get_mem hg2
  rw [hg] at hm hpid
  have hask : askL l nx [pid] = 0 := live_ask (by rw [live_get, hg, hl]; rfl)
  unfold finL
  rw [if_pos hask]
  have h0 : ∀ q ∈ changeL (endP st) pid l, q.pid = pid → q.state = 3 ∧ q.status = st := by
    obtain ⟨a, r, e, ha⟩ := get_split hg2
    rw [hg] at e ha
    have e1 : changeL (endP st) pid l = a ++ endP st p :: r := by rw [e]; exact change_mid hpid (by rw [← hpid]; exact ha)
    intro q hq hqp
    rw [e1] at hq
    rcases List.mem_append.1 hq with h1 | h1
    · have : q = p := rise_uniq (right_rise hr).2.2 (by rw [e]; simp [h1]) hm (by rw [hqp, hpid])
      exact absurd (this ▸ rfl) (ha q h1)
    · rcases List.mem_cons.1 h1 with h4 | h4
      · rw [h4]; exact ⟨rfl, rfl⟩
      · exfalso
        have hq : q = p := rise_uniq (right_rise hr).2.2 (by rw [e]; simp [h4]) hm (by rw [hqp, hpid])
        subst hq
        have hn : (a ++ q :: r).Nodup := by
          rw [← e]
          have key : ∀ {l : List Pr} {last : Int}, rise nx last l = true → l.Nodup := by
            intro l
            induction l with
            | nil => intro _ _; exact List.nodup_nil
            | cons x l ih =>
              intro last h
              have h2 : rise nx x.pid l = true := by
                unfold rise at h
                simp only [Bool.and_eq_true] at h
                exact h.2.2
              exact List.nodup_cons.2 ⟨fun hx => by have := (rise_mem h2 x hx).1; omega, ih h2⟩
          exact key (right_rise hr).2.2
        have := (List.nodup_append.1 hn).2.1
        exact (List.nodup_cons.1 this).1 h4
  have h1 : ∀ q ∈ endL l pid st, q.pid = pid → q.state = 3 ∧ q.status = st := by
    have h2 : ∀ q ∈ (changeL (endP st) pid l).map (orphan pid), q.pid = pid → q.state = 3 ∧ q.status = st := by
      intro q hq hqp
      obtain ⟨x, hx, rfl⟩ := List.mem_map.1 hq
      have ho := orphan_mask (k := pid) (p := x)
      rw [ho.2.2.1, show (orphan pid x).status = x.status by unfold orphan; split <;> rfl]
      exact h0 x hx (by rw [← ho.2.2.2]; exact hqp)
    intro q hq
    unfold endL at hq
    have hq := freeN_sub _ hq
    unfold tellUp at hq
    split at hq
    · exact h2 q hq
    · split at hq
      · exact h2 q hq
      · rename_i k _ up hup
        rcases List.mem_or_eq_of_mem_set hq with h3 | rfl
        · exact h2 q h3
        · exact h2 up (List.mem_of_getElem? hup)
  refine tell_inv (F := fun q => q.pid = pid → q.state = 3 ∧ q.status = st) (fun s q _ h hq => ?_) h1
  rw [sentP_pid] at hq
  obtain ⟨h3, h4⟩ := h hq
  have := sent_state (s := s) h3
  exact ⟨this.1, by rw [this.2, h4]⟩
theorem live_none {l : List Pr} {nx pid : Int} (h : ∀ q ∈ l, q.pid = pid → q.state = 3) : liveL l nx pid = false := by
  unfold liveL
  have : (l.any fun p => p.pid == pid && liveP p) = false := by
    rw [List.any_eq_false]
    intro q hq hc
    simp only [Bool.and_eq_true] at hc
    have := h q hq (by simpa using hc.1)
    unfold liveP at hc
    rw [this] at hc
    simp at hc
  rw [this, Bool.and_false]
/-- a signal that is sent: the process with it, or an error -/
theorem sent_get {l : List Pr} {nx pid s : Int} (h : (sentL l nx pid s).2 = 0) : ∃ p, p ∈ l ∧ p.pid = pid ∧ liveP p = true ∧ Sig.isL s = true ∧ getL l nx pid = (p, true) ∧ (sentL l nx pid s).1 = changeL (fun _ => sentP s p) pid l ∧ getL (sentL l nx pid s).1 nx pid = (sentP s p, true) ∧ rightL (sentL l nx pid s).1 nx = true := by
  unfold sentL at h ⊢
  split at h
  · rename_i hr
    split at h
    · rename_i hs
      split at h
      · rename_i hl
        obtain ⟨_, p, hgp, hpl, hpid⟩ := askL_live (live_ask hl)
        have hlv : liveP p = true := by
          rw [live_get, hgp] at hl
          simpa using hl
        rw [if_pos hr, if_pos hs, if_pos hl]
        refine ⟨p, hpl, hpid, hlv, hs, hgp, by rw [hgp, hpid], ?_, ?_⟩
        · have hr2 : rightL (changeL (fun _ => sentP s p) pid l) nx = true := by rw [right_put (by rw [sentP_pid, hpid])]; exact hr
          have hg2 : (getL l nx pid).2 = true := by rw [hgp]
          obtain ⟨a, r, e, ha⟩ := get_split hg2
          rw [hgp] at e ha
          have e1 : changeL (fun _ => sentP s p) pid l = a ++ sentP s p :: r := by rw [e]; exact change_mid hpid (by rw [← hpid]; exact ha)
          show getL (changeL _ _ _) nx pid = _
          rw [hgp]
          show getL (changeL (fun _ => sentP s p) p.pid l) nx pid = _
          rw [hpid]
          have := right_get hr2 (p := sentP s p) (by rw [e1]; simp)
          rw [sentP_pid, hpid] at this
          exact this
        · show rightL (changeL _ _ _) nx = _
          rw [hgp]
          show rightL (changeL (fun _ => sentP s p) p.pid l) nx = _
          rw [right_put sentP_pid]; exact hr
      · cases h
    · cases h
  · cases h
theorem sent_err {l : List Pr} {nx pid s : Int} (hs : Sig.isL s = true) (h : (sentL l nx pid s).2 ≠ 0) : liveL l nx pid = false := by
  unfold sentL at h
  split at h
  · (try rw [if_pos hs] at h)
    split at h
    · exact absurd rfl h
    · rename_i hl
      simpa using hl
  · rename_i hr
    unfold liveL
    have : rightL l nx = false := by simpa using hr
    rw [this]; rfl
theorem kills_plain {l : List Pr} {nx pid : Int} (hb : ∀ p ∈ l, Sig.U64 p.pending) (h : (sentL l nx pid 9).2 = 0) :
    ∃ p1, getL (sentL l nx pid 9).1 nx pid = (p1, true) ∧ p1.state ≠ 2 ∧ (p1.state = 1 → ∃ l2, takeL (sentL l nx pid 9).1 nx pid = (l2, 9, 1) ∧ liveL l2 nx pid = false ∧ ((getL l2 nx pid).2 = true → (getL l2 nx pid).1.status = 1009)) := by
  obtain ⟨p, hpl, hpid, hlv, _, hgp, hch, hg, hr⟩ := sent_get h
  have hbp := hb p hpl
  refine ⟨sentP 9 p, hg, ?_, fun h1 => ?_⟩
  · unfold sentP preP wakeP
    rw [if_neg (by decide), if_pos rfl]
    split
    · show (1 : Int) ≠ 2; decide
    · assumption
  · have hpb : Sig.U64 (sentP 9 p).pending := sentP_bd hbp
    have h9 : Sig.hasL (sentP 9 p).pending 9 = true := by
      show Sig.hasL (Sig.addL (preP 9 p).pending 9) 9 = true
      rw [Sig.hasL_add (preP_bd hbp)]
      have : Sig.isL 9 = true := by decide
      simp [this]
    have hpk := kill_pick (p := sentP 9 p) hpb h9
    obtain ⟨q, hq⟩ : ∃ q, sentP 9 p = q := ⟨_, rfl⟩
    obtain ⟨l1, hl1⟩ : ∃ l1, (sentL l nx pid 9).1 = l1 := ⟨_, rfl⟩
    rw [hq] at hg h1 hpk
    rw [hl1] at hg hr ⊢
    have hqp : q.pid = pid := by rw [← hq, sentP_pid, hpid]
    have hsg : sigL q = 9 := by unfold sigL; rw [hpk]
    have hcan : canL l1 nx pid = true := by
      unfold canL
      rw [hg, hpk]
      simp [h1]
    have hrt : rightL (tookL l1 q 9) nx = true := by rw [tookL_right]; exact hr
    have hg2 : (getL l1 nx pid).2 = true := by rw [hg]
    obtain ⟨a, r, e, ha⟩ := get_split hg2
    rw [hg] at e ha
    have e1 : tookL l1 q 9 = a ++ tookP q 9 :: r := by unfold tookL; rw [e]; exact change_mid rfl ha
    have hg3 : getL (tookL l1 q 9) nx pid = (tookP q 9, true) := by
      have := right_get hrt (p := tookP q 9) (by rw [e1]; simp)
      rwa [show (tookP q 9).pid = pid from hqp] at this
    have hd := fin_dead (st := 1000 + 9) hg3 (by show (q.state != 3) = true; rw [h1]; rfl)
    refine ⟨(finL (tookL l1 q 9) nx pid (1000 + 9)).1, ?_, live_none fun x hx hxp => (hd x hx hxp).1, fun hgl => ?_⟩
    · unfold takeL
      rw [if_pos hcan, hg]
      simp only [hsg, kill_eff, doL_one]
      rw [show (tookP q 9).pid = pid from hqp]
    · obtain ⟨hm, hmp, _⟩ := get_mem hgl
      exact (hd _ hm hmp).2
end Go.Proofs.Yteljobleojhgmaa
namespace Go.Proofs.Yteljobleojhgmaa
theorem sentL_mask {l : List Pr} {nx k sig : Int} (h : ∀ p ∈ l, Sig.U64 p.mask) : ∀ p ∈ (sentL l nx k sig).1, Sig.U64 p.mask := by
  intro q hq
  unfold sentL at hq
  split at hq
  · split at hq
    · split at hq
      · rename_i hl
        obtain ⟨_, p, hgp, hpl, _⟩ := askL_live (live_ask hl)
        rw [hgp] at hq
        rcases change_in hq with h1 | ⟨_, _, rfl⟩
        · exact h q h1
        · rw [sentP_mask]; exact h p hpl
      · exact h q hq
    · exact h q hq
  · exact h q hq
end Go.Proofs.Yteljobleojhgmaa
