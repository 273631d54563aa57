/- A measure that each take lowers. Condition: pending signals have 64 bits. -/
import Derived.Test.YteljobleojhgmaaGreatAA21
namespace Go.Proofs.YteljobleojhgmaaGreat
open Go.RowKit Go.Kb Go.Kb.Bits

namespace Sig
theorem hasL_add {s : Int} (h : U64 s) (x y : Int) : hasL (addL s x) y = (hasL s y || (isL x && decide (y = x))) := by
  unfold addL hasL
  cases hx : isL x
  · simp
  · simp only [if_pos, Bool.true_and]
    cases hy : isL y
    · simp
      rintro rfl
      rw [hx] at hy; cases hy
    · rw [onL_fset true h (sig_bd hx) (sig_bd hy)]
      by_cases h1 : y = x
      · simp [h1]
      · simp [h1]
theorem hasL_del {s : Int} (h : U64 s) (x y : Int) : hasL (delL s x) y = (hasL s y && !(isL x && decide (y = x))) := by
  unfold delL hasL
  cases hx : isL x
  · simp
  · simp only [if_pos, Bool.true_and]
    cases hy : isL y
    · simp
    · rw [onL_fset false h (sig_bd hx) (sig_bd hy)]
      by_cases h1 : y = x
      · simp [h1]
      · simp [h1]
theorem hasL_mem {s x : Int} (h : hasL s x = true) : x ∈ sigs29 := by
  have hb : 1 ≤ x ∧ x ≤ 28 := isL_bd (by unfold hasL at h; revert h; cases isL x <;> simp)
  unfold sigs29
  exact List.mem_map.2 ⟨x.toNat, List.mem_range.2 (by omega), by omega⟩
theorem hasL_is {s x : Int} (h : hasL s x = true) : isL x = true := by unfold hasL at h; revert h; cases isL x <;> simp
end Sig
/-- how many signals are pending -/
def pendN (p : Pr) : Nat := (Sig.sigs29.filter (Sig.hasL p.pending)).length
theorem pendN_le (p : Pr) : pendN p ≤ 29 := by
  have := List.length_filter_le (Sig.hasL p.pending) Sig.sigs29
  unfold pendN
  have h2 : Sig.sigs29.length = 29 := rfl
  omega
theorem filter_lt {f g : Int → Bool} {x : Int} : ∀ {l : List Int}, (∀ y, g y = true → f y = true) → x ∈ l → f x = true → g x = false → (l.filter g).length < (l.filter f).length
  | y :: l, h, hx, h1, h2 => by
    have hle : ∀ l : List Int, (l.filter g).length ≤ (l.filter f).length := fun l => by
      induction l with
      | nil => simp
      | cons z l ih =>
        cases hz : g z
        · rw [List.filter_cons_of_neg (by simp [hz])]
          cases hf : f z
          · rw [List.filter_cons_of_neg (by simp [hf])]; exact ih
          · rw [List.filter_cons_of_pos hf]; simp only [List.length_cons]; omega
        · rw [List.filter_cons_of_pos hz, List.filter_cons_of_pos (h z hz)]; simp only [List.length_cons]; omega
    rcases List.mem_cons.1 hx with rfl | hx
    · rw [List.filter_cons_of_neg (by simp [h2]), List.filter_cons_of_pos h1]
      have := hle l
      simp only [List.length_cons]; omega
    · have ih := filter_lt h hx h1 h2
      cases hz : g y
      · rw [List.filter_cons_of_neg (by simp [hz])]
        cases hf : f y
        · rw [List.filter_cons_of_neg (by simp [hf])]; exact ih
        · rw [List.filter_cons_of_pos hf]; simp only [List.length_cons]; omega
      · rw [List.filter_cons_of_pos hz, List.filter_cons_of_pos (h y hz)]; simp only [List.length_cons]; omega
theorem pendN_took {p : Pr} (hb : Sig.U64 p.pending) (hpk : (Sig.pickL p.pending p.mask).2 = true) : pendN (tookP p (sigL p)) < pendN p := by
  have h1 := pick_has hpk
  rw [Sig.hasL_open hb] at h1
  simp only [Bool.and_eq_true] at h1
  have h2 : Sig.hasL p.pending (sigL p) = true := h1.1
  unfold pendN
  refine filter_lt (x := sigL p) (fun y hy => ?_) (Sig.hasL_mem h2) h2 ?_
  · have : Sig.hasL (Sig.delL p.pending (sigL p)) y = true := hy
    rw [Sig.hasL_del hb] at this
    simp only [Bool.and_eq_true] at this
    exact this.1
  · show Sig.hasL (Sig.delL p.pending (sigL p)) (sigL p) = false
    rw [Sig.hasL_del hb, Sig.hasL_is h2]
    simp
def lives (l : List Pr) : Nat := l.countP liveP
def runsP (p : Pr) : Bool := p.state == 1
def runs (l : List Pr) : Nat := l.countP runsP
def pends (l : List Pr) : Nat := (l.map pendN).sum
def muL (l : List Pr) : Nat := lives l * 100000 + runs l * 1000 + pends l
theorem pends_le : ∀ (l : List Pr), pends l ≤ 29 * l.length
  | [] => Nat.le_refl 0
  | p :: l => by
    have h1 := pendN_le p
    have h2 := pends_le l
    unfold pends at *
    simp only [List.map_cons, List.sum_cons, List.length_cons]
    omega
theorem runs_le (l : List Pr) : runs l ≤ l.length := List.countP_le_length
/-- a list about the first process of a number -/
theorem get_split {l : List Pr} {nx pid : Int} (h : (getL l nx pid).2 = true) : ∃ a r, l = a ++ (getL l nx pid).1 :: r ∧ (∀ x ∈ a, x.pid ≠ (getL l nx pid).1.pid) := by
  obtain ⟨_, hpid, hr⟩ := get_mem h
  rw [hpid]
  unfold getL at h ⊢
  rw [if_pos hr] at h ⊢
  cases hf : l.find? (fun p => p.pid == pid) with
  | none => rw [hf] at h; cases h
  | some p =>
    obtain ⟨_, xs, bs, rfl, h2⟩ := List.find?_eq_some_iff_append.1 hf
    exact ⟨xs, bs, rfl, fun x hx => by simpa using h2 x hx⟩
theorem change_mid {g : Pr → Pr} {k : Int} {q : Pr} {r : List Pr} (hq : q.pid = k) : ∀ {a : List Pr}, (∀ x ∈ a, x.pid ≠ k) → changeL g k (a ++ q :: r) = a ++ g q :: r
  | [], _ => by rw [List.nil_append, changeL_cons, if_pos hq]; rfl
  | x :: a, h => by
    rw [List.cons_append, changeL_cons, if_neg (h x (by simp)), change_mid hq (fun y hy => h y (by simp [hy]))]
    rfl
theorem count_mid {f : Pr → Bool} {a r : List Pr} {p q : Pr} (h : f q = f p) : (a ++ q :: r).countP f = (a ++ p :: r).countP f := by
  simp only [List.countP_append, List.countP_cons, h]
/-- a change at a process that a test doesn't feel -/
theorem count_change {f : Pr → Bool} {g : Pr → Pr} {k : Int} : ∀ {l : List Pr}, (∀ p ∈ l, p.pid = k → f (g p) = f p) → (changeL g k l).countP f = l.countP f
  | [], _ => rfl
  | x :: l, h => by
    rw [changeL_cons]
    split
    · rename_i hx
      simp only [List.countP_cons, h x (by simp) hx]
    · simp only [List.countP_cons]
      rw [count_change (l := l) fun p hp => h p (List.mem_cons_of_mem _ hp)]
theorem count_put {f : Pr → Bool} {l : List Pr} {nx pid : Int} {q : Pr} (h : (getL l nx pid).2 = true) (hf : f q = f (getL l nx pid).1) : (changeL (fun _ => q) (getL l nx pid).1.pid l).countP f = l.countP f := by
  obtain ⟨a, r, e, ha⟩ := get_split h
  generalize (getL l nx pid).1 = p at *
  rw [e, change_mid rfl ha]
  exact count_mid hf
theorem sent_live {s : Int} {p : Pr} : liveP (sentP s p) = liveP p := by
  unfold liveP sentP preP contP fallP wakeP
  repeat' split
  all_goals simp_all
theorem sent17 {p : Pr} : (sentP 17 p).state = p.state := rfl
theorem sentL_count {f : Pr → Bool} {l : List Pr} {nx k s : Int} (hf : ∀ p, f (sentP s p) = f p) : (sentL l nx k s).1.countP f = l.countP f := by
  unfold sentL
  split
  · split
    · split
      · rename_i hl
        obtain ⟨_, p, hgp, hpl, _⟩ := askL_live (live_ask hl)
        have hg : (getL l nx k).2 = true := by rw [hgp]
        exact count_put hg (hf _)
      · rfl
    · rfl
  · rfl
theorem sentsL_count {f : Pr → Bool} {nx s : Int} (hf : ∀ p, f (sentP s p) = f p) : ∀ {ks : List Int} {l : List Pr}, (sentsL l nx s ks).countP f = l.countP f
  | [], _ => rfl
  | k :: ks, l => by
    show (sentsL (sentL l nx k s).1 nx s ks).countP f = _
    rw [sentsL_count hf, sentL_count hf]
theorem grpsL_live {nx g : Int} : ∀ {ss : List Int} {l : List Pr}, lives (grpsL l nx g ss) = lives l
  | [], _ => rfl
  | s :: ss, l => by
    show lives (grpsL (sgrpL l nx g s) nx g ss) = _
    rw [grpsL_live]
    exact sentsL_count fun _ => sent_live
theorem tellL_live {l0 u : List Pr} {nx : Int} : ∀ {gs : List Int} {l : List Pr}, lives (tellL l0 u nx l gs) = lives l
  | [], _ => rfl
  | g :: gs, l => by
    show lives (tellL l0 u nx (if newP l0 u nx g = true then grpsL l nx g hupS else l) gs) = _
    rw [tellL_live]
    split
    · exact grpsL_live
    · rfl
theorem erase_live : ∀ {l : List Pr} {i : Nat}, (∀ p, l[i]? = some p → liveP p = false) → lives (l.eraseIdx i) = lives l
  | [], _, _ => rfl
  | x :: l, 0, h => by
    have := h x rfl
    unfold lives
    simp [this]
  | x :: l, i + 1, h => by
    have ih := erase_live (l := l) (i := i) (fun p hp => h p hp)
    unfold lives at *
    simp only [List.eraseIdx_cons_succ, List.countP_cons, ih]
theorem freeN_live : ∀ (n : Nat) {l : List Pr}, lives (freeN n l) = lives l
  | 0, _ => rfl
  | n + 1, l => by
    unfold freeN
    split
    · rfl
    · rename_i i hi
      rw [freeN_live n]
      refine erase_live fun p hp => ?_
      obtain ⟨hlt, h2, _⟩ := List.findIdx?_eq_some_iff_getElem.1 hi
      rw [List.getElem?_eq_getElem hlt] at hp
      cases hp
      unfold idleL at h2
      simp only [Bool.and_eq_true] at h2
      simpa using h2.1
theorem freeN_len : ∀ (n : Nat) {l : List Pr}, (freeN n l).length ≤ l.length
  | 0, _ => Nat.le_refl _
  | n + 1, l => by
    unfold freeN
    split
    · exact Nat.le_refl _
    · refine Nat.le_trans (freeN_len n) ?_
      rw [List.length_eraseIdx]
      split <;> omega
theorem tellUp_live {gp : Int} {l : List Pr} : lives (tellUp gp l) = lives l ∧ (tellUp gp l).length = l.length := by
  unfold tellUp
  split
  · exact ⟨rfl, rfl⟩
  · split
    · exact ⟨rfl, rfl⟩
    · rename_i k _ up hup
      refine ⟨?_, by simp⟩
      have key : ∀ {l : List Pr} {k : Nat} {up q : Pr}, l[k]? = some up → liveP q = liveP up → lives (l.set k q) = lives l := by
        intro l
        induction l with
        | nil => intro k up q h _; simp at h
        | cons x l ih =>
          intro k up q h hq
          cases k with
          | zero =>
            simp at h
            subst h
            unfold lives
            simp only [List.set_cons_zero, List.countP_cons, hq]
          | succ k =>
            have := ih (k := k) (up := up) (q := q) (by simpa using h) hq
            unfold lives at *
            simp only [List.set_cons_succ, List.countP_cons, this]
      exact key hup rfl
theorem endL_less {l : List Pr} {nx pid st : Int} (h : (getL l nx pid).2 = true) (hl : liveP (getL l nx pid).1 = true) : lives (endL l pid st) < lives l ∧ (endL l pid st).length ≤ l.length := by
  obtain ⟨_, hpid, _⟩ := get_mem h
  obtain ⟨a, r, e, ha⟩ := get_split h
  generalize (getL l nx pid).1 = p at *
  rw [hpid] at ha
  have e1 : changeL (endP st) pid l = a ++ endP st p :: r := by rw [e]; exact change_mid hpid ha
  have ho : ∀ (l : List Pr), lives (l.map (orphan pid)) = lives l := fun l => by
    unfold lives
    rw [List.countP_map]
    congr 1
    funext x
    show liveP (orphan pid x) = liveP x
    unfold orphan; split <;> rfl
  unfold endL
  simp only
  constructor
  · show lives (freeN _ _) < _
    rw [freeN_live, tellUp_live.1, ho, e1, e]
    unfold lives
    simp only [List.countP_append, List.countP_cons, hl]
    have : liveP (endP st p) = false := rfl
    rw [this]
    simp
  · refine Nat.le_trans (freeN_len _) ?_
    rw [tellUp_live.2, List.length_map, changeL_len]
    exact Nat.le_refl _
theorem finL_less {l : List Pr} {nx pid st : Int} (h : (getL l nx pid).2 = true) (hl : liveP (getL l nx pid).1 = true) (h32 : l.length ≤ 32) : muL (finL l nx pid st).1 + 60000 ≤ muL l := by
  obtain ⟨hm, hpid, hr⟩ := get_mem h
  have hask : askL l nx [pid] = 0 := live_ask (by rw [live_get, h, hl]; rfl)
  obtain ⟨h1, h2⟩ := endL_less (st := st) h hl
  unfold finL
  rw [if_pos hask]
  have h3 := tellL_live (l0 := l) (u := endL l pid st) (nx := nx) (gs := groupsL l) (l := endL l pid st)
  have h4 := tellL_len (l := l) (u := endL l pid st) (nx := nx) (gs := groupsL l) (out := endL l pid st)
  have h5 := runs_le (tellL l (endL l pid st) nx (endL l pid st) (groupsL l))
  have h6 := pends_le (tellL l (endL l pid st) nx (endL l pid st) (groupsL l))
  show muL (tellL l (endL l pid st) nx (endL l pid st) (groupsL l)) + 60000 ≤ muL l
  unfold muL
  rw [h3]
  omega
/-- each take lowers the measure -/
theorem takeL_less {l : List Pr} {nx pid : Int} (hb : ∀ p ∈ l, Sig.U64 p.pending) (h : (takeL l nx pid).2.1 ≠ 0) : muL (takeL l nx pid).1 < muL l := by
  have hc : canL l nx pid = true := by
    cases hc : canL l nx pid
    · unfold takeL at h
      rw [if_neg (by rw [hc]; simp)] at h
      exact absurd rfl h
    · rfl
  unfold takeL
  rw [if_pos hc]
  unfold canL at hc
  simp only [Bool.and_eq_true] at hc
  obtain ⟨hg, hst, hpk⟩ := hc
  obtain ⟨hm, hpid, hr⟩ := get_mem hg
  obtain ⟨a, r, e, ha⟩ := get_split hg
  have hl32 := (right_len hr).1
  obtain ⟨p, hp⟩ : ∃ p, (getL l nx pid).1 = p := ⟨_, rfl⟩
  rw [hp] at hm hpid hpk hst e ha ⊢
  have hst : p.state = 1 := by simpa using hst
  have hpd := pendN_took (hb p hm) hpk
  obtain ⟨q, hq⟩ : ∃ q, tookP p (sigL p) = q := ⟨_, rfl⟩
  have hqs : q.state = 1 := by rw [← hq]; exact hst
  have hqp : q.pid = p.pid := by rw [← hq]; rfl
  have e1 : tookL l p (sigL p) = a ++ q :: r := by unfold tookL; rw [hq, e]; exact change_mid rfl ha
  have hlen : (tookL l p (sigL p)).length = l.length := tookL_len
  have hrt : rightL (tookL l p (sigL p)) nx = true := by rw [tookL_right]; exact hr
  rw [hq] at hpd ⊢
  obtain ⟨L1, hL1⟩ : ∃ L1, tookL l p (sigL p) = L1 := ⟨_, rfl⟩
  rw [hL1] at e1 hlen hrt ⊢
  have hlv : lives L1 = lives l := by
    rw [e1, e]; exact count_mid (by unfold liveP; rw [hqs, hst])
  have hrn : runs L1 = runs l := by
    rw [e1, e]; exact count_mid (by unfold runsP; rw [hqs, hst])
  have hpn : pends L1 + pendN p = pends l + pendN q := by
    rw [e1, e]
    unfold pends
    simp only [List.map_append, List.map_cons, List.sum_append, List.sum_cons]
    omega
  have hmu : muL L1 < muL l := by unfold muL; omega
  have hg1 : getL L1 nx q.pid = (q, true) := right_get hrt (by rw [e1]; simp)
  show muL (doL _ _ _ _ _).1 < _
  unfold doL
  have hq1 : (getL L1 nx q.pid).2 = true := by rw [hg1]
  have hq2 : liveP (getL L1 nx q.pid).1 = true := by rw [hg1]; unfold liveP; rw [hqs]; rfl
  split
  · have := finL_less (st := 1000 + sigL p) hq1 hq2 (by omega)
    show muL (finL _ _ _ _).1 < _
    omega
  · split
    · have := finL_less (st := 2000 + sigL p) hq1 hq2 (by omega)
      show muL (finL _ _ _ _).1 < _
      omega
    · split
      · split
        · exact hmu
        · show muL (stopL _ _ _ _) < _
          have e2 : changeL (fun _ => stopP (sigL p) q) q.pid L1 = a ++ stopP (sigL p) q :: r := by
            rw [e1]; exact change_mid rfl (by rw [hqp]; exact ha)
          have h1 : lives (stopL L1 nx q (sigL p)) = lives L1 := by
            unfold stopL lives
            rw [sentL_count (fun _ => sent_live), e2, e1]
            exact count_mid (by unfold liveP stopP; rw [hqs]; rfl)
          have h2 : runs (stopL L1 nx q (sigL p)) + 1 = runs L1 := by
            unfold stopL runs
            rw [sentL_count (f := runsP) (fun _ => rfl), e2, e1]
            simp only [List.countP_append, List.countP_cons]
            have x1 : runsP (stopP (sigL p) q) = false := rfl
            have x2 : runsP q = true := by unfold runsP; rw [hqs]; rfl
            rw [x1, x2]
            simp
            omega
          have h3 := pends_le (stopL L1 nx q (sigL p))
          rw [stopL_len] at h3
          unfold muL
          omega
      · exact hmu
end Go.Proofs.YteljobleojhgmaaGreat
