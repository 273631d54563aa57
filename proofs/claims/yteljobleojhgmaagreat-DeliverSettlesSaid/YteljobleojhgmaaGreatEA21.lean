/- The document's examples of delivery, plainly. No condition. -/
import Derived.Test.YteljobleojhgmaaGreatDA21
namespace Go.Proofs.YteljobleojhgmaaGreat
open Go.RowKit Go.Kb

/-- what is taken, with so many takes at most -/
def drainF (nx pid : Int) : Nat → List Pr → Option (List Pr × Bool)
  | 0, _ => none
  | n + 1, l => if (takeL l nx pid).2.1 = 0 then some (l, false) else match drainF nx pid n (takeL l nx pid).1 with
    | some (l', _) => some (l', true)
    | none => none
theorem drainF_ok {nx pid : Int} : ∀ {n : Nat} {l l' : List Pr} {b : Bool}, drainF nx pid n l = some (l', b) → Drain nx pid l l' b
  | 0, _, _, _, h => by cases h
  | n + 1, l, l', b, h => by
    unfold drainF at h
    split at h
    · rename_i h0
      cases h
      exact Drain.stop h0
    · rename_i h0
      cases hd : drainF nx pid n (takeL l nx pid).1 with
      | none => rw [hd] at h; cases h
      | some x =>
        obtain ⟨l2, b2⟩ := x
        rw [hd] at h
        cases h
        exact Drain.go h0 (drainF_ok hd)
def passF (nx : Int) (n : Nat) : List Int → List Pr → Option (List Pr × Bool)
  | [], l => some (l, false)
  | k :: ks, l => match drainF nx k n l with
    | none => none
    | some (l1, b1) => match passF nx n ks l1 with
      | none => none
      | some (l2, b2) => some (l2, b1 || b2)
theorem passF_ok {nx : Int} {n : Nat} : ∀ {ks : List Int} {l l' : List Pr} {b : Bool}, passF nx n ks l = some (l', b) → Pass nx ks l l' b
  | [], _, _, _, h => by cases h; exact Pass.nil
  | k :: ks, l, l', b, h => by
    unfold passF at h
    cases hd : drainF nx k n l with
    | none => rw [hd] at h; cases h
    | some x =>
      obtain ⟨l1, b1⟩ := x
      rw [hd] at h
      cases hp : passF nx n ks l1 with
      | none => simp only [hp] at h; cases h
      | some y =>
        obtain ⟨l2, b2⟩ := y
        simp only [hp] at h
        cases h
        exact Pass.cons (drainF_ok hd) (passF_ok hp)
def settF (nx : Int) (n : Nat) : Nat → List Pr → Option (List Pr)
  | 0, _ => none
  | k + 1, l => match passF nx n (l.map (·.pid)) l with
    | none => none
    | some (l1, b) => if b = true then settF nx n k l1 else some l1
theorem settF_ok {nx : Int} {n : Nat} : ∀ {k : Nat} {l l' : List Pr}, settF nx n k l = some l' → Sett nx l l'
  | 0, _, _, h => by cases h
  | k + 1, l, l', h => by
    unfold settF at h
    cases hp : passF nx n (l.map (·.pid)) l with
    | none => rw [hp] at h; cases h
    | some y =>
      obtain ⟨l1, b⟩ := y
      rw [hp] at h
      cases b
      · simp only [Bool.false_eq_true, if_false] at h
        cases h
        exact Sett.done (passF_ok hp)
      · simp only [if_true] at h
        exact Sett.again (passF_ok hp) (settF_ok h)
def aP1 : Pr := (spawnP 1 0).newAs 1
def aP2 : Pr := (forkP aP1 1 0).newAs 2
def aP3 : Pr := { aP2 with group := 2 }
def aP4 : Pr := sentP 20 aP3
def aP5 : Pr := sentP 18 aP4
def aP6 : Pr := stopP 20 (tookP aP4 20)
def aP7 : Pr := (sgrpL (sgrpL [{ aP6 with parent := 0 }] 3 2 1) 3 2 18).headD zeroP
theorem two_rise (p q : Pr) (hp : p.group = 1) (hq : q.group = 2) : groupsL [p, q] = [1, 2] := by
  unfold groupsL
  rw [show [p, q].map (·.group) = [1, 2] by simp [hp, hq], show sortL [1, 2] = [1, 2] from List.mergeSort_of_pairwise (by decide)]
  kernel_rfl
theorem al1 : rightL [] 1 = true := by kernel_rfl
theorem al2 : askL [aP1] 2 [1] = 0 := by kernel_rfl
theorem al3 : (getL [aP1] 2 1).1 = aP1 := by kernel_rfl
theorem al4 : changeL (groupP 2) 2 [aP1, aP2] = [aP1, aP3] := by kernel_rfl
theorem al6 : sentL [aP1, aP3] 3 2 20 = ([aP1, aP4], 0) := by kernel_rfl
theorem al7 : sentL [aP1, aP4] 3 2 18 = ([aP1, aP5], 0) := by kernel_rfl
theorem al8 : getL [aP1, aP5] 3 2 = (aP5, true) := by kernel_rfl
theorem al9 : settF 3 10 10 [aP1, aP4] = some [aP1, aP6] := by kernel_rfl
theorem al10 : getL [aP1, aP6] 3 2 = (aP6, true) := by kernel_rfl
theorem al11 : finL [aP1, aP6] 3 1 0 = ([aP7], 0) := by
  have h : finL [aP1, aP6] 3 1 0 = (tellL [aP1, aP6] (endL [aP1, aP6] 1 0) 3 (endL [aP1, aP6] 1 0) (groupsL [aP1, aP6]), 0) := by
    unfold finL
    rw [if_pos (show askL [aP1, aP6] 3 [1] = 0 by kernel_rfl)]
  rw [h, two_rise aP1 aP6 (show aP1.group = 1 by kernel_rfl) (show aP6.group = 2 by kernel_rfl)]
  show (tellL [aP1, aP6] (endL [aP1, aP6] 1 0) 3 (endL [aP1, aP6] 1 0) [1, 2], (0 : Int)) = ([aP7], 0)
  kernel_rfl
theorem al12 : getL [aP7] 3 2 = (aP7, true) := by kernel_rfl
theorem al13 : settF 3 10 10 [aP7] = some [] := by kernel_rfl
theorem al14 : nextNo 1 = 2 := by kernel_rfl
theorem al15 : nextNo 2 = 3 := by kernel_rfl
theorem al16 : aP5.pending = Sig.ofL [18] := by kernel_rfl
theorem al17 : aP6.state = 2 := by kernel_rfl
theorem al18 : aP7.state = 1 := by kernel_rfl
theorem al19 : Sig.hasL aP7.pending 1 = true := by kernel_rfl
theorem al20 : ∀ p ∈ [aP1, aP3], Sig.U64 p.pending := by decide +kernel
theorem al21 : ∀ p ∈ [aP1, aP4], Sig.U64 p.pending := by decide +kernel
theorem al22 : Good [aP1, aP4] := ⟨by decide +kernel, by decide +kernel⟩
theorem al23 : ∀ p ∈ [aP1, aP6], Sig.U64 p.pending := by decide +kernel
theorem al24 : Good [aP7] := ⟨by decide +kernel, by decide +kernel⟩
theorem al25 : aP5.ok ∧ aP6.ok ∧ aP7.ok := ⟨rfl, rfl, by show _ = _; kernel_rfl⟩
theorem alS1 {l : List Pr} (h : Sett 3 [aP1, aP4] l) : l = [aP1, aP6] := h.one (settF_ok al9)
theorem alS2 {l : List Pr} (h : Sett 3 [aP7] l) : l = [] := h.one (settF_ok al13)
end Go.Proofs.YteljobleojhgmaaGreat
