/- What a process that takes a signal comes to: the plain answer, and the taker put together. No condition. -/
import Derived.Test.YteljobleojhgmaaGreatX21
namespace Go.Proofs.YteljobleojhgmaaGreat
open Go.RowKit Go.Kb

def tookP (p : Pr) (sig : Int) : Pr := { p with pending := Sig.delL p.pending sig }
def tookL (l : List Pr) (p : Pr) (sig : Int) : List Pr := changeL (fun _ => tookP p sig) p.pid l
/-- what an effect does to a table, and the effect in the end -/
def doL (l : List Pr) (nx : Int) (p : Pr) (sig eff : Int) : List Pr × Int :=
  if eff = 1 then ((finL l nx p.pid (1000 + sig)).1, 1) else if eff = 2 then ((finL l nx p.pid (2000 + sig)).1, 2) else
    if eff = 4 then (if sig ≠ 19 ∧ orphL l nx p.group = true then (l, 3) else (stopL l nx p sig, 4)) else (l, eff)
def canL (l : List Pr) (nx pid : Int) : Bool := (getL l nx pid).2 && ((getL l nx pid).1.state == 1 && (Sig.pickL (getL l nx pid).1.pending (getL l nx pid).1.mask).2)
def sigL (p : Pr) : Int := (Sig.pickL p.pending p.mask).1
/-- a table whose process has taken a signal: which one, and what came of it -/
def takeL (l : List Pr) (nx pid : Int) : List Pr × Int × Int :=
  if canL l nx pid = true then
    ((doL (tookL l (getL l nx pid).1 (sigL (getL l nx pid).1)) nx (tookP (getL l nx pid).1 (sigL (getL l nx pid).1)) (sigL (getL l nx pid).1) (Sig.effL (getL l nx pid).1.acts (sigL (getL l nx pid).1))).1,
      sigL (getL l nx pid).1,
      (doL (tookL l (getL l nx pid).1 (sigL (getL l nx pid).1)) nx (tookP (getL l nx pid).1 (sigL (getL l nx pid).1)) (sigL (getL l nx pid).1) (Sig.effL (getL l nx pid).1.acts (sigL (getL l nx pid).1))).2)
  else (l, 0, 0)
theorem tk_built {p : Pr} (A : Option Addr) (n c : Nat) (nx sig eff : Int) (h : p.ok) : Tryz.prog.built 97 [(0, .agg #[.slice A n c, .int .i64 nx]), (1, .agg p.cells.toArray), (2, .int .i64 sig), (3, .int .i64 eff)] = some (tkL A n c nx p sig eff).toArray := by
  unfold Pr.ok at h
  obtain ⟨pid0, parent, group, session, state, prog0, pc, pending, mask, acts, status, told⟩ := p
  simp only at h
  match acts, h with
  | [x0, x1, x2, x3, x4, x5, x6, x7, x8, x9, x10, x11, x12, x13, x14, x15, x16, x17, x18, x19, x20, x21, x22, x23, x24, x25, x26, x27, x28, x29, x30, x31], _ => (show Tryz.prog.built _ _ = some _; kernel_rfl)
theorem pick_has {p m : Int} (h : (Sig.pickL p m).2 = true) : Sig.hasL (Sig.openL p m) (Sig.pickL p m).1 = true := by
  unfold Sig.pickL at h ⊢
  split
  · assumption
  · rw [if_neg (by assumption)] at h
    split
    · assumption
    · rw [if_neg (by assumption)] at h
      split
      · assumption
      · rw [if_neg (by assumption)] at h
        split
        · rename_i x r hl
          have : x ∈ Sig.listL (Sig.openL p m) := by rw [hl]; simp
          exact (List.mem_filter.1 this).2
        · rename_i hl
          rw [hl] at h; cases h
theorem pick_bd {p m : Int} (h : (Sig.pickL p m).2 = true) : 1 ≤ (Sig.pickL p m).1 ∧ (Sig.pickL p m).1 ≤ 28 := by
  have h1 := pick_has h
  unfold Sig.hasL at h1
  exact Sig.isL_bd (by revert h1; cases Sig.isL (Sig.pickL p m).1 <;> simp)
theorem eff_cases (a : List Int) (sig : Int) : Sig.effL a sig = 0 ∨ Sig.effL a sig = 1 ∨ Sig.effL a sig = 2 ∨ Sig.effL a sig = 3 ∨ Sig.effL a sig = 4 ∨ Sig.effL a sig = 5 ∨ Sig.effL a sig = 6 := by
  have hd : Sig.doesL sig = 0 ∨ Sig.doesL sig = 1 ∨ Sig.doesL sig = 2 ∨ Sig.doesL sig = 3 ∨ Sig.doesL sig = 4 ∨ Sig.doesL sig = 5 ∨ Sig.doesL sig = 6 := by
    unfold Sig.doesL Sig.rowL
    cases hf : Sig.rowsT.find? fun r => r.1 == sig with
    | none => exact .inl rfl
    | some r =>
      have hr := List.mem_of_find?_eq_some hf
      have key : ∀ r ∈ Sig.rowsT, r.2.2.1 = 0 ∨ r.2.2.1 = 1 ∨ r.2.2.1 = 2 ∨ r.2.2.1 = 3 ∨ r.2.2.1 = 4 ∨ r.2.2.1 = 5 ∨ r.2.2.1 = 6 := by decide +kernel
      exact key r hr
  unfold Sig.effL
  repeat' split
  all_goals first | exact hd | omega
theorem tookL_len {l : List Pr} {p : Pr} {sig : Int} : (tookL l p sig).length = l.length := changeL_len
theorem tookP_ok {p : Pr} {sig : Int} (h : p.ok) : (tookP p sig).ok := h
theorem tookL_bd {l : List Pr} {p : Pr} {sig : Int} (h : ∀ q ∈ l, Sig.U64 q.pending) (hp : Sig.U64 p.pending) : ∀ q ∈ tookL l p sig, Sig.U64 q.pending := by
  intro q hq
  rcases change_in hq with h1 | ⟨_, _, rfl⟩
  · exact h q h1
  · exact Sig.delL_bd hp sig
theorem get_mem {l : List Pr} {nx pid : Int} (h : (getL l nx pid).2 = true) : (getL l nx pid).1 ∈ l ∧ (getL l nx pid).1.pid = pid ∧ rightL l nx = true := by
  unfold getL at h ⊢
  split
  · rename_i hr
    rw [if_pos hr] at h
    cases hf : l.find? (fun p => p.pid == pid) with
    | none => rw [hf] at h; cases h
    | some p => exact ⟨List.mem_of_find?_eq_some hf, by simpa using List.find?_some hf, hr⟩
  · rename_i hr
    rw [if_neg hr] at h; cases h
theorem rise_put {nx k : Int} {q : Pr} (hq : q.pid = k) : ∀ {l : List Pr} {last : Int}, rise nx last (changeL (fun _ => q) k l) = rise nx last l
  | [], _ => rfl
  | p :: r, last => by
    rw [changeL_cons]
    split
    · rename_i h
      simp only [rise, hq, h]
    · simp only [rise, rise_put hq]
theorem right_put {nx k : Int} {q : Pr} (hq : q.pid = k) {l : List Pr} : rightL (changeL (fun _ => q) k l) nx = rightL l nx := by
  unfold rightL
  rw [rise_put hq, changeL_len]
theorem tookL_right {l : List Pr} {nx sig : Int} {p : Pr} : rightL (tookL l p sig) nx = rightL l nx := right_put (q := tookP p sig) rfl
/-- what is done, case by case -/
theorem doL_one {l : List Pr} {nx sig : Int} {p : Pr} : doL l nx p sig 1 = ((finL l nx p.pid (1000 + sig)).1, 1) := rfl
theorem doL_two {l : List Pr} {nx sig : Int} {p : Pr} : doL l nx p sig 2 = ((finL l nx p.pid (2000 + sig)).1, 2) := rfl
theorem doL_none {l : List Pr} {nx sig eff : Int} {p : Pr} (h1 : eff ≠ 1) (h2 : eff ≠ 2) (h4 : eff ≠ 4) : doL l nx p sig eff = (l, eff) := by
  unfold doL
  rw [if_neg h1, if_neg h2, if_neg h4]
theorem doL_orph {l : List Pr} {nx sig : Int} {p : Pr} (h : sig ≠ 19 ∧ orphL l nx p.group = true) : doL l nx p sig 4 = (l, 3) := by
  unfold doL
  rw [if_neg (by decide), if_neg (by decide), if_pos rfl, if_pos h]
theorem doL_stop {l : List Pr} {nx sig : Int} {p : Pr} (h : sig = 19 ∨ orphL l nx p.group = false) : doL l nx p sig 4 = (stopL l nx p sig, 4) := by
  unfold doL
  rw [if_neg (by decide), if_neg (by decide), if_pos rfl, if_neg]
  rintro ⟨h1, h2⟩
  rcases h with h | h
  · exact h1 h
  · rw [h] at h2; cases h2
end Go.Proofs.YteljobleojhgmaaGreat
