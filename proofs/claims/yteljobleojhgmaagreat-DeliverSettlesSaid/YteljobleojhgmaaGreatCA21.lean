/- All that processes can take is taken: what a pass leaves, and a jump back to a label with a number that falls. No condition. -/
import Derived.Test.YteljobleojhgmaaGreatBA21
import Derived.ScopeJumps
import Derived.Deep.LoopGhost
namespace Go.Proofs.YteljobleojhgmaaGreat
open Go.RowKit Go.Kb

theorem wp_scope_ghost {P : Program} {a : Act} {w : World} {Q : Exit → Act → World → Prop} {c rest : Code} (l : Nat) (J : Nat → Act → World → Prop) (hf : findLabel c l = some rest)
    (first : c.wp P (Exit.jump l (fun a w => ∃ g, J g a w) Q) a w)
    (pass : ∀ g a w, J g a w → rest.wp P (Exit.jump l (fun a' w' => ∃ g', g' < g ∧ J g' a' w') Q) a w) : (Code.scope c).wp P Q a w := by
  refine wp_scope_jumps l (fun a w => ∃ g, J g a w) (fun a w => leastOf (fun g => J g a w)) hf first ?_
  intro a w hJ
  refine wp_mono (pass _ a w (leastOf_spec hJ).1) ?_
  intro e a' w' hq
  cases e with
  | goto l' =>
    obtain ⟨h1, g', hlt, hJ'⟩ := hq
    exact ⟨h1, ⟨g', hJ'⟩, Nat.lt_of_le_of_lt ((leastOf_spec ⟨g', hJ'⟩).2 g' hJ') hlt⟩
  | normal => exact hq
  | exit id => exact hq
  | ret => exact hq
  | panic ch => exact hq
  | outgrown => exact hq
/-- what a process takes, one signal behind the other: the table in the end, and whether there was any -/
inductive Drain (nx pid : Int) : List Pr → List Pr → Bool → Prop
  | stop {l : List Pr} : (takeL l nx pid).2.1 = 0 → Drain nx pid l l false
  | go {l l' : List Pr} {b : Bool} : (takeL l nx pid).2.1 ≠ 0 → Drain nx pid (takeL l nx pid).1 l' b → Drain nx pid l l' true
/-- the same of processes in turn -/
inductive Pass (nx : Int) : List Int → List Pr → List Pr → Bool → Prop
  | nil {l : List Pr} : Pass nx [] l l false
  | cons {k : Int} {ks : List Int} {l l1 l2 : List Pr} {b1 b2 : Bool} : Drain nx k l l1 b1 → Pass nx ks l1 l2 b2 → Pass nx (k :: ks) l l2 (b1 || b2)
/-- until none takes any -/
inductive Sett (nx : Int) : List Pr → List Pr → Prop
  | done {l l' : List Pr} : Pass nx (l.map (·.pid)) l l' false → Sett nx l l'
  | again {l l1 l' : List Pr} : Pass nx (l.map (·.pid)) l l1 true → Sett nx l1 l' → Sett nx l l'
theorem Drain.one {nx pid : Int} {l a b : List Pr} {x y : Bool} (h : Drain nx pid l a x) (g : Drain nx pid l b y) : a = b ∧ x = y := by
  induction h generalizing b y with
  | stop h0 =>
    cases g with
    | stop => exact ⟨rfl, rfl⟩
    | go h1 _ => exact absurd h0 h1
  | go h0 h1 ih =>
    cases g with
    | stop h2 => exact absurd h2 h0
    | go _ g1 => exact ⟨(ih g1).1, rfl⟩
theorem Pass.one {nx : Int} {ks : List Int} {l a b : List Pr} {x y : Bool} (h : Pass nx ks l a x) (g : Pass nx ks l b y) : a = b ∧ x = y := by
  induction h generalizing b y with
  | nil => cases g; exact ⟨rfl, rfl⟩
  | cons h0 _ ih =>
    cases g with
    | cons g0 g1 =>
      obtain ⟨rfl, rfl⟩ := h0.one g0
      obtain ⟨rfl, rfl⟩ := ih g1
      exact ⟨rfl, rfl⟩
theorem Sett.one {nx : Int} {l a b : List Pr} (h : Sett nx l a) (g : Sett nx l b) : a = b := by
  induction h generalizing b with
  | done h0 =>
    cases g with
    | done g0 => exact (h0.one g0).1
    | again g0 _ => exact absurd (h0.one g0).2 (by simp)
  | again h0 _ ih =>
    cases g with
    | done g0 => exact absurd (h0.one g0).2 (by simp)
    | again g0 g1 =>
      obtain ⟨rfl, _⟩ := h0.one g0
      exact ih g1
/-- both sets of signals of each process have 64 bits -/
def Good (l : List Pr) : Prop := (∀ p ∈ l, Sig.U64 p.pending) ∧ (∀ p ∈ l, Sig.U64 p.mask)
theorem sentP_mask {s : Int} {p : Pr} : (sentP s p).mask = p.mask := by
  unfold sentP preP contP fallP wakeP
  repeat' split
  all_goals rfl
theorem orphan_mask {k : Int} {p : Pr} : (orphan k p).mask = p.mask ∧ (orphan k p).pending = p.pending ∧ (orphan k p).state = p.state ∧ (orphan k p).pid = p.pid := by
  unfold orphan
  split <;> exact ⟨rfl, rfl, rfl, rfl⟩
theorem keepsGood : Keeps fun p q => (Sig.U64 p.pending → Sig.U64 q.pending) ∧ q.mask = p.mask where
  refl := fun _ => ⟨fun h => h, rfl⟩
  trans := fun h g => ⟨fun x => g.1 (h.1 x), g.2.trans h.2⟩
  took := fun _ hb _ => ⟨fun _ => Sig.delL_bd hb _, rfl⟩
  stop := fun _ _ _ => ⟨fun h => h, rfl⟩
  sent := fun _ _ _ _ => ⟨fun h => sentP_bd h, sentP_mask⟩
  ended := fun _ _ => ⟨fun _ => ⟨Int.le_refl 0, by show (0 : Int) < _; decide⟩, rfl⟩
  orph := fun _ _ => ⟨fun h => by rw [orphan_mask.2.1]; exact h, orphan_mask.1⟩
  told := fun p hb => ⟨fun _ => by show Sig.U64 (orL p.pending 17); rw [orL_add hb]; exact Sig.addL_bd hb 17, rfl⟩
theorem Good.take {l : List Pr} {nx pid : Int} (h : Good l) : Good (takeL l nx pid).1 := by
  have := AllD.take keepsGood (nx := nx) (pid := pid) h.1
  constructor
  · intro q hq
    obtain ⟨p, hp, h1, _⟩ := this q hq
    exact h1 (h.1 p hp)
  · intro q hq
    obtain ⟨p, hp, _, h2⟩ := this q hq
    rw [h2]; exact h.2 p hp
theorem TabN.mod {T t : TypeId} {Ad A' : Option Addr} {c c' base k : Nat} {l0 l : List Pr} {w w' : World} {cs : Array Value} (h : TabN T Ad c l0 base w A' c' l) (M : Mod (fun j => j = k) w w') (hb : Blk w k t cs) (hne : T ≠ t) : TabN T Ad c l0 base w' A' c' l := by
  rcases h with h | h
  · exact .inl h
  · exact .inr (h.mod M (fun j hj he => own_blk_ne h.choose_spec.1 hb hne (by rw [← he]; exact hj)) (fun k _ hk _ => hk))
theorem TabN.ext {T : TypeId} {Ad A' : Option Addr} {c c' base : Nat} {l0 l : List Pr} {w w' : World} (h : TabN T Ad c l0 base w A' c' l) (E : Ext w w') : TabN T Ad c l0 base w' A' c' l := by
  rcases h with h | h
  · exact .inl h
  · exact .inr (h.ext E)
theorem TabN.trans {T : TypeId} {Ad A' A2 : Option Addr} {c c' c2 base base2 : Nat} {l0 l l2 : List Pr} {w w' : World} (h : TabN T Ad c l0 base w A' c' l) (g : TabN T A' c' l base2 w' A2 c2 l2) (E : Ext w w') (hb : base ≤ base2) : TabN T Ad c l0 base w' A2 c2 l2 := by
  rcases g with ⟨rfl, rfl, rfl⟩ | g
  · exact h.ext E
  · exact .inr (g.lower hb)
end Go.Proofs.YteljobleojhgmaaGreat
