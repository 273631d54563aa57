/- Timers beside other things, and two timers side by side: each call as one step. No condition. -/
import Derived.Test.YtapajcgfdiamdaaL07
namespace Go.Proofs.Ytapajcgfdiamdaa
open Go.RowKit Go.Kb

/-- blocks that are new since W0, and none of X -/
def NX (W0 : World) (X : Nat → Prop) : Nat → Prop := fun k => W0.heap.size ≤ k ∧ ¬ X k
structure One (W0 : World) (T : Nat) (F X : Nat → Prop) (w : World) (L : List (Int × Int)) : Prop where
  tm : TM T F w L
  nw : ∀ k, F k → W0.heap.size ≤ k
  dis : ∀ k, X k → ¬ F k
  xl : ∀ k, X k → k < w.heap.size
  E : Ext W0 w
theorem One.ext {W0 : World} {T : Nat} {F X : Nat → Prop} {w w' : World} {L : List (Int × Int)} (h : One W0 T F X w L) (E : Ext w w') : One W0 T F X w' L :=
  ⟨h.tm.ext E, h.nw, h.dis, fun k hk => Nat.lt_of_lt_of_le (h.xl k hk) E.size, h.E.trans E⟩
/-- another thing turned, which is none of the timers' -/
theorem One.other {W0 : World} {T : Nat} {F X S : Nat → Prop} {w w' : World} {L : List (Int × Int)} (h : One W0 T F X w L) (M : Mod S w w') (hS : ∀ k, S k → W0.heap.size ≤ k ∧ ¬ F k) : One W0 T F X w' L :=
  ⟨h.tm.mod M fun k hk => (hS k hk).2, h.nw, h.dis, fun k hk => Nat.lt_of_lt_of_le (h.xl k hk) M.size, Mod.toExt h.E M fun k hk hs => by have := (hS k hs).1; omega⟩
theorem One.sub {W0 : World} {T : Nat} {F X Y : Nat → Prop} {w : World} {L : List (Int × Int)} (h : One W0 T F X w L) (hY : ∀ k, Y k → ¬ F k ∧ k < w.heap.size) : One W0 T F Y w L :=
  ⟨h.tm, h.nw, fun k hk => (hY k hk).1, fun k hk => (hY k hk).2, h.E⟩
/-- what a step leaves -/
def StepPost (W0 : World) (T : Nat) (F X : Nat → Prop) (w w' : World) (L : List (Int × Int)) : Prop :=
  ∃ F', One W0 T F' X w' L ∧ (∀ k, F' k → F k ∨ w.heap.size ≤ k) ∧ Mod F w w'
theorem One.new {W0 : World} {X : Nat → Prop} (w : World) (E : Ext W0 w) (hX : ∀ k, X k → k < w.heap.size) : Calls Try.prog 8 #[] w fun e w' => ∃ T F, e = .returned (.pointer (some ⟨T, 0, none⟩)) ∧ One W0 T F X w' [] ∧ (∀ k, F k → w.heap.size ≤ k) ∧ Ext w w' := by
  refine (new_any w).mono ?_
  rintro e w' ⟨T, F, rfl, h, hF, E2⟩
  exact ⟨T, F, rfl, ⟨h, fun k hk => Nat.le_trans E.size (hF k hk), fun k hx hf => by have := hX k hx; have := hF k hf; omega, fun k hk => Nat.lt_of_lt_of_le (hX k hk) E2.size, E.trans E2⟩, hF, E2⟩
theorem One.set {W0 : World} {T : Nat} {F X : Nat → Prop} {w : World} {L : List (Int × Int)} (h : One W0 T F X w L) (id due : Int) (hw : (Lit.int .i64 id).wf = true) :
    Calls Try.prog 9 #[.pointer (some ⟨T, 0, none⟩), .int .i64 id, .int .i64 due] w fun e w' => e = .returned (.int .i64 (setE L id)) ∧ StepPost W0 T F X w w' (setT L id due) := by
  refine (tset_any T F L id due hw w h.tm).mono ?_
  rintro e w' ⟨rfl, F', h1, h2, M⟩
  exact ⟨rfl, F', ⟨h1, fun k hk => (h2 k hk).elim (h.nw k) fun h3 => Nat.le_trans h.E.size h3, fun k hx hf => (h2 k hf).elim (h.dis k hx) fun h3 => by have := h.xl k hx; omega, fun k hk => Nat.lt_of_lt_of_le (h.xl k hk) M.size, Mod.toExt h.E M fun k hk hs => by have := h.nw k hs; omega⟩, h2, M⟩
theorem One.cancel {W0 : World} {T : Nat} {F X : Nat → Prop} {w : World} {L : List (Int × Int)} (h : One W0 T F X w L) (id : Int) (hw : (Lit.int .i64 id).wf = true) :
    Calls Try.prog 11 #[.pointer (some ⟨T, 0, none⟩), .int .i64 id] w fun e w' => e = .returned (.bool (hasL L id)) ∧ One W0 T F X w' (remL id L) ∧ Mod F w w' := by
  refine (cancel_any T F L id hw w h.tm).mono ?_
  rintro e w' ⟨rfl, h1, M⟩
  exact ⟨rfl, ⟨h1, h.nw, h.dis, fun k hk => Nat.lt_of_lt_of_le (h.xl k hk) M.size, Mod.toExt h.E M fun k hk hs => by have := h.nw k hs; omega⟩, M⟩
theorem One.due {W0 : World} {T : Nat} {F X : Nat → Prop} {w : World} {L : List (Int × Int)} (h : One W0 T F X w L) (now : Int) :
    Calls Try.prog 14 #[.pointer (some ⟨T, 0, none⟩), .int .i64 now] w fun e w' => ∃ A' c', e = .returned (.slice A' (dueL now L).length c') ∧ OwnS Ib 3 w.heap.size (fun _ => False) w' (.slice A' (dueL now L).length c') (dueL now L) ∧ One W0 T F X w' (restL now L) ∧ Mod F w w' := by
  refine (due_any T F L now w h.tm).mono ?_
  rintro e w' ⟨A', c', rfl, o, h1, M⟩
  exact ⟨A', c', rfl, o, ⟨h1, h.nw, h.dis, fun k hk => Nat.lt_of_lt_of_le (h.xl k hk) M.size, Mod.toExt h.E M fun k hk hs => by have := h.nw k hs; omega⟩, M⟩
/-- two timers side by side, and other things X -/
structure Two (W0 : World) (Ta Tb : Nat) (Fa Fb X : Nat → Prop) (w : World) (La Lb : List (Int × Int)) : Prop where
  a : One W0 Ta Fa X w La
  b : One W0 Tb Fb X w Lb
  dis : ∀ k, Fa k → ¬ Fb k
variable {W0 : World} {Ta Tb : Nat} {Fa Fb X : Nat → Prop} {w w' : World} {La Lb : List (Int × Int)}
theorem Two.symm (h : Two W0 Ta Tb Fa Fb X w La Lb) : Two W0 Tb Ta Fb Fa X w Lb La := ⟨h.b, h.a, fun k hb ha => h.dis k ha hb⟩
theorem Two.ext (h : Two W0 Ta Tb Fa Fb X w La Lb) (E : Ext w w') : Two W0 Ta Tb Fa Fb X w' La Lb := ⟨h.a.ext E, h.b.ext E, h.dis⟩
theorem Two.other {S : Nat → Prop} (h : Two W0 Ta Tb Fa Fb X w La Lb) (M : Mod S w w') (hS : ∀ k, S k → W0.heap.size ≤ k ∧ X k) : Two W0 Ta Tb Fa Fb X w' La Lb :=
  ⟨h.a.other M fun k hk => ⟨(hS k hk).1, h.a.dis k (hS k hk).2⟩, h.b.other M fun k hk => ⟨(hS k hk).1, h.b.dis k (hS k hk).2⟩, h.dis⟩
theorem Two.sub {Y : Nat → Prop} (h : Two W0 Ta Tb Fa Fb X w La Lb) (hY : ∀ k, Y k → ¬ Fa k ∧ ¬ Fb k ∧ k < w.heap.size) : Two W0 Ta Tb Fa Fb Y w La Lb :=
  ⟨h.a.sub fun k hk => ⟨(hY k hk).1, (hY k hk).2.2⟩, h.b.sub fun k hk => (hY k hk).2, h.dis⟩
theorem Two.mnx (h : Two W0 Ta Tb Fa Fb X w La Lb) (M : Mod Fa w w') : Mod (NX W0 X) w w' := M.mono fun k _ hk => ⟨h.a.nw k hk, fun hx => h.a.dis k hx hk⟩
theorem Two.set (h : Two W0 Ta Tb Fa Fb X w La Lb) (id due : Int) (hw : (Lit.int .i64 id).wf = true) :
    Calls Try.prog 9 #[.pointer (some ⟨Ta, 0, none⟩), .int .i64 id, .int .i64 due] w fun e w' => e = .returned (.int .i64 (setE La id)) ∧ (∃ F', Two W0 Ta Tb F' Fb X w' (setT La id due) Lb) ∧ Mod (NX W0 X) w w' := by
  refine (h.a.set id due hw).mono ?_
  rintro e w' ⟨rfl, F', h1, h2, M⟩
  exact ⟨rfl, ⟨F', h1, h.b.other M fun k hk => ⟨h.a.nw k hk, h.dis k hk⟩, fun k hk hb => (h2 k hk).elim (fun h3 => h.dis k h3 hb) fun h3 => by have := h.b.tm.lt k hb; omega⟩, h.mnx M⟩
theorem Two.cancel (h : Two W0 Ta Tb Fa Fb X w La Lb) (id : Int) (hw : (Lit.int .i64 id).wf = true) :
    Calls Try.prog 11 #[.pointer (some ⟨Ta, 0, none⟩), .int .i64 id] w fun e w' => e = .returned (.bool (hasL La id)) ∧ Two W0 Ta Tb Fa Fb X w' (remL id La) Lb ∧ Mod (NX W0 X) w w' := by
  refine (h.a.cancel id hw).mono ?_
  rintro e w' ⟨rfl, h1, M⟩
  exact ⟨rfl, ⟨h1, h.b.other M fun k hk => ⟨h.a.nw k hk, h.dis k hk⟩, h.dis⟩, h.mnx M⟩
theorem Two.due (h : Two W0 Ta Tb Fa Fb X w La Lb) (now : Int) :
    Calls Try.prog 14 #[.pointer (some ⟨Ta, 0, none⟩), .int .i64 now] w fun e w' => ∃ A' c', e = .returned (.slice A' (dueL now La).length c') ∧ OwnS Ib 3 w.heap.size (fun _ => False) w' (.slice A' (dueL now La).length c') (dueL now La) ∧ Two W0 Ta Tb Fa Fb X w' (restL now La) Lb ∧ Mod (NX W0 X) w w' := by
  refine (h.a.due now).mono ?_
  rintro e w' ⟨A', c', rfl, o, h1, M⟩
  exact ⟨A', c', rfl, o, ⟨h1, h.b.other M fun k hk => ⟨h.a.nw k hk, h.dis k hk⟩, h.dis⟩, h.mnx M⟩
/-- both are asked what is due, and the answers are the same -/
theorem Two.due2 (h : Two W0 Ta Tb Fa Fb X w La Lb) (now : Int) (n : Nat) (A' : Option Addr) (c' : Nat) (l : List Int) (w0 : World) (o : OwnS Ib 3 w0.heap.size (fun _ => False) w (.slice A' n c') l) (hw0 : ∀ k, Fa k ∨ Fb k → k < w0.heap.size) :
    Calls Try.prog 14 #[.pointer (some ⟨Tb, 0, none⟩), .int .i64 now] w fun e w' => ∃ A2 c2, e = .returned (.slice A2 (dueL now Lb).length c2) ∧ RdY Ib (fun _ => True) w' (.slice A2 (dueL now Lb).length c2) (dueL now Lb) ∧ RdY Ib (fun _ => True) w' (.slice A' n c') l ∧ Two W0 Ta Tb Fa Fb X w' La (restL now Lb) ∧ Mod (NX W0 X) w w' := by
  refine (h.b.due now).mono ?_
  rintro e w' ⟨A2, c2, rfl, o2, h1, M⟩
  have o3 := o.mod M (fun k hk hf => by have := (o.row k hk).1; have := hw0 k (.inr hf); omega) (fun _ _ hk _ => hk)
  exact ⟨A2, c2, rfl, o2.y.mono fun _ _ _ => trivial, o3.y.mono fun _ _ _ => trivial, ⟨h.a.other M fun k hk => ⟨h.b.nw k hk, fun ha => h.dis k ha hk⟩, h1, h.dis⟩, h.symm.mnx M⟩
end Go.Proofs.Ytapajcgfdiamdaa
