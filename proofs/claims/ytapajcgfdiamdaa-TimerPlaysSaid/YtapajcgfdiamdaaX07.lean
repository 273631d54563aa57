/- Timers beside the document's: each call as one step. No condition. -/
import Derived.Test.YtapajcgfdiamdaaV07
import Derived.Test.YtapajcgfdiamdaaW07
import Derived.Test.YtapajcgfdiamdaaM07
namespace Go.Proofs.Ytapajcgfdiamdaa
open Go.RowKit Go.Kb

/-- timers and the document's side by side; other things Y -/
structure Pr7 (W0 : World) (T R : Nat) (F FR Y : Nat → Prop) (w : World) (La Lb : List (Int × Int)) : Prop where
  t : One W0 T F (fun k => FR k ∨ Y k) w La
  r : Rf R FR w Lb
  h : W0.heap.size ≤ R
  y : ∀ k, Y k → ¬ FR k
variable {W0 : World} {T R : Nat} {F FR Y : Nat → Prop} {w w' : World} {La Lb : List (Int × Int)}
theorem Pr7.ext (h : Pr7 W0 T R F FR Y w La Lb) (E : Ext w w') : Pr7 W0 T R F FR Y w' La Lb := ⟨h.t.ext E, h.r.ext E, h.h, h.y⟩
theorem Pr7.sub {Z : Nat → Prop} (h : Pr7 W0 T R F FR Y w La Lb) (hZ : ∀ k, Z k → ¬ F k ∧ ¬ FR k ∧ k < w.heap.size) : Pr7 W0 T R F FR Z w La Lb :=
  ⟨h.t.sub fun k hk => hk.elim (fun h2 => ⟨h.t.dis k (.inl h2), h.r.lt k h2⟩) fun h2 => ⟨(hZ k h2).1, (hZ k h2).2.2⟩, h.r, h.h, fun k hk => (hZ k hk).2.1⟩
theorem Pr7.old (h : Pr7 W0 T R F FR Y w La Lb) {k : Nat} (hk : w.heap.size ≤ k) : ¬ F k ∧ ¬ FR k := ⟨fun hf => by have := h.t.tm.lt k hf; omega, fun hf => by have := h.r.lt k hf; omega⟩
theorem Pr7.one {La' : List (Int × Int)} {F' : Nat → Prop} (h : Pr7 W0 T R F FR Y w La Lb) (h1 : One W0 T F' (fun k => FR k ∨ Y k) w' La') (M : Mod F w w') : Pr7 W0 T R F' FR Y w' La' Lb ∧ Mod (fun k => ¬ Y k) w w' :=
  ⟨⟨h1, h.r.mod M fun k hk hf => h.t.dis k (.inl hf) hk, h.h, h.y⟩, M.mono fun k _ hk hy => h.t.dis k (.inr hy) hk⟩
theorem Pr7.two {Lb' : List (Int × Int)} {FR' : Nat → Prop} (h : Pr7 W0 T R F FR Y w La Lb) (h1 : Rf R FR' w' Lb') (h2 : ∀ k, FR' k → FR k ∨ w.heap.size ≤ k) (M : Mod (fun k => k = R) w w') : Pr7 W0 T R F FR' Y w' La Lb' ∧ Mod (fun k => ¬ Y k) w w' := by
  refine ⟨⟨(h.t.other M fun k hk => ?_).sub fun k hk => ?_, h1, h.h, fun k hy hf => ?_⟩, M.mono fun k _ hk hy => ?_⟩
  · subst hk
    exact ⟨h.h, fun hf => h.t.dis k (.inl h.r.hR) hf⟩
  · rcases hk with hk | hk
    · exact ⟨(h2 k hk).elim (fun h3 => h.t.dis k (.inl h3)) fun h3 => (h.old h3).1, h1.lt k hk⟩
    · exact ⟨h.t.dis k (.inr hk), Nat.lt_of_lt_of_le (h.t.xl k (.inr hk)) M.size⟩
  · exact (h2 k hf).elim (h.y k hy) fun h3 => by have := h.t.xl k (.inr hy); omega
  · subst hk
    exact h.y k hy h.r.hR
theorem Pr7.set (h : Pr7 W0 T R F FR Y w La Lb) (id due : Int) (hw : (Lit.int .i64 id).wf = true) :
    Calls Try.prog 9 #[.pointer (some ⟨T, 0, none⟩), .int .i64 id, .int .i64 due] w fun e w' => e = .returned (.int .i64 (setE La id)) ∧ ∃ F', Pr7 W0 T R F' FR Y w' (setT La id due) Lb ∧ Mod (fun k => ¬ Y k) w w' := by
  refine (h.t.set id due hw).mono ?_
  rintro e w' ⟨rfl, F', h1, _, M⟩
  exact ⟨rfl, F', h.one h1 M⟩
theorem Pr7.cancel (h : Pr7 W0 T R F FR Y w La Lb) (id : Int) (hw : (Lit.int .i64 id).wf = true) :
    Calls Try.prog 11 #[.pointer (some ⟨T, 0, none⟩), .int .i64 id] w fun e w' => e = .returned (.bool (hasL La id)) ∧ ∃ F', Pr7 W0 T R F' FR Y w' (remL id La) Lb ∧ Mod (fun k => ¬ Y k) w w' := by
  refine (h.t.cancel id hw).mono ?_
  rintro e w' ⟨rfl, h1, M⟩
  exact ⟨rfl, F, h.one h1 M⟩
theorem Pr7.due (h : Pr7 W0 T R F FR Y w La Lb) (now : Int) :
    Calls Try.prog 14 #[.pointer (some ⟨T, 0, none⟩), .int .i64 now] w fun e w' => ∃ A' c', e = .returned (.slice A' (dueL now La).length c') ∧ OwnS Ib 3 w.heap.size (fun _ => False) w' (.slice A' (dueL now La).length c') (dueL now La) ∧ ∃ F', Pr7 W0 T R F' FR Y w' (restL now La) Lb ∧ Mod (fun k => ¬ Y k) w w' := by
  refine (h.t.due now).mono ?_
  rintro e w' ⟨A', c', rfl, o, h1, M⟩
  exact ⟨A', c', rfl, o, F, h.one h1 M⟩
theorem Pr7.rset (h : Pr7 W0 T R F FR Y w La Lb) (hl : Lb.length ≤ 256) (id due : Int) :
    Calls Try.prog 10 #[.pointer (some ⟨R, 0, none⟩), .int .i64 id, .int .i64 due] w fun e w' => e = .returned (.int .i64 (setE Lb id)) ∧ ∃ FR', Pr7 W0 T R F FR' Y w' La (setT Lb id due) ∧ Mod (fun k => ¬ Y k) w w' := by
  refine (rset_any R FR Lb id due hl w h.r).mono ?_
  rintro e w' ⟨rfl, F', h1, h2, M⟩
  exact ⟨rfl, F', h.two h1 h2 M⟩
theorem Pr7.rcancel (h : Pr7 W0 T R F FR Y w La Lb) (hl : Lb.length ≤ 256) (id : Int) :
    Calls Try.prog 12 #[.pointer (some ⟨R, 0, none⟩), .int .i64 id] w fun e w' => e = .returned (.bool (hasL Lb id)) ∧ ∃ FR', Pr7 W0 T R F FR' Y w' La (remL id Lb) ∧ Mod (fun k => ¬ Y k) w w' := by
  refine (rcancel_any R FR Lb id (by omega) w h.r).mono ?_
  rintro e w' ⟨rfl, F', h1, h2, M⟩
  exact ⟨rfl, F', h.two h1 h2 M⟩
theorem Pr7.rdue (h : Pr7 W0 T R F FR Y w La Lb) (hl : Lb.length ≤ 256) (now : Int) (n : Nat) (A' : Option Addr) (c' : Nat) (l : List Int) (w0 : World) (o : OwnS Ib 3 w0.heap.size (fun _ => False) w (.slice A' n c') l) (hw0 : R < w0.heap.size) :
    Calls Try.prog 15 #[.pointer (some ⟨R, 0, none⟩), .int .i64 now] w fun e w' => ∃ A2 c2, e = .returned (.slice A2 (dueL now Lb).length c2) ∧ RdY Ib (fun _ => True) w' (.slice A2 (dueL now Lb).length c2) (dueL now Lb) ∧ RdY Ib (fun _ => True) w' (.slice A' n c') l ∧ Pr7 W0 T R F FR Y w' La (restL now Lb) ∧ Mod (fun k => ¬ Y k) w w' := by
  refine (rdue_any R FR Lb now hl w h.r).mono ?_
  rintro e w' ⟨A2, c2, rfl, o2, h1, M⟩
  have o3 := o.mod M (fun k hk hf => by have := (o.row k hk).1; omega) (fun _ _ hk _ => hk)
  exact ⟨A2, c2, rfl, o2.y.mono fun _ _ _ => trivial, o3.y.mono fun _ _ _ => trivial, h.two h1 (fun k hk => .inl hk) M⟩
end Go.Proofs.Ytapajcgfdiamdaa
