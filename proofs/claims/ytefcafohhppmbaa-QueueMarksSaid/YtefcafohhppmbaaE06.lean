/- One step on a queue, whether steps are too many, by contract. Conditions: the queue is one; a record is no longer than the reach. -/
import Derived.Test.YtefcafohhppmbaaD06
namespace Go.Proofs.Ytefcafohhppmbaa
open Go.RowKit Go.Kb

/-- a step: its kind and its bytes -/
abbrev Opn := Int × List Int
def doB (l : List (List Int)) (x : Opn) : List Int := if x.1 = 2 then frL l else if x.1 = 3 then frL l else []
def doK (c : Cf) (l : List (List Int)) (x : Opn) : Bool := if x.1 = 1 then roomB c l x.2 else if x.1 = 2 then !l.isEmpty else if x.1 = 3 then !l.isEmpty else false
def doL (c : Cf) (l : List (List Int)) (x : Opn) : List (List Int) := if x.1 = 1 then pushL c l x.2 else if x.1 = 2 then l.tail else l
def doO (c : Cf) (l : List (List Int)) (o : Bool) (x : Opn) : Bool := if x.1 = 1 then pushO c l o x.2 else if x.1 = 2 then popO c l o else o
/-- what a step leaves -/
def DoPost (c : Cf) (g : Nat) (F : Nat → Prop) (w : World) (l : List (List Int)) (o : Bool) (x : Opn) (e : Ending) (w' : World) : Prop :=
  ∃ Ad k F', e = .returned (.tuple #[.slice Ad (doB l x).length k, .bool (doK c l x)]) ∧ OwnS Ub 5 w.heap.size (fun _ => False) w' (.slice Ad (doB l x).length k) (doB l x) ∧ (∀ j, (Value.slice Ad (doB l x).length k).ownBlock = some j → ¬ F' j) ∧
    Qm c g F' w' (doL c l x) (doO c l o x) ∧ (∀ j, F' j → F j ∨ w.heap.size ≤ j) ∧ Mod (fun k => k = g ∨ F k) w w'
theorem Qm.lt {c : Cf} {g : Nat} {F : Nat → Prop} {w : World} {l : List (List Int)} {o : Bool} (h : Qm c g F w l o) : ∀ k, F k → k < w.heap.size := by
  obtain ⟨_, _, _, h, _⟩ := h
  exact fun k hk => (h k hk).1
set_option maxHeartbeats 800000 in
theorem do_any {F : Nat → Prop} (c : Cf) (g : Nat) (w : World) (l : List (List Int)) (o : Bool) (v2 : Value) (x : Opn) (h : Qm c g F w l o) (hb : RI .u8 w v2 x.2) (hn : x.2.length ≤ 140737488355328) :
    Calls Try.prog 11 #[.pointer (some ⟨g, 0, none⟩), .agg #[.int .i64 x.1, v2]] w (DoPost c g F w l o x) := by
  have HQ := Lib.hid h
  have HL := Lib.hid h.lt
  obtain ⟨i, b⟩ := x
  have Hb := Lib.hid hb
  obtain ⟨A2, k2, rfl, -, -⟩ := RdN.shape hb
  clear h hb
  simp only
  by_cases h1 : i = 1
  · subst h1
    go_enter Try.func11, Try.ntmps11
    go_wp2_with fail
    refine (push_any c g _ l o _ b (HQ.out.ext (by repeat (first | with_reducible exact Ext.refl _ | refine Ext.drewN ?_ _ | refine Ext.drew ?_ | refine Ext.alloc ?_ _ | assumption | (refine Below.trans ?_ (by assumption)) | (refine Ext.trans ?_ (by assumption)) | (refine Below.trans ?_ (Below.mono (by assumption) (by omega)))))) (RdN.ext Hb.out (by repeat (first | with_reducible exact Ext.refl _ | refine Ext.drewN ?_ _ | refine Ext.drew ?_ | refine Ext.alloc ?_ _ | assumption | (refine Below.trans ?_ (by assumption)) | (refine Ext.trans ?_ (by assumption)) | (refine Below.trans ?_ (Below.mono (by assumption) (by omega)))))) hn).mono ?_
    rintro e w1 ⟨rfl, F', hQ, hF, hM⟩
    go_wp2
    go_ret2
    unfold DoPost
    exact ⟨none, 0, F', rfl, OwnS.nil _ _ _ _ _, (fun j hj => by cases hj), hQ, fun j hj => (hF j hj).imp id fun h => Nat.le_trans (by simp) h, Mod.trans (Mod.of_ext (by repeat (first | with_reducible exact Ext.refl _ | refine Ext.drewN ?_ _ | refine Ext.drew ?_ | refine Ext.alloc ?_ _ | assumption | (refine Below.trans ?_ (by assumption)) | (refine Ext.trans ?_ (by assumption)) | (refine Below.trans ?_ (Below.mono (by assumption) (by omega)))))) hM⟩
  by_cases h2 : i = 2
  · subst h2
    go_enter Try.func11, Try.ntmps11
    go_wp2_with fail
    refine (pop_any c g _ l o (HQ.out.ext (by repeat (first | with_reducible exact Ext.refl _ | refine Ext.drewN ?_ _ | refine Ext.drew ?_ | refine Ext.alloc ?_ _ | assumption | (refine Below.trans ?_ (by assumption)) | (refine Ext.trans ?_ (by assumption)) | (refine Below.trans ?_ (Below.mono (by assumption) (by omega))))))).mono ?_
    rintro e w1 ⟨⟨A1, k1, rfl, hown⟩, hQ, hM⟩
    have HO := Lib.hid hown
    clear hown
    go_wp2
    go_ret2
    unfold DoPost
    exact ⟨A1, k1, F, rfl, HO.out.lower (by simp), (fun j hj hF => by have := (HO.out.row j hj).1; have := HL.out j hF; simp at *; omega), hQ, fun j hj => .inl hj, Mod.trans (Mod.of_ext (by repeat (first | with_reducible exact Ext.refl _ | refine Ext.drewN ?_ _ | refine Ext.drew ?_ | refine Ext.alloc ?_ _ | assumption | (refine Below.trans ?_ (by assumption)) | (refine Ext.trans ?_ (by assumption)) | (refine Below.trans ?_ (Below.mono (by assumption) (by omega)))))) hM⟩
  by_cases h3 : i = 3
  · subst h3
    go_enter Try.func11, Try.ntmps11
    go_wp2_with fail
    refine (front_any c g _ l o (HQ.out.ext (by repeat (first | with_reducible exact Ext.refl _ | refine Ext.drewN ?_ _ | refine Ext.drew ?_ | refine Ext.alloc ?_ _ | assumption | (refine Below.trans ?_ (by assumption)) | (refine Ext.trans ?_ (by assumption)) | (refine Below.trans ?_ (Below.mono (by assumption) (by omega))))))).mono ?_
    rintro e w1 ⟨⟨A1, k1, rfl, hown⟩, hE1⟩
    have HO := Lib.hid hown
    clear hown
    go_wp2
    go_ret2
    have E1 : Ext w w1 := (by repeat (first | with_reducible exact Ext.refl _ | refine Ext.drewN ?_ _ | refine Ext.drew ?_ | refine Ext.alloc ?_ _ | assumption | (refine Below.trans ?_ (by assumption)) | (refine Ext.trans ?_ (by assumption)) | (refine Below.trans ?_ (Below.mono (by assumption) (by omega)))))
    unfold DoPost
    exact ⟨A1, k1, F, rfl, HO.out.lower (by simp), (fun j hj hF => by have := (HO.out.row j hj).1; have := HL.out j hF; simp at *; omega), HQ.out.ext E1, fun j hj => .inl hj, Mod.of_ext E1⟩
  go_enter Try.func11, Try.ntmps11
  go_wp2
  go_ret2
  unfold DoPost doB doK doL doO
  simp only [if_neg h1, if_neg h2, if_neg h3]
  exact ⟨none, 0, F, rfl, OwnS.nil _ _ _ _ _, (fun j hj => by cases hj), HQ.out.ext (by repeat (first | with_reducible exact Ext.refl _ | refine Ext.drewN ?_ _ | refine Ext.drew ?_ | refine Ext.alloc ?_ _ | assumption | (refine Below.trans ?_ (by assumption)) | (refine Ext.trans ?_ (by assumption)) | (refine Below.trans ?_ (Below.mono (by assumption) (by omega))))), fun j hj => .inl hj, Mod.of_ext (by repeat (first | with_reducible exact Ext.refl _ | refine Ext.drewN ?_ _ | refine Ext.drew ?_ | refine Ext.alloc ?_ _ | assumption | (refine Below.trans ?_ (by assumption)) | (refine Ext.trans ?_ (by assumption)) | (refine Below.trans ?_ (Below.mono (by assumption) (by omega)))))⟩
end Go.Proofs.Ytefcafohhppmbaa
