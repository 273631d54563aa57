/- A row turned round in place, by contract. Conditions: the row is the call's own, its length below 10^8. -/
import Derived.Test.YtilmkghopeoipaaB10
namespace Go.Proofs.Ytilmkghopeoipaa
open Go.RowKit Go.Kb

abbrev Lb : Rep (List Int) := Rep.sl Ub
theorem swap1 {D : Type} {e : Rep D} {T : TypeId} {base : Nat} {B : Nat → Prop} {w : World} {g n c i j : Nat} {ds : List D} {di dj : D} {u x : Value} (hs : e.size = 1) (h : OwnS e T base B w (.slice (some ⟨g, 0, none⟩) n c) ds) (hi : i < ds.length) (hj : j < ds.length)
    (ru : e.rel (fun k => B k ∧ (Value.slice (some ⟨g, 0, none⟩) n c).ownBlock ≠ some k) w [u] di) (rx : e.rel (fun k => B k ∧ (Value.slice (some ⟨g, 0, none⟩) n c).ownBlock ≠ some k) w [x] dj) :
    OwnS e T base B ((w.setCell ⟨g, i, none⟩ x).setCell ⟨g, j, none⟩ u) (.slice (some ⟨g, 0, none⟩) n c) ((ds.set i dj).set j di) := by
  have hg : ∀ k, (Value.slice (some ⟨g, 0, none⟩) n c).ownBlock ≠ some k ↔ g ≠ k := fun k => by simp [Value.ownBlock]
  have e1 : ∀ (cs : List Value) (y : Value), cs.length = e.size → cs.set 0 y = [y] := fun cs y hl => by
    rw [hs] at hl
    match cs, hl with
    | [a], _ => rfl
  have s1 := h.store (j := i) (i := 0) (x := x) (d' := dj) hi (by omega) (fun cs d _ hr => by
    rw [e1 cs x (e.len hr)]
    exact e.keep rx fun k _ hk => ⟨⟨hk.1, (hg k).1 hk.2⟩, rfl⟩)
  have s2 := s1.store (j := j) (i := 0) (x := u) (d' := di) (by simpa using hj) (by omega) (fun cs d _ hr => by
    rw [e1 cs u (e.len hr)]
    exact e.keep ru fun k _ hk => ⟨⟨hk.1, (hg k).1 hk.2⟩, Below.heap_setCell w ⟨g, i * e.size + 0, none⟩ x k (Ne.symm ((hg k).1 hk.2))⟩)
  rw [hs] at s2
  simpa using s2
def revM {D : Type} (ds ds' : List D) (k : Nat) : Prop := ds'.length = ds.length ∧ ∀ m, m < ds.length → ds'[m]? = if m < k ∨ ds.length < m + 1 + k then ds[ds.length - 1 - m]? else ds[m]?
theorem revM.zero {D : Type} (ds : List D) : revM ds ds 0 := ⟨rfl, fun m hm => by rw [if_neg (by omega)]⟩
theorem revM.done {D : Type} {ds ds' : List D} {k : Nat} (h : revM ds ds' k) (hk : ds.length ≤ 2 * k + 1) : ds' = ds.reverse := by
  apply List.ext_getElem?
  intro m
  rcases Nat.lt_or_ge m ds.length with hm | hm
  · rw [h.2 m hm, List.getElem?_reverse hm]
    split
    · rfl
    · have : ds.length - 1 - m = m := by omega
      rw [this]
  · rw [List.getElem?_eq_none (by rw [h.1]; exact hm), List.getElem?_eq_none (by simpa using hm)]
theorem revM.step {D : Type} {ds ds' : List D} {k : Nat} {di dj : D} (h : revM ds ds' k) (hk : 2 * k + 1 < ds.length) (hi : ds'[k]? = some di) (hj : ds'[ds.length - 1 - k]? = some dj) : revM ds ((ds'.set k dj).set (ds.length - 1 - k) di) (k + 1) := by
  have h1 := h.2 k (by omega)
  have h2 := h.2 (ds.length - 1 - k) (by omega)
  rw [if_neg (by omega)] at h1 h2
  rw [hi] at h1
  rw [hj] at h2
  refine ⟨by simp [h.1], fun m hm => ?_⟩
  rw [List.getElem?_set, List.getElem?_set]
  have hl := h.1
  by_cases e1 : ds.length - 1 - k = m
  · rw [if_pos e1, if_pos (by simp; omega), if_pos (by omega)]
    have : ds.length - 1 - m = k := by omega
    rw [this]; exact h1
  · rw [if_neg e1]
    by_cases e2 : k = m
    · subst e2
      rw [if_pos rfl, if_pos (by omega), if_pos (by omega)]
      exact h2
    · rw [if_neg e2, h.2 m hm]
      by_cases c1 : m < k ∨ ds.length < m + 1 + k
      · rw [if_pos c1, if_pos (by omega)]
      · rw [if_neg c1, if_neg (by omega)]
set_option maxHeartbeats 400000 in
theorem reverse_any {B : Nat → Prop} {base : Nat} (v : Value) (ds : List (List Int)) (w : World) (h : OwnS Lb 27 base B w v ds) (hn : ds.length ≤ 100000000) :
    Calls Try.prog 28 #[v] w fun e w' => e = .returned (.tuple #[]) ∧ OwnS Lb 27 base B w' v ds.reverse ∧ Mod (fun k => v.ownBlock = some k) w w' := by
  obtain ⟨Ad, c, rfl, h1, h2⟩ := h.shape
  have H := Lib.hid h
  clear h
  have hw0 : IntKind.i64.wrap ((ds.length : Int) - 1) = (ds.length : Int) - 1 := IntWalk.i64_in _ (by omega)
  go_enter Try.func28, Try.ntmps28
  go_wp2
  go_loopw [2, 3] (fun i j wr => ∃ (k : Nat) (ds' : List (List Int)), i = .int .i64 k ∧ j = .int .i64 ((ds.length : Int) - 1 - k) ∧ k ≤ ds.length ∧ Hid (revM ds ds' k) ∧ Hid (OwnS Lb 27 base B wr (.slice Ad ds.length c) ds') ∧ Hid (Mod (fun k => (Value.slice Ad ds.length c).ownBlock = some k) w wr)) (fun _ j _ => (intOf j + 1).toNat)
  case atStart => exact ⟨0, ds, rfl, by simp, Nat.zero_le _, Lib.hid (revM.zero ds), H, Lib.hid (Mod.refl _ _)⟩
  case round =>
    clear H hw0
    obtain ⟨k, ds', rfl, rfl, hk, HR, HO, HM⟩ := hrel
    have hl := HR.out.1
    by_cases hlt : 2 * k + 1 < ds.length
    · obtain ⟨m, hm⟩ : ∃ m : Nat, m + 1 + k = ds.length := ⟨ds.length - 1 - k, by omega⟩
      have hmi : (ds.length : Int) - 1 - k = (m : Int) := by omega
      rw [hmi]
      have d1 : (k : Int) < (m : Int) := by omega
      have n1 : ¬ m = k := by omega
      have n2 : ¬ k = m := by omega
      have d2 : (k : Int) < (ds.length : Int) := by omega
      have d3 : (m : Int) < (ds.length : Int) := by omega
      have hw1 : IntKind.i64.wrap ((k : Int) + 1) = (k : Int) + 1 := IntWalk.i64_in _ (by omega)
      have hw2 : IntKind.i64.wrap ((m : Int) - 1) = (m : Int) - 1 := IntWalk.i64_in _ (by omega)
      obtain ⟨b1, o1, u1, x1, hA1, q1, y1, r1⟩ := HO.out.y.at1 rfl (show k < ds.length by omega)
      obtain ⟨b2, o2, u2, x2, hA2, q2, y2, r2⟩ := HO.out.y.at1 rfl (show m < ds.length by omega)
      obtain ⟨g, hg, -, hfr⟩ := HO.out.addr (by omega)
      subst hg
      simp only [Option.some.injEq, Addr.mk.injEq] at hA1 hA2
      obtain ⟨rfl, rfl, -⟩ := hA1
      obtain ⟨rfl, rfl, -⟩ := hA2
      rw [Nat.zero_add] at q1 q2
      have f1 := hfr k
      have f2 := hfr m
      have SW := Lib.hid (swap1 rfl HO.out (i := k) (j := m) (by omega) (by omega) r1.out r2.out)
      have hm2 : ds.length - 1 - k = m := by omega
      have RS := Lib.hid (HR.out.step hlt y1.out (by rw [hm2]; exact y2.out))
      rw [hm2] at RS
      obtain ⟨v1, e1, s1⟩ := r1.out
      obtain ⟨v2, e2, s2⟩ := r2.out
      simp only [List.cons.injEq, and_true] at e1 e2
      subst e1 e2
      obtain ⟨a1, c1, rfl, -, -⟩ := s1.shape
      obtain ⟨a2, c2, rfl, -, -⟩ := s2.shape
      clear hfr y1 y2 r1 r2 s1 s2
      go_wp2
      go_region_law (fail)
      all_goals go_wp2
      all_goals
        go_roundw
        case rel => exact ⟨k + 1, _, by go_num, by congr 1; omega, by omega, RS, SW, Lib.hid (Mod.drew (Mod.set_ (Mod.set_ HM.out (.inr (by simp [Value.ownBlock])) _) (.inr (by simp [Value.ownBlock])) _))⟩
        case measure => simp [intOf] <;> omega
    · have d1 : ¬ ((k : Int) < (ds.length : Int) - 1 - k) := by omega
      go_wp2
      go_end0
      exact ⟨rfl, by rw [← HR.out.done (by omega)]; exact HO.out, HM.out⟩
end Go.Proofs.Ytilmkghopeoipaa
