/- Groups with nobody outside who sees to them: walked; the law answers true. Conditions: the processes' numbers fit. -/
import Derived.Test.YtmpmnikgbepphaaHB20
import Derived.Maps.RangeWalk
import Derived.Maps.OwnOps
import Derived.LoopN
namespace Go.Proofs.Ytmpmnikgbepphaa
open Go.RowKit Go.Kb Go.Maps

def memP (l : List Pr) (nx g : Int) : List Pr := if rightL l nx = true then l.filter (ofP g) else []
theorem memL_memP {l : List Pr} {nx g : Int} : memL l nx g = (memP l nx g).map (·.pid) := by unfold memL memP; split <;> rfl
def upsN (l : List Pr) (nx g : Int) (m : Nat) : List Int := (((memP l nx g).take m).filter (seenP l g)).map (·.parent)
theorem upsN_yes {l : List Pr} {nx g : Int} {m : Nat} {p : Pr} (hp : (memP l nx g)[m]? = some p) (h : seenP l g p = true) : upsN l nx g (m + 1) = upsN l nx g m ++ [p.parent] := by
  unfold upsN
  rw [List.take_add_one, hp, List.filter_append]
  simp [h]
theorem upsN_no {l : List Pr} {nx g : Int} {m : Nat} {p : Pr} (hp : (memP l nx g)[m]? = some p) (h : seenP l g p = false) : upsN l nx g (m + 1) = upsN l nx g m := by
  unfold upsN
  rw [List.take_add_one, hp, List.filter_append]
  simp [h]
/-- those who see to the group, as a map -/
def upD (U : List Int) : DataW Unit := Maps.setOf (.lit (.bool true)) (U.map (Lit.int .i64))
theorem upD_snoc (U : List Int) (x : Int) : upD (U ++ [x]) = (upD U).put (.int .i64 x) (.lit (.bool true)) := by
  unfold upD
  rw [List.map_append]
  exact setOf_snoc _ _ _
theorem upD_keys (U : List Int) : ∀ x ∈ U.map (Lit.int .i64), WideAt.IsKeyLit x := by
  intro x hx
  obtain ⟨y, _, rfl⟩ := List.mem_map.1 hx
  trivial
theorem up_has {U : List Int} {x : Int} : Maps.has (upD U) (.int .i64 x) = true ↔ x ∈ U := by
  unfold upD
  rw [has_setOf _ _ _ (upD_keys U), List.any_eq_true]
  constructor
  · rintro ⟨k, hk, hs⟩
    obtain ⟨y, hy, rfl⟩ := List.mem_map.1 hk
    have := WideAt.sameKey_eq hs
    cases this
    exact hy
  · intro h
    exact ⟨_, List.mem_map.2 ⟨x, h, rfl⟩, by simp [Lit.sameKey]⟩
theorem up_map (U : List Int) : ∃ es, upD U = .map es := (tidy_setOf _ _ (upD_keys U)).isMap
theorem up_zero {U : List Int} : Maps.size (upD U) = 0 ↔ U = [] := by
  obtain ⟨es, he⟩ := up_map U
  constructor
  · intro h
    rw [he, size_eq] at h
    have : es = [] := List.eq_nil_of_length_eq_zero h
    rcases U with _ | ⟨x, r⟩
    · rfl
    · exfalso
      have := up_has (U := x :: r) (x := x)
      rw [he, has_eq, ‹es = []›] at this
      simp at this
  · rintro rfl
    rfl
theorem up_one {U : List Int} (h : Maps.size (upD U) = 1) {x y : Int} (hx : x ∈ U) (hy : y ∈ U) : y = x := by
  obtain ⟨es, he⟩ := up_map U
  rw [he, size_eq] at h
  obtain ⟨e, rfl⟩ := List.length_eq_one_iff.1 h
  have h1 := (up_has (U := U) (x := x)).2 hx
  have h2 := (up_has (U := U) (x := y)).2 hy
  rw [he, has_eq] at h1 h2
  simp only [List.any_cons, List.any_nil, Bool.or_false] at h1 h2
  have e1 := WideAt.sameKey_eq h1
  have e2 := WideAt.sameKey_eq h2
  rw [e1] at e2
  cases e2
  rfl
theorem owns_ext {k b n : Nat} {R : Value → Option (DataW Unit × List MemPlace)} {D : DataW Unit} {w w' : World} (h : w.ownsMap Try.prog k R b n D) (hE : Ext w w') : w'.ownsMap Try.prog k R b n D :=
  h.kept (row := none) ⟨hE.os, hE.tape, hE.output, hE.size, fun i hi _ => hE.block i hi⟩ (by simp)
set_option maxRecDepth 100000 in
theorem pl_bool {v : Value} {y : DataW Unit × List MemPlace} (h : plainElem (H := Unit) Try.prog 4 v = some y) : ∃ c, v = .bool c := by
  unfold plainElem at h
  rw [Try.underlying4] at h
  cases v <;> simp at h
  exact ⟨_, rfl⟩
theorem keyed_int : Keyed Try.prog 3 := int_keyed Try.underlying3
theorem get_zero {l : List Pr} {nx : Int} : getL l nx 0 = (zeroP, false) := by
  unfold getL
  split
  · rename_i hr
    have : l.find? (fun p => p.pid == 0) = none := by
      rw [List.find?_eq_none]
      intro p hp
      have := (rise_mem (right_rise hr).2.2 p hp).1
      simp
      omega
    rw [this]
  · rfl
theorem mem_facts {l : List Pr} {nx g : Int} {m : Nat} {p : Pr} (h : (memP l nx g)[m]? = some p) : rightL l nx = true ∧ p ∈ l ∧ p.group = g ∧ getL l nx p.pid = (p, true) ∧ liveL l nx p.pid = true := by
  unfold memP at h
  split at h
  · rename_i hr
    obtain ⟨h1, h2⟩ := List.mem_filter.1 (List.mem_of_getElem? h)
    unfold ofP at h2
    simp only [Bool.and_eq_true, beq_iff_eq] at h2
    have hg := right_get hr h1
    exact ⟨hr, h1, h2.2, hg, by rw [live_get, hg]; exact h2.1⟩
  · simp at h
theorem ups_zero {l : List Pr} {nx g : Int} (hr : rightL l nx = true) : ((Maps.size (upD (upsN l nx g (memP l nx g).length)) : Int) == 0) = orphL l nx g := by
  rw [Bool.eq_iff_iff, beq_iff_eq]
  have h0 : ((Maps.size (upD (upsN l nx g (memP l nx g).length)) : Int) = 0) ↔ Maps.size (upD (upsN l nx g (memP l nx g).length)) = 0 := by omega
  rw [h0, up_zero]
  unfold upsN orphL memP
  rw [if_pos hr, List.take_length, hr, List.map_eq_nil_iff, List.filter_eq_nil_iff]
  simp only [Bool.true_and, Bool.not_eq_true', List.any_eq_false]
theorem ups_mem {l : List Pr} {nx g x : Int} (hr : rightL l nx = true) (h : x ∈ upsN l nx g (memP l nx g).length) : liveL l nx x = true := by
  unfold upsN at h
  obtain ⟨p, hp, rfl⟩ := List.mem_map.1 h
  have := (List.mem_filter.1 hp).2
  rw [seen_get (nx := nx) hr] at this
  simp only [Bool.and_eq_true] at this
  exact this.1
theorem ups_all {l : List Pr} {nx g : Int} (hr : rightL l nx = true) {p : Pr} (hp : p ∈ l) (ho : ofP g p = true) (hs : seenP l g p = true) : p.parent ∈ upsN l nx g (memP l nx g).length := by
  unfold upsN memP
  rw [if_pos hr, List.take_length]
  exact List.mem_map.2 ⟨p, List.mem_filter.2 ⟨List.mem_filter.2 ⟨hp, ho⟩, hs⟩, rfl⟩
theorem askL_of_live {l : List Pr} {nx x : Int} (hr : rightL l nx = true) (h : liveL l nx x = true) : askL l nx [x] = 0 := by
  unfold askL
  rw [hr]
  simp [h]
end Go.Proofs.Ytmpmnikgbepphaa
