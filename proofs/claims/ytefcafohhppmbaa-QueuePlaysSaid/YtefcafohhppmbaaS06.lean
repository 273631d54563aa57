/- A queue and the document's, side by side in memory; what each tells of itself. Conditions: they are queues; a record is no longer than the reach. -/
import Derived.Test.YtefcafohhppmbaaR06
namespace Go.Proofs.Ytefcafohhppmbaa
open Go.RowKit Go.Kb

/-- a queue (l, o) and the document's (l2, o2): apart, from block base on, and none of their blocks in R -/
def Two (c : Cf) (g gr base : Nat) (R : Nat → Prop) (w : World) (l : List (List Int)) (o : Bool) (l2 : List (List Int)) (o2 : Bool) : Prop :=
  ∃ F G : Nat → Prop, Qm c g F w l o ∧ Qr c gr G w l2 o2 ∧ (∀ j, (j = g ∨ F j) → ¬ (j = gr ∨ G j)) ∧ ∀ j, (j = g ∨ F j) ∨ (j = gr ∨ G j) → base ≤ j ∧ ¬ R j
section
variable {c : Cf} {g gr base : Nat} {R S : Nat → Prop} {w w' : World} {l l2 : List (List Int)} {o o2 : Bool}
theorem Two.modR (h : Two c g gr base R w l o l2 o2) (hM : Mod S w w') (hS : ∀ k, S k → R k) : Two c g gr base R w' l o l2 o2 := by
  obtain ⟨F, G, hQ, hr, h1, h2⟩ := h
  exact ⟨F, G, hQ.mod hM (fun hs => (h2 g (.inl (.inl rfl))).2 (hS _ hs)) (fun k hk hs => (h2 k (.inl (.inr hk))).2 (hS _ hs)), hr.mod hM (fun hs => (h2 gr (.inr (.inl rfl))).2 (hS _ hs)) (fun k hk hs => (h2 k (.inr (.inr hk))).2 (hS _ hs)), h1, h2⟩
theorem Two.ext (h : Two c g gr base R w l o l2 o2) (hE : Ext w w') : Two c g gr base R w' l o l2 o2 := h.modR (S := fun _ => False) (Mod.of_ext hE) fun _ h => h.elim
theorem Two.none (h : Two c g gr base R w l o l2 o2) : Two c g gr base (fun _ => False) w l o l2 o2 := by
  obtain ⟨F, G, hQ, hr, h1, h2⟩ := h
  exact ⟨F, G, hQ, hr, h1, fun j hj => ⟨(h2 j hj).1, fun h => h⟩⟩
theorem Two.lt {F G : Nat → Prop} (hQ : Qm c g F w l o) (hr : Qr c gr G w l2 o2) : (∀ j, (j = g ∨ F j) → j < w.heap.size) ∧ ∀ j, (j = gr ∨ G j) → j < w.heap.size := by
  refine ⟨fun j hj => ?_, fun j hj => ?_⟩
  · rcases hj with rfl | hj
    · exact hQ.lt_g
    · exact hQ.lt j hj
  · rcases hj with rfl | hj
    · exact hr.lt_g
    · exact hr.lt j hj
theorem Two.fresh {R' : Nat → Prop} (h : Two c g gr base R w l o l2 o2) (hR : ∀ k, R' k → w.heap.size ≤ k) : Two c g gr base R' w l o l2 o2 := by
  obtain ⟨F, G, hQ, hr, h1, h2⟩ := h
  have hl := Two.lt hQ hr
  refine ⟨F, G, hQ, hr, h1, fun j hj => ⟨(h2 j hj).1, fun h => ?_⟩⟩
  have := hR j h
  rcases hj with hj | hj
  · have := hl.1 j hj; omega
  · have := hl.2 j hj; omega
theorem do_two (v2 : Value) (x : Opn) (h : Two c g gr base R w l o l2 o2) (hb : RI .u8 w v2 x.2) (hn : x.2.length ≤ 140737488355328) (hR : ∀ k, R k → k < w.heap.size) (hB : base ≤ w.heap.size) :
    Calls Try.prog 11 #[.pointer (some ⟨g, 0, none⟩), .agg #[.int .i64 x.1, v2]] w fun e w' => ∃ Ad k, e = .returned (.tuple #[.slice Ad (doB l x).length k, .bool (doK c l x)]) ∧
      OwnS Ub 5 w.heap.size (fun _ => False) w' (.slice Ad (doB l x).length k) (doB l x) ∧ Two c g gr base (fun j => R j ∨ (Value.slice Ad (doB l x).length k).ownBlock = some j) w' (doL c l x) (doO c l o x) l2 o2 ∧ Mod (fun k => base ≤ k ∧ ¬ R k) w w' := by
  obtain ⟨F, G, hQ, hr, h1, h2⟩ := h
  have hl := Two.lt hQ hr
  refine (do_any c g w l o v2 x hQ hb hn).mono ?_
  rintro e w' ⟨Ad, k, F', he, hown, hsep, hQ', hF', hM⟩
  have hnew : ∀ j, (j = g ∨ F' j) → (j = g ∨ F j) ∨ w.heap.size ≤ j := fun j hj => by
    rcases hj with hj | hj
    · exact .inl (.inl hj)
    · exact (hF' j hj).imp .inr id
  refine ⟨Ad, k, he, hown, ⟨F', G, hQ', hr.mod hM (fun hs => h1 gr hs (.inl rfl)) (fun j hj hs => h1 j hs (.inr hj)), fun j hj hk => ?_, fun j hj => ?_⟩, hM.mono fun j _ hj => h2 j (.inl hj)⟩
  · rcases hnew j hj with h | h
    · exact h1 j h hk
    · have := hl.2 j hk; omega
  · have hrow := fun h => hown.row j h
    rcases hj with hj | hj
    · refine ⟨(hnew j hj).elim (fun h => (h2 j (.inl h)).1) fun h => by omega, fun h => ?_⟩
      rcases h with h | h
      · rcases hnew j hj with h' | h'
        · exact (h2 j (.inl h')).2 h
        · have := hR j h; omega
      · have h3 := (hrow h).1
        rcases hj with rfl | hj
        · have := hl.1 _ (.inl rfl); omega
        · exact hsep j h hj
    · refine ⟨(h2 j (.inr hj)).1, fun h => ?_⟩
      rcases h with h | h
      · exact (h2 j (.inr hj)).2 h
      · have := (hrow h).1
        have := hl.2 j hj
        omega
theorem rdo_two (v2 : Value) (x : Opn) (h : Two c g gr base R w l o l2 o2) (hb : RI .u8 w v2 x.2) (hn : x.2.length ≤ 140737488355328) (hR : ∀ k, R k → k < w.heap.size) (hB : base ≤ w.heap.size) :
    Calls Try.prog 12 #[.pointer (some ⟨gr, 0, none⟩), .agg #[.int .i64 x.1, v2]] w fun e w' => ∃ Ad k, e = .returned (.tuple #[.slice Ad (doB l2 x).length k, .bool (doK c l2 x)]) ∧
      RdS Ub (fun _ => True) w' (.slice Ad (doB l2 x).length k) (doB l2 x) ∧ Two c g gr base R w' l o (doL c l2 x) (doO c l2 o2 x) ∧ Mod (fun k => base ≤ k ∧ ¬ R k) w w' := by
  obtain ⟨F, G, hQ, hr, h1, h2⟩ := h
  have hl := Two.lt hQ hr
  refine (rdo_any c gr w l2 o2 v2 x hr hb hn).mono ?_
  rintro e w' ⟨Ad, k, G', he, hrd, hr', hG', hM⟩
  have hnew : ∀ j, (j = gr ∨ G' j) → (j = gr ∨ G j) ∨ w.heap.size ≤ j := fun j hj => by
    rcases hj with hj | hj
    · exact .inl (.inl hj)
    · exact (hG' j hj).imp .inr id
  refine ⟨Ad, k, he, hrd.mono fun _ _ _ => trivial, ⟨F, G', hQ.mod hM (fun hs => h1 g (.inl rfl) hs) (fun j hj hs => h1 j (.inr hj) hs), hr', fun j hj hk => ?_, fun j hj => ?_⟩, hM.mono fun j _ hj => h2 j (.inr hj)⟩
  · rcases hnew j hk with h | h
    · exact h1 j hj h
    · have := hl.1 j hj; omega
  · rcases hj with hj | hj
    · exact h2 j (.inl hj)
    · refine ⟨(hnew j hj).elim (fun h => (h2 j (.inr h)).1) fun h => by omega, fun h => ?_⟩
      rcases hnew j hj with h' | h'
      · exact (h2 j (.inr h')).2 h
      · have := hR j h; omega
/-- what each tells of itself -/
theorem Two.qm (h : Two c g gr base R w l o l2 o2) : ∃ Ad n k u, n = l.length ∧ usedL l = u ∧ Blk w g 54 (qb c (.slice Ad n k) u o) := by
  obtain ⟨F, G, ⟨v, hB, hT, _⟩, _⟩ := h
  obtain ⟨Ad, k, rfl, _⟩ := hT.shape
  exact ⟨Ad, _, k, _, rfl, rfl, hB⟩
theorem Two.qr (h : Two c g gr base R w l o l2 o2) : ∃ Ad n k, n = l2.length ∧ n ≤ k ∧ k ≤ 9223372036854775807 ∧ Blk w gr 45 (rb c (.slice Ad n k) o2) := by
  obtain ⟨F, G, _, ⟨v, hB, hT, _⟩, _⟩ := h
  obtain ⟨Ad, k, rfl, h1, h2⟩ := hT.shape
  exact ⟨Ad, _, k, rfl, h1, h2, hB⟩
theorem two_rused (h : Two c g gr base R w l o l2 o2) {u : Int} (hu : usedL l2 = u) :
    Calls Try.prog 16 #[.pointer (some ⟨gr, 0, none⟩)] w fun e w' => e = .returned (.int .i64 u) ∧ Qt w w' := by
  obtain ⟨F, G, _, hr, _⟩ := h
  exact rused_q hr.u.1 hr.u.2 hu
theorem two_bd (h : Two c g gr base R w l o l2 o2) : (l2.length : Int) ≤ 4096 ∧ 0 ≤ usedL l2 ∧ usedL l2 ≤ 65536 := by
  obtain ⟨F, G, _, ⟨v, hB, hT, _, h3, h4, h5⟩, _⟩ := h
  unfold badC at h5
  have := usedL_nn l2
  omega
end
set_option maxHeartbeats 400000 in
theorem count_qt {g : Nat} {c : Cf} {A : Option Addr} {n k : Nat} {u : Int} {o : Bool} (w : World) (h : Blk w g 54 (qb c (.slice A n k) u o)) :
    Calls Try.prog 14 #[.pointer (some ⟨g, 0, none⟩)] w fun e w' => e = .returned (.int .i64 n) ∧ Qt w w' := by
  obtain ⟨-, -, -, -, c4, -, -, cf⟩ := qb_cells h
  clear h
  go_enter Try.func14, Try.ntmps14
  go_wp2
  go_ret
  exact ⟨rfl, (by repeat (first | with_reducible exact Qt.refl _ | refine Qt.drewN ?_ _ | assumption | refine Qt.trans ?_ (by assumption)))⟩
set_option maxHeartbeats 400000 in
theorem used_qt {g : Nat} {c : Cf} {v : Value} {u : Int} {o : Bool} (w : World) (h : Blk w g 54 (qb c v u o)) :
    Calls Try.prog 15 #[.pointer (some ⟨g, 0, none⟩)] w fun e w' => e = .returned (.int .i64 u) ∧ Qt w w' := by
  obtain ⟨-, -, -, -, -, c5, -, cf⟩ := qb_cells h
  clear h
  go_enter Try.func15, Try.ntmps15
  go_wp2
  go_ret
  exact ⟨rfl, (by repeat (first | with_reducible exact Qt.refl _ | refine Qt.drewN ?_ _ | assumption | refine Qt.trans ?_ (by assumption)))⟩
set_option maxHeartbeats 400000 in
theorem over_qt {g : Nat} {c : Cf} {v : Value} {u : Int} {o : Bool} (w : World) (h : Blk w g 54 (qb c v u o)) :
    Calls Try.prog 17 #[.pointer (some ⟨g, 0, none⟩)] w fun e w' => e = .returned (.bool o) ∧ Qt w w' := by
  obtain ⟨-, -, -, -, -, -, c6, cf⟩ := qb_cells h
  clear h
  go_enter Try.func17, Try.ntmps17
  go_wp2
  go_ret
  exact ⟨rfl, (by repeat (first | with_reducible exact Qt.refl _ | refine Qt.drewN ?_ _ | assumption | refine Qt.trans ?_ (by assumption)))⟩
end Go.Proofs.Ytefcafohhppmbaa
