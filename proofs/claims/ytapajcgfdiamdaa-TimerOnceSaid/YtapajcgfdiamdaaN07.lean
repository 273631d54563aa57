/- Steps of timers as numbers; a map of times; plain laws of lists. No condition. -/
import Derived.Test.YtapajcgfdiamdaaM07
namespace Go.Kb
/-- a step, as three numbers -/
def Rep.op3 : Rep (Int × Int × Int) where
  size := 3
  pos := by decide
  rel := fun _ _ cs d => cs = [.int .i64 d.1, .int .i64 d.2.1, .int .i64 d.2.2]
  len := fun h => by rw [h]; rfl
  one := fun h u hu => by
    rw [h] at hu
    simp only [List.mem_cons, List.not_mem_nil, or_false] at hu
    rcases hu with rfl | rfl | rfl <;> rfl
  keep := fun h _ => h
end Go.Kb
namespace Go.Proofs.Ytapajcgfdiamdaa
open Go.RowKit Go.Kb Go.Maps

theorem op_at {A : Nat → Prop} {w : World} {Ad : Option Addr} {n c j : Nat} {l : List (Int × Int × Int)} (h : RdY Rep.op3 A w (.slice Ad n c) l) (hj : j < n) : ∃ b off d, Ad = some ⟨b, off, none⟩ ∧ l[j]? = some d ∧
    w.cell? ⟨b, off + j * 3, none⟩ = some (.int .i64 d.1) ∧ w.cell? ⟨b, off + j * 3 + 1, none⟩ = some (.int .i64 d.2.1) ∧ w.cell? ⟨b, off + j * 3 + 2, none⟩ = some (.int .i64 d.2.2) := by
  obtain ⟨_, _, hv, _⟩ := h.shape
  simp only [Value.slice.injEq] at hv
  obtain ⟨rfl, rfl, rfl⟩ := hv
  obtain ⟨b, off, c', d, cs, hv, hd, hr, _, hc⟩ := h.cells hj
  simp only [Value.slice.injEq] at hv
  have hr : cs = [.int .i64 d.1, .int .i64 d.2.1, .int .i64 d.2.2] := hr.out
  subst hr
  exact ⟨b, off, d, hv.1, hd.out, hc 0 _ rfl, hc 1 _ rfl, hc 2 _ rfl⟩
/-- block M is the map of the times of this list -/
def MapL (M : Nat) (w : World) (L : List (Int × Int)) : Prop :=
  ∃ D : DataW Unit, w.ownsMap Try.prog 3 (plainElem Try.prog 2) M L.length D ∧ (∀ id, Maps.has D (.int .i64 id) = hasL L id) ∧ (∀ x ∈ L, ∀ z, D.atKey (.int .i64 x.1) z = .lit (.int .i64 x.2)) ∧ Maps.size D = L.length
theorem own_eqR {R : Value → Option (DataW Unit × List MemPlace)} {w w' : World} {k : TypeId} {M n : Nat} {D : DataW Unit} (h : w.ownsMap Try.prog k R M n D) (he : w'.heap[M]? = w.heap[M]?) : w'.ownsMap Try.prog k R M n D := by
  obtain ⟨es, cl, h1, h2, h3, h4⟩ := h
  exact ⟨es, cl, he.trans h1, h2, h3, h4⟩
theorem own_sizeR {R : Value → Option (DataW Unit × List MemPlace)} {w : World} {k : TypeId} {M n : Nat} {D : DataW Unit} (h : w.ownsMap Try.prog k R M n D) : w.ownsMap Try.prog k R M (Maps.size D) D := by
  obtain ⟨es, cl, h1, h2, h3, rfl⟩ := h
  refine ⟨es, cl, h1, h2, ?_, rfl⟩
  rw [Maps.size_eq, length_sorted]
  simp
theorem MapL.lt {M : Nat} {w : World} {L : List (Int × Int)} (h : MapL M w L) : M < w.heap.size := h.choose_spec.1.lt
theorem MapL.ext {M : Nat} {w w' : World} {L : List (Int × Int)} (h : MapL M w L) (E : Ext w w') : MapL M w' L := by
  obtain ⟨D, h1, h2⟩ := h
  exact ⟨D, own_eqR h1 (E.block M h1.lt), h2⟩
theorem MapL.mod {M : Nat} {S : Nat → Prop} {w w' : World} {L : List (Int × Int)} (h : MapL M w L) (m : Mod S w w') (hS : ¬ S M) : MapL M w' L := by
  obtain ⟨D, h1, h2⟩ := h
  exact ⟨D, own_eqR h1 (m.block M h1.lt hS), h2⟩
theorem MapL.made (w : World) : MapL w.heap.size (w.alloc (.map #[] 0)) [] :=
  ⟨.map [], World.ownsMap_made w Try.prog 3 (plainElem Try.prog 2), fun _ => rfl, (fun _ he => by cases he), rfl⟩
theorem has_ins {L : List (Int × Int)} {id due : Int} (k : Int) : hasL (insL (id, due) (remL id L)) k = (decide (id = k) || hasL L k) := by
  unfold hasL
  rw [Bool.eq_iff_iff, List.any_eq_true, Bool.or_eq_true, List.any_eq_true, decide_eq_true_eq]
  constructor
  · rintro ⟨x, hx, hk⟩
    rcases List.mem_cons.1 ((ins_perm _ _).mem_iff.1 hx) with rfl | hx
    · exact .inl (by simpa using hk)
    · exact .inr ⟨x, (List.mem_filter.1 hx).1, hk⟩
  · rintro (rfl | ⟨x, hx, hk⟩)
    · exact ⟨(id, due), (ins_perm _ _).mem_iff.2 (by simp), by simp⟩
    · by_cases he : x.1 = id
      · refine ⟨(id, due), (ins_perm _ _).mem_iff.2 (by simp), ?_⟩
        rw [he] at hk
        exact hk
      · exact ⟨x, (ins_perm _ _).mem_iff.2 (List.mem_cons.2 (.inr (List.mem_filter.2 ⟨hx, by simpa using he⟩))), hk⟩
theorem rem_len {L : List (Int × Int)} {id : Int} (hn : (L.map (·.1)).Nodup) : (remL id L).length + (if hasL L id then 1 else 0) = L.length := by
  induction L with
  | nil => rfl
  | cons x r ih =>
    rw [List.map_cons, List.nodup_cons] at hn
    have ih := ih hn.2
    by_cases hx : x.1 = id
    · have hr : hasL r id = false := by
        unfold hasL
        rw [List.any_eq_false]
        intro y hy hk
        exact hn.1 (by rw [hx]; simp at hk; rw [← hk]; exact List.mem_map_of_mem hy)
      have h1 : remL id (x :: r) = remL id r := by unfold remL; rw [List.filter_cons]; simp [hx]
      have h2 : hasL (x :: r) id = true := by unfold hasL; simp [hx]
      rw [hr] at ih
      rw [h1, h2]
      simp at ih ⊢
      omega
    · have h1 : remL id (x :: r) = x :: remL id r := by unfold remL; rw [List.filter_cons]; simp [hx]
      have h2 : hasL (x :: r) id = hasL r id := by unfold hasL; simp [hx]
      rw [h1, h2]
      simp only [List.length_cons]
      omega
theorem ins_len {L : List (Int × Int)} {id due : Int} (hn : (L.map (·.1)).Nodup) : (insL (id, due) (remL id L)).length = if hasL L id then L.length else L.length + 1 := by
  have := rem_len (id := id) hn
  rw [(ins_perm _ _).length_eq, List.length_cons]
  split <;> simp_all
theorem MapL.put_ {M n : Nat} {w' : World} {L : List (Int × Int)} {id due : Int} {D : DataW Unit} (hn : (L.map (·.1)).Nodup) (h2 : ∀ id, Maps.has D (.int .i64 id) = hasL L id) (h3 : ∀ x ∈ L, ∀ z, D.atKey (.int .i64 x.1) z = .lit (.int .i64 x.2)) (h4 : Maps.size D = L.length) (ht : Tidy D)
    (h : w'.ownsMap Try.prog 3 (plainElem Try.prog 2) M n (D.put (.int .i64 id) (.lit (.int .i64 due)))) : MapL M w' (insL (id, due) (remL id L)) := by
  have hs : Maps.size (D.put (.int .i64 id) (.lit (.int .i64 due))) = (insL (id, due) (remL id L)).length := by
    rw [size_put ht, h2, ins_len hn, h4]
  refine ⟨_, by rw [← hs]; exact own_sizeR h, fun k => ?_, fun x hx z => ?_, hs⟩
  · rw [has_ins]
    by_cases hk : id = k
    · subst hk
      rw [has_put_same ht.isMap (key_lit _)]
      simp
    · rw [has_put_other (lit_ne (Ne.symm hk)), h2 k]
      simp [hk]
  · rcases List.mem_cons.1 ((ins_perm _ _).mem_iff.1 hx) with rfl | hx
    · exact atKey_put_same ht.isMap (key_lit _) _ _
    · rw [atKey_put_other (lit_ne (rem_ids x hx))]
      exact h3 x (List.mem_filter.1 hx).1 z
section
variable {ops : Array Oper} {rest : List Oper} {o : Oper} {a : Act} {Q : Exit → Act → World → Prop} {w : World} {M : Nat} {L : List (Int × Int)}
theorem zero_64 (w : World) : (zeroValue 2).run Try.prog w = .ok (.int .i64 0) w := by kernel_rfl
theorem wpList_lhit (hg : o.guard = none) (m x : Operand) (hop : o.op = Op.lookup 45 m x true) (hm : a.eval m = .map (some M)) (h : MapL M w L) (id due : Int) (he : (id, due) ∈ L) (hx : a.eval x = .int .i64 id) (hw : (Lit.int .i64 id).wf = true)
    (hK : wpList Try.prog ops Q rest (a.put o.dst (.tuple #[.int .i64 due, .bool true])) w) : wpList Try.prog ops Q (o :: rest) a w := by
  obtain ⟨D, h1, h2, h3, h4⟩ := h
  refine wpList_lookup_own_ok_int w hg m x _ hop 3 2 .i64 keyed_int Try.underlying45 Try.underlying2 (zero_64 w) M _ D hm h1 _ _ hx (keyOf_int_mk Try.underlying3 hw) fun c hc _ => ?_
  rw [h3 _ he] at hc
  cases hc
  rw [h2, show hasL L id = true from List.any_eq_true.2 ⟨_, he, by simp⟩]
  exact hK
theorem wpList_lmiss (hg : o.guard = none) (m x : Operand) (hop : o.op = Op.lookup 45 m x true) (hm : a.eval m = .map (some M)) (h : MapL M w L) (id : Int) (he : hasL L id = false) (hx : a.eval x = .int .i64 id) (hw : (Lit.int .i64 id).wf = true)
    (hK : wpList Try.prog ops Q rest (a.put o.dst (.tuple #[.int .i64 0, .bool false])) w) : wpList Try.prog ops Q (o :: rest) a w := by
  obtain ⟨D, h1, h2, h3, h4⟩ := h
  refine wpList_lookup_own_ok_int w hg m x _ hop 3 2 .i64 keyed_int Try.underlying45 Try.underlying2 (zero_64 w) M _ D hm h1 _ _ hx (keyOf_int_mk Try.underlying3 hw) fun c hc _ => ?_
  have hn : Maps.has D (.int .i64 id) = false := by rw [h2, he]
  rw [atKey_of_not_has hn] at hc
  cases hc
  rw [hn]
  exact hK
theorem wpList_lput (hg : o.guard = none) (m x v : Operand) (hop : o.op = Op.mapUpdate 45 m x v) (hm : a.eval m = .map (some M)) (h : MapL M w L) (hn : (L.map (·.1)).Nodup) (id due : Int) (hx : a.eval x = .int .i64 id) (hv : a.eval v = .int .i64 due) (hw : (Lit.int .i64 id).wf = true) (hwd : (Lit.int .i64 due).wf = true) (hl : L.length ≤ 1000)
    (hK : ∀ w', MapL M w' (insL (id, due) (remL id L)) → Mod (fun k => k = M) w w' → wpList Try.prog ops Q rest (a.put o.dst undef) w') : wpList Try.prog ops Q (o :: rest) a w := by
  obtain ⟨D, h1, h2, h3, h4⟩ := h
  refine wpList_mapUpdate_own w hg m x v _ hop 3 2 keyed_int Try.underlying45 (plainElem Try.prog 2) M _ D hm h1 (by unfold maxLen; omega) _ _ _ hx hv (keyOf_int_mk Try.underlying3 hw) _ [] (plainElem_int Try.underlying2 hwd) fun w' h5 h6 => ?_
  exact hK w' (MapL.put_ hn h2 h3 h4 (h1.tidy keyed_int) h5) ((Mod.refl _ w).grown h6 fun k hk => .inr (by cases hk; rfl))
end
/-- set anew and then as it was -/
theorem ins_back {L : List (Int × Int)} {id due at_ : Int} (hs : srt L) (hn : (L.map (·.1)).Nodup) (h : (id, due) ∈ L) : insL (id, due) (remL id (insL (id, at_) (remL id L))) = L := by
  have e1 : (remL id (insL (id, at_) (remL id L))).Perm (remL id L) := by
    have := (ins_perm (id, at_) (remL id L)).filter (fun y => y.1 != id)
    rw [List.filter_cons] at this
    simp only [bne_self_eq_false, Bool.false_eq_true, if_false] at this
    refine this.trans ?_
    rw [List.filter_eq_self.2 (fun y hy => by simpa using rem_ids y hy)]
  have h1 : srt (insL (id, at_) (remL id L)) := ins_srt (rem_srt hs) rem_ids
  refine srt_ext (ins_srt (rem_srt h1) rem_ids) hs ?_
  refine (ins_perm _ _).trans ((e1.cons _).trans ?_)
  clear e1 h1 hs
  induction L with
  | nil => cases h
  | cons x r ih =>
    rw [List.map_cons, List.nodup_cons] at hn
    rcases List.mem_cons.1 h with rfl | hr
    · have : remL id ((id, due) :: r) = r := by
        have := rem_head (x := (id, due)) (r := r) (by rw [List.map_cons, List.nodup_cons]; exact hn)
        exact this
      rw [this]
    · have hx : x.1 ≠ id := fun he => hn.1 (by rw [he]; exact List.mem_map.2 ⟨_, hr, rfl⟩)
      have : remL id (x :: r) = x :: remL id r := by unfold remL; rw [List.filter_cons]; simp [hx]
      rw [this]
      exact (List.Perm.swap x (id, due) _).trans ((ih hn.2 hr).cons x)
/-- set and taken away again -/
theorem ins_away {L : List (Int × Int)} {id at_ : Int} (hs : srt L) (h : hasL L id = false) : remL id (insL (id, at_) (remL id L)) = L := by
  have h0 : remL id L = L := rem_none h
  have h1 : srt (insL (id, at_) (remL id L)) := ins_srt (rem_srt hs) rem_ids
  refine srt_ext (rem_srt h1) hs ?_
  have := (ins_perm (id, at_) (remL id L)).filter (fun y => y.1 != id)
  rw [List.filter_cons] at this
  simp only [bne_self_eq_false, Bool.false_eq_true, if_false] at this
  refine this.trans ?_
  rw [List.filter_eq_self.2 (fun y hy => by simpa using rem_ids y hy), h0]
theorem has_mem {L : List (Int × Int)} {id : Int} (h : hasL L id = true) : ∃ due, (id, due) ∈ L := by
  obtain ⟨x, hx, hk⟩ := List.any_eq_true.1 h
  simp at hk
  subst hk
  exact ⟨x.2, hx⟩
end Go.Proofs.Ytapajcgfdiamdaa
