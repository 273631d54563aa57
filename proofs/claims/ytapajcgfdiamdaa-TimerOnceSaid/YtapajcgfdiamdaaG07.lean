/- The map of timers. No condition. -/
import Derived.Test.YtapajcgfdiamdaaF07
import Derived.Maps.OwnSet
import Derived.Maps.OwnOps
namespace Go.Proofs.Ytapajcgfdiamdaa
open Go.RowKit Go.Kb Go.Maps

theorem keyed_int : Keyed Try.prog 3 := int_keyed Try.underlying3
/-- how a pointer to an entry reads: by its block -/
def ptrR : Value → Option (DataW Unit × List MemPlace)
  | .pointer (some ⟨b, 0, none⟩) => some (.lit (.int .i64 b), [])
  | .pointer none => some (.lit (.bool false), [])
  | _ => none
theorem ptrR_at {v : Value} {b : Nat} {ps : List MemPlace} (h : ptrR v = some (.lit (.int .i64 b), ps)) : v = .pointer (some ⟨b, 0, none⟩) := by
  unfold ptrR at h
  split at h
  · simp at h
    rw [Int.ofNat_inj.1 h.1]
  · simp at h
  · cases h
theorem ptrR_none {v : Value} {ps : List MemPlace} (h : ptrR v = some (.lit (.bool false), ps)) : v = .pointer none := by
  unfold ptrR at h
  split at h
  · simp at h
  · rfl
  · cases h
/-- block M is the map of these entries -/
def MapM (M : Nat) (w : World) (es : List En) : Prop :=
  ∃ D : DataW Unit, w.ownsMap Try.prog 3 ptrR M es.length D ∧ (∀ id, Maps.has D (.int .i64 id) = es.any (fun e => e.id == id)) ∧ (∀ e ∈ es, ∀ z, D.atKey (.int .i64 e.id) z = .lit (.int .i64 e.b)) ∧ Maps.size D = es.length
theorem own_eq {w w' : World} {M n : Nat} {D : DataW Unit} (h : w.ownsMap Try.prog 3 ptrR M n D) (he : w'.heap[M]? = w.heap[M]?) : w'.ownsMap Try.prog 3 ptrR M n D := by
  obtain ⟨es, cl, h1, h2, h3, h4⟩ := h
  exact ⟨es, cl, he.trans h1, h2, h3, h4⟩
theorem own_size {w : World} {M n : Nat} {D : DataW Unit} (h : w.ownsMap Try.prog 3 ptrR M n D) : w.ownsMap Try.prog 3 ptrR M (Maps.size D) D := by
  obtain ⟨es, cl, h1, h2, h3, rfl⟩ := h
  refine ⟨es, cl, h1, h2, ?_, rfl⟩
  rw [Maps.size_eq, length_sorted]
  simp
theorem MapM.lt {M : Nat} {w : World} {es : List En} (h : MapM M w es) : M < w.heap.size := h.choose_spec.1.lt
theorem MapM.ext {M : Nat} {w w' : World} {es : List En} (h : MapM M w es) (E : Ext w w') : MapM M w' es := by
  obtain ⟨D, h1, h2⟩ := h
  exact ⟨D, own_eq h1 (E.block M h1.lt), h2⟩
theorem MapM.mod {M : Nat} {S : Nat → Prop} {w w' : World} {es : List En} (h : MapM M w es) (m : Mod S w w') (hS : ¬ S M) : MapM M w' es := by
  obtain ⟨D, h1, h2⟩ := h
  exact ⟨D, own_eq h1 (m.block M h1.lt hS), h2⟩
theorem MapM.perm {M : Nat} {w : World} {es es' : List En} (h : MapM M w es) (p : es'.Perm es) : MapM M w es' := by
  obtain ⟨D, h1, h2, h3, h4⟩ := h
  refine ⟨D, by rw [p.length_eq]; exact h1, fun id => ?_, fun e he => h3 e (p.mem_iff.1 he), by rw [p.length_eq]; exact h4⟩
  rw [h2 id]
  rw [Bool.eq_iff_iff, List.any_eq_true, List.any_eq_true]
  exact ⟨fun ⟨e, a, b⟩ => ⟨e, p.mem_iff.2 a, b⟩, fun ⟨e, a, b⟩ => ⟨e, p.mem_iff.1 a, b⟩⟩
/-- only ids and blocks count -/
theorem MapM.same {M : Nat} {w : World} {es es' : List En} (h : MapM M w es) (p : es'.map (fun e => (e.id, e.b)) = es.map (fun e => (e.id, e.b))) : MapM M w es' := by
  obtain ⟨D, h1, h2, h3, h4⟩ := h
  have hl : es'.length = es.length := by simpa using congrArg List.length p
  have hm : ∀ e ∈ es', ∃ e2 ∈ es, e2.id = e.id ∧ e2.b = e.b := by
    intro e he
    have : (e.id, e.b) ∈ es'.map (fun e => (e.id, e.b)) := List.mem_map_of_mem he
    rw [p] at this
    obtain ⟨e2, a, b⟩ := List.mem_map.1 this
    simp at b
    exact ⟨e2, a, b⟩
  have hm2 : ∀ e ∈ es, ∃ e2 ∈ es', e2.id = e.id ∧ e2.b = e.b := by
    intro e he
    have : (e.id, e.b) ∈ es.map (fun e => (e.id, e.b)) := List.mem_map_of_mem he
    rw [← p] at this
    obtain ⟨e2, a, b⟩ := List.mem_map.1 this
    simp at b
    exact ⟨e2, a, b⟩
  refine ⟨D, by rw [hl]; exact h1, fun id => ?_, fun e he z => ?_, by rw [hl]; exact h4⟩
  · rw [h2 id, Bool.eq_iff_iff, List.any_eq_true, List.any_eq_true]
    constructor
    · rintro ⟨e, a, b⟩
      obtain ⟨e2, c, d, _⟩ := hm2 e a
      exact ⟨e2, c, by rw [d]; exact b⟩
    · rintro ⟨e, a, b⟩
      obtain ⟨e2, c, d, _⟩ := hm e a
      exact ⟨e2, c, by rw [d]; exact b⟩
  · obtain ⟨e2, a, b, c⟩ := hm e he
    rw [← b, ← c]
    exact h3 e2 a z
theorem MapM.made (w : World) : MapM w.heap.size (w.alloc (.map #[] 0)) [] :=
  ⟨.map [], World.ownsMap_made w Try.prog 3 ptrR, fun id => rfl, (fun e he => by cases he), rfl⟩
theorem key_lit (id : Int) : WideAt.IsKeyLit (.int .i64 id) := trivial
theorem lit_ne {a b : Int} (h : a ≠ b) : (Lit.int .i64 a) ≠ .int .i64 b := by
  intro he
  cases he
  exact h rfl
theorem MapM.put_ {M : Nat} {w' : World} {es : List En} {x : En} {D : DataW Unit} (h2 : ∀ id, Maps.has D (.int .i64 id) = es.any (fun e => e.id == id)) (h3 : ∀ e ∈ es, ∀ z, D.atKey (.int .i64 e.id) z = .lit (.int .i64 e.b)) (h4 : Maps.size D = es.length) (ht : Tidy D) (hx : ∀ e ∈ es, e.id ≠ x.id)
    (h : w'.ownsMap Try.prog 3 ptrR M (es.length + 1) (D.put (.int .i64 x.id) (.lit (.int .i64 x.b)))) : MapM M w' (es ++ [x]) := by
  refine ⟨_, by rw [List.length_append]; exact h, fun id => ?_, fun e he z => ?_, ?_⟩
  · rw [List.any_append]
    by_cases hid : id = x.id
    · subst hid
      rw [has_put_same ht.isMap (key_lit _)]
      simp
    · rw [has_put_other (lit_ne hid), h2 id]
      simp [Ne.symm hid]
  · rcases List.mem_append.1 he with he | he
    · rw [atKey_put_other (lit_ne (hx e he))]
      exact h3 e he z
    · simp at he
      subst he
      exact atKey_put_same ht.isMap (key_lit _) _ _
  · rw [size_put ht, h2, List.length_append, h4]
    have : es.any (fun e => e.id == x.id) = false := by
      rw [List.any_eq_false]
      intro e he
      simpa using hx e he
    rw [this]
    rfl
theorem MapM.del_ {M : Nat} {w' : World} {es es' : List En} {x : En} {D : DataW Unit} (h2 : ∀ id, Maps.has D (.int .i64 id) = es.any (fun e => e.id == id)) (h3 : ∀ e ∈ es, ∀ z, D.atKey (.int .i64 e.id) z = .lit (.int .i64 e.b)) (h4 : Maps.size D = es.length) (ht : Tidy D) (hp : (x :: es').Perm es) (hx : ∀ e ∈ es', e.id ≠ x.id) {n : Nat}
    (h : w'.ownsMap Try.prog 3 ptrR M n (D.del (.int .i64 x.id))) : MapM M w' es' := by
  have hx1 : x ∈ es := hp.mem_iff.1 (by simp)
  have hs : Maps.size (D.del (.int .i64 x.id)) = es'.length := by
    have h5 := size_del ht (k := .int .i64 x.id)
    have h6 : es.any (fun e => e.id == x.id) = true := by
      rw [List.any_eq_true]
      exact ⟨x, hx1, by simp⟩
    rw [h2, h6, h4, ← hp.length_eq] at h5
    simp at h5
    exact h5
  refine ⟨_, by rw [← hs]; exact own_size h, fun id => ?_, fun e he z => ?_, hs⟩
  · by_cases hid : id = x.id
    · subst hid
      rw [has_del_same]
      symm
      rw [List.any_eq_false]
      intro e he
      simpa using hx e he
    · rw [has_del_other (lit_ne hid), h2 id, Bool.eq_iff_iff, List.any_eq_true, List.any_eq_true]
      constructor
      · rintro ⟨e, a, b⟩
        rcases List.mem_cons.1 (hp.mem_iff.2 a) with rfl | c
        · simp at b
          exact absurd b.symm hid
        · exact ⟨e, c, b⟩
      · rintro ⟨e, a, b⟩
        exact ⟨e, hp.mem_iff.1 (by simp [a]), b⟩
  · rw [atKey_del_other (lit_ne (hx e he))]
    exact h3 e (hp.mem_iff.1 (by simp [he])) z
section
variable {ops : Array Oper} {rest : List Oper} {o : Oper} {a : Act} {Q : Exit → Act → World → Prop} {w : World} {M : Nat} {es : List En}
theorem zero_p (w : World) : (zeroValue 56).run Try.prog w = .ok (.pointer none) w := by kernel_rfl
theorem wpList_hit (hg : o.guard = none) (m x : Operand) (hop : o.op = Op.lookup 51 m x true) (hm : a.eval m = .map (some M)) (h : MapM M w es) (e : En) (he : e ∈ es) (hx : a.eval x = .int .i64 e.id) (hw : (Lit.int .i64 e.id).wf = true)
    (hK : wpList Try.prog ops Q rest (a.put o.dst (.tuple #[.pointer (some ⟨e.b, 0, none⟩), .bool true])) w) : wpList Try.prog ops Q (o :: rest) a w := by
  obtain ⟨D, h1, h2, h3, h4⟩ := h
  refine wpList_lookup_own_ok w hg m x _ hop 3 56 keyed_int Try.underlying51 ptrR (zero_p w) (.lit (.bool false)) [] rfl M _ D hm h1 _ _ hx (keyOf_int_mk Try.underlying3 hw) fun v ps hv => ?_
  rw [h3 e he] at hv
  rw [ptrR_at hv, h2]
  have : es.any (fun e' => e'.id == e.id) = true := List.any_eq_true.2 ⟨e, he, by simp⟩
  rw [this]
  exact hK
theorem wpList_miss (hg : o.guard = none) (m x : Operand) (hop : o.op = Op.lookup 51 m x true) (hm : a.eval m = .map (some M)) (h : MapM M w es) (id : Int) (he : ∀ e ∈ es, e.id ≠ id) (hx : a.eval x = .int .i64 id) (hw : (Lit.int .i64 id).wf = true)
    (hK : wpList Try.prog ops Q rest (a.put o.dst (.tuple #[.pointer none, .bool false])) w) : wpList Try.prog ops Q (o :: rest) a w := by
  obtain ⟨D, h1, h2, h3, h4⟩ := h
  refine wpList_lookup_own_ok w hg m x _ hop 3 56 keyed_int Try.underlying51 ptrR (zero_p w) (.lit (.bool false)) [] rfl M _ D hm h1 _ _ hx (keyOf_int_mk Try.underlying3 hw) fun v ps hv => ?_
  have hn : Maps.has D (.int .i64 id) = false := by
    rw [h2, List.any_eq_false]
    intro e he'
    simpa using he e he'
  rw [atKey_of_not_has hn] at hv
  rw [ptrR_none hv, hn]
  exact hK
theorem wpList_put (hg : o.guard = none) (m x v : Operand) (hop : o.op = Op.mapUpdate 51 m x v) (hm : a.eval m = .map (some M)) (h : MapM M w es) (e : En) (he : ∀ e' ∈ es, e'.id ≠ e.id) (hx : a.eval x = .int .i64 e.id) (hv : a.eval v = .pointer (some ⟨e.b, 0, none⟩)) (hw : (Lit.int .i64 e.id).wf = true) (hn : es.length ≤ 1000)
    (hK : ∀ w', MapM M w' (es ++ [e]) → Mod (fun k => k = M) w w' → wpList Try.prog ops Q rest (a.put o.dst undef) w') : wpList Try.prog ops Q (o :: rest) a w := by
  obtain ⟨D, h1, h2, h3, h4⟩ := h
  refine wpList_mapUpdate_own w hg m x v _ hop 3 56 keyed_int Try.underlying51 ptrR M _ D hm h1 (by unfold maxLen; omega) _ _ _ hx hv (keyOf_int_mk Try.underlying3 hw) (.lit (.int .i64 e.b)) [] rfl fun w' h5 h6 => ?_
  exact hK w' (MapM.put_ h2 h3 h4 (h1.tidy keyed_int) he h5) ((Mod.refl _ w).grown h6 fun k hk => .inr (by cases hk; rfl))
theorem wpList_mlen (hg : o.guard = none) (m : Operand) (hop : o.op = Op.call { callee := Callee.builtin Builtin.len, args := #[m], argTypes := #[51] }) (hm : a.eval m = .map (some M)) (h : MapM M w es)
    (hK : wpList Try.prog ops Q rest (a.put o.dst (.int .i64 es.length)) w) : wpList Try.prog ops Q (o :: rest) a w := by
  obtain ⟨D, h1, h2, h3, h4⟩ := h
  refine wpList_len_own w hg m _ hop 3 56 Try.underlying51 ptrR M _ D hm h1 ?_
  rw [h4]
  exact hK
end
/-- 'delete', as a run -/
theorem MapM.drop {M : Nat} {w : World} {es es' : List En} {x : En} (h : MapM M w es) (hp : (x :: es').Perm es) (hx : ∀ e ∈ es', e.id ≠ x.id) (hw : (Lit.int .i64 x.id).wf = true) (ty : TypeId) :
    ∃ w', (Builtin.delete_ #[51, 3] ty #[.map (some M), .int .i64 x.id]).run Try.prog w = .ok (.tuple #[]) w' ∧ MapM M w' es' ∧ Mod (fun k => k = M) w w' := by
  obtain ⟨D, h1, h2, h3, h4⟩ := h
  obtain ⟨w', r, h5, h6⟩ := h1.drop keyed_int Try.underlying51 (keyOf_int_mk Try.underlying3 hw) ty
  exact ⟨w', r, MapM.del_ h2 h3 h4 (h1.tidy keyed_int) hp hx h5, (Mod.refl _ w).grown h6.grown fun k hk => .inr (by cases hk; rfl)⟩
end Go.Proofs.Ytapajcgfdiamdaa
