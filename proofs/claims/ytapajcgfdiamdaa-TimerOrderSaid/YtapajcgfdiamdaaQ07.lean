/- The order in which timers are set, plain; a map of what was seen. No condition. -/
import Derived.Test.YtapajcgfdiamdaaO07
namespace Go.Proofs.Ytapajcgfdiamdaa
open Go.RowKit Go.Kb Go.Maps

/-- timers that are set one behind the other -/
def setAll (os : List (Int × Int × Int)) : List (Int × Int) := os.foldl (fun L o => insL (o.2.1, o.2.2) (remL o.2.1 L)) []
theorem setAll_snoc {os : List (Int × Int × Int)} {m : Nat} {d : Int × Int × Int} (h : os[m]? = some d) : setAll (os.take (m + 1)) = insL (d.2.1, d.2.2) (remL d.2.1 (setAll (os.take m))) := by
  unfold setAll
  rw [List.take_add_one, h, List.foldl_append]
  rfl
theorem setAll_perm : ∀ (os : List (Int × Int × Int)), (os.map (·.2.1)).Nodup → (setAll os).Perm (os.map (·.2)) ∧ srt (setAll os) := by
  intro os
  suffices key : ∀ (os : List (Int × Int × Int)) (L : List (Int × Int)), srt L → (os.map (·.2.1)).Nodup → (∀ o ∈ os, ∀ x ∈ L, x.1 ≠ o.2.1) → (os.foldl (fun L o => insL (o.2.1, o.2.2) (remL o.2.1 L)) L).Perm (os.map (·.2) ++ L) ∧ srt (os.foldl (fun L o => insL (o.2.1, o.2.2) (remL o.2.1 L)) L) by
    intro hn
    have := key os [] List.Pairwise.nil hn (by simp)
    unfold setAll
    simpa using this
  intro os
  induction os with
  | nil => intro L hs _ _; exact ⟨.refl _, hs⟩
  | cons o r ih =>
    intro L hs hn hd
    rw [List.map_cons, List.nodup_cons] at hn
    have hno : hasL L o.2.1 = false := by
      unfold hasL
      rw [List.any_eq_false]
      intro x hx
      simpa using hd o (by simp) x hx
    have hr : remL o.2.1 L = L := rem_none hno
    have h1 := ih (insL (o.2.1, o.2.2) (remL o.2.1 L)) (ins_srt (rem_srt hs) rem_ids) hn.2 (by
      intro p hp x hx he
      rcases List.mem_cons.1 ((ins_perm _ _).mem_iff.1 hx) with rfl | hx
      · have he : o.2.1 = p.2.1 := he
        exact hn.1 (by rw [he]; exact List.mem_map.2 ⟨p, hp, rfl⟩)
      · exact hd p (by simp [hp]) x (List.mem_filter.1 hx).1 he)
    refine ⟨h1.1.trans ?_, h1.2⟩
    rw [hr]
    refine ((ins_perm _ _).append_left _).trans ?_
    exact List.perm_middle
theorem setAll_len {os : List (Int × Int × Int)} (h : (os.map (·.2.1)).Nodup) : (setAll os).length = os.length := by
  have := (setAll_perm os h).1.length_eq
  simpa using this
theorem setAll_rev {os : List (Int × Int × Int)} (h : (os.map (·.2.1)).Nodup) : setAll os.reverse = setAll os := by
  have h2 : (os.reverse.map (·.2.1)).Nodup := by rw [List.map_reverse]; exact (List.reverse_perm _).nodup_iff.2 h
  refine srt_ext (setAll_perm _ h2).2 (setAll_perm _ h).2 ?_
  refine (setAll_perm _ h2).1.trans (((List.reverse_perm os).map _).trans (setAll_perm _ h).1.symm)
theorem not_full {L : List (Int × Int)} {id : Int} (h : L.length < 256) : fullL L id = false := by
  unfold fullL
  rw [show (L.length == 256) = false by rw [beq_eq_false_iff_ne]; omega]
  simp
theorem rest_all {L : List (Int × Int)} {now : Int} (h : ∀ x ∈ L, x.2 ≤ now) : restL now L = [] := by
  induction L with
  | nil => rfl
  | cons x r ih =>
    rw [(due_yes (h x (by simp))).2]
    exact ih fun y hy => h y (by simp [hy])
theorem rest_sub {L : List (Int × Int)} {now : Int} : ∀ x ∈ restL now L, x ∈ L := fun _ hx => (List.dropWhile_sublist _).subset hx
/-- block M is the set of these numbers -/
def MapB (M : Nat) (w : World) (S : List Int) : Prop :=
  ∃ D : DataW Unit, w.ownsMap Try.prog 3 (plainElem Try.prog 4) M S.length D ∧ (∀ id, D.atKey (.int .i64 id) (.lit (.bool false)) = .lit (.bool (decide (id ∈ S)))) ∧ (∀ id, Maps.has D (.int .i64 id) = decide (id ∈ S)) ∧ Maps.size D = S.length
theorem MapB.lt {M : Nat} {w : World} {S : List Int} (h : MapB M w S) : M < w.heap.size := h.choose_spec.1.lt
theorem MapB.ext {M : Nat} {w w' : World} {S : List Int} (h : MapB M w S) (E : Ext w w') : MapB M w' S := by
  obtain ⟨D, h1, h2⟩ := h
  exact ⟨D, own_eqR h1 (E.block M h1.lt), h2⟩
theorem MapB.mod {M : Nat} {S : Nat → Prop} {w w' : World} {l : List Int} (h : MapB M w l) (m : Mod S w w') (hS : ¬ S M) : MapB M w' l := by
  obtain ⟨D, h1, h2⟩ := h
  exact ⟨D, own_eqR h1 (m.block M h1.lt hS), h2⟩
theorem MapB.made (w : World) : MapB w.heap.size (w.alloc (.map #[] 0)) [] :=
  ⟨.map [], World.ownsMap_made w Try.prog 3 (plainElem Try.prog 4), fun _ => rfl, fun _ => rfl, rfl⟩
section
variable {ops : Array Oper} {rest : List Oper} {o : Oper} {a : Act} {Q : Exit → Act → World → Prop} {w : World} {M : Nat} {S : List Int}
theorem zero_b (w : World) : (zeroValue 4).run Try.prog w = .ok (.bool false) w := by kernel_rfl
theorem plain_bool {v : Value} {x : Bool} {ps : List MemPlace} (h : plainElem (H := Unit) Try.prog 4 v = some (.lit (.bool x), ps)) : v = .bool x := by
  unfold plainElem at h
  rw [Try.underlying4] at h
  cases v <;> simp at h
  rw [h.1]
theorem wpList_seen (hg : o.guard = none) (m x : Operand) (hop : o.op = Op.lookup 48 m x false) (hm : a.eval m = .map (some M)) (h : MapB M w S) (id : Int) (hx : a.eval x = .int .i64 id) (hw : (Lit.int .i64 id).wf = true) (b : Bool) (hb : decide (id ∈ S) = b)
    (hK : wpList Try.prog ops Q rest (a.put o.dst (.bool b)) w) : wpList Try.prog ops Q (o :: rest) a w := by
  obtain ⟨D, h1, h2, h3, h4⟩ := h
  refine wpList_plain hg fun K' hK' => ?_
  obtain ⟨v, ps, hrun, hv⟩ := h1.lookup keyed_int Try.underlying48 (zero_b w) (zd := .lit (.bool false)) (zp := []) (plainElem_bool Try.underlying4 false) (keyOf_int_mk Try.underlying3 hw)
  rw [h2, hb] at hv
  have hv := plain_bool hv
  subst hv
  unfold Oper.wp
  simp [execOp, hop, hm, hx, hrun, Result.andThen]
  exact hK' _ _ hK
theorem wpList_see (hg : o.guard = none) (m x v : Operand) (hop : o.op = Op.mapUpdate 48 m x v) (hm : a.eval m = .map (some M)) (h : MapB M w S) (id : Int) (hid : id ∉ S) (hx : a.eval x = .int .i64 id) (hv : a.eval v = .bool true) (hw : (Lit.int .i64 id).wf = true) (hl : S.length ≤ 1000)
    (hK : ∀ w', MapB M w' (S ++ [id]) → Mod (fun k => k = M) w w' → wpList Try.prog ops Q rest (a.put o.dst undef) w') : wpList Try.prog ops Q (o :: rest) a w := by
  obtain ⟨D, h1, h2, h3, h4⟩ := h
  refine wpList_mapUpdate_own w hg m x v _ hop 3 4 keyed_int Try.underlying48 (plainElem Try.prog 4) M _ D hm h1 (by unfold maxLen; omega) _ _ _ hx hv (keyOf_int_mk Try.underlying3 hw) _ [] (plainElem_bool Try.underlying4 true) fun w' h5 h6 => ?_
  have ht := h1.tidy keyed_int
  have hs : Maps.size (D.put (.int .i64 id) (.lit (.bool true))) = (S ++ [id]).length := by
    rw [size_put ht, h3, h4]
    simp [hid]
  refine hK w' ⟨_, by rw [← hs]; exact own_sizeR h5, fun k => ?_, fun k => ?_, hs⟩ ((Mod.refl _ w).grown h6 fun k hk => .inr (by cases hk; rfl))
  · by_cases hk : k = id
    · subst hk
      rw [atKey_put_same ht.isMap (key_lit _)]
      simp
    · rw [atKey_put_other (lit_ne hk), h2 k]
      simp [hk]
  · by_cases hk : k = id
    · subst hk
      rw [has_put_same ht.isMap (key_lit _)]
      simp
    · rw [has_put_other (lit_ne hk), h3 k]
      simp [hk]
end
end Go.Proofs.Ytapajcgfdiamdaa
