/- The map of times: delete, look-up without 'ok', len, range; plain laws of what is due. No condition. -/
import Derived.Test.YtapajcgfdiamdaaN07
import Derived.Maps.RangeWalk
namespace Go.Proofs.Ytapajcgfdiamdaa
open Go.RowKit Go.Kb Go.Maps

theorem int_atc {B : Nat → Prop} {w : World} {Ad : Option Addr} {K d m : Nat} {l : List Int} {y : Int} (h : RdY Ib B w (.slice Ad K d) l) (hd : l[m]? = some y) (hm : m < K) : ∃ b off, Ad = some ⟨b, off, none⟩ ∧ w.cell? ⟨b, off + m, none⟩ = some (.int .i64 y) := by
  obtain ⟨b', off', u, y', he, hc, hd', hu⟩ := RdY.at1 h rfl hm
  have hu : [u] = [Value.int .i64 y'] := hu.out
  cases hu
  have := hd'.out
  rw [hd] at this
  cases this
  exact ⟨b', off', he, hc⟩
theorem setO_full {L : List (Int × Int)} {id due : Int} (h : fullL L id = true) : setE L id = 6 ∧ setT L id due = L := by unfold setE setT; rw [h]; exact ⟨rfl, rfl⟩
theorem setO_done {L : List (Int × Int)} {id due : Int} (h : fullL L id = false) : setE L id = 0 ∧ setT L id due = insL (id, due) (remL id L) := by unfold setE setT; rw [h]; exact ⟨rfl, rfl⟩
theorem has_rem {L : List (Int × Int)} {id : Int} (k : Int) : hasL (remL id L) k = (!decide (k = id) && hasL L k) := by
  unfold hasL remL
  rw [Bool.eq_iff_iff, List.any_eq_true, Bool.and_eq_true, List.any_eq_true]
  constructor
  · rintro ⟨x, hx, he⟩
    obtain ⟨h1, h2⟩ := List.mem_filter.1 hx
    simp at he h2
    subst he
    exact ⟨by simp [h2], x, h1, by simp⟩
  · rintro ⟨h1, x, hx, he⟩
    simp at h1 he
    subst he
    exact ⟨x, List.mem_filter.2 ⟨hx, by simp [h1]⟩, by simp⟩
theorem MapL.del_ {M n : Nat} {w' : World} {L : List (Int × Int)} {id : Int} {D : DataW Unit} (hn : (L.map (·.1)).Nodup) (h2 : ∀ id, Maps.has D (.int .i64 id) = hasL L id) (h3 : ∀ x ∈ L, ∀ z, D.atKey (.int .i64 x.1) z = .lit (.int .i64 x.2)) (h4 : Maps.size D = L.length) (ht : Tidy D)
    (h : w'.ownsMap Try.prog 3 (plainElem Try.prog 2) M n (D.del (.int .i64 id))) : MapL M w' (remL id L) := by
  have hs : Maps.size (D.del (.int .i64 id)) = (remL id L).length := by
    have h5 := size_del ht (k := .int .i64 id)
    have h6 := rem_len (id := id) hn
    rw [h2, h4] at h5
    split at h6 <;> simp_all <;> omega
  refine ⟨_, by rw [← hs]; exact own_sizeR h, fun k => ?_, fun x hx z => ?_, hs⟩
  · rw [has_rem]
    by_cases hk : k = id
    · subst hk
      rw [has_del_same]
      simp
    · rw [has_del_other (lit_ne hk), h2 k]
      simp [hk]
  · rw [atKey_del_other (lit_ne (rem_ids x hx))]
    exact h3 x (List.mem_filter.1 hx).1 z
section
variable {ops : Array Oper} {rest : List Oper} {o : Oper} {a : Act} {Q : Exit → Act → World → Prop} {w : World} {M : Nat} {L : List (Int × Int)}
theorem wpList_ldel (hg : o.guard = none) (m x : Operand) (hop : o.op = Op.call { callee := Callee.builtin Builtin.delete, args := #[m, x], argTypes := #[45, 3] }) (hm : a.eval m = .map (some M)) (h : MapL M w L) (hn : (L.map (·.1)).Nodup) (id : Int) (hx : a.eval x = .int .i64 id) (hw : (Lit.int .i64 id).wf = true)
    (hK : ∀ w', MapL M w' (remL id L) → Mod (fun k => k = M) w w' → wpList Try.prog ops Q rest (a.put o.dst (.tuple #[])) w') : wpList Try.prog ops Q (o :: rest) a w := by
  obtain ⟨D, h1, h2, h3, h4⟩ := h
  refine wpList_delete_own w hg m x _ _ hop 2 keyed_int Try.underlying45 (plainElem Try.prog 2) M _ D hm h1 _ _ hx (keyOf_int_mk Try.underlying3 hw) fun w' h5 h6 => ?_
  exact hK w' (MapL.del_ hn h2 h3 h4 (h1.tidy keyed_int) h5) ((Mod.refl _ w).grown h6.grown fun k hk => .inr (by cases hk; rfl))
theorem wpList_llen (hg : o.guard = none) (m : Operand) (hop : o.op = Op.call { callee := Callee.builtin Builtin.len, args := #[m], argTypes := #[45] }) (hm : a.eval m = .map (some M)) (h : MapL M w L)
    (hK : wpList Try.prog ops Q rest (a.put o.dst (.int .i64 L.length)) w) : wpList Try.prog ops Q (o :: rest) a w := by
  obtain ⟨D, h1, h2, h3, h4⟩ := h
  refine wpList_len_own w hg m _ hop 3 2 Try.underlying45 (plainElem Try.prog 2) M _ D hm h1 ?_
  rw [h4]
  exact hK
theorem MapL.look (h : MapL M w L) {id due : Int} (he : (id, due) ∈ L) (hw : (Lit.int .i64 id).wf = true) : (Instr.lookup 45 (.map (some M)) (.int .i64 id) false).run Try.prog w = .ok (.int .i64 due) w := by
  obtain ⟨D, h1, h2, h3, h4⟩ := h
  obtain ⟨c, hrun, hat, hwc⟩ := h1.lookup_int keyed_int Try.underlying45 Try.underlying2 (zero_64 w) (keyOf_int_mk Try.underlying3 hw)
  rw [h3 _ he] at hat
  cases hat
  exact hrun
/-- a range over the map, with so many to come -/
def RanL (M r : Nat) (w : World) (L : List (Int × Int)) (cnt : Nat) : Prop :=
  ∃ (D : DataW Unit) (n : Nat) (left : Lit → Bool), w.ranges Try.prog 3 (plainElem Try.prog 2) M r n D left cnt ∧ (∀ id, Maps.has D (.int .i64 id) = hasL L id) ∧ (∀ x ∈ L, ∀ z, D.atKey (.int .i64 x.1) z = .lit (.int .i64 x.2)) ∧ (∀ kl, left kl = true → Maps.has D kl = true)
theorem wpList_lrange (hg : o.guard = none) (m : Operand) (hop : o.op = Op.range 45 m) (hm : a.eval m = .map (some M)) (h : MapL M w L)
    (hK : ∀ w' cnt, RanL M w.heap.size w' L cnt → Ext w w' → w'.heap.size = w.heap.size + 1 → wpList Try.prog ops Q rest (a.put o.dst (.pointer (some ⟨w.heap.size, 0, none⟩))) w') : wpList Try.prog ops Q (o :: rest) a w := by
  obtain ⟨D, h1, h2, h3, h4⟩ := h
  refine wpList_range_own w hg m _ hop 3 2 keyed_int Try.underlying45 (plainElem Try.prog 2) M _ D hm h1 fun w' h5 h6 h7 => ?_
  exact hK w' _ ⟨D, _, _, h5, h2, h3, fun _ h => h⟩ (Ext.grownNew (Ext.refl _) h6 fun k hk => by cases hk) h7
theorem wpList_lnext {r cnt : Nat} (hg : o.guard = none) (it : Operand) (hop : o.op = Op.next it false) (hit : a.eval it = .pointer (some ⟨r, 0, none⟩)) (h : RanL M r w L cnt)
    (hDone : True → wpList Try.prog ops Q rest (a.put o.dst (.tuple #[.bool false])) w)
    (hMore : ∀ (x c : Int) (w' : World) (cnt' : Nat), (x, c) ∈ L → RanL M r w' L cnt' → cnt' < cnt → Mod (fun k => k = r) w w' → (Instr.entry (.pointer (some ⟨r, 0, none⟩))).run Try.prog w' = .ok (.tuple #[.int .i64 x, .int .i64 c]) w' → wpList Try.prog ops Q rest (a.put o.dst (.tuple #[.bool true, .int .i64 x, .int .i64 c])) w') : wpList Try.prog ops Q (o :: rest) a w := by
  obtain ⟨D, n, left, h1, h2, h3, h4⟩ := h
  refine wpList_next_ranges_ii w hg it hop 3 2 .i64 .i64 keyed_int Try.underlying3 Try.underlying2 M r n D left cnt hit h1 (fun _ _ => hDone trivial) fun x c w' cnt' hx hc hl hat hr hlt hg1 hs hen => ?_
  have hh := h4 _ hl
  rw [h2] at hh
  obtain ⟨y, hy, he⟩ := List.any_eq_true.1 hh
  obtain ⟨y1, y2⟩ := y
  simp at he
  subst he
  have := (hat (.lit (.int .i64 0))).symm.trans (h3 _ hy (.lit (.int .i64 0)))
  simp only at this
  cases this
  exact hMore _ _ w' cnt' hy ⟨D, n, _, hr, h2, h3, fun kl hk => h4 kl (by simp at hk; exact hk.1)⟩ hlt ((Mod.refl _ w).grown hg1 fun k hk => .inr (by cases hk; rfl)) hen
end
theorem due_cut (now : Int) : ∀ L : List (Int × Int), ∃ k, k ≤ L.length ∧ dueL now L = (L.take k).map (·.1) ∧ restL now L = L.drop k ∧ (∀ j d, j < k → L[j]? = some d → d.2 ≤ now) ∧ (∀ d, L[k]? = some d → ¬ d.2 ≤ now)
  | [] => ⟨0, Nat.le_refl _, rfl, rfl, by simp, by simp⟩
  | x :: r => by
    by_cases hx : x.2 ≤ now
    · obtain ⟨k, h1, h2, h3, h4, h5⟩ := due_cut now r
      obtain ⟨e1, e2⟩ := due_yes (r := r) hx
      refine ⟨k + 1, by simpa using h1, by rw [e1, h2]; rfl, by rw [e2, h3]; rfl, fun j d hj hd => ?_, by simpa using h5⟩
      rcases j with _ | j
      · simp at hd
        subst hd
        exact hx
      · exact h4 j d (by omega) (by simpa using hd)
    · obtain ⟨e1, e2⟩ := due_no (r := r) hx
      refine ⟨0, Nat.zero_le _, by rw [e1]; rfl, by rw [e2]; rfl, by simp, fun d hd => ?_⟩
      simp at hd
      subst hd
      exact hx
theorem srt_two {L : List (Int × Int)} (h : srt L) {i j : Nat} {x y : Int × Int} (hij : i < j) (hx : L[i]? = some x) (hy : L[j]? = some y) : befK x y = true := by
  obtain ⟨hi, rfl⟩ := List.getElem?_eq_some_iff.1 hx
  obtain ⟨hj, rfl⟩ := List.getElem?_eq_some_iff.1 hy
  exact List.pairwise_iff_getElem.1 h i j hi hj hij
theorem nd_two {L : List (Int × Int)} (h : (L.map (·.1)).Nodup) {i j : Nat} {x y : Int × Int} (hij : i < j) (hx : L[i]? = some x) (hy : L[j]? = some y) : x.1 ≠ y.1 := by
  obtain ⟨hi, rfl⟩ := List.getElem?_eq_some_iff.1 hx
  obtain ⟨hj, rfl⟩ := List.getElem?_eq_some_iff.1 hy
  have := List.pairwise_iff_getElem.1 h i j (by simpa using hi) (by simpa using hj) hij
  simpa using this
theorem drop_rem {L : List (Int × Int)} (h : (L.map (·.1)).Nodup) {j : Nat} {x : Int × Int} (hx : L[j]? = some x) : remL x.1 (L.drop j) = L.drop (j + 1) := by
  obtain ⟨hj, rfl⟩ := List.getElem?_eq_some_iff.1 hx
  rw [List.drop_eq_getElem_cons hj]
  refine rem_head ?_
  rw [← List.drop_eq_getElem_cons hj, List.map_drop]
  exact h.sublist (List.drop_sublist _ _)
theorem rest_late {L : List (Int × Int)} {k : Nat} {now : Int} (h : srt L) (h5 : ∀ d, L[k]? = some d → ¬ d.2 ≤ now) {x : Int × Int} (hx : x ∈ L.drop k) : ¬ x.2 ≤ now := by
  obtain ⟨i, hi, rfl⟩ := List.mem_iff_getElem.1 hx
  rw [List.getElem_drop]
  rw [List.length_drop] at hi
  rcases i with _ | i
  · exact h5 _ (List.getElem?_eq_getElem (by omega))
  · have h1 := h5 _ (List.getElem?_eq_getElem (show k < L.length by omega))
    have h2 := srt_two h (show k < k + (i + 1) by omega) (List.getElem?_eq_getElem (show k < L.length by omega)) (List.getElem?_eq_getElem (by omega))
    rw [befK_iff] at h2
    omega
end Go.Proofs.Ytapajcgfdiamdaa
