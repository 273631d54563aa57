/- Set of timers, by contract. No condition. -/
import Derived.Test.YtapajcgfdiamdaaH07
namespace Go.Proofs.Ytapajcgfdiamdaa
open Go.RowKit Go.Kb

def hasL (L : List (Int × Int)) (id : Int) : Bool := L.any fun x => x.1 == id
def fullL (L : List (Int × Int)) (id : Int) : Bool := !hasL L id && L.length == 256
def setT (L : List (Int × Int)) (id due : Int) : List (Int × Int) := if fullL L id then L else insL (id, due) (remL id L)
def setE (L : List (Int × Int)) (id : Int) : Int := if fullL L id then 6 else 0
theorem set_ent {es : List En} {i : Nat} {x : En} (hi : i < es.length) {j : Nat} : ent (es.set i x) j = if j = i then x else ent es j := by
  unfold ent
  simp only [List.getD, List.getElem?_set]
  by_cases h : i = j
  · subst h; simp [hi]
  · rw [if_neg h, if_neg (Ne.symm h)]
theorem set_split {es : List En} {i : Nat} {x : En} (hi : i < es.length) : ∃ es1, (ent es i :: es1).Perm es ∧ (x :: es1).Perm (es.set i x) := by
  have h1 : ent es i = es[i] := by unfold ent; rw [List.getD, List.getElem?_eq_getElem hi]; rfl
  refine ⟨es.take i ++ es.drop (i + 1), ?_, ?_⟩
  · rw [h1]
    have := List.perm_middle (a := es[i]) (l₁ := es.take i) (l₂ := es.drop (i + 1))
    rw [← List.drop_eq_getElem_cons hi, List.take_append_drop] at this
    exact this.symm
  · rw [List.set_eq_take_append_cons_drop, if_pos hi]
    exact List.perm_middle.symm
/-- the time of an entry turned -/
theorem pile_due {T : Nat} {F : Nat → Prop} {mv : Value} {w : World} {es : List En} {i : Nat} {due : Int} (h : Pile T F mv w es) (hi : i < es.length) : Pile T F mv (w.setCell ⟨(ent es i).b, 1, none⟩ (.int .i64 due)) (es.set i { ent es i with due := due }) ∧ Mod F w (w.setCell ⟨(ent es i).b, 1, none⟩ (.int .i64 due)) := by
  have hm : ent es i ∈ es := List.mem_of_getElem? (ent_some hi)
  have X := h.ents i hi
  have M1 : Mod (fun k => k = (ent es i).b) w (w.setCell ⟨(ent es i).b, 1, none⟩ (.int .i64 due)) := (Mod.refl _ w).set1 _
  have hmap : (es.set i { ent es i with due := due }).map (·.b) = es.map (·.b) := by
    rw [List.map_set]
    apply List.ext_getElem?
    intro j
    rw [List.getElem?_set]
    by_cases hij : i = j
    · subst hij
      rw [if_pos rfl, List.length_map, if_pos hi, List.getElem?_map, ent_some hi]
      rfl
    · rw [if_neg hij]
  obtain ⟨Ad, c, h1, h2, h3⟩ := h.head
  refine ⟨⟨⟨Ad, c, ?_, ?_, ?_⟩, h.ft, ?_, ?_, ?_, ?_⟩, M1.mono fun k _ hk => by rw [hk]; exact h.fe _ hm⟩
  · rw [List.length_set]
    exact h1.mod M1 (blk_ne h1 X (by decide))
  · rw [List.length_set, hmap]
    exact h2.mod M1 (fun k hk he => own_blk_ne h2.choose_spec.1 X (by decide) (by rw [← he]; exact hk)) (fun _ _ hk _ => hk)
  · rw [List.length_set]
    exact h3
  · intro j hj
    rw [List.length_set] at hj
    rw [set_ent hi]
    by_cases hij : j = i
    · subst hij
      rw [if_pos rfl]
      exact X.set_ 1 (.int .i64 due)
    · rw [if_neg hij]
      exact (h.ents j hj).mod M1 (nd_ne h.nd hj hi hij)
  · intro e he
    have : e.b ∈ (es.set i { ent es i with due := due }).map (·.b) := List.mem_map_of_mem he
    rw [hmap] at this
    obtain ⟨e2, a, b⟩ := List.mem_map.1 this
    rw [← b]
    exact h.fe e2 a
  · rw [hmap]; exact h.nd
  · rw [List.length_set]; exact h.small
/-- what is said of timers behind a call -/
def TmPost (T : Nat) (F : Nat → Prop) (L : List (Int × Int)) (w w' : World) : Prop := ∃ F', TM T F' w' L ∧ (∀ k, F' k → F k ∨ w.heap.size ≤ k) ∧ Mod F w w'
theorem ins_nd {L : List (Int × Int)} {id due : Int} (hn : (L.map (·.1)).Nodup) : ((insL (id, due) (remL id L)).map (·.1)).Nodup := by
  have h1 := ((ins_perm (id, due) (remL id L)).map (·.1)).nodup_iff.2
  apply h1
  rw [List.map_cons, List.nodup_cons]
  refine ⟨fun hm => ?_, hn.sublist (List.filter_sublist.map _)⟩
  obtain ⟨y, hy, he⟩ := List.mem_map.1 hm
  exact rem_ids y hy he
theorem ins_wf {L : List (Int × Int)} {id due : Int} (hw : ∀ x ∈ L, (Lit.int .i64 x.1).wf = true) (hi : (Lit.int .i64 id).wf = true) : ∀ x ∈ insL (id, due) (remL id L), (Lit.int .i64 x.1).wf = true := by
  intro x hx
  rcases List.mem_cons.1 ((ins_perm _ _).mem_iff.1 hx) with rfl | h
  · exact hi
  · exact hw x (List.mem_filter.1 h).1
theorem set_same {L : List (Int × Int)} {T : Nat} {F : Nat → Prop} {w w' : World} {es : List En} {M i : Nat} {due : Int} {Fp : Nat → Prop} (h : TM T F w L) (h7 : L.Perm (es.map En.k)) (hi : i < es.length) (hF : ∀ k, Fp k → F k) (hMF : F M) (hnM : ¬ Fp M) {es2 : List En} (hp2 : es2.Perm (es.set i { ent es i with due := due })) (P : Pile T Fp (.map (some M)) w' es2) (H : HeapN es2 es2.length) (Mp : MapM M w' es) (MM : Mod Fp w w') :
    TmPost T F (setT L (ent es i).id due) w w' := by
  have hnd := perm_ids h7 h.nd
  have hhas : hasL L (ent es i).id = true := (any_id h7 _).2 ⟨i, hi, rfl⟩
  have hs : setT L (ent es i).id due = insL ((ent es i).id, due) (remL (ent es i).id L) := by unfold setT fullL; rw [hhas]; rfl
  obtain ⟨es1, a1, a2⟩ := set_split (x := { ent es i with due := due }) hi
  have hperm : (insL ((ent es i).id, due) (remL (ent es i).id L)).Perm (es2.map En.k) := by
    refine (ins_perm _ _).trans ?_
    refine ((rem_perm h7 a1 hnd).cons _).trans ?_
    exact (a2.trans hp2.symm).map En.k
  have hlen : (insL ((ent es i).id, due) (remL (ent es i).id L)).length = L.length := by
    rw [hperm.length_eq, List.length_map, hp2.length_eq, List.length_set, h7.length_eq, List.length_map]
  refine ⟨F, ?_, fun k hk => .inl hk, MM.mono fun k _ hk => hF k hk⟩
  rw [hs]
  refine ⟨⟨Fp, M, es2, P, H, ?_, hnM, hF, hMF, hperm⟩, ins_srt (rem_srt h.srt) rem_ids, ins_nd h.nd, ins_wf h.wf (h.wf (ent es i).k (h7.mem_iff.2 (List.mem_map_of_mem (List.mem_of_getElem? (ent_some hi))))), by rw [hlen]; exact h.small, fun k hk => Nat.lt_of_lt_of_le (h.lt k hk) MM.size⟩
  refine MapM.perm (es := es.set i { ent es i with due := due }) (Mp.same ?_) hp2
  rw [List.map_set]
  apply List.ext_getElem?
  intro j
  rw [List.getElem?_set]
  by_cases hij : i = j
  · subst hij
    rw [if_pos rfl, List.length_map, if_pos hi, List.getElem?_map, ent_some hi]
    rfl
  · rw [if_neg hij]
theorem set_new {L : List (Int × Int)} {T : Nat} {F : Nat → Prop} {w w' : World} {es : List En} {M : Nat} {x : En} {Fp Fq : Nat → Prop} (h : TM T F w L) (h7 : L.Perm (es.map En.k)) (hhas : hasL L x.id = false) (hlen : L.length ≠ 256) (hw : (Lit.int .i64 x.id).wf = true) (hF : ∀ k, Fp k → F k) (hMF : F M) (hnM : ¬ Fq M) (hq : ∀ k, Fq k → Fp k ∨ (w.heap.size ≤ k ∧ k < w'.heap.size)) {es2 : List En} (hp2 : es2.Perm (es ++ [x])) (P : Pile T Fq (.map (some M)) w' es2) (H : HeapN es2 es2.length) (Mp : MapM M w' (es ++ [x])) (MM : Mod F w w') :
    TmPost T F (setT L x.id x.due) w w' := by
  have hs : setT L x.id x.due = insL (x.id, x.due) (remL x.id L) := by
    unfold setT fullL
    rw [hhas, show (L.length == 256) = false by simpa using hlen]
    rfl
  have hperm : (insL (x.id, x.due) (remL x.id L)).Perm (es2.map En.k) := by
    refine (ins_perm _ _).trans ?_
    rw [rem_none hhas]
    refine (h7.cons _).trans ?_
    have : (x.k :: es.map En.k).Perm ((es ++ [x]).map En.k) := by
      rw [List.map_append]
      exact (List.perm_append_comm (l₁ := es.map En.k) (l₂ := [x.k])).symm
    exact this.trans (hp2.map En.k).symm
  have hl2 : (insL (x.id, x.due) (remL x.id L)).length = L.length + 1 := by
    rw [(ins_perm _ _).length_eq, rem_none hhas]
    rfl
  have hsm := h.small
  refine ⟨fun k => F k ∨ (w.heap.size ≤ k ∧ k < w'.heap.size), ?_, fun k hk => hk.elim .inl fun h => .inr h.1, MM⟩
  rw [hs]
  exact ⟨⟨Fq, M, es2, P, H, Mp.perm hp2, hnM, fun k hk => (hq k hk).elim (fun h => .inl (hF k h)) .inr, .inl hMF, hperm⟩, ins_srt (rem_srt h.srt) rem_ids, ins_nd h.nd, ins_wf h.wf hw, by omega, fun k hk => hk.elim (fun h1 => Nat.lt_of_lt_of_le (h.lt k h1) MM.size) fun h => h.2⟩
end Go.Proofs.Ytapajcgfdiamdaa
