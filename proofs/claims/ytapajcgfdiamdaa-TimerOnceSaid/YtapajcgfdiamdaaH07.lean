/- Timers in memory as a list that rises; New, Len, Next by contract. No condition. -/
import Derived.Test.YtapajcgfdiamdaaG07
namespace Go.Proofs.Ytapajcgfdiamdaa
open Go.RowKit Go.Kb

/-- the timers in block T, whose blocks are all of F, are those of the list L, which rises -/
structure TM (T : Nat) (F : Nat → Prop) (w : World) (L : List (Int × Int)) : Prop where
  ex : ∃ (Fp : Nat → Prop) (M : Nat) (es : List En), Pile T Fp (.map (some M)) w es ∧ HeapN es es.length ∧ MapM M w es ∧ ¬ Fp M ∧ (∀ k, Fp k → F k) ∧ F M ∧ L.Perm (es.map En.k)
  srt : srt L
  nd : (L.map (·.1)).Nodup
  wf : ∀ x ∈ L, (Lit.int .i64 x.1).wf = true
  small : L.length ≤ 256
  lt : ∀ k, F k → k < w.heap.size
theorem TM.ext {T : Nat} {F : Nat → Prop} {w w' : World} {L : List (Int × Int)} (h : TM T F w L) (E : Ext w w') : TM T F w' L := by
  obtain ⟨Fp, M, es, h1, h2, h3, h4, h5, h6, h7⟩ := h.ex
  exact ⟨⟨Fp, M, es, h1.ext E, h2, h3.ext E, h4, h5, h6, h7⟩, h.srt, h.nd, h.wf, h.small, fun k hk => Nat.lt_of_lt_of_le (h.lt k hk) E.size⟩
theorem TM.mod {T : Nat} {F S : Nat → Prop} {w w' : World} {L : List (Int × Int)} (h : TM T F w L) (m : Mod S w w') (hS : ∀ k, S k → ¬ F k) : TM T F w' L := by
  obtain ⟨Fp, M, es, h1, h2, h3, h4, h5, h6, h7⟩ := h.ex
  exact ⟨⟨Fp, M, es, h1.mod m fun k hk hf => hS k hk (h5 k hf), h2, h3.mod m fun hk => hS M hk h6, h4, h5, h6, h7⟩, h.srt, h.nd, h.wf, h.small, fun k hk => Nat.lt_of_lt_of_le (h.lt k hk) m.size⟩
/-- what an entry of a perm is -/
theorem perm_ids {L : List (Int × Int)} {es : List En} (h : L.Perm (es.map En.k)) (hn : (L.map (·.1)).Nodup) : (es.map (·.id)).Nodup := by
  have := (h.map (·.1)).nodup_iff.1 hn
  rw [List.map_map] at this
  exact this
theorem ids_ne {es : List En} (h : (es.map (·.id)).Nodup) {i j : Nat} (hi : i < es.length) (hj : j < es.length) (he : (ent es i).id = (ent es j).id) : i = j := by
  have key : ∀ i j, i < j → i < es.length → j < es.length → (ent es i).id ≠ (ent es j).id := by
    intro i j hij hi hj
    have := (List.pairwise_iff_getElem.1 h) i j (by simpa using hi) (by simpa using hj) hij
    simp only [List.getElem_map] at this
    have e1 : ent es i = es[i] := by unfold ent; rw [List.getD, List.getElem?_eq_getElem hi]; rfl
    have e2 : ent es j = es[j] := by unfold ent; rw [List.getD, List.getElem?_eq_getElem hj]; rfl
    rw [e1, e2]
    exact this
  rcases Nat.lt_trichotomy i j with h1 | h1 | h1
  · exact absurd he (key i j h1 hi hj)
  · exact h1
  · exact absurd he.symm (key j i h1 hj hi)
theorem mem_ent {es : List En} {e : En} (h : e ∈ es) : ∃ i, i < es.length ∧ ent es i = e := by
  obtain ⟨i, hi⟩ := List.getElem?_of_mem h
  have hl := (List.getElem?_eq_some_iff.1 hi).1
  have := ent_some hl
  rw [hi] at this
  exact ⟨i, hl, (Option.some.inj this).symm⟩
theorem any_id {L : List (Int × Int)} {es : List En} (h : L.Perm (es.map En.k)) (id : Int) : (L.any fun x => x.1 == id) = true ↔ ∃ i, i < es.length ∧ (ent es i).id = id := by
  rw [List.any_eq_true]
  constructor
  · rintro ⟨x, hx, hb⟩
    obtain ⟨e, he, rfl⟩ := List.mem_map.1 (h.mem_iff.1 hx)
    obtain ⟨i, hi, rfl⟩ := mem_ent he
    exact ⟨i, hi, by simpa [En.k] using hb⟩
  · rintro ⟨i, hi, rfl⟩
    exact ⟨(ent es i).k, h.mem_iff.2 (List.mem_map_of_mem (List.mem_of_getElem? (ent_some hi))), by simp [En.k]⟩
/-- without one entry -/
theorem rem_perm {L : List (Int × Int)} {es es1 : List En} {e : En} (h : L.Perm (es.map En.k)) (hp : (e :: es1).Perm es) (hn : (es.map (·.id)).Nodup) : (remL e.id L).Perm (es1.map En.k) := by
  have h1 : L.Perm (e.k :: es1.map En.k) := h.trans (hp.symm.map En.k)
  have h2 : (e.id :: es1.map (·.id)).Nodup := (hp.map (fun e : En => e.id)).nodup_iff.2 hn
  have h3 := h1.filter (fun y => y.1 != e.id)
  have h4 : (e.k :: es1.map En.k).filter (fun y => y.1 != e.id) = es1.map En.k := by
    rw [List.filter_cons]
    simp only [En.k, bne_self_eq_false, Bool.false_eq_true, if_false]
    rw [List.filter_eq_self]
    intro y hy
    obtain ⟨z, hz, rfl⟩ := List.mem_map.1 hy
    have := List.nodup_cons.1 h2
    have hne : z.id ≠ e.id := fun he => this.1 (by rw [← he]; exact List.mem_map_of_mem hz)
    simpa [En.k] using hne
  rw [h4] at h3
  exact h3
theorem rem_none {L : List (Int × Int)} {id : Int} (h : (L.any fun x => x.1 == id) = false) : remL id L = L := by
  unfold remL
  rw [List.filter_eq_self]
  intro y hy
  rw [List.any_eq_false] at h
  simpa using h y hy
theorem rem_ids {L : List (Int × Int)} {id : Int} : ∀ y ∈ remL id L, y.1 ≠ id := by
  intro y hy
  have := (List.mem_filter.1 hy).2
  simpa using this
/-- the first of the list is on top of the pile -/
theorem top_first {L : List (Int × Int)} {es : List En} (h : L.Perm (es.map En.k)) (hs : srt L) (hh : HeapN es es.length) (h0 : 0 < es.length) : ∃ r, L = (ent es 0).k :: r := by
  match L, h, hs with
  | [], h, _ =>
    have := h.length_eq
    simp at this
    omega
  | x :: r, h, hs =>
    refine ⟨r, ?_⟩
    congr 1
    have hm : (ent es 0).k ∈ x :: r := h.mem_iff.2 (List.mem_map_of_mem (List.mem_of_getElem? (ent_some h0)))
    rcases List.mem_cons.1 hm with he | hm
    · exact he.symm
    · have h1 := (List.pairwise_cons.1 hs).1 _ hm
      obtain ⟨e, he, hx⟩ := List.mem_map.1 (h.mem_iff.1 (List.mem_cons_self (a := x) (l := r)))
      obtain ⟨i, hi, rfl⟩ := mem_ent he
      have h2 := heap_min hh i hi
      rw [← hx] at h1
      have : bef (ent es i) (ent es 0) = true := h1
      rw [h2] at this
      cases this
set_option maxRecDepth 100000 in
set_option maxHeartbeats 800000 in
theorem new_any (w : World) : Calls Try.prog 8 #[] w fun e w' => ∃ T F, e = .returned (.pointer (some ⟨T, 0, none⟩)) ∧ TM T F w' [] ∧ (∀ k, F k → w.heap.size ≤ k) ∧ Ext w w' := by
  have hmm := @run_makeMap Try.prog
  go_enter Try.func8, Try.ntmps8
  go_wp2
  go_ret
  have E1 : Ext w (w.alloc (.map #[] 0)) := (Ext.refl w).alloc _
  refine ⟨w.heap.size + 1, fun k => k = w.heap.size ∨ k = w.heap.size + 1, rfl, ⟨⟨fun k => k = w.heap.size + 1, w.heap.size, [], ?_, fun k _ hk => by simp at hk, ?_, by omega, fun k hk => .inr hk, .inl rfl, .refl _⟩, List.Pairwise.nil, by simp, by simp, by simp, ?_⟩, ?_, (by repeat (first | with_reducible exact Ext.refl _ | refine Ext.drewN ?_ _ | refine Ext.drew ?_ | refine Ext.alloc ?_ _ | assumption | (refine Below.trans ?_ (by assumption)) | (refine Ext.trans ?_ (by assumption)) | (refine Below.trans ?_ (Below.mono (by assumption) (by omega)))))⟩
  · exact ⟨⟨none, 0, Blk.at_ _ _ (by simp), OwnS.nil _ _ _ _ _, fun k hk => by cases hk⟩, rfl, fun j hj => by simp at hj, by simp, by simp, by simp⟩
  · exact (MapM.made w).ext ((Ext.refl _).alloc _)
  · intro k hk
    simp
    omega
  · intro k hk
    omega
set_option maxRecDepth 100000 in
set_option maxHeartbeats 800000 in
theorem tlen_any (T : Nat) (F : Nat → Prop) (L : List (Int × Int)) (w : World) (h : TM T F w L) : Calls Try.prog 17 #[.pointer (some ⟨T, 0, none⟩)] w fun e w' => e = .returned (.int .i64 L.length) ∧ Ext w w' := by
  obtain ⟨Fp, M, es, hp, hh, hm, h4, h5, h6, h7⟩ := h.ex
  obtain ⟨Ad, c, hb, _, _⟩ := hp.head
  have k1 := hb.cell 1
  have hl := h7.length_eq
  rw [List.length_map] at hl
  rw [hl]
  have HM := Lib.hid hm
  clear hp hh hm h4 h5 h6 h7 h hb hl
  go_enter Try.func17, Try.ntmps17
  go_wp2_with (at_len; refine wpList_mlen rfl _ rfl rfl HM.out ?_)
  go_ret
  exact ⟨rfl, (by repeat (first | with_reducible exact Ext.refl _ | refine Ext.drewN ?_ _ | refine Ext.drew ?_ | refine Ext.alloc ?_ _ | assumption | (refine Below.trans ?_ (by assumption)) | (refine Ext.trans ?_ (by assumption)) | (refine Below.trans ?_ (Below.mono (by assumption) (by omega)))))⟩
def nextL : List (Int × Int) → Int × Int × Bool
  | [] => (0, 0, false)
  | x :: _ => (x.1, x.2, true)
set_option maxRecDepth 100000 in
set_option maxHeartbeats 3000000 in
theorem next_any (T : Nat) (F : Nat → Prop) (L : List (Int × Int)) (w : World) (h : TM T F w L) : Calls Try.prog 16 #[.pointer (some ⟨T, 0, none⟩)] w fun e w' => e = .returned (.tuple #[.int .i64 (nextL L).1, .int .i64 (nextL L).2.1, .bool (nextL L).2.2]) ∧ Ext w w' := by
  have HL := Lib.hid (tlen_any T F L w h)
  obtain ⟨Fp, M, es, hp, hh, hm, h4, h5, h6, h7⟩ := h.ex
  have hl := h7.length_eq
  rw [List.length_map] at hl
  by_cases h0 : L = []
  · subst h0
    clear hp hh hm h4 h5 h6 h7 h hl
    go_enter Try.func16, Try.ntmps16
    go_wp2_with fail
    refine HL.out.mono ?_
    rintro e w1 ⟨rfl, E1⟩
    go_wp2
    refine bodyPost_ret (v := .tuple #[.int .i64 0, .int .i64 0, .bool false]) (by simp [results, Try.results16, go_sem]) rfl ?_
    exact ⟨rfl, E1⟩
  · have h00 : 0 < es.length := by
      rcases L with _ | ⟨x, r⟩
      · exact absurd rfl h0
      · simp at hl; omega
    obtain ⟨r, hr⟩ := top_first h7 h.srt hh h00
    obtain ⟨g, c, hb, _, _, _, _, _, hc⟩ := hp.open h00
    have hg := (hc 0 h00).1
    have he := hp.ents 0 h00
    have HR := Lib.hid (show nextL L = ((ent es 0).id, (ent es 0).due, true) by rw [hr]; rfl)
    rw [HR.out]
    obtain ⟨x, hx⟩ : ∃ x, ent es 0 = x := ⟨_, rfl⟩
    rw [hx] at hg he ⊢
    have h1 : (0 : Int) < (es.length : Int) := by omega
    have h2 : ¬ ((L.length : Int) = 0) := by omega
    have h2b : ((L.length : Int) == 0) = false := by simpa using h2
    have G := Lib.hid hg
    have K0 := Lib.hid hb
    have X := Lib.hid he
    obtain ⟨N, hN⟩ : ∃ N, es.length = N := ⟨_, rfl⟩
    rw [hN] at h1 K0
    clear hp hh hm h4 h5 h6 h7 h hl hr hx hb hc hg he h0 h00 HR hN
    simp only []
    go_enter Try.func16, Try.ntmps16
    go_wp2_with fail
    refine HL.out.mono ?_
    rintro e w1 ⟨rfl, E1⟩
    have X := Lib.hid (X.out.ext E1)
    have k0 := (K0.out.ext E1).cell 0
    have kg := cell_ext E1 G.out
    simp at k0
    go_upto_region 4 with fail
    refine wp_region_held_drew (S := fun w' => Ext w1 w') (by kernel_rfl) (Ext.drew (Ext.refl _)) (fun hHeld => ?_)
    (refine wpAnyH_take (i := 0) (v := ?_) rfl (by kernel_rfl) (by kernel_rfl) (by kernel_rfl) (fun _ _ _ h => h) (Or.inl ⟨by rfl, ?_⟩) (by assumption) ?_; rotate_left; (focus (intro w' hSw; go_simp; try with_reducible rfl)); (try simp only [List.getElem_toArray]); (try simp only [List.getElem_cons_succ]); (try simp only [List.getElem_cons_zero]); (try simp only [Act.put]); (try simp only [List.setIfInBounds_toArray]); (try simp only [List.set_cons_succ]); (try simp only [List.set_cons_zero]))
    (refine wpAnyH_take (i := 1) (v := ?_) rfl (by kernel_rfl) (by kernel_rfl) (by kernel_rfl) (fun _ _ _ h => h) (Or.inl ⟨by rfl, ?_⟩) (by assumption) ?_; rotate_left; (focus (intro w' hSw; go_simp; try with_reducible rfl)); (try simp only [List.getElem_toArray]); (try simp only [List.getElem_cons_succ]); (try simp only [List.getElem_cons_zero]); (try simp only [Act.put]); (try simp only [List.setIfInBounds_toArray]); (try simp only [List.set_cons_succ]); (try simp only [List.set_cons_zero]))
    (refine wpAnyH_take (i := 2) (v := ?_) rfl (by kernel_rfl) (by kernel_rfl) (by kernel_rfl) (fun _ _ _ h => h) (Or.inl ⟨by rfl, ?_⟩) (by assumption) ?_; rotate_left; (focus (intro w' hSw; go_simp; try with_reducible rfl)); (try simp only [List.getElem_toArray]); (try simp only [List.getElem_cons_succ]); (try simp only [List.getElem_cons_zero]); (try simp only [Act.put]); (try simp only [List.setIfInBounds_toArray]); (try simp only [List.set_cons_succ]); (try simp only [List.set_cons_zero]))
    (refine wpAnyH_take (i := 3) (v := ?_) rfl (by kernel_rfl) (by kernel_rfl) (by kernel_rfl) (fun _ _ _ h => h) (Or.inl ⟨by rfl, ?_⟩) (by assumption) ?_; rotate_left; (focus (intro w' hSw; have kc : w'.cell? ⟨x.b, 0, none⟩ = some (.int .i64 x.id) := (X.out.ext hSw).cell 0; go_simp; try with_reducible rfl)); (try simp only [List.getElem_toArray]); (try simp only [List.getElem_cons_succ]); (try simp only [List.getElem_cons_zero]); (try simp only [Act.put]); (try simp only [List.setIfInBounds_toArray]); (try simp only [List.set_cons_succ]); (try simp only [List.set_cons_zero]))
    (refine wpAnyH_take (i := 4) (v := ?_) rfl (by kernel_rfl) (by kernel_rfl) (by kernel_rfl) (fun _ _ _ h => h) (Or.inl ⟨by rfl, ?_⟩) (by assumption) ?_; rotate_left; (focus (intro w' hSw; go_simp; try with_reducible rfl)); (try simp only [List.getElem_toArray]); (try simp only [List.getElem_cons_succ]); (try simp only [List.getElem_cons_zero]); (try simp only [Act.put]); (try simp only [List.setIfInBounds_toArray]); (try simp only [List.set_cons_succ]); (try simp only [List.set_cons_zero]))
    (refine wpAnyH_take (i := 5) (v := ?_) rfl (by kernel_rfl) (by kernel_rfl) (by kernel_rfl) (fun _ _ _ h => h) (Or.inl ⟨by rfl, ?_⟩) (by assumption) ?_; rotate_left; (focus (intro w' hSw; go_simp; try with_reducible rfl)); (try simp only [List.getElem_toArray]); (try simp only [List.getElem_cons_succ]); (try simp only [List.getElem_cons_zero]); (try simp only [Act.put]); (try simp only [List.setIfInBounds_toArray]); (try simp only [List.set_cons_succ]); (try simp only [List.set_cons_zero]))
    (refine wpAnyH_take (i := 6) (v := ?_) rfl (by kernel_rfl) (by kernel_rfl) (by kernel_rfl) (fun _ _ _ h => h) (Or.inl ⟨by rfl, ?_⟩) (by assumption) ?_; rotate_left; (focus (intro w' hSw; go_simp; try with_reducible rfl)); (try simp only [List.getElem_toArray]); (try simp only [List.getElem_cons_succ]); (try simp only [List.getElem_cons_zero]); (try simp only [Act.put]); (try simp only [List.setIfInBounds_toArray]); (try simp only [List.set_cons_succ]); (try simp only [List.set_cons_zero]))
    (refine wpAnyH_take (i := 7) (v := ?_) rfl (by kernel_rfl) (by kernel_rfl) (by kernel_rfl) (fun _ _ _ h => h) (Or.inl ⟨by rfl, ?_⟩) (by assumption) ?_; rotate_left; (focus (intro w' hSw; have kc : w'.cell? ⟨x.b, 1, none⟩ = some (.int .i64 x.due) := (X.out.ext hSw).cell 1; go_simp; try with_reducible rfl)); (try simp only [List.getElem_toArray]); (try simp only [List.getElem_cons_succ]); (try simp only [List.getElem_cons_zero]); (try simp only [Act.put]); (try simp only [List.setIfInBounds_toArray]); (try simp only [List.set_cons_succ]); (try simp only [List.set_cons_zero]))
    (refine wpAnyH_take (i := 8) (v := ?_) rfl (by kernel_rfl) (by kernel_rfl) (by kernel_rfl) (fun _ _ _ h => h) (Or.inl ⟨by rfl, ?_⟩) (by assumption) ?_; rotate_left; (focus (intro w' hSw; go_simp; try with_reducible rfl)); (try simp only [List.getElem_toArray]); (try simp only [List.getElem_cons_succ]); (try simp only [List.getElem_cons_zero]); (try simp only [Act.put]); (try simp only [List.setIfInBounds_toArray]); (try simp only [List.set_cons_succ]); (try simp only [List.set_cons_zero]))
    (refine wpAnyH_take (i := 9) (v := ?_) rfl (by kernel_rfl) (by kernel_rfl) (by kernel_rfl) (fun _ _ _ h => h) (Or.inl ⟨by rfl, ?_⟩) (by assumption) ?_; rotate_left; (focus (intro w' hSw; go_simp; try with_reducible rfl)); (try simp only [List.getElem_toArray]); (try simp only [List.getElem_cons_succ]); (try simp only [List.getElem_cons_zero]); (try simp only [Act.put]); (try simp only [List.setIfInBounds_toArray]); (try simp only [List.set_cons_succ]); (try simp only [List.set_cons_zero]))
    (refine wpAnyH_take (i := 10) (v := ?_) rfl (by kernel_rfl) (by kernel_rfl) (by kernel_rfl) (fun _ _ _ h => h) (Or.inl ⟨by rfl, ?_⟩) (by assumption) ?_; rotate_left; (focus (intro w' hSw; go_simp; try with_reducible rfl)); (try simp only [List.getElem_toArray]); (try simp only [List.getElem_cons_succ]); (try simp only [List.getElem_cons_zero]); (try simp only [Act.put]); (try simp only [List.setIfInBounds_toArray]); (try simp only [List.set_cons_succ]); (try simp only [List.set_cons_zero]))
    refine wpAnyH_done (by kernel_rfl) ?_ _
    go_wp2
    refine bodyPost_ret (v := .tuple #[.int .i64 x.id, .int .i64 x.due, .bool true]) (by simp [results, Try.results16, go_sem]) rfl ?_
    exact ⟨rfl, E1.drew⟩
end Go.Proofs.Ytapajcgfdiamdaa
