/- A row of a call's own of which a slice may begin anywhere: read, append one, cut off the front. Elements of one cell. Over any program. No condition. -/
import Derived.Test.YtmpmnikgbepphaaRep
import Derived.Deep.RegionLaw
namespace Go.Kb
open Go.RowKit

section
variable {D : Type} {e : Rep D} {T : TypeId} {A F G : Nat → Prop} {S : Nat → Prop} {w w' : World} {cs us : List Value} {d : D} {ds : List D} {v v' : Value}
theorem setCells_one (w : World) (g o : Nat) (u : Value) : w.setCells g o [u] = w.setCell ⟨g, o, none⟩ u := rfl
theorem Blk.setCells {g : Nat} {t : TypeId} : ∀ (vs : List Value) (o : Nat) (w : World) (cs : Array Value), Blk w g t cs → o + vs.length ≤ cs.size → Blk (w.setCells g o vs) g t (cs.toList.take o ++ vs ++ cs.toList.drop (o + vs.length)).toArray
  | [], o, w, cs, h, _ => by
    have e : w.setCells g o [] = w := rfl
    rw [e]
    simpa using h
  | u :: r, o, w, cs, h, hl => by
    simp only [List.length_cons] at hl
    have h1 := Blk.setCells r (o + 1) _ _ (h.set_ o u) (by simp; omega)
    have e1 : ((cs.setIfInBounds o u).toList.take (o + 1) ++ r ++ (cs.setIfInBounds o u).toList.drop (o + 1 + r.length)) = cs.toList.take o ++ u :: r ++ cs.toList.drop (o + (u :: r).length) := by
      have hlt : o < cs.toList.length := by simp; omega
      rw [Array.toList_setIfInBounds, List.set_eq_take_append_cons_drop, if_pos hlt]
      have h2 : (cs.toList.take o).length = o := by simp; omega
      have h3 : (cs.toList.take o ++ u :: cs.toList.drop (o + 1)).take (o + 1) = cs.toList.take o ++ [u] := by
        rw [List.take_append, h2, List.take_of_length_le (by omega)]
        simp
      have h4 : (cs.toList.take o ++ u :: cs.toList.drop (o + 1)).drop (o + 1 + r.length) = cs.toList.drop (o + (u :: r).length) := by
        rw [List.drop_append, h2, List.drop_eq_nil_of_le (by omega), List.nil_append, show o + 1 + r.length - o = r.length + 1 by omega, List.drop_succ_cons, List.drop_drop, List.length_cons]
        congr 1
        omega
      rw [h3, h4]
      simp
    rw [← e1]
    exact h1
theorem Mod.setCells {g : Nat} : ∀ (vs : List Value) (o : Nat) (a w : World), Mod (fun k => k = g) a w → Mod (fun k => k = g) a (w.setCells g o vs)
  | [], _, _, _, h => h
  | u :: r, o, a, _, h => Mod.setCells r (o + 1) a _ (h.set1 u)

/-- the row lies in a block of F (or there is none); what its elements read lies in F, and not in the row -/
def TailS (e : Rep D) (T : TypeId) (F : Nat → Prop) (w : World) (v : Value) (ds : List D) : Prop :=
  ∃ us, RdE e (fun k => F k ∧ v.ownBlock ≠ some k) w us ds ∧ ((v = .slice none 0 0 ∧ ds = []) ∨
    ∃ g off c cur, v = .slice (some ⟨g, off, none⟩) ds.length c ∧ F g ∧ Blk w g T cur ∧ off + c ≤ cur.size ∧ ds.length ≤ c ∧ c ≤ 9223372036854775807 ∧ (cur.toList.drop off).take ds.length = us)
theorem TailS.nil (e : Rep D) (T : TypeId) (F : Nat → Prop) (w : World) : TailS e T F w (.slice none 0 0) [] := ⟨[], RdE.nil _ _ _, .inl ⟨rfl, rfl⟩⟩
theorem TailS.keep (h : TailS e T F w v ds) (hk : ∀ k, k < w.heap.size → F k → G k ∧ w'.heap[k]? = w.heap[k]?) : TailS e T G w' v ds := by
  obtain ⟨us, he, h⟩ := h
  refine ⟨us, he.keep fun k hl ha => ⟨⟨(hk k hl ha.1).1, ha.2⟩, (hk k hl ha.1).2⟩, ?_⟩
  rcases h with h | ⟨g, off, c, cur, hv, hF, hb, h⟩
  · exact .inl h
  · exact .inr ⟨g, off, c, cur, hv, (hk g hb.lt hF).1, (hk g hb.lt hF).2.trans hb, h⟩
theorem TailS.ext (h : TailS e T F w v ds) (hE : Ext w w') : TailS e T F w' v ds := h.keep fun k hk ha => ⟨ha, hE.block k hk⟩
theorem TailS.mod (h : TailS e T F w v ds) (hM : Mod S w w') (hS : ∀ k, k < w.heap.size → F k → ¬ S k) : TailS e T F w' v ds := h.keep fun k hk ha => ⟨ha, hM.block k hk (hS k hk ha)⟩
theorem TailS.mono (h : TailS e T F w v ds) (hS : ∀ k, k < w.heap.size → F k → G k) : TailS e T G w v ds := h.keep fun k hk ha => ⟨hS k hk ha, rfl⟩
theorem TailS.rd (he : e.size = 1) (h : TailS e T F w v ds) : RdS e F w v ds := by
  obtain ⟨us, hr, h⟩ := h
  have hlen : us.length = ds.length := by have := hr.1; rw [he, Nat.mul_one] at this; exact this
  rcases h with ⟨rfl, rfl⟩ | ⟨g, off, c, cur, rfl, hF, hb, h1, h2, h3, h4⟩
  · exact RdS.nil _ _ _
  · refine ⟨⟨us, ⟨hr.1, _, c, rfl, h2, h3, .inr ⟨g, off, rfl, fun j u hu => ?_⟩⟩, hr.keep fun k _ ha => ⟨ha.1, rfl⟩⟩, fun _ k hk => ?_⟩
    · rw [hb.cell, ← Array.getElem?_toList, ← hu, ← h4, List.getElem?_take, if_pos (by rw [← hlen]; exact (List.getElem?_eq_some_iff.1 hu).1), List.getElem?_drop]
    · simp only [Value.ownBlock, Option.some.injEq] at hk
      exact hk ▸ hF
theorem TailS.shape (h : TailS e T F w v ds) : ∃ Ad c, v = .slice Ad ds.length c ∧ ds.length ≤ c ∧ c ≤ 9223372036854775807 := by
  obtain ⟨us, _, ⟨rfl, rfl⟩ | ⟨g, off, c, cur, rfl, _, _, _, h2, h3, _⟩⟩ := h
  · exact ⟨_, _, rfl, by simp, by simp⟩
  · exact ⟨_, _, rfl, h2, h3⟩
/-- a row of the call's own is one -/
theorem TailS.own {base : Nat} {us : List Value} (hr : RdE e A w us ds) (ho : w.ownsRow base T 1 v ds.length us) (hA : ∀ k, k < w.heap.size → A k → F k ∧ v.ownBlock ≠ some k) (hv : ∀ k, v.ownBlock = some k → F k) : TailS e T F w v ds := by
  refine ⟨us, hr.keep fun k hk ha => ⟨hA k hk ha, rfl⟩, ?_⟩
  rcases ho.2 with ⟨rfl, h0⟩ | ⟨g, cap, cur, rfl, hb, hh, h1, h2, h3, h4⟩
  · exact .inl ⟨rfl, List.eq_nil_of_length_eq_zero h0⟩
  · exact .inr ⟨g, 0, cap, cur, rfl, hv g rfl, hh, by omega, h1, by unfold maxLen at h2; omega, by simpa using h4⟩
/-- the front cut off -/
theorem TailS.tail (he : e.size = 1) {g off n c : Nat} (h : TailS e T F w (.slice (some ⟨g, off, none⟩) (n + 1) c) (d :: ds)) : ds.length = n ∧
    TailS e T F w (.slice (if c = 1 then some ⟨g, off, none⟩ else some ⟨g, off + 1, none⟩) n (c - 1)) ds := by
  obtain ⟨us, hr, h⟩ := h
  rcases h with ⟨h, _⟩ | ⟨g', off', c', cur, hv, hF, hb, h1, h2, h3, h4⟩
  · cases h
  · simp only [Value.slice.injEq, Option.some.injEq, Addr.mk.injEq, and_true, List.length_cons] at hv
    obtain ⟨⟨rfl, rfl⟩, hn, rfl⟩ := hv
    obtain rfl : n = ds.length := by omega
    simp only [List.length_cons] at h2 h4
    refine ⟨rfl, us.drop 1, ?_, ?_⟩
    · have := hr.drop 1
      rw [he] at this
      refine this.keep fun k _ ha => ⟨⟨ha.1, ?_⟩, rfl⟩
      have h5 := ha.2
      split <;> simpa [Value.ownBlock] using h5
    · right
      by_cases hc : c = 1
      · rw [if_pos hc]
        obtain rfl : ds = [] := List.eq_nil_of_length_eq_zero (by omega)
        refine ⟨g, off, c - 1, cur, rfl, hF, hb, by omega, by simp, by omega, ?_⟩
        rw [← h4]
        simp
      · rw [if_neg hc]
        refine ⟨g, off + 1, c - 1, cur, rfl, hF, hb, by omega, by omega, by omega, ?_⟩
        rw [← h4, List.drop_take, List.drop_drop]
        simp
variable {P : Program} {z : Value} {bytes : Nat} {t : TypeId}
/-- append of one element that lies in a literal of one -/
theorem run_tail (ty : TypeId) (he : e.size = 1) (ht : P.underlying t = some (.slice T)) (hi : (P.info? T).map (fun i => (i.zero, i.size, i.bytes)) = some (some z, e.size, bytes)) (hz : z.cells.size = e.size)
    (h : TailS e T F w v ds) {u : Value} {n : Nat} {t' : TypeId} (hu : Blk w n t' #[u]) (hr : e.rel A w [u] d) (hA : ∀ k, k < w.heap.size → A k → F k ∧ v.ownBlock ≠ some k) (hm : ds.length ≤ 1000000) (hb : bytes ≤ 1000) :
    ∃ Ad c w', (Builtin.append_ #[t, t] ty #[v, .slice (some ⟨n, 0, none⟩) 1 1]).run P w = .ok (.slice Ad (ds.length + 1) c) w' ∧ TailS e T (fun k => F k ∨ w.heap.size ≤ k) w' (.slice Ad (ds.length + 1) c) (ds ++ [d]) ∧ Mod (fun k => v.ownBlock = some k) w w' := by
  obtain ⟨i, hi0, hz0, hz1, hz2⟩ := info_parts hi
  rw [he] at hz1 hz
  have h1u : ∀ x ∈ [u], x.oneCell' = true := e.one hr
  have hnews : ∀ j x, [u][j]? = some x → w.cell? ((⟨n, 0, none⟩ : Addr).add j) = some x := by
    intro j x hx
    rcases j with _ | j
    · simp only [List.getElem?_cons_zero, Option.some.injEq] at hx
      subst hx
      rw [Addr.add_lit]
      simpa using hu.cell 0
    · simp at hx
  have hbytes : (ds.length + 1) * bytes ≤ 140737488355328 := by
    have := Nat.mul_le_mul (show ds.length + 1 ≤ 1000001 by omega) hb
    omega
  -- behind a row that is new
  have new : ∀ (w' : World) (v' : Value) (us : List Value), RdE e (fun k => F k ∧ v.ownBlock ≠ some k) w us ds → w'.ownsRow w.heap.size T 1 v' (ds.length + 1) (us ++ [u]) → w.grownBy w' none →
      ∃ Ad c, v' = .slice Ad (ds.length + 1) c ∧ TailS e T (fun k => F k ∨ w.heap.size ≤ k) w' v' (ds ++ [d]) ∧ Mod (fun k => v.ownBlock = some k) w w' := by
    intro w' v' us he1 ho hg
    obtain ⟨Ad, c, rfl⟩ := own_shape ho
    refine ⟨Ad, c, rfl, ?_, (Mod.refl _ _).grown hg fun k hk => by cases hk⟩
    have hap2 : RdE e (fun k => F k ∧ k < w.heap.size) w' (us ++ [u]) (ds ++ [d]) := (he1.keep fun k hk ha => ⟨⟨ha.1, hk⟩, hg.block k hk (by simp)⟩).append (RdE.single (e.keep hr fun k hk ha => ⟨⟨(hA k hk ha).1, hk⟩, hg.block k hk (by simp)⟩))
    refine TailS.own hap2 (base := w.heap.size) (by simpa using ho) (fun k _ ha => ⟨.inl ha.1, fun hv => ?_⟩) fun k hv => .inr (ho.lt k hv).1
    have := (ho.lt k hv).1
    omega
  obtain ⟨us, he1, h⟩ := h
  have hlen : us.length = ds.length := by have := he1.1; rw [he, Nat.mul_one] at this; exact this
  rcases h with ⟨rfl, rfl⟩ | ⟨g, off, c, cur, rfl, hF, hbk, h1, h2, h3, h4⟩
  · obtain rfl : us = [] := List.eq_nil_of_length_eq_zero hlen
    obtain ⟨v', w', hrun, ho, hg, _⟩ := run_append_rd (P := P) w w.heap.size t ty T i z 1 bytes ht hi0 hz0 hz1 hz2 hz (by omega) _ 0 [] (World.ownsRow_nil _ _ _ _) (.slice (some ⟨n, 0, none⟩) 1 1) 1 [u] ⟨rfl, _, 1, rfl, Nat.le_refl _, by unfold maxLen; omega, .inr ⟨n, 0, rfl, fun j x hx => by have := hnews j x hx; rwa [Addr.add_lit] at this⟩⟩ h1u (by unfold maxLen; omega) (by simpa using hbytes) (Nat.le_refl _)
    obtain ⟨Ad, c, rfl, hT, hM⟩ := new w' v' [] he1 (by simpa using ho) (by simpa [Value.ownBlock] using hg)
    exact ⟨Ad, c, w', hrun, hT, hM⟩
  · have hold : ∀ j x, us[j]? = some x → w.cell? ((⟨g, off, none⟩ : Addr).add j) = some x := by
      intro j x hx
      have hj := (List.getElem?_eq_some_iff.1 hx).1
      rw [Addr.add_lit, hbk.cell, ← Array.getElem?_toList, ← hx, ← h4, List.getElem?_take, if_pos (by omega), List.getElem?_drop]
    by_cases hroom : ds.length + 1 ≤ c
    · have hlt : off + ds.length < cur.size := by omega
      have hrun := run_append_room_cells (P := P) w t ty T i ht hi0 g off ds.length c ⟨n, 0, none⟩ 1 1 [u] (by rw [hz1]; rfl) hnews h1u hroom
        (fun j hj => by simp only [List.length_singleton, Nat.lt_one_iff] at hj; subst hj; rw [hz1, hbk.cell]; simp; omega) (fun j _ => hbk.frozen _)
      rw [hz1, Nat.mul_one, setCells_one] at hrun
      refine ⟨_, c, _, hrun, ?_, (Mod.refl (fun k => (Value.slice (some ⟨g, off, none⟩) ds.length c).ownBlock = some k) w).set_ (p := ⟨g, off + ds.length, none⟩) (.inr rfl) u⟩
      have hB := hbk.set_ (off + ds.length) u
      have hsame : ∀ k, k ≠ g → (w.setCell ⟨g, off + ds.length, none⟩ u).heap[k]? = w.heap[k]? := fun k hk => Below.heap_setCell w ⟨g, off + ds.length, none⟩ u k hk
      have ne : ∀ k, (Value.slice (some ⟨g, off, none⟩) ds.length c).ownBlock ≠ some k → k ≠ g := fun k hk hkg => hk (by rw [hkg]; rfl)
      refine ⟨us ++ [u], ?_, .inr ⟨g, off, c, _, by simp, .inl hF, hB, by simpa using h1, by simpa using hroom, h3, ?_⟩⟩
      · refine RdE.append (he1.keep fun k hk ha => ⟨⟨.inl ha.1, ?_⟩, hsame k (ne k ha.2)⟩) (RdE.single (e.keep hr fun k hk ha => ⟨⟨.inl (hA k hk ha).1, ?_⟩, hsame k (ne k (hA k hk ha).2)⟩))
        · exact ha.2
        · exact (hA k hk ha).2
      · rw [Array.toList_setIfInBounds, List.length_append, List.length_singleton, List.drop_set, if_neg (by omega), show off + ds.length - off = ds.length by omega, List.take_set, List.set_eq_take_append_cons_drop, if_pos (by simp; omega), List.take_take, Nat.min_eq_left (by omega), h4]
        congr 1
        rw [List.drop_eq_nil_of_le (by simp; omega)]
    · obtain ⟨v', w', hrun, ho, hg⟩ := run_append_arg_grows (P := P) w t ty T i z 1 bytes ht hi0 hz0 hz1 hz2 hz (by omega) ⟨g, off, none⟩ ds.length c us (by rw [Nat.mul_one]; exact hlen) hold ⟨n, 0, none⟩ 1 1 [u] rfl hnews (by omega) (by unfold maxLen; omega) hbytes
      obtain ⟨Ad, c', rfl, hT, hM⟩ := new w' v' us he1 ho hg
      exact ⟨Ad, c', w', hrun, hT, hM⟩
theorem wp_tail {o : Oper} {a : Act} {K : Act → World → Prop} {Q : Exit → Act → World → Prop} (s x : Operand) (he : e.size = 1)
    (ho : o.op = .call { callee := .builtin .append, args := #[s, x], argTypes := #[t, t] })
    (ht : P.underlying t = some (.slice T)) (hi : (P.info? T).map (fun i => (i.zero, i.size, i.bytes)) = some (some z, e.size, bytes)) (hz : z.cells.size = e.size)
    (h : TailS e T F w v ds) (hs : a.eval s = v) {u : Value} {n : Nat} {t' : TypeId} (hx : a.eval x = .slice (some ⟨n, 0, none⟩) 1 1) (hu : Blk w n t' #[u]) (hr : e.rel A w [u] d) (hA : ∀ k, k < w.heap.size → A k → F k ∧ v.ownBlock ≠ some k) (hm : ds.length ≤ 1000000) (hb : bytes ≤ 1000)
    (hK : ∀ Ad c w', TailS e T (fun k => F k ∨ w.heap.size ≤ k) w' (.slice Ad (ds.length + 1) c) (ds ++ [d]) → Mod (fun k => v.ownBlock = some k) w w' → K (a.put o.dst (.slice Ad (ds.length + 1) c)) w') : o.wp P a w K Q := by
  obtain ⟨Ad, c, w', hrun, h1, h2⟩ := run_tail (P := P) o.type he ht hi hz h hu hr hA hm hb
  unfold Oper.wp execOp
  simp only [ho, resolve, invoke, builtin, Sem.run_bind, Sem.run_pure, Result.andThen_ok, List.map_toArray, List.map_cons, List.map_nil, hs, hx, hrun]
  exact hK Ad c w' h1 h2
theorem wpList_tail {ops : Array Oper} {rest : List Oper} {o : Oper} {a : Act} {Q : Exit → Act → World → Prop} (hgd : o.guard = none) (s x : Operand) (he : e.size = 1)
    (ho : o.op = .call { callee := .builtin .append, args := #[s, x], argTypes := #[t, t] })
    (ht : P.underlying t = some (.slice T)) (hi : (P.info? T).map (fun i => (i.zero, i.size, i.bytes)) = some (some z, e.size, bytes)) (hz : z.cells.size = e.size)
    (h : TailS e T F w v ds) (hs : a.eval s = v) {u : Value} {n : Nat} {t' : TypeId} (hx : a.eval x = .slice (some ⟨n, 0, none⟩) 1 1) (hu : Blk w n t' #[u]) (hr : e.rel A w [u] d) (hA : ∀ k, k < w.heap.size → A k → F k ∧ v.ownBlock ≠ some k) (hm : ds.length ≤ 1000000) (hb : bytes ≤ 1000)
    (hK : ∀ Ad c w', TailS e T (fun k => F k ∨ w.heap.size ≤ k) w' (.slice Ad (ds.length + 1) c) (ds ++ [d]) → Mod (fun k => v.ownBlock = some k) w w' → wpList P ops Q rest (a.put o.dst (.slice Ad (ds.length + 1) c)) w') : wpList P ops Q (o :: rest) a w :=
  wpList_plain hgd fun _ hK' => wp_tail s x he ho ht hi hz h hs hx hu hr hA hm hb fun Ad c w' h1 h2 => hK' _ _ (hK Ad c w' h1 h2)
theorem step_tail {ops : Array Oper} {o : Oper} {a : Act} {K : Act → World → Prop} {Q : Exit → Act → World → Prop} {E : Prop} (hgd : o.guard = none) (s x : Operand) (he : e.size = 1)
    (ho : o.op = .call { callee := .builtin .append, args := #[s, x], argTypes := #[t, t] })
    (ht : P.underlying t = some (.slice T)) (hi : (P.info? T).map (fun i => (i.zero, i.size, i.bytes)) = some (some z, e.size, bytes)) (hz : z.cells.size = e.size)
    (h : TailS e T F w v ds) (hs : a.eval s = v) {u : Value} {n : Nat} {t' : TypeId} (hx : a.eval x = .slice (some ⟨n, 0, none⟩) 1 1) (hu : Blk w n t' #[u]) (hr : e.rel A w [u] d) (hA : ∀ k, k < w.heap.size → A k → F k ∧ v.ownBlock ≠ some k) (hm : ds.length ≤ 1000000) (hb : bytes ≤ 1000)
    (hK : ∀ Ad c w', TailS e T (fun k => F k ∨ w.heap.size ≤ k) w' (.slice Ad (ds.length + 1) c) (ds ++ [d]) → Mod (fun k => v.ownBlock = some k) w w' → K (a.put o.dst (.slice Ad (ds.length + 1) c)) w') :
    if Region.wanted o (yielded ops a.tmps) = true then Oper.wp P o a w K Q else E := by
  have hw : Region.wanted o (yielded ops a.tmps) = true := by simp [Region.wanted, hgd]
  rw [if_pos hw]
  exact wp_tail s x he ho ht hi hz h hs hx hu hr hA hm hb hK
end
end Go.Kb
