/- How a datum lies in memory: so many cells, slices of it, rows of the call's own. Over any program. No condition. -/
import Derived.Test.YtldijmappinngaaGreatDoorBase
import Derived.Laws.BytesArg
import Derived.Laws.BytesString
namespace Go.Kb
open Go.RowKit

/-- how a datum lies in so many cells: what it reads lies in blocks of A -/
structure Rep (D : Type) where
  size : Nat
  pos : 0 < size
  rel : (Nat → Prop) → World → List Value → D → Prop
  len : ∀ {A : Nat → Prop} {w : World} {cs : List Value} {d : D}, rel A w cs d → cs.length = size
  one : ∀ {A : Nat → Prop} {w : World} {cs : List Value} {d : D}, rel A w cs d → ∀ u ∈ cs, u.oneCell' = true
  keep : ∀ {A B : Nat → Prop} {w w' : World} {cs : List Value} {d : D}, rel A w cs d → (∀ k, k < w.heap.size → A k → B k ∧ w'.heap[k]? = w.heap[k]?) → rel B w' cs d

def Rep.int (k : IntKind) : Rep Int where
  size := 1
  pos := by decide
  rel := fun _ _ cs d => cs = [.int k d]
  len := fun h => by rw [h]; rfl
  one := fun h u hu => by rw [h] at hu; simp at hu; subst hu; rfl
  keep := fun h _ => h
def Rep.bool : Rep Bool where
  size := 1
  pos := by decide
  rel := fun _ _ cs d => cs = [.bool d]
  len := fun h => by rw [h]; rfl
  one := fun h u hu => by rw [h] at hu; simp at hu; subst hu; rfl
  keep := fun h _ => h
def Rep.pair {D E : Type} (x : Rep D) (y : Rep E) : Rep (D × E) where
  size := x.size + y.size
  pos := by have := x.pos; omega
  rel := fun A w cs d => ∃ us vs, cs = us ++ vs ∧ x.rel A w us d.1 ∧ y.rel A w vs d.2
  len := fun ⟨us, vs, h, h1, h2⟩ => by rw [h, List.length_append, x.len h1, y.len h2]
  one := fun ⟨us, vs, h, h1, h2⟩ u hu => by
    rw [h] at hu
    rcases List.mem_append.1 hu with hu | hu
    · exact x.one h1 u hu
    · exact y.one h2 u hu
  keep := fun ⟨us, vs, h, h1, h2⟩ hk => ⟨us, vs, h, x.keep h1 hk, y.keep h2 hk⟩

section
variable {D : Type} {e : Rep D} {A B : Nat → Prop} {S : Nat → Prop} {w w' : World} {cs us news : List Value} {d : D} {ds ds2 : List D} {v : Value}
theorem Rep.ext (h : e.rel A w cs d) (hE : Ext w w') : e.rel A w' cs d := e.keep h fun k hk ha => ⟨ha, hE.block k hk⟩
theorem Rep.mod (h : e.rel A w cs d) (hM : Mod S w w') (hS : ∀ k, k < w.heap.size → A k → ¬ S k) : e.rel A w' cs d := e.keep h fun k hk ha => ⟨ha, hM.block k hk (hS k hk ha)⟩
theorem Rep.mono (h : e.rel A w cs d) (hS : ∀ k, k < w.heap.size → A k → B k) : e.rel B w cs d := e.keep h fun k hk ha => ⟨hS k hk ha, rfl⟩

/-- the cells of so many elements -/
def RdE (e : Rep D) (A : Nat → Prop) (w : World) (us : List Value) (ds : List D) : Prop :=
  us.length = ds.length * e.size ∧ ∀ (j : Nat) d, ds[j]? = some d → e.rel A w ((us.drop (j * e.size)).take e.size) d
theorem RdE.keep (h : RdE e A w us ds) (hk : ∀ k, k < w.heap.size → A k → B k ∧ w'.heap[k]? = w.heap[k]?) : RdE e B w' us ds :=
  ⟨h.1, fun j d hd => e.keep (h.2 j d hd) hk⟩
theorem RdE.nil (e : Rep D) (A : Nat → Prop) (w : World) : RdE e A w [] [] := ⟨by simp, fun j d hd => by simp at hd⟩
theorem RdE.one (h : RdE e A w us ds) : ∀ u ∈ us, u.oneCell' = true := by
  intro u hu
  obtain ⟨j, hj, rfl⟩ := List.getElem_of_mem hu
  have hp := e.pos
  have hlen := h.1
  have hjd : j / e.size < ds.length := by
    rw [Nat.div_lt_iff_lt_mul hp]; omega
  have hr := h.2 (j / e.size) _ (List.getElem?_eq_getElem hjd)
  refine e.one hr _ ?_
  have hm : j % e.size < e.size := Nat.mod_lt _ hp
  have hj2 : j / e.size * e.size + j % e.size = j := Nat.div_add_mod' j e.size
  rw [List.mem_iff_getElem?]
  refine ⟨j % e.size, ?_⟩
  rw [List.getElem?_take, if_pos hm, List.getElem?_drop, hj2, List.getElem?_eq_getElem hj]
theorem RdE.single (h : e.rel A w cs d) : RdE e A w cs [d] := by
  refine ⟨by rw [e.len h]; simp, fun j x hx => ?_⟩
  match j, hx with
  | 0, hx =>
    simp at hx
    subst hx
    have : (cs.drop (0 * e.size)).take e.size = cs := by
      rw [Nat.zero_mul, List.drop_zero, List.take_of_length_le (by rw [e.len h]; exact Nat.le_refl _)]
    rw [this]; exact h
theorem RdE.append (h : RdE e A w us ds) (h2 : RdE e A w news ds2) : RdE e A w (us ++ news) (ds ++ ds2) := by
  refine ⟨by rw [List.length_append, List.length_append, h.1, h2.1, Nat.add_mul], fun j x hx => ?_⟩
  rcases Nat.lt_or_ge j ds.length with hj | hj
  · rw [List.getElem?_append_left hj] at hx
    have hle : (j + 1) * e.size ≤ us.length := by rw [h.1]; exact Nat.mul_le_mul_right _ hj
    rw [Nat.add_mul, Nat.one_mul] at hle
    rw [List.drop_append_of_le_length (by omega), List.take_append_of_le_length (by rw [List.length_drop]; omega)]
    exact h.2 j x hx
  · rw [List.getElem?_append_right hj] at hx
    have : (us ++ news).drop (j * e.size) = news.drop ((j - ds.length) * e.size) := by
      have hj2 : j * e.size = us.length + (j - ds.length) * e.size := by
        rw [h.1, ← Nat.add_mul]; congr 1; omega
      rw [hj2, List.drop_append]
      have : us.length + (j - ds.length) * e.size - us.length = (j - ds.length) * e.size := by omega
      rw [this, List.drop_eq_nil_of_le (by omega), List.nil_append]
    rw [this]
    exact h2.2 _ x hx
theorem RdE.take (h : RdE e A w us ds) (k : Nat) (hk : k ≤ ds.length) : RdE e A w (us.take (k * e.size)) (ds.take k) := by
  have hle : k * e.size ≤ us.length := by rw [h.1]; exact Nat.mul_le_mul_right _ hk
  refine ⟨by rw [List.length_take, List.length_take, Nat.min_eq_left hle, Nat.min_eq_left hk], fun j x hx => ?_⟩
  rw [List.getElem?_take] at hx
  split at hx
  · rename_i hj
    have := h.2 j x hx
    have hle2 : (j + 1) * e.size ≤ k * e.size := Nat.mul_le_mul_right _ hj
    rw [Nat.add_mul, Nat.one_mul] at hle2
    have e1 : ((us.take (k * e.size)).drop (j * e.size)).take e.size = (us.drop (j * e.size)).take e.size := by
      rw [List.drop_take, List.take_take, Nat.min_eq_left (by omega)]
    rw [e1]; exact this
  · cases hx
theorem RdE.drop (h : RdE e A w us ds) (k : Nat) : RdE e A w (us.drop (k * e.size)) (ds.drop k) := by
  refine ⟨by rw [List.length_drop, List.length_drop, h.1, Nat.sub_mul], fun j x hx => ?_⟩
  rw [List.getElem?_drop] at hx
  have := h.2 _ x hx
  rw [List.drop_drop, ← Nat.add_mul]
  exact this
theorem RdE.set (h : RdE e A w us ds) {j : Nat} (hj : j < ds.length) (hr : e.rel A w cs d) : RdE e A w (us.take (j * e.size) ++ cs ++ us.drop ((j + 1) * e.size)) (ds.set j d) := by
  have hs : ds.set j d = (ds.take j ++ [d]) ++ ds.drop (j + 1) := by
    rw [List.set_eq_take_append_cons_drop, if_pos hj]; simp
  rw [hs]
  exact ((h.take j (by omega)).append (RdE.single hr)).append (h.drop (j + 1))

/-- a slice whose elements read so (the elements' own memory lies in A) -/
def RdY (e : Rep D) (A : Nat → Prop) (w : World) (v : Value) (ds : List D) : Prop :=
  ∃ us, RdN w e.size v ds.length us ∧ RdE e A w us ds
/-- the same, and its row lies in A too -/
def RdS (e : Rep D) (A : Nat → Prop) (w : World) (v : Value) (ds : List D) : Prop :=
  RdY e A w v ds ∧ (0 < ds.length → ∀ k, v.ownBlock = some k → A k)
theorem RdS.y (h : RdS e A w v ds) : RdY e A w v ds := h.1
theorem RdY.shape (h : RdY e A w v ds) : ∃ Ad c, v = .slice Ad ds.length c ∧ ds.length ≤ c ∧ c ≤ 9223372036854775807 := by
  obtain ⟨us, hr, _⟩ := h
  exact hr.shape
theorem RdS.shape (h : RdS e A w v ds) : ∃ Ad c, v = .slice Ad ds.length c ∧ ds.length ≤ c ∧ c ≤ 9223372036854775807 := h.1.shape
theorem RdN.lt_own {size n : Nat} {xs : List Value} (h : RdN w size v n xs) (hn : 0 < n) (hs : 0 < size) : ∀ k, v.ownBlock = some k → k < w.heap.size := by
  obtain ⟨b, off, c, rfl, _, _, hc⟩ := h.form hn
  intro k hk
  have : k = b := by simpa [Value.ownBlock, eq_comm] using hk
  subst this
  have hl : 0 < xs.length := by rw [h.1]; exact Nat.mul_pos hn hs
  exact World.block_lt_of_cell? w _ (hc 0 _ (List.getElem?_eq_getElem hl))
theorem RdN.keepB {size n : Nat} {xs : List Value} (h : RdN w size v n xs) (hk : ∀ k, k < w.heap.size → 0 < n → v.ownBlock = some k → w'.heap[k]? = w.heap[k]?) : RdN w' size v n xs := by
  obtain ⟨hl, Ad, c, rfl, hnc, hm, hA⟩ := h
  refine ⟨hl, Ad, c, rfl, hnc, hm, ?_⟩
  rcases hA with hA | ⟨b, off, rfl, hc⟩
  · exact .inl hA
  · refine .inr ⟨b, off, rfl, fun j u hu => ?_⟩
    have h1 := hc j u hu
    have hn : 0 < n := by
      rcases Nat.eq_zero_or_pos n with rfl | h0
      · rw [List.getElem?_eq_none (by omega)] at hu; cases hu
      · exact h0
    rw [World.cell?_of_block (a := ⟨b, off + j, none⟩) (hk b (World.block_lt_of_cell? w _ h1) hn rfl)]
    exact h1
theorem RdS.keep (h : RdS e A w v ds) (hk : ∀ k, k < w.heap.size → A k → B k ∧ w'.heap[k]? = w.heap[k]?) : RdS e B w' v ds := by
  obtain ⟨⟨us, hr, he⟩, ho⟩ := h
  refine ⟨⟨us, hr.keepB fun k hlt hn hb => (hk k hlt (ho hn k hb)).2, he.keep hk⟩, fun hn k hb => ?_⟩
  exact (hk k (hr.lt_own hn e.pos k hb) (ho hn k hb)).1
theorem RdS.ext (h : RdS e A w v ds) (hE : Ext w w') : RdS e A w' v ds := h.keep fun k hk ha => ⟨ha, hE.block k hk⟩
theorem RdS.mod (h : RdS e A w v ds) (hM : Mod S w w') (hS : ∀ k, k < w.heap.size → A k → ¬ S k) : RdS e A w' v ds := h.keep fun k hk ha => ⟨ha, hM.block k hk (hS k hk ha)⟩
theorem RdS.mono (h : RdS e A w v ds) (hS : ∀ k, k < w.heap.size → A k → B k) : RdS e B w v ds := h.keep fun k hk ha => ⟨hS k hk ha, rfl⟩
theorem RdS.alloc (h : RdS e A w v ds) (o : Obj) : RdS e A (w.alloc o) v ds := h.ext ((Ext.refl w).alloc o)
theorem RdS.drewN (h : RdS e A w v ds) (n : Nat) : RdS e A (w.drewN n) v ds := h.ext ((Ext.refl w).drewN n)
theorem RdS.below {L : Nat} (h : RdS e A w v ds) (hB : Below L w w') (hS : ∀ k, k < w.heap.size → A k → k < L) : RdS e A w' v ds := h.keep fun k hk ha => ⟨ha, hB.block k (hS k hk ha)⟩
/-- all that it reads was there when it was read -/
theorem RdS.lt (h : RdS e A w v ds) : RdS e (fun k => A k ∧ k < w.heap.size) w v ds := h.mono fun _ hk ha => ⟨ha, hk⟩
theorem RdY.ext (h : RdY e A w v ds) (hE : Ext w w') : RdY e A w' v ds := by
  obtain ⟨us, hr, he⟩ := h
  exact ⟨us, hr.ext hE, he.keep fun k hk ha => ⟨ha, hE.block k hk⟩⟩
theorem RdY.alloc (h : RdY e A w v ds) (o : Obj) : RdY e A (w.alloc o) v ds := h.ext ((Ext.refl w).alloc o)
theorem RdY.lt (h : RdY e A w v ds) : RdY e (fun k => A k ∧ k < w.heap.size) w v ds := by
  obtain ⟨us, hr, he⟩ := h
  exact ⟨us, hr, he.keep fun k hk ha => ⟨⟨ha, hk⟩, rfl⟩⟩
theorem RdY.mono (h : RdY e A w v ds) (hS : ∀ k, k < w.heap.size → A k → B k) : RdY e B w v ds := by
  obtain ⟨us, hr, he⟩ := h
  exact ⟨us, hr, he.keep fun k hk ha => ⟨hS k hk ha, rfl⟩⟩
theorem RdS.nil (e : Rep D) (A : Nat → Prop) (w : World) : RdS e A w (.slice none 0 0) [] := ⟨⟨[], RdN.nil _ _, RdE.nil _ _ _⟩, fun h => absurd h (by simp)⟩
/-- a slice as one cell -/
def Rep.sl (e : Rep D) : Rep (List D) where
  size := 1
  pos := by decide
  rel := fun A w cs ds => ∃ v, cs = [v] ∧ RdS e A w v ds
  len := fun ⟨v, h, _⟩ => by rw [h]; rfl
  one := fun ⟨v, h, h2⟩ u hu => by
    obtain ⟨Ad, c, rfl, _⟩ := h2.shape
    rw [h] at hu; simp at hu; subst hu; rfl
  keep := fun ⟨v, h, h2⟩ hk => ⟨v, h, h2.keep hk⟩

/-! ## ints -/
theorem RdE.ints {k : IntKind} {l : List Int} : RdE (Rep.int k) A w (l.map (Value.int k)) l := by
  refine ⟨by simp [Rep.int], fun j x hx => ?_⟩
  show ((l.map (Value.int k)).drop (j * 1)).take 1 = [.int k x]
  rw [Nat.mul_one, ← List.map_drop, ← List.map_take, List.take_one, List.head?_drop, hx]; rfl
theorem RdE.ints_eq {k : IntKind} {l : List Int} (h : RdE (Rep.int k) A w us l) : us = l.map (Value.int k) := by
  apply List.ext_getElem?
  intro j
  have hl : us.length = l.length := by simpa [Rep.int] using h.1
  rcases Nat.lt_or_ge j l.length with hj | hj
  · have h2 : ((us.drop (j * 1)).take 1) = [.int k l[j]] := h.2 j _ (List.getElem?_eq_getElem hj)
    rw [Nat.mul_one, List.take_one, List.head?_drop, List.getElem?_eq_getElem (by omega : j < us.length)] at h2
    simp at h2
    rw [List.getElem?_eq_getElem (by omega), h2, List.getElem?_map, List.getElem?_eq_getElem hj]; rfl
  · rw [List.getElem?_eq_none (by omega), List.getElem?_eq_none (by simp; omega)]
theorem RI.y {k : IntKind} {l : List Int} (h : RI k w v l) : RdY (Rep.int k) A w v l := ⟨_, h, RdE.ints⟩
theorem RI.s {k : IntKind} {l : List Int} (h : RI k w v l) : RdS (Rep.int k) (fun _ => True) w v l := ⟨h.y, fun _ _ _ => trivial⟩
theorem RdY.ri {k : IntKind} {l : List Int} (h : RdY (Rep.int k) A w v l) : RI k w v l := by
  obtain ⟨us, hr, he⟩ := h
  rw [RdE.ints_eq he] at hr
  exact hr
theorem RdS.ri {k : IntKind} {l : List Int} (h : RdS (Rep.int k) A w v l) : RI k w v l := h.1.ri

/-! ## one element, and cuts -/
theorem RdY.cells (h : RdY e A w v ds) {j : Nat} (hj : j < ds.length) : ∃ b off c d cs, v = .slice (some ⟨b, off, none⟩) ds.length c ∧ Hid (ds[j]? = some d) ∧ Hid (e.rel A w cs d) ∧ cs.length = e.size ∧
    ∀ i u, cs[i]? = some u → w.cell? ⟨b, off + j * e.size + i, none⟩ = some u := by
  obtain ⟨us, hr, he⟩ := h
  obtain ⟨b, off, c, rfl, _, _, hc⟩ := hr.form (by omega)
  refine ⟨b, off, c, _, _, rfl, List.getElem?_eq_getElem hj, he.2 j _ (List.getElem?_eq_getElem hj), e.len (he.2 j _ (List.getElem?_eq_getElem hj)), fun i u hu => ?_⟩
  rw [List.getElem?_take] at hu
  split at hu
  · rw [List.getElem?_drop] at hu
    rw [Nat.add_assoc]
    exact hc _ u hu
  · cases hu
/-- of one cell -/
theorem RdY.at1 {Ad : Option Addr} {n c : Nat} (h : RdY e A w (.slice Ad n c) ds) (hs : e.size = 1) {j : Nat} (hj : j < n) :
    ∃ b off u d, Ad = some ⟨b, off, none⟩ ∧ w.cell? ⟨b, off + j, none⟩ = some u ∧ Hid (ds[j]? = some d) ∧ Hid (e.rel A w [u] d) := by
  obtain ⟨Ad', c', hv, _⟩ := h.shape
  simp only [Value.slice.injEq] at hv
  obtain ⟨rfl, rfl, rfl⟩ := hv
  obtain ⟨b, off, c, d, cs, hv, hd, hr, hl, hc⟩ := h.cells hj
  simp only [Value.slice.injEq] at hv
  rw [hs] at hl hc
  match cs, hl with
  | [u], _ => exact ⟨b, off, u, d, hv.1, by simpa using hc 0 u rfl, hd, hr⟩
/-- of two cells -/
theorem RdY.at2 {Ad : Option Addr} {n c : Nat} (h : RdY e A w (.slice Ad n c) ds) (hs : e.size = 2) {j : Nat} (hj : j < n) :
    ∃ b off u u2 d, Ad = some ⟨b, off, none⟩ ∧ w.cell? ⟨b, off + j * 2, none⟩ = some u ∧ w.cell? ⟨b, off + j * 2 + 1, none⟩ = some u2 ∧ Hid (ds[j]? = some d) ∧ Hid (e.rel A w [u, u2] d) := by
  obtain ⟨Ad', c', hv, _⟩ := h.shape
  simp only [Value.slice.injEq] at hv
  obtain ⟨rfl, rfl, rfl⟩ := hv
  obtain ⟨b, off, c, d, cs, hv, hd, hr, hl, hc⟩ := h.cells hj
  simp only [Value.slice.injEq] at hv
  rw [hs] at hl hc
  match cs, hl with
  | [u, u2], _ => exact ⟨b, off, u, u2, d, hv.1, by simpa using hc 0 u rfl, hc 1 u2 rfl, hd, hr⟩
theorem RdS.to_ {Ad : Option Addr} {n c : Nat} (h : RdS e A w (.slice Ad n c) ds) {k : Nat} (hk : k ≤ n) : RdS e A w (.slice Ad k c) (ds.take k) := by
  obtain ⟨Ad', c', hv, _⟩ := h.shape
  simp only [Value.slice.injEq] at hv
  obtain ⟨rfl, rfl, rfl⟩ := hv
  obtain ⟨⟨us, hr, he⟩, ho⟩ := h
  have hl : (ds.take k).length = k := by rw [List.length_take]; omega
  refine ⟨⟨us.take (k * e.size), by rw [hl]; exact hr.to_ hk, he.take k hk⟩, fun hn b hb => ho (by omega) b (by cases Ad with | none => simp [Value.ownBlock] at hb | some a => exact hb)⟩
theorem RdS.cap {Ad : Option Addr} {n c c' : Nat} (h : RdS e A w (.slice Ad n c) ds) (h1 : n ≤ c') (h2 : c' ≤ c) : RdS e A w (.slice Ad n c') ds := by
  obtain ⟨⟨us, ⟨hl, A', k, hv, hnc, hm, hA⟩, he⟩, ho⟩ := h
  simp only [Value.slice.injEq] at hv
  obtain ⟨rfl, rfl, rfl⟩ := hv
  refine ⟨⟨us, ⟨hl, Ad, c', rfl, h1, by omega, ?_⟩, he⟩, fun hn b hb => ho hn b (by cases Ad with | none => simp [Value.ownBlock] at hb | some a => exact hb)⟩
  rcases hA with hA | hA
  · exact .inl (by omega)
  · exact .inr hA
theorem RdS.from_ {Ad : Option Addr} {n c : Nat} (h : RdS e A w (.slice Ad n c) ds) {k : Nat} (hk : k ≤ n) :
    RdS e A w (.slice (if c = k then Ad else Ad.map (·.add (k * e.size))) (n - k) (c - k)) (ds.drop k) := by
  obtain ⟨Ad', c', hv, _⟩ := h.shape
  simp only [Value.slice.injEq] at hv
  obtain ⟨rfl, rfl, rfl⟩ := hv
  obtain ⟨⟨us, hr, he⟩, ho⟩ := h
  have hl : (ds.drop k).length = ds.length - k := by rw [List.length_drop]
  refine ⟨⟨us.drop (k * e.size), by rw [hl]; exact hr.from_ hk, he.drop k⟩, fun hn b hb => ho (by omega) b ?_⟩
  split at hb
  · cases Ad
    · simp [Value.ownBlock] at hb
    · exact hb
  · rcases Ad with _ | a
    · simp [Value.ownBlock] at hb
    · simp only [Option.map_some, Value.ownBlock, Option.some.injEq] at hb ⊢
      rw [← hb]; unfold Addr.add; split <;> rfl
end

/-! ## rows of the call's own -/
section
variable {D : Type} {e : Rep D} {T : TypeId} {base base' : Nat} {A B : Nat → Prop} {S : Nat → Prop} {w w' : World} {cs us news : List Value} {d : D} {ds ds2 : List D} {v v' : Value}
/-- a row of the call's own in a block from 'base' on; what its elements read lies in B, and not in the row -/
def OwnS (e : Rep D) (T : TypeId) (base : Nat) (B : Nat → Prop) (w : World) (v : Value) (ds : List D) : Prop :=
  ∃ us, w.ownsRow base T e.size v ds.length us ∧ RdE e (fun k => B k ∧ v.ownBlock ≠ some k) w us ds
theorem OwnS.shape (h : OwnS e T base B w v ds) : ∃ Ad c, v = .slice Ad ds.length c ∧ ds.length ≤ c ∧ c ≤ 9223372036854775807 := by
  obtain ⟨us, ho, _⟩ := h
  exact (RdN.of_own ho).shape
theorem OwnS.shapeN {n : Nat} (h : OwnS e T base B w v ds) (hn : ds.length = n) : ∃ Ad c, v = .slice Ad n c ∧ n ≤ c ∧ c ≤ 9223372036854775807 := by
  subst hn; exact h.shape
theorem OwnS.row (h : OwnS e T base B w v ds) : ∀ k, v.ownBlock = some k → base ≤ k ∧ k < w.heap.size := by
  obtain ⟨us, ho, _⟩ := h
  exact ho.lt
theorem OwnS.newer (h : OwnS e T base B w v ds) {k : Nat} (hk : w.heap.size ≤ k) : v.ownBlock ≠ some k := fun hv => by have := (h.row k hv).2; omega
theorem OwnS.rd (h : OwnS e T base B w v ds) (hA : ∀ k, base ≤ k → A k) (hB : ∀ k, B k → A k) : RdS e A w v ds := by
  obtain ⟨us, ho, he⟩ := h
  exact ⟨⟨us, RdN.of_own ho, he.keep fun k _ hk => ⟨hB k hk.1, rfl⟩⟩, fun _ k hk => hA k (ho.lt k hk).1⟩
theorem OwnS.rdT (h : OwnS e T base B w v ds) : RdS e (fun _ => True) w v ds := h.rd (fun _ _ => trivial) (fun _ _ => trivial)
theorem OwnS.ext (h : OwnS e T base B w v ds) (hE : Ext w w') : OwnS e T base B w' v ds := by
  obtain ⟨us, ho, he⟩ := h
  exact ⟨us, own_ext ho hE, he.keep fun k hk ha => ⟨ha, hE.block k hk⟩⟩
theorem OwnS.y (h : OwnS e T base B w v ds) : RdY e (fun k => B k ∧ v.ownBlock ≠ some k) w v ds := by
  obtain ⟨us, ho, he⟩ := h
  exact ⟨us, RdN.of_own ho, he⟩
theorem OwnS.addr {Ad : Option Addr} {n c : Nat} (h : OwnS e T base B w (.slice Ad n c) ds) (hn : 0 < n) : ∃ g, Ad = some ⟨g, 0, none⟩ ∧ base ≤ g ∧ ∀ o, w.frozen? ⟨g, o, none⟩ = false := by
  obtain ⟨us, ho, _⟩ := h
  have hl := own_len ho
  obtain ⟨g, h1, h2, h3⟩ := own_addr ho (by omega)
  subst h1 h3
  exact ⟨g, rfl, h2, fun o => ho.frozenAt o⟩
/-- a store into a cell of an element -/
theorem OwnS.store {g n c i j : Nat} {x : Value} {d' : D} (h : OwnS e T base B w (.slice (some ⟨g, 0, none⟩) n c) ds) (hj : j < ds.length) (hi : i < e.size)
    (hr : ∀ cs d, ds[j]? = some d → e.rel (fun k => B k ∧ g ≠ k) w cs d → e.rel (fun k => B k ∧ g ≠ k) w (cs.set i x) d') :
    OwnS e T base B (w.setCell ⟨g, j * e.size + i, none⟩ x) (.slice (some ⟨g, 0, none⟩) n c) (ds.set j d') := by
  obtain ⟨us, ho, he⟩ := h
  obtain rfl := own_len ho
  have hg : ∀ k, (Value.slice (some ⟨g, 0, none⟩) ds.length c).ownBlock ≠ some k ↔ g ≠ k := fun k => by simp [Value.ownBlock]
  refine ⟨us.set (j * e.size + i) x, by rw [List.length_set]; exact (ho.stored _ x).1, ?_⟩
  have key : RdE e (fun k => B k ∧ g ≠ k) w (us.set (j * e.size + i) x) (ds.set j d') := by
    refine ⟨by rw [List.length_set, List.length_set]; exact he.1, fun m d hd => ?_⟩
    by_cases hm : j = m
    · subst hm
      rw [List.getElem?_set_self hj] at hd
      cases hd
      have e1 : ((us.set (j * e.size + i) x).drop (j * e.size)).take e.size = (((us.drop (j * e.size)).take e.size).set i x) := by
        rw [List.drop_set, if_neg (by omega), Nat.add_sub_cancel_left, List.take_set]
      rw [e1]
      exact hr _ _ (List.getElem?_eq_getElem hj) (e.keep (he.2 j _ (List.getElem?_eq_getElem hj)) fun k _ hk => ⟨⟨hk.1, (hg k).1 hk.2⟩, rfl⟩)
    · rw [List.getElem?_set_ne hm] at hd
      have e1 : ((us.set (j * e.size + i) x).drop (m * e.size)).take e.size = (us.drop (m * e.size)).take e.size := by
        rcases Nat.lt_or_gt_of_ne hm with h1 | h1
        · have : (j + 1) * e.size ≤ m * e.size := Nat.mul_le_mul_right _ h1
          rw [Nat.add_mul, Nat.one_mul] at this
          rw [List.drop_set, if_pos (by omega)]
        · have : (m + 1) * e.size ≤ j * e.size := Nat.mul_le_mul_right _ h1
          rw [Nat.add_mul, Nat.one_mul] at this
          rw [List.drop_set, if_neg (by omega), List.take_set_of_le (by omega)]
      rw [e1]
      exact e.keep (he.2 m d hd) fun k _ hk => ⟨⟨hk.1, (hg k).1 hk.2⟩, rfl⟩
  exact key.keep fun k _ hk => ⟨⟨hk.1, (hg k).2 hk.2⟩, Below.heap_setCell w ⟨g, j * e.size + i, none⟩ x k (Ne.symm hk.2)⟩
theorem OwnS.alloc (h : OwnS e T base B w v ds) (o : Obj) : OwnS e T base B (w.alloc o) v ds := h.ext ((Ext.refl w).alloc o)
theorem OwnS.mod (h : OwnS e T base B w v ds) (hM : Mod S w w') (h1 : ∀ k, v.ownBlock = some k → ¬ S k) (h2 : ∀ k, k < w.heap.size → B k → ¬ S k) : OwnS e T base B w' v ds := by
  obtain ⟨us, ho, he⟩ := h
  exact ⟨us, own_mod ho hM h1, he.keep fun k hk ha => ⟨ha, hM.block k hk (h2 k hk ha.1)⟩⟩
theorem OwnS.lower (h : OwnS e T base B w v ds) (hb : base' ≤ base) : OwnS e T base' B w v ds := by
  obtain ⟨us, ho, he⟩ := h
  exact ⟨us, own_base ho hb, he⟩
theorem OwnS.mono (h : OwnS e T base A w v ds) (hB : ∀ k, k < w.heap.size → A k → B k) : OwnS e T base B w v ds := by
  obtain ⟨us, ho, he⟩ := h
  exact ⟨us, ho, he.keep fun k hk ha => ⟨⟨hB k hk ha.1, ha.2⟩, rfl⟩⟩
theorem OwnS.nil (e : Rep D) (T : TypeId) (base : Nat) (B : Nat → Prop) (w : World) : OwnS e T base B w (.slice none 0 0) [] := ⟨[], World.ownsRow_nil _ _ _ _, RdE.nil _ _ _⟩
theorem OwnS.empty (e : Rep D) (T : TypeId) {base n : Nat} (B : Nat → Prop) (hn : w.heap.size = n) (hb : base ≤ n) : OwnS e T base B (w.alloc (.cells #[] T)) (.slice (some ⟨n, 0, none⟩) 0 0) [] :=
  ⟨[], own_empty hn base T e.size hb, RdE.nil _ _ _⟩
theorem OwnS.emptyB (e : Rep D) {n : Nat} (B : Nat → Prop) (h : Blk w n T #[]) (hb : base ≤ n) : OwnS e T base B w (.slice (some ⟨n, 0, none⟩) 0 0) [] :=
  ⟨[], ⟨by simp, .inr ⟨_, _, #[], rfl, hb, h, Nat.le_refl _, Nat.zero_le _, by simp, by simp⟩⟩, RdE.nil _ _ _⟩
theorem OwnS.litB {n m : Nat} (h : RdE e A w cs ds) (hb : Blk w n T cs.toArray) (hA : ∀ k, k < w.heap.size → A k → B k ∧ k ≠ n) (hbase : base ≤ n) (hm : ds.length = m) (hx : m ≤ 1000000) : OwnS e T base B w (.slice (some ⟨n, 0, none⟩) m m) ds := by
  subst hm
  refine ⟨cs, ⟨h.1, .inr ⟨n, ds.length, cs.toArray, rfl, hbase, hb, Nat.le_refl _, by unfold maxLen; omega, by simpa using h.1, ?_⟩⟩, h.keep fun k hk ha => ⟨⟨(hA k hk ha).1, fun h => ?_⟩, rfl⟩⟩
  · rw [List.take_of_length_le (by rw [h.1]; exact Nat.le_refl _)]
  · simp only [Value.ownBlock, Option.some.injEq] at h
    exact (hA k hk ha).2 h.symm
theorem OwnS.of_ints {k : IntKind} {l : List Int} (h : w.ownsRow base T 1 v l.length (l.map (Value.int k))) : OwnS (Rep.int k) T base B w v l := ⟨_, h, RdE.ints⟩
theorem OwnS.ints {k : IntKind} {l : List Int} (h : OwnS (Rep.int k) T base B w v l) : w.ownsRow base T 1 v l.length (l.map (Value.int k)) := by
  obtain ⟨us, ho, he⟩ := h
  rw [RdE.ints_eq he] at ho
  exact ho
/-- what more elements behind it make of it -/
theorem OwnS.app {us : List Value} (he : RdE e (fun k => B k ∧ v.ownBlock ≠ some k) w us ds) (h2 : RdE e A w news ds2) (hA : ∀ k, k < w.heap.size → A k → B k ∧ v.ownBlock ≠ some k) (ho : w'.ownsRow base T e.size v' (ds.length + ds2.length) (us ++ news))
    (hg : w.grownBy w' v.ownBlock) (hb : v'.ownBlock = v.ownBlock ∨ v'.ownBlock = some w.heap.size) : OwnS e T base B w' v' (ds ++ ds2) := by
  refine ⟨us ++ news, by rw [List.length_append]; exact ho, ?_⟩
  refine RdE.keep (he.append (h2.keep fun k hk ha => ⟨hA k hk ha, rfl⟩)) fun k hk ha => ⟨⟨ha.1, ?_⟩, hg.block k hk (Ne.symm ha.2)⟩
  rcases hb with hb | hb
  · rw [hb]; exact ha.2
  · rw [hb]; intro h; cases h; omega
theorem Blk.drew {g : Nat} {cs : Array Value} (h : Blk w g T cs) : Blk w.drew g T cs := h
theorem RdY.singleB (h : e.rel A w cs d) {n : Nat} {t : TypeId} (hn : Blk w n t cs.toArray) : RdY e A w (.slice (some ⟨n, 0, none⟩) 1 1) [d] := by
  refine ⟨cs, ?_, RdE.single h⟩
  refine ⟨by rw [e.len h]; simp, _, _, rfl, Nat.le_refl _, by simp [maxLen], .inr ⟨_, _, rfl, fun j u hu => ?_⟩⟩
  have := hn.cell (0 + j)
  rw [this, Nat.zero_add]
  simpa using hu
theorem RdN.twoB {n : Nat} (hn : w.heap.size = n) (t : TypeId) (x y : Value) : RdN (w.alloc (.cells #[x, y] t)) 1 (.slice (some ⟨n, 0, none⟩) 2 2) 2 [x, y] := by
  subst hn
  refine ⟨rfl, _, _, rfl, Nat.le_refl _, by simp [maxLen], .inr ⟨_, _, rfl, fun j u hu => ?_⟩⟩
  rw [(Blk.new w t #[x, y]).cell (0 + j), Nat.zero_add]
  simpa using hu
theorem grown_mod (hg : w.grownBy w' v.ownBlock) : Mod (fun k => v.ownBlock = some k) w w' :=
  ⟨hg.os, hg.tape, hg.output, hg.size, fun k hk hn => hg.block k hk fun h => hn h.symm⟩
theorem RdY.single (h : e.rel A w cs d) {n : Nat} (hn : w.heap.size = n) (t : TypeId) : RdY e A (w.alloc (.cells cs.toArray t)) (.slice (some ⟨n, 0, none⟩) 1 1) [d] := by
  subst hn
  refine ⟨cs, ?_, RdE.single (Rep.ext h ((Ext.refl w).alloc _))⟩
  refine ⟨by rw [e.len h]; simp, _, _, rfl, Nat.le_refl _, by simp [maxLen], .inr ⟨_, _, rfl, fun j u hu => ?_⟩⟩
  have := (Blk.new w t cs.toArray).cell (0 + j)
  rw [this, Nat.zero_add]
  simpa using hu

variable {P : Program} {z : Value} {bytes : Nat} {t : TypeId}
/-- append, whatever is appended, onto a row of the call's own -/
theorem wp_app {o : Oper} {a : Act} {K : Act → World → Prop} {Q : Exit → Act → World → Prop} (s x : Operand)
    (ho : o.op = .call { callee := .builtin .append, args := #[s, x], argTypes := #[t, t] })
    (ht : P.underlying t = some (.slice T)) (hi : (P.info? T).map (fun i => (i.zero, i.size, i.bytes)) = some (some z, e.size, bytes)) (hz : z.cells.size = e.size)
    (hown : OwnS e T base B w v ds) (hs : a.eval s = v) {y : Value} (hr : RdY e A w y ds2) (hx : a.eval x = y) (hA : ∀ k, k < w.heap.size → A k → B k ∧ v.ownBlock ≠ some k)
    {N : Nat} (hN : ds.length + ds2.length = N) (h63 : N ≤ maxLen) (hbytes : N * bytes ≤ 140737488355328) (hbase : base ≤ w.heap.size)
    (h : ∀ Ad c w', OwnS e T base B w' (.slice Ad N c) (ds ++ ds2) → Mod (fun k => v.ownBlock = some k) w w' → Below base w w' → K (a.put o.dst (.slice Ad N c)) w') : o.wp P a w K Q := by
  subst hN
  obtain ⟨us, hus, he⟩ := hown
  obtain ⟨news, hn, hne⟩ := hr
  obtain ⟨i0, hi0, hz0, hz1, hz2⟩ := info_parts hi
  refine wp_append_rd w s x t ho base T i0 z e.size bytes ht hi0 hz0 hz1 hz2 hz e.pos v ds.length us hs hus y ds2.length news hx hn hne.one h63 hbytes hbase fun v' w' h1 h2 h3 => ?_
  obtain ⟨Ad, c, rfl⟩ := own_shape h1
  exact h Ad c w' (OwnS.app he hne hA h1 h2 h3) (grown_mod h2) ((Below.refl _ _).grown h2 hbase fun k hk => (hus.lt k hk).1)
theorem wpList_app {ops : Array Oper} {rest : List Oper} {o : Oper} {a : Act} {Q : Exit → Act → World → Prop} (hgd : o.guard = none) (s x : Operand)
    (ho : o.op = .call { callee := .builtin .append, args := #[s, x], argTypes := #[t, t] })
    (ht : P.underlying t = some (.slice T)) (hi : (P.info? T).map (fun i => (i.zero, i.size, i.bytes)) = some (some z, e.size, bytes)) (hz : z.cells.size = e.size)
    (hown : OwnS e T base B w v ds) (hs : a.eval s = v) {y : Value} (hr : RdY e A w y ds2) (hx : a.eval x = y) (hA : ∀ k, k < w.heap.size → A k → B k ∧ v.ownBlock ≠ some k)
    {N : Nat} (hN : ds.length + ds2.length = N) (h63 : N ≤ maxLen) (hbytes : N * bytes ≤ 140737488355328) (hbase : base ≤ w.heap.size)
    (h : ∀ Ad c w', OwnS e T base B w' (.slice Ad N c) (ds ++ ds2) → Mod (fun k => v.ownBlock = some k) w w' → Below base w w' → wpList P ops Q rest (a.put o.dst (.slice Ad N c)) w') : wpList P ops Q (o :: rest) a w :=
  wpList_plain hgd fun _ hK => wp_app s x ho ht hi hz hown hs hr hx hA hN h63 hbytes hbase fun Ad c w' h1 h2 h3 => hK _ _ (h Ad c w' h1 h2 h3)
theorem step_app {ops : Array Oper} {o : Oper} {a : Act} {K : Act → World → Prop} {Q : Exit → Act → World → Prop} {E : Prop} (hgd : o.guard = none) (s x : Operand)
    (ho : o.op = .call { callee := .builtin .append, args := #[s, x], argTypes := #[t, t] })
    (ht : P.underlying t = some (.slice T)) (hi : (P.info? T).map (fun i => (i.zero, i.size, i.bytes)) = some (some z, e.size, bytes)) (hz : z.cells.size = e.size)
    (hown : OwnS e T base B w v ds) (hs : a.eval s = v) {y : Value} (hr : RdY e A w y ds2) (hx : a.eval x = y) (hA : ∀ k, k < w.heap.size → A k → B k ∧ v.ownBlock ≠ some k)
    {N : Nat} (hN : ds.length + ds2.length = N) (h63 : N ≤ maxLen) (hbytes : N * bytes ≤ 140737488355328) (hbase : base ≤ w.heap.size)
    (h : ∀ Ad c w', OwnS e T base B w' (.slice Ad N c) (ds ++ ds2) → Mod (fun k => v.ownBlock = some k) w w' → Below base w w' → K (a.put o.dst (.slice Ad N c)) w') :
    if Region.wanted o (yielded ops a.tmps) = true then Oper.wp P o a w K Q else E := by
  have hw : Region.wanted o (yielded ops a.tmps) = true := by simp [Region.wanted, hgd]
  rw [if_pos hw]
  exact wp_app s x ho ht hi hz hown hs hr hx hA hN h63 hbytes hbase h
/-- the same onto an empty literal -/
theorem wpList_app0 {ops : Array Oper} {rest : List Oper} {o : Oper} {a : Act} {Q : Exit → Act → World → Prop} {n : Nat} (hgd : o.guard = none) (s x : Operand)
    (ho : o.op = .call { callee := .builtin .append, args := #[s, x], argTypes := #[t, t] })
    (ht : P.underlying t = some (.slice T)) (hi : (P.info? T).map (fun i => (i.zero, i.size, i.bytes)) = some (some z, e.size, bytes)) (hz : z.cells.size = e.size)
    (hn : Blk w n T #[]) (hs : a.eval s = .slice (some ⟨n, 0, none⟩) 0 0) {y : Value} (hr : RdY e A w y ds2) (hx : a.eval x = y) (hA : ∀ k, k < w.heap.size → A k → k ≠ n)
    (h63 : ds2.length ≤ maxLen) (hbytes : ds2.length * bytes ≤ 140737488355328)
    (h : ∀ Ad c w', OwnS e T n A w' (.slice Ad ds2.length c) ds2 → Mod (fun k => k = n) w w' → Below n w w' → wpList P ops Q rest (a.put o.dst (.slice Ad ds2.length c)) w') : wpList P ops Q (o :: rest) a w := by
  refine wpList_app (B := A) hgd s x ho ht hi hz (OwnS.emptyB e A hn (Nat.le_refl n)) hs hr hx (fun k hk ha => ⟨ha, fun h => ?_⟩) (N := ds2.length) (by simp) h63 hbytes (Nat.le_of_lt hn.lt) fun Ad c w' h1 h2 h3 => ?_
  · simp only [Value.ownBlock, Option.some.injEq] at h
    exact hA k hk ha h.symm
  · simp only [List.nil_append] at h1
    exact h Ad c w' h1 (h2.mono fun k _ hk => by simpa [Value.ownBlock, eq_comm] using hk) h3
theorem step_app0 {ops : Array Oper} {o : Oper} {a : Act} {K : Act → World → Prop} {Q : Exit → Act → World → Prop} {E : Prop} {n : Nat} (hgd : o.guard = none) (s x : Operand)
    (ho : o.op = .call { callee := .builtin .append, args := #[s, x], argTypes := #[t, t] })
    (ht : P.underlying t = some (.slice T)) (hi : (P.info? T).map (fun i => (i.zero, i.size, i.bytes)) = some (some z, e.size, bytes)) (hz : z.cells.size = e.size)
    (hn : Blk w n T #[]) (hs : a.eval s = .slice (some ⟨n, 0, none⟩) 0 0) {y : Value} (hr : RdY e A w y ds2) (hx : a.eval x = y) (hA : ∀ k, k < w.heap.size → A k → k ≠ n)
    (h63 : ds2.length ≤ maxLen) (hbytes : ds2.length * bytes ≤ 140737488355328)
    (h : ∀ Ad c w', OwnS e T n A w' (.slice Ad ds2.length c) ds2 → Mod (fun k => k = n) w w' → Below n w w' → K (a.put o.dst (.slice Ad ds2.length c)) w') :
    if Region.wanted o (yielded ops a.tmps) = true then Oper.wp P o a w K Q else E := by
  refine step_app (B := A) hgd s x ho ht hi hz (OwnS.emptyB e A hn (Nat.le_refl n)) hs hr hx (fun k hk ha => ⟨ha, fun h => ?_⟩) (N := ds2.length) (by simp) h63 hbytes (Nat.le_of_lt hn.lt) fun Ad c w' h1 h2 h3 => ?_
  · simp only [Value.ownBlock, Option.some.injEq] at h
    exact hA k hk ha h.symm
  · simp only [List.nil_append] at h1
    exact h Ad c w' h1 (h2.mono fun k _ hk => by simpa [Value.ownBlock, eq_comm] using hk) h3
end
/-- a guarded operation that is wanted -/
theorem wpList_openG {P : Program} {ops : Array Oper} {Q : Exit → Act → World → Prop} {a : Act} {w : World} {rest : List Oper} {o : Oper} {j : Nat} {b : Bool} (hg : o.guard = some (j, b)) (hj : yielded ops a.tmps j = some b)
    (h : wpList P ops Q ({ o with guard := none } :: rest) a w) : wpList P ops Q (o :: rest) a w := by
  simp only [wpList, Region.wanted, hg, hj, beq_self_eq_true, if_true] at h ⊢
  exact h
/-- bytes as a text -/
theorem RI.str {P : Program} {src dst e : TypeId} {w : World} {A : Option Addr} {n c : Nat} {l : List Int} (hs : P.underlying src = some (.slice e)) (he : P.underlying e = some (.int .u8)) (hd : P.underlying dst = some .string)
    (h : RI .u8 w (.slice A n c) l) : (convert src dst (.slice A n c)).run P w = .ok (.string (strOfNums l)) w := by
  obtain ⟨_, A', c', hv, hnc, hm, hA⟩ := h
  simp only [Value.slice.injEq] at hv
  obtain ⟨rfl, rfl, rfl⟩ := hv
  rcases hA with rfl | ⟨b, off, rfl, hc⟩
  · obtain rfl : l = [] := List.eq_nil_of_length_eq_zero (by omega)
    rcases A with _ | a
    · rw [run_convert_bytes_nil w src e hs he _ _ dst hd]; rfl
    · rw [run_convert_bytes_string w src dst e _ _ _ hs he hd, run_bytesToString w a _ _ [] (by simp [loadCells, loadCellsFrom])]; rfl
  · refine run_convert_bytes_arg w src e hs he b off _ _ l rfl (fun i hi => ?_) dst hd
    rw [hc i (.int .u8 (l.getD i 0))]
    rw [List.getElem?_map, List.getElem?_eq_getElem hi, List.getD_eq_getElem?_getD, List.getElem?_eq_getElem hi]; rfl
/-- a literal slice -/
theorem RdS.litB {D : Type} {e : Rep D} {A : Nat → Prop} {w : World} {cs : List Value} {ds : List D} {n m : Nat} {t : TypeId} (h : RdE e A w cs ds) (hb : Blk w n t cs.toArray) (hm : ds.length = m) (hx : m ≤ 1000000) :
    RdS e (fun k => A k ∨ k = n) w (.slice (some ⟨n, 0, none⟩) m m) ds := by
  subst hm
  refine ⟨⟨cs, ⟨h.1, _, _, rfl, Nat.le_refl _, by unfold maxLen; omega, .inr ⟨_, _, rfl, fun j u hu => ?_⟩⟩, h.keep fun k _ hk => ⟨.inl hk, rfl⟩⟩, fun _ k hk => .inr (by simpa [Value.ownBlock, eq_comm] using hk)⟩
  rw [hb.cell (0 + j), Nat.zero_add]
  simpa using hu
end Go.Kb
