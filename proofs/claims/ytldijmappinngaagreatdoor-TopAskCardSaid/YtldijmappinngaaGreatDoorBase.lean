/- Words on memory for the proofs of this seat, over any program: a slice that reads as a list of cells, a world that only grew, append onto a row of the call's own, whatever is appended. No condition. -/
import Derived.WalkKit
import Derived.WalkSpells
import Derived.WalkLawsBesides
import Derived.BigQuiet
import Derived.Lib.Hide
import Derived.Deep.QuietTactic
import Derived.Deep.Draws
import Derived.Deep.AppendLies
import Derived.Maps.AppendAt
import Derived.Deep.RegionLaw
import Derived.Deep.RegionHeld3
import Derived.Lib.SliceRun
import Derived.Lib.SlBytesConst
import Derived.Lib.AppendZeros
import Derived.Laws.BitsAllLaws
import Derived.Laws.BitsLemmas
namespace Go.Kb
open Go.RowKit

/-- The world only grew: whatever was there is as it was. -/
abbrev Ext (w w' : World) : Prop := Below w.heap.size w w'
theorem Ext.refl (w : World) : Ext w w := Below.refl _ _
theorem Ext.trans {a b c : World} (h : Ext a b) (k : Ext b c) : Ext a c := Below.trans h (k.mono h.size)
theorem Ext.trans_below {a b c : World} {B : Nat} (h : Ext a b) (k : Below B b c) (hB : a.heap.size ≤ B := by omega) : Ext a c := Below.trans h (k.mono hB)
theorem Ext.alloc {a w : World} (h : Ext a w) (o : Obj) : Ext a (w.alloc o) := Below.alloc h h.size o
theorem Ext.drewN {a w : World} (h : Ext a w) (n : Nat) : Ext a (w.drewN n) := ⟨h.os, h.tape, h.output, h.size, h.block⟩
theorem Ext.drew {a w : World} (h : Ext a w) : Ext a w.drew := ⟨h.os, h.tape, h.output, h.size, h.block⟩
theorem Ext.setNew {a w : World} (h : Ext a w) {p : Addr} (hp : a.heap.size ≤ p.block) (u : Value) : Ext a (w.setCell p u) := Below.setCell h hp u
theorem Ext.grownNew {a w w' : World} {row : Option Nat} (h : Ext a w) (hg : w.grownBy w' row) (hr : ∀ k, row = some k → a.heap.size ≤ k) : Ext a w' := Below.grown h hg h.size hr
theorem Bc {B : Nat} {w w1 : World} (hb : Below B w w1) : ∀ b o, b < B → w1.cell? ⟨b, o, none⟩ = w.cell? ⟨b, o, none⟩ := fun b o h => Below.cell hb (p := ⟨b, o, none⟩) h
theorem Bf {B : Nat} {w w1 : World} (hb : Below B w w1) : ∀ b o, b < B → w1.frozen? ⟨b, o, none⟩ = w.frozen? ⟨b, o, none⟩ := fun b o h => Below.frozen hb (p := ⟨b, o, none⟩) h
theorem cell_ext {w w' : World} {a : Addr} {v : Value} (hE : Ext w w') (h : w.cell? a = some v) : w'.cell? a = some v := by
  rw [Below.cell hE (World.block_lt_of_cell? w a h)]; exact h
theorem Ext.cell {w w1 : World} (hb : Ext w w1) : ∀ b o, b < w.heap.size → w1.cell? ⟨b, o, none⟩ = w.cell? ⟨b, o, none⟩ := fun b o h => Below.cell hb (p := ⟨b, o, none⟩) h
theorem Ext.frozen {w w1 : World} (hb : Ext w w1) : ∀ b o, b < w.heap.size → w1.frozen? ⟨b, o, none⟩ = w.frozen? ⟨b, o, none⟩ := fun b o h => Below.frozen hb (p := ⟨b, o, none⟩) h

/-- 'v' is a slice of 'n' elements of 'size' cells, and its cells read 'xs'. -/
def RdN (w : World) (size : Nat) (v : Value) (n : Nat) (xs : List Value) : Prop :=
  xs.length = n * size ∧ ∃ A c, v = .slice A n c ∧ n ≤ c ∧ c ≤ maxLen ∧
    (c = 0 ∨ ∃ b off, A = some ⟨b, off, none⟩ ∧ ∀ j u, xs[j]? = some u → w.cell? ⟨b, off + j, none⟩ = some u)
abbrev Rd (w : World) (v : Value) (xs : List Value) : Prop := RdN w 1 v xs.length xs

section
variable {w w' : World} {size n : Nat} {v : Value} {xs : List Value}
theorem RdN.nil (w : World) (size : Nat) : RdN w size (.slice none 0 0) 0 [] := ⟨by simp, none, 0, rfl, Nat.le_refl _, Nat.zero_le _, .inl rfl⟩
theorem RdN.keep (h : RdN w size v n xs) (hk : ∀ b off j u, xs[j]? = some u → w.cell? ⟨b, off + j, none⟩ = some u → w'.cell? ⟨b, off + j, none⟩ = some u) : RdN w' size v n xs := by
  obtain ⟨hl, A, c, hv, hnc, hm, hA⟩ := h
  refine ⟨hl, A, c, hv, hnc, hm, ?_⟩
  rcases hA with hA | ⟨b, off, hA, hc⟩
  · exact .inl hA
  · exact .inr ⟨b, off, hA, fun j u hu => hk b off j u hu (hc j u hu)⟩
theorem RdN.ext (h : RdN w size v n xs) (hE : Ext w w') : RdN w' size v n xs :=
  h.keep fun b off j u _ hc => by
    rw [hE.cell b _ (World.block_lt_of_cell? w _ hc)]; exact hc
theorem RdN.alloc (h : RdN w size v n xs) (o : Obj) : RdN (w.alloc o) size v n xs := h.ext ((Ext.refl w).alloc o)
theorem RdN.drewN (h : RdN w size v n xs) (k : Nat) : RdN (w.drewN k) size v n xs := h
theorem RdN.drew (h : RdN w size v n xs) : RdN w.drew size v n xs := h
/-- what an owned row reads as -/
theorem RdN.of_own {base : Nat} {e : TypeId} (h : w.ownsRow base e size v n xs) : RdN w size v n xs := by
  refine ⟨h.1, ?_⟩
  rcases h.2 with ⟨rfl, rfl⟩ | ⟨g, cap, cur, rfl, _, _, hnc, hcm, _⟩
  · exact ⟨none, 0, rfl, Nat.le_refl _, Nat.zero_le _, .inl rfl⟩
  · refine ⟨some ⟨g, 0, none⟩, cap, rfl, hnc, hcm, .inr ⟨g, 0, rfl, fun j u hu => ?_⟩⟩
    have := h.cells (g := g) rfl j u hu
    simpa [Addr.add_lit] using this
theorem RdN.shape (h : RdN w size v n xs) : ∃ A c, v = .slice A n c ∧ n ≤ c ∧ c ≤ 9223372036854775807 := by
  obtain ⟨_, A, c, hv, h1, h2, _⟩ := h
  exact ⟨A, c, hv, h1, h2⟩
/-- a cut from 'k' on -/
theorem RdN.from_ {A : Option Addr} {c : Nat} (h : RdN w size (.slice A n c) n xs) {k : Nat} (hk : k ≤ n) :
    RdN w size (.slice (if c = k then A else A.map (·.add (k * size))) (n - k) (c - k)) (n - k) (xs.drop (k * size)) := by
  obtain ⟨hl, A', c', hv, hnc, hm, hA⟩ := h
  simp only [Value.slice.injEq] at hv
  obtain ⟨rfl, _, rfl⟩ := hv
  refine ⟨by rw [List.length_drop, hl, Nat.sub_mul], _, _, rfl, by omega, by omega, ?_⟩
  rcases hA with rfl | ⟨b, off, rfl, hc⟩
  · exact .inl (by omega)
  · by_cases hck : c = k
    · rw [if_pos hck]
      refine .inr ⟨b, off, rfl, fun j u hu => ?_⟩
      have : n = k := by omega
      subst this
      rw [List.drop_eq_nil_of_le (by omega)] at hu
      simp at hu
    · rw [if_neg hck]
      refine .inr ⟨b, off + k * size, ?_, fun j u hu => ?_⟩
      · simp [Addr.add]
      · rw [List.getElem?_drop] at hu
        have := hc _ u hu
        rw [Nat.add_assoc]; exact this
/-- a cut up to 'k' -/
theorem RdN.to_ {A : Option Addr} {c : Nat} (h : RdN w size (.slice A n c) n xs) {k : Nat} (hk : k ≤ n) :
    RdN w size (.slice A k c) k (xs.take (k * size)) := by
  obtain ⟨hl, A', c', hv, hnc, hm, hA⟩ := h
  simp only [Value.slice.injEq] at hv
  obtain ⟨rfl, _, rfl⟩ := hv
  refine ⟨?_, _, _, rfl, by omega, hm, ?_⟩
  · rw [List.length_take, hl]; exact Nat.min_eq_left (Nat.mul_le_mul_right _ hk)
  · rcases hA with hA | ⟨b, off, rfl, hc⟩
    · exact .inl hA
    · refine .inr ⟨b, off, rfl, fun j u hu => hc j u ?_⟩
      rw [List.getElem?_take] at hu
      split at hu
      · exact hu
      · cases hu
end

/-- the shape of a value that reads as n elements, n not nought -/
theorem RdN.form {w : World} {size n : Nat} {v : Value} {xs : List Value} (h : RdN w size v n xs) (hn : 0 < n) :
    ∃ b off c, v = .slice (some ⟨b, off, none⟩) n c ∧ n ≤ c ∧ c ≤ maxLen ∧ ∀ j u, xs[j]? = some u → w.cell? ⟨b, off + j, none⟩ = some u := by
  obtain ⟨_, A, c, hv, hnc, hm, hA⟩ := h
  rcases hA with rfl | ⟨b, off, rfl, hc⟩
  · omega
  · exact ⟨b, off, c, hv, hnc, hm, hc⟩

/-- bytes, and lists of ints, as cells -/
abbrev u8s (l : List Int) : List Value := l.map (Value.int .u8)
abbrev i64s (l : List Int) : List Value := l.map (Value.int .i64)
/-- bytes -/
def Bs (l : List Int) : Prop := ∀ x ∈ l, 0 ≤ x ∧ x ≤ 255
theorem RdN.addr {w : World} {size n n' c : Nat} {A : Option Addr} {xs : List Value} (h : RdN w size (.slice A n c) n' xs) (hn : 0 < n) : ∃ b off, A = some ⟨b, off, none⟩ := by
  obtain ⟨_, A', c', hv, hnc, _, hA⟩ := h
  simp only [Value.slice.injEq] at hv
  obtain ⟨rfl, rfl, rfl⟩ := hv
  rcases hA with rfl | ⟨b, off, rfl, _⟩
  · omega
  · exact ⟨b, off, rfl⟩
/-- a slice of ints of a kind -/
abbrev RI (k : IntKind) (w : World) (v : Value) (l : List Int) : Prop := RdN w 1 v l.length (l.map (Value.int k))
theorem RdN.icell {k : IntKind} {w : World} {A : Option Addr} {n c : Nat} {l : List Int} (h : RI k w (.slice A n c) l) {j : Nat} (hj : j < n) :
    ∃ b off x, A = some ⟨b, off, none⟩ ∧ w.cell? ⟨b, off + j, none⟩ = some (.int k x) ∧ Hid (l[j]? = some x) := by
  obtain ⟨hl, A', c', hv, hnc, hm, hA⟩ := h
  simp only [Value.slice.injEq] at hv
  obtain ⟨rfl, rfl, rfl⟩ := hv
  rcases hA with rfl | ⟨b, off, rfl, hc⟩
  · omega
  · refine ⟨b, off, l[j]'hj, rfl, hc j _ ?_, ?_⟩
    · simp [List.getElem?_eq_getElem hj]
    · exact (List.getElem?_eq_getElem hj : l[j]? = some l[j])
theorem RI.sub_ {k : IntKind} {w : World} {b off c n : Nat} {l : List Int} (h : RI k w (.slice (some ⟨b, off, none⟩) n c) l) {lo m : Nat} (hm : lo + m ≤ n) :
    RI k w (.slice (some ⟨b, off + lo, none⟩) m (c - lo)) ((l.drop lo).take m) := by
  obtain ⟨_, A', c', hv, hnc, hcm, hA⟩ := h
  simp only [Value.slice.injEq] at hv
  obtain ⟨rfl, rfl, rfl⟩ := hv
  have hl : ((l.drop lo).take m).length = m := by simp; omega
  refine ⟨by simp, _, _, by rw [hl], by omega, by omega, .inr ⟨b, off + lo, rfl, fun j u hu => ?_⟩⟩
  rcases hA with h0 | ⟨b', off', h0, hc⟩
  · rw [List.getElem?_eq_none (by simp; omega)] at hu; cases hu
  · simp only [Option.some.injEq, Addr.mk.injEq] at h0
    obtain ⟨rfl, rfl, _⟩ := h0
    rw [Nat.add_assoc]
    apply hc
    rw [List.getElem?_map, List.getElem?_take] at hu
    split at hu
    · rw [List.getElem?_drop] at hu
      rw [List.getElem?_map]; exact hu
    · simp at hu
theorem RI.toA {k : IntKind} {w : World} {A : Option Addr} {c n : Nat} {l : List Int} (h : RI k w (.slice A n c) l) {m : Nat} (hm : m ≤ n) : RI k w (.slice A m c) (l.take m) := by
  obtain ⟨_, A', c', hv, hnc, hcm, hA⟩ := h
  simp only [Value.slice.injEq] at hv
  obtain ⟨rfl, rfl, rfl⟩ := hv
  have hl : (l.take m).length = m := by simp; omega
  refine ⟨by simp, _, _, by rw [hl], by omega, hcm, ?_⟩
  rcases hA with rfl | ⟨b, off, rfl, hc⟩
  · exact .inl rfl
  · refine .inr ⟨b, off, rfl, fun j u hu => hc j u ?_⟩
    rw [List.getElem?_map, List.getElem?_take] at hu
    split at hu
    · rw [List.getElem?_map]; exact hu
    · simp at hu
theorem RI.fromA {k : IntKind} {w : World} {A : Option Addr} {c n : Nat} {l : List Int} (h : RI k w (.slice A n c) l) {lo : Nat} (hm : lo ≤ n) :
    RI k w (.slice (if c = lo then A else Option.map (fun x => ⟨x.block, x.off + lo, none⟩) A) (n - lo) (c - lo)) (l.drop lo) := by
  obtain ⟨_, A', c', hv, hnc, hcm, hA⟩ := h
  simp only [Value.slice.injEq] at hv
  obtain ⟨rfl, rfl, rfl⟩ := hv
  have hl : (l.drop lo).length = l.length - lo := by simp
  refine ⟨by simp, _, _, by rw [hl], by omega, by omega, ?_⟩
  by_cases hcl : c = lo
  · exact .inl (by omega)
  · rw [if_neg hcl]
    rcases hA with rfl | ⟨b, off, rfl, hc⟩
    · omega
    · refine .inr ⟨b, off + lo, rfl, fun j u hu => ?_⟩
      rw [Nat.add_assoc]
      apply hc
      rw [List.getElem?_map, List.getElem?_drop] at hu
      rw [List.getElem?_map]; exact hu
theorem RI.fromB {k : IntKind} {w : World} {A : Option Addr} {c n : Nat} {l : List Int} (h : RI k w (.slice A n c) l) {lo : Nat} (hm : lo ≤ n) :
    RI k w (.slice (if c = lo then A else Option.map (fun x => x.add lo) A) (n - lo) (c - lo)) (l.drop lo) := by
  have h1 := h.fromA hm
  by_cases hc : c = lo
  · rw [if_pos hc] at h1 ⊢; exact h1
  · rw [if_neg hc] at h1 ⊢
    obtain ⟨_, A', c', hv, hnc, _, hA⟩ := h
    simp only [Value.slice.injEq] at hv
    obtain ⟨rfl, rfl, rfl⟩ := hv
    rcases hA with rfl | ⟨b, off, rfl, _⟩
    · omega
    · simpa [Addr.add_lit] using h1
theorem RI.from_ {k : IntKind} {w : World} {b off c n : Nat} {l : List Int} (h : RI k w (.slice (some ⟨b, off, none⟩) n c) l) {lo : Nat} (hm : lo ≤ n) :
    RI k w (.slice (if c = lo then some ⟨b, off, none⟩ else some ⟨b, off + lo, none⟩) (n - lo) (c - lo)) (l.drop lo) := by
  obtain ⟨_, A', c', hv, hnc, hcm, hA⟩ := h
  simp only [Value.slice.injEq] at hv
  obtain ⟨rfl, rfl, rfl⟩ := hv
  have hl : (l.drop lo).length = l.length - lo := by simp
  by_cases hcl : c = lo
  · have : l.length = lo := by omega
    rw [if_pos hcl]
    refine ⟨by simp, _, _, by rw [hl], by omega, by omega, .inr ⟨b, off, rfl, fun j u hu => ?_⟩⟩
    rw [List.drop_eq_nil_of_le (by omega)] at hu
    simp at hu
  · rw [if_neg hcl]
    refine ⟨by simp, _, _, by rw [hl], by omega, by omega, .inr ⟨b, off + lo, rfl, fun j u hu => ?_⟩⟩
    rcases hA with h0 | ⟨b', off', h0, hc⟩
    · omega
    · simp only [Option.some.injEq, Addr.mk.injEq] at h0
      obtain ⟨rfl, rfl, _⟩ := h0
      rw [Nat.add_assoc]
      apply hc
      rw [List.getElem?_map, List.getElem?_drop] at hu
      rw [List.getElem?_map]; exact hu
theorem RI.lit {w : World} {B : Nat} {fr : Nat × Nat} (k : IntKind) (l : List Int) (e : TypeId) (hB : w.heap.size = B) (hl : l.length ≤ 1000000) :
    RI k (w.alloc (.cells (l.map (Value.int k)).toArray e fr)) (.slice (some ⟨B, 0, none⟩) l.length l.length) l := by
  subst hB
  refine ⟨by simp, _, _, rfl, Nat.le_refl _, by unfold maxLen; omega, .inr ⟨_, _, rfl, fun j u hu => ?_⟩⟩
  have h : (w.alloc (.cells (l.map (Value.int k)).toArray e fr)).cell? ⟨w.heap.size, 0 + j, none⟩ = (l.map (Value.int k)).toArray[0 + j]? := cell_of_row _ _ _ _ e fr (heap_alloc_new w _)
  rw [h, Nat.zero_add]
  simpa using hu
theorem take_succ_of {l : List Int} {j : Nat} {x : Int} (h : l[j]? = some x) : l.take (j + 1) = l.take j ++ [x] := by
  rw [List.take_add_one, h]; rfl
/-- the number that the first four bytes tell -/
def hd4 (r : List Int) : Int := r.getD 0 0 * 16777216 + r.getD 1 0 * 65536 + r.getD 2 0 * 256 + r.getD 3 0
theorem hd4_bd {r : List Int} (hB : Bs r) : 0 ≤ hd4 r ∧ hd4 r < 4294967296 := by
  have key : ∀ i, 0 ≤ r.getD i 0 ∧ r.getD i 0 ≤ 255 := fun i => by
    rcases Nat.lt_or_ge i r.length with h | h
    · rw [List.getD_eq_getElem?_getD, List.getElem?_eq_getElem h]; exact hB _ (List.getElem_mem h)
    · rw [List.getD_eq_getElem?_getD, List.getElem?_eq_none h]; decide
  have h0 := key 0
  have h1 := key 1
  have h2 := key 2
  have h3 := key 3
  unfold hd4
  omega
theorem four_of {r : List Int} (h : 4 ≤ r.length) : ∃ a b c d t, r = a :: b :: c :: d :: t := by
  match r, h with
  | a :: b :: c :: d :: t, _ => exact ⟨a, b, c, d, t, rfl⟩
theorem one_ints (k : IntKind) (l : List Int) : ∀ u ∈ l.map (Value.int k), u.oneCell' = true := ints_oneCell k l

section
variable {P : Program} (w : World)
/-- append onto a row of the call's own, whatever is appended -/
theorem run_append_rd (base : Nat) (t ty e : TypeId) (i : TypeInfo) (z : Value) (size bytes : Nat) (ht : P.underlying t = some (.slice e)) (hi : P.info? e = some i) (hz : i.zero = some z)
    (hsize : i.size = size) (hby : i.bytes = bytes) (hzs : z.cells.size = size) (hsz : 0 < size)
    (v : Value) (n : Nat) (xs : List Value) (hown : w.ownsRow base e size v n xs)
    (x : Value) (m : Nat) (news : List Value) (hr : RdN w size x m news) (h1 : ∀ u ∈ news, u.oneCell' = true)
    (h63 : n + m ≤ maxLen) (hbytes : (n + m) * bytes ≤ 140737488355328) (hbase : base ≤ w.heap.size) :
    ∃ v' w', (Builtin.append_ #[t, t] ty #[v, x]).run P w = .ok v' w' ∧ w'.ownsRow base e size v' (n + m) (xs ++ news) ∧ w.grownBy w' v.ownBlock ∧
      (v'.ownBlock = v.ownBlock ∨ v'.ownBlock = some w.heap.size) := by
  obtain ⟨hl, A, c, rfl, hmc, hcm, hA⟩ := hr
  rcases hA with rfl | ⟨b, off, rfl, hcell⟩
  · have hm : m = 0 := by omega
    subst hm
    have hn : news = [] := List.eq_nil_of_length_eq_zero (by simpa using hl)
    subst hn
    rcases A with _ | ad
    · refine ⟨v, w, ?_, by simpa using hown, World.grownBy.refl w _, .inl rfl⟩
      rcases hown.2 with ⟨rfl, rfl⟩ | ⟨g, cap, cur, rfl, _, _, hnc, _⟩
      · simp [Builtin.append_, run_underlying ht, sizeOf, typeInfo, hi, Builtin.lenOf, Builtin.firstCells]
      · simp [Builtin.append_, run_underlying ht, sizeOf, typeInfo, hi, Builtin.lenOf, Builtin.firstCells, hnc, storeCells]
    · obtain ⟨v', w', hrun, h2, h3, _, h5⟩ := run_append_own_at (P := P) w base t ty e i z size bytes ht hi hz hsize hby hzs hsz v n xs hown ad 0 0 [] (by simp) (fun j u hu => by simp at hu) h1 h63 hbytes hbase
      exact ⟨v', w', hrun, h2, h3, h5⟩
  · have hcells : ∀ j u, news[j]? = some u → w.cell? ((⟨b, off, none⟩ : Addr).add j) = some u := by
      intro j u hu
      simpa [Addr.add_lit] using hcell j u hu
    obtain ⟨v', w', hrun, h2, h3, _, h5⟩ := run_append_own_at (P := P) w base t ty e i z size bytes ht hi hz hsize hby hzs hsz v n xs hown _ m c news hl hcells h1 h63 hbytes hbase
    exact ⟨v', w', hrun, h2, h3, h5⟩

theorem wp_append_rd {o : Oper} {a : Act} {K : Act → World → Prop} {Q : Exit → Act → World → Prop} (s x : Operand) (t : TypeId)
    (ho : o.op = .call { callee := .builtin .append, args := #[s, x], argTypes := #[t, t] })
    (base : Nat) (e : TypeId) (i : TypeInfo) (z : Value) (size bytes : Nat) (ht : P.underlying t = some (.slice e)) (hi : P.info? e = some i) (hz : i.zero = some z)
    (hsize : i.size = size) (hby : i.bytes = bytes) (hzs : z.cells.size = size) (hsz : 0 < size)
    (v : Value) (n : Nat) (xs : List Value) (hs : a.eval s = v) (hown : w.ownsRow base e size v n xs)
    (y : Value) (m : Nat) (news : List Value) (hx : a.eval x = y) (hr : RdN w size y m news) (h1 : ∀ u ∈ news, u.oneCell' = true)
    (h63 : n + m ≤ maxLen) (hbytes : (n + m) * bytes ≤ 140737488355328) (hbase : base ≤ w.heap.size)
    (h : ∀ v' w', w'.ownsRow base e size v' (n + m) (xs ++ news) → w.grownBy w' v.ownBlock → (v'.ownBlock = v.ownBlock ∨ v'.ownBlock = some w.heap.size) → K (a.put o.dst v') w') : o.wp P a w K Q := by
  obtain ⟨v', w', hrun, h2, h3, h4⟩ := run_append_rd (P := P) w base t o.type e i z size bytes ht hi hz hsize hby hzs hsz v n xs hown y m news hr h1 h63 hbytes hbase
  unfold Oper.wp execOp
  simp only [ho, resolve, invoke, builtin, Sem.run_bind, Sem.run_pure, Result.andThen_ok, List.map_toArray, List.map_cons, List.map_nil, hs, hx, hrun]
  exact h v' w' h2 h3 h4

theorem wpList_append_rd {ops : Array Oper} {rest : List Oper} {o : Oper} {a : Act} {Q : Exit → Act → World → Prop} (hgd : o.guard = none) (s x : Operand) (t : TypeId)
    (ho : o.op = .call { callee := .builtin .append, args := #[s, x], argTypes := #[t, t] })
    (base : Nat) (e : TypeId) (i : TypeInfo) (z : Value) (size bytes : Nat) (ht : P.underlying t = some (.slice e)) (hi : P.info? e = some i) (hz : i.zero = some z)
    (hsize : i.size = size) (hby : i.bytes = bytes) (hzs : z.cells.size = size) (hsz : 0 < size)
    (v : Value) (n : Nat) (xs : List Value) (hs : a.eval s = v) (hown : w.ownsRow base e size v n xs)
    (y : Value) (m : Nat) (news : List Value) (hx : a.eval x = y) (hr : RdN w size y m news) (h1 : ∀ u ∈ news, u.oneCell' = true)
    (h63 : n + m ≤ maxLen) (hbytes : (n + m) * bytes ≤ 140737488355328) (hbase : base ≤ w.heap.size)
    (h : ∀ v' w', w'.ownsRow base e size v' (n + m) (xs ++ news) → w.grownBy w' v.ownBlock → (v'.ownBlock = v.ownBlock ∨ v'.ownBlock = some w.heap.size) → wpList P ops Q rest (a.put o.dst v') w') : wpList P ops Q (o :: rest) a w :=
  wpList_plain hgd fun _ hK => wp_append_rd w s x t ho base e i z size bytes ht hi hz hsize hby hzs hsz v n xs hs hown y m news hx hr h1 h63 hbytes hbase fun v' w' h2 h3 h4 => hK _ _ (h v' w' h2 h3 h4)

theorem step_append_rd {ops : Array Oper} {o : Oper} {a : Act} {K : Act → World → Prop} {Q : Exit → Act → World → Prop} {E : Prop} (hgd : o.guard = none) (s x : Operand) (t : TypeId)
    (ho : o.op = .call { callee := .builtin .append, args := #[s, x], argTypes := #[t, t] })
    (base : Nat) (e : TypeId) (i : TypeInfo) (z : Value) (size bytes : Nat) (ht : P.underlying t = some (.slice e)) (hi : P.info? e = some i) (hz : i.zero = some z)
    (hsize : i.size = size) (hby : i.bytes = bytes) (hzs : z.cells.size = size) (hsz : 0 < size)
    (v : Value) (n : Nat) (xs : List Value) (hs : a.eval s = v) (hown : w.ownsRow base e size v n xs)
    (y : Value) (m : Nat) (news : List Value) (hx : a.eval x = y) (hr : RdN w size y m news) (h1 : ∀ u ∈ news, u.oneCell' = true)
    (h63 : n + m ≤ maxLen) (hbytes : (n + m) * bytes ≤ 140737488355328) (hbase : base ≤ w.heap.size)
    (h : ∀ v' w', w'.ownsRow base e size v' (n + m) (xs ++ news) → w.grownBy w' v.ownBlock → (v'.ownBlock = v.ownBlock ∨ v'.ownBlock = some w.heap.size) → K (a.put o.dst v') w') :
    if Region.wanted o (yielded ops a.tmps) = true then Oper.wp P o a w K Q else E := by
  have hw : Region.wanted o (yielded ops a.tmps) = true := by simp [Region.wanted, hgd]
  rw [if_pos hw]
  exact wp_append_rd w s x t ho base e i z size bytes ht hi hz hsize hby hzs hsz v n xs hs hown y m news hx hr h1 h63 hbytes hbase h
end

theorem own_ext {w w' : World} {base : Nat} {e : TypeId} {size : Nat} {v : Value} {n : Nat} {xs : List Value} (h : w.ownsRow base e size v n xs) (hE : Ext w w') : w'.ownsRow base e size v n xs := by
  refine ⟨h.1, ?_⟩
  rcases h.2 with h2 | ⟨g, cap, cur, hv, hg, hh, r⟩
  · exact .inl h2
  · exact .inr ⟨g, cap, cur, hv, hg, by rw [hE.block g (lt_of_block hh)]; exact hh, r⟩
theorem own_base {w : World} {base base' : Nat} {e : TypeId} {size : Nat} {v : Value} {n : Nat} {xs : List Value} (h : w.ownsRow base e size v n xs) (hb : base' ≤ base) : w.ownsRow base' e size v n xs := by
  refine ⟨h.1, ?_⟩
  rcases h.2 with h2 | ⟨g, cap, cur, hv, hg, r⟩
  · exact .inl h2
  · exact .inr ⟨g, cap, cur, hv, Nat.le_trans hb hg, r⟩
/-- a literal slice, just made -/
theorem own_lit (w : World) (base : Nat) (e : TypeId) (cs : Array Value) (hb : base ≤ w.heap.size) (hm : cs.size ≤ maxLen) :
    (w.alloc (.cells cs e)).ownsRow base e 1 (.slice (some ⟨w.heap.size, 0, none⟩) cs.size cs.size) cs.size cs.toList :=
  ⟨by simp, .inr ⟨_, _, cs, rfl, hb, heap_alloc_new w _, Nat.le_refl _, hm, by simp, by rw [List.take_of_length_le (by simp)]⟩⟩
/-- one value, just laid in a block of its own -/
theorem RdN.one_ (w : World) (e : TypeId) (u : Value) : RdN (w.alloc (.cells #[u] e)) 1 (.slice (some ⟨w.heap.size, 0, none⟩) 1 1) 1 [u] := by
  have := RdN.of_own (own_lit w w.heap.size e #[u] (Nat.le_refl _) (by simp [maxLen]))
  simpa using this
theorem own_litB {w : World} {B : Nat} (hB : w.heap.size = B) (base : Nat) (e : TypeId) (cs : Array Value) (hb : base ≤ B) (hm : cs.size ≤ maxLen) :
    (w.alloc (.cells cs e)).ownsRow base e 1 (.slice (some ⟨B, 0, none⟩) cs.size cs.size) cs.size cs.toList := by
  subst hB; exact own_lit w base e cs hb hm
theorem own_empty {w : World} {B : Nat} (hB : w.heap.size = B) (base : Nat) (e : TypeId) (size : Nat) (hb : base ≤ B) :
    (w.alloc (.cells #[] e)).ownsRow base e size (.slice (some ⟨B, 0, none⟩) 0 0) 0 [] := by
  subst hB; exact ⟨by simp, .inr ⟨_, _, #[], rfl, hb, heap_alloc_new w _, Nat.le_refl _, Nat.zero_le _, by simp, by simp⟩⟩
theorem RdN.oneB {w : World} {B : Nat} (hB : w.heap.size = B) (e : TypeId) (u : Value) : RdN (w.alloc (.cells #[u] e)) 1 (.slice (some ⟨B, 0, none⟩) 1 1) 1 [u] := by
  subst hB; simpa using RdN.of_own (own_lit w w.heap.size e #[u] (Nat.le_refl _) (by simp [maxLen]))
theorem own_shape {w : World} {base : Nat} {e : TypeId} {size : Nat} {v : Value} {n : Nat} {xs : List Value} (h : w.ownsRow base e size v n xs) : ∃ A c, v = .slice A n c := by
  rcases h.2 with ⟨rfl, rfl⟩ | ⟨g, cap, cur, rfl, _⟩
  · exact ⟨_, _, rfl⟩
  · exact ⟨_, _, rfl⟩
theorem own_len {w : World} {base : Nat} {e : TypeId} {size n m c : Nat} {A : Option Addr} {xs : List Value} (h : w.ownsRow base e size (.slice A m c) n xs) : m = n := by
  rcases h.2 with ⟨h', rfl⟩ | ⟨_, _, _, h', _⟩
  · simp only [Value.slice.injEq] at h'
    exact h'.2.1
  · simp only [Value.slice.injEq] at h'
    exact h'.2.1
theorem own_addr {w : World} {base : Nat} {e : TypeId} {size n m c : Nat} {A : Option Addr} {xs : List Value} (h : w.ownsRow base e size (.slice A m c) n xs) (hn : 0 < n) : ∃ g, A = some ⟨g, 0, none⟩ ∧ base ≤ g ∧ m = n := by
  obtain ⟨g, cap, hv, hb, _⟩ := h.form hn
  simp only [Value.slice.injEq] at hv
  exact ⟨g, hv.1, hb, hv.2.1⟩
/-- one int of an owned row, and a store there -/
theorem own_int {w : World} {base : Nat} {e : TypeId} {k : IntKind} {g n cap : Nat} {zs : List Int} (h : w.ownsRow base e 1 (.slice (some ⟨g, 0, none⟩) n cap) n (zs.map (Value.int k))) {j : Nat} (hj : j < n) :
    ∃ x, zs[j]? = some x ∧ w.cell? ⟨g, j, none⟩ = some (.int k x) ∧ w.frozen? ⟨g, j, none⟩ = false := by
  have hl : zs.length = n := by simpa using h.1
  refine ⟨zs[j]'(by omega), List.getElem?_eq_getElem (by omega), ?_, h.frozenAt j⟩
  rw [h.cellAt j (by omega), List.getElem?_map, List.getElem?_eq_getElem (by omega)]
  rfl
theorem own_int_set {w : World} {base : Nat} {e : TypeId} {k : IntKind} {g n cap : Nat} {zs : List Int} (h : w.ownsRow base e 1 (.slice (some ⟨g, 0, none⟩) n cap) n (zs.map (Value.int k))) (j : Nat) (y : Int) :
    (w.setCell ⟨g, j, none⟩ (.int k y)).ownsRow base e 1 (.slice (some ⟨g, 0, none⟩) n cap) n ((zs.set j y).map (Value.int k)) := by
  have := (h.stored j (.int k y)).1
  rw [List.map_set]
  exact this
theorem grown_ext {a w w' : World} {v : Value} {base : Nat} {e : TypeId} {size n : Nat} {xs : List Value} (h : Ext a w) (hown : w.ownsRow base e size v n xs) (hg : w.grownBy w' v.ownBlock) (hb : a.heap.size ≤ base) : Ext a w' :=
  h.grownNew hg fun k hk => Nat.le_trans hb (hown.lt k hk).1
/-- The world but for draws. -/
def Qt (w w' : World) : Prop := ∃ d, w' = w.drewN d
theorem Qt.refl (w : World) : Qt w w := ⟨0, rfl⟩
theorem Qt.drewN {w w' : World} (h : Qt w w') (n : Nat) : Qt w (w'.drewN n) := by
  obtain ⟨d, rfl⟩ := h
  exact ⟨d + n, by simp⟩
theorem Qt.trans {a b c : World} (h : Qt a b) (k : Qt b c) : Qt a c := by
  obtain ⟨d, rfl⟩ := k
  exact h.drewN d
theorem Qt.ext {w w' : World} (h : Qt w w') : Ext w w' := by
  obtain ⟨d, rfl⟩ := h
  exact (Ext.refl w).drewN d
theorem Qt.calls {P : Program} {f : FuncId} {args : Array Value} {w : World} {n : Nat} {v u : Value} (hv : v = u)
    (h : Calls P f args (w.drewN n) fun e w' => e = .returned v ∧ Qt (w.drewN n) w') : Calls P f args (w.drewN n) fun e w'' => e = .returned u ∧ ∃ m, w'' = w.drewN m :=
  h.mono fun _ _ ⟨he, m, hm⟩ => ⟨by rw [he, hv], n + m, by rw [hm, World.drewN_drewN]⟩
/-- Only blocks of S, and new ones, have turned. -/
structure Mod (S : Nat → Prop) (w w' : World) : Prop where
  os : w'.os = w.os
  tape : w'.tape = w.tape
  output : w'.output = w.output
  size : w.heap.size ≤ w'.heap.size
  block : ∀ k, k < w.heap.size → ¬ S k → w'.heap[k]? = w.heap[k]?
theorem Mod.refl (S : Nat → Prop) (w : World) : Mod S w w := ⟨rfl, rfl, rfl, Nat.le_refl _, fun _ _ _ => rfl⟩
theorem Mod.of_ext {S : Nat → Prop} {w w' : World} (h : Ext w w') : Mod S w w' := ⟨h.os, h.tape, h.output, h.size, fun k hk _ => h.block k hk⟩
theorem Mod.trans {S : Nat → Prop} {a b c : World} (h : Mod S a b) (k : Mod S b c) : Mod S a c :=
  ⟨k.os.trans h.os, k.tape.trans h.tape, k.output.trans h.output, Nat.le_trans h.size k.size, fun i hi hn => (k.block i (Nat.lt_of_lt_of_le hi h.size) hn).trans (h.block i hi hn)⟩
theorem Mod.mono {S T : Nat → Prop} {a b : World} (h : Mod S a b) (hT : ∀ k, k < a.heap.size → S k → T k) : Mod T a b :=
  ⟨h.os, h.tape, h.output, h.size, fun k hk hn => h.block k hk fun hs => hn (hT k hk hs)⟩
theorem Mod.alloc {S : Nat → Prop} {a w : World} (h : Mod S a w) (o : Obj) : Mod S a (w.alloc o) := h.trans (.of_ext ((Ext.refl w).alloc o))
theorem Mod.drewN {S : Nat → Prop} {a w : World} (h : Mod S a w) (n : Nat) : Mod S a (w.drewN n) := h.trans (.of_ext ((Ext.refl w).drewN n))
theorem Mod.drew {S : Nat → Prop} {a w : World} (h : Mod S a w) : Mod S a w.drew := h.trans (.of_ext (Ext.refl w).drew)
theorem Mod.ext {S : Nat → Prop} {a b c : World} (h : Mod S a b) (k : Ext b c) : Mod S a c := h.trans (.of_ext k)
theorem Mod.set_ {S : Nat → Prop} {a w : World} (h : Mod S a w) {p : Addr} (hp : a.heap.size ≤ p.block ∨ S p.block) (u : Value) : Mod S a (w.setCell p u) :=
  ⟨h.os, h.tape, h.output, by simpa [World.setCell] using h.size, fun k hk hn => (Below.heap_setCell w p u k (by
    rintro rfl
    rcases hp with hp | hp
    · omega
    · exact hn hp)).trans (h.block k hk hn)⟩
theorem Mod.set1 {g o : Nat} {a w : World} (h : Mod (fun k => k = g) a w) (u : Value) : Mod (fun k => k = g) a (w.setCell ⟨g, o, none⟩ u) := Mod.set_ h (.inr rfl) u
theorem Mod.grown {S : Nat → Prop} {a w w' : World} {row : Option Nat} (h : Mod S a w) (hg : w.grownBy w' row) (hr : ∀ k, row = some k → a.heap.size ≤ k ∨ S k) : Mod S a w' :=
  ⟨hg.os.trans h.os, hg.tape.trans h.tape, hg.output.trans h.output, Nat.le_trans h.size hg.size, fun k hk hn => (hg.block k (Nat.lt_of_lt_of_le hk h.size) (fun e => by
    rcases hr k e.symm with h1 | h1
    · omega
    · exact hn h1)).trans (h.block k hk hn)⟩
theorem Mod.below {S : Nat → Prop} {a b : World} (h : Mod S a b) {B : Nat} (hB : B ≤ a.heap.size) (hS : ∀ k, k < B → ¬ S k) : Below B a b :=
  ⟨h.os, h.tape, h.output, h.size, fun k hk => h.block k (by omega) (hS k hk)⟩
theorem Mod.toExt {S : Nat → Prop} {w a b : World} (h : Ext w a) (hm : Mod S a b) (hS : ∀ k, k < w.heap.size → ¬ S k) : Ext w b := h.trans (a := w) (b := a) (c := a) (Ext.refl a) |> fun h => Below.trans h (hm.below h.size hS)
theorem Mod.cell {S : Nat → Prop} {a b : World} (h : Mod S a b) : ∀ k o, k < a.heap.size → ¬ S k → b.cell? ⟨k, o, none⟩ = a.cell? ⟨k, o, none⟩ := fun k _ hk hn =>
  World.cell?_of_block (h.block k hk hn)

/-- a block that is known whole -/
def Blk (w : World) (g : Nat) (t : TypeId) (cs : Array Value) : Prop := w.heap[g]? = some (.cells cs t (0, 0))
section
variable {w w' : World} {g : Nat} {t : TypeId} {cs : Array Value}
theorem Blk.lt (h : Blk w g t cs) : g < w.heap.size := lt_of_block h
theorem Blk.cell (h : Blk w g t cs) (i : Nat) : w.cell? ⟨g, i, none⟩ = cs[i]? := cell_of_row w g i cs t (0, 0) h
theorem Blk.frozen (h : Blk w g t cs) (i : Nat) : w.frozen? ⟨g, i, none⟩ = false := by
  unfold Blk at h
  simp [World.frozen?, h]
theorem Blk.new (w : World) (t : TypeId) (cs : Array Value) : Blk (w.alloc (.cells cs t)) w.heap.size t cs := heap_alloc_new w _
theorem Blk.at_ {w : World} {B : Nat} (t : TypeId) (cs : Array Value) (hB : w.heap.size = B) : Blk (w.alloc (.cells cs t)) B t cs := by
  subst hB; exact heap_alloc_new w _
theorem Blk.ext (h : Blk w g t cs) (hE : Ext w w') : Blk w' g t cs := (hE.block g h.lt).trans h
theorem Blk.mod {S : Nat → Prop} (h : Blk w g t cs) (hM : Mod S w w') (hn : ¬ S g) : Blk w' g t cs := (hM.block g h.lt hn).trans h
theorem Blk.alloc (h : Blk w g t cs) (o : Obj) : Blk (w.alloc o) g t cs := h.ext ((Ext.refl w).alloc o)
theorem Blk.drewN (h : Blk w g t cs) (n : Nat) : Blk (w.drewN n) g t cs := h
theorem Blk.set_ (h : Blk w g t cs) (i : Nat) (u : Value) : Blk (w.setCell ⟨g, i, none⟩ u) g t (cs.setIfInBounds i u) := by
  unfold Blk at h ⊢
  simp [World.setCell, Array.getElem?_modify, h]
theorem Blk.far (h : Blk w g t cs) {p : Addr} (hp : g ≠ p.block) (u : Value) : Blk (w.setCell p u) g t cs := (Below.heap_setCell w p u g hp).trans h
theorem Blk.grown {row : Option Nat} (h : Blk w g t cs) (hb : w.grownBy w' row) (hg : some g ≠ row) : Blk w' g t cs := (hb.block g h.lt hg).trans h
theorem Blk.cell0 {u : Value} (h : Blk w g t #[u]) : w.cell? ⟨g, 0, none⟩ = some u := by simpa using h.cell 0
theorem Blk.two {u v : Value} (h : Blk w g t #[u, v]) : w.cell? ⟨g, 0, none⟩ = some u ∧ w.cell? ⟨g, 1, none⟩ = some v ∧ w.frozen? ⟨g, 0, none⟩ = false ∧ w.frozen? ⟨g, 1, none⟩ = false :=
  ⟨by simpa using h.cell 0, by simpa using h.cell 1, h.frozen 0, h.frozen 1⟩
theorem Blk.put2 {u v : Value} (h : Blk w g t #[u, v]) (x y : Value) : Blk ((w.setCell ⟨g, 0, none⟩ x).setCell ⟨g, 1, none⟩ y) g t #[x, y] := by
  simpa using (h.set_ 0 x).set_ 1 y
theorem own_blk_ne {base : Nat} {e : TypeId} {size n : Nat} {v : Value} {xs : List Value} (h : w.ownsRow base e size v n xs) (hg : Blk w g t cs) (hne : e ≠ t) : v.ownBlock ≠ some g := by
  rcases h.2 with ⟨rfl, _⟩ | ⟨g', cap, cur, rfl, _, hh, _⟩
  · simp [Value.ownBlock]
  · intro he
    have : g' = g := by simpa [Value.ownBlock] using he
    subst this
    unfold Blk at hg
    rw [hg] at hh
    simp at hh
    exact hne hh.2.symm
end
theorem own_own_ne {w : World} {b b' : Nat} {e e' : TypeId} {s s' n n' : Nat} {v v' : Value} {xs xs' : List Value} (h : w.ownsRow b e s v n xs) (h' : w.ownsRow b' e' s' v' n' xs') (hne : e ≠ e') : v.ownBlock = none ∨ v.ownBlock ≠ v'.ownBlock := by
  rcases h.2 with ⟨rfl, _⟩ | ⟨g, cap, cur, rfl, _, hh, _⟩
  · exact .inl rfl
  · right
    intro he
    exact own_blk_ne (e := e') h' (g := g) (t := e) (cs := cur) hh (Ne.symm hne) he.symm
theorem own_mod {S : Nat → Prop} {w w' : World} {base : Nat} {e : TypeId} {size : Nat} {v : Value} {n : Nat} {xs : List Value} (h : w.ownsRow base e size v n xs) (hM : Mod S w w') (hn : ∀ k, v.ownBlock = some k → ¬ S k) : w'.ownsRow base e size v n xs := by
  refine ⟨h.1, ?_⟩
  rcases h.2 with h2 | ⟨g, cap, cur, hv, hg, hh, r⟩
  · exact .inl h2
  · refine .inr ⟨g, cap, cur, hv, hg, ?_, r⟩
    rw [hM.block g (lt_of_block hh) (hn g (by rw [hv]; rfl))]; exact hh
theorem RdN.mod {S : Nat → Prop} {w w' : World} {size n : Nat} {v : Value} {xs : List Value} (h : RdN w size v n xs) (hM : Mod S w w') (hn : ∀ k, v.ownBlock = some k → ¬ S k) : RdN w' size v n xs := by
  obtain ⟨hl, A, c, hv, hnc, hm, hA⟩ := h
  refine ⟨hl, A, c, hv, hnc, hm, ?_⟩
  rcases hA with hA | ⟨b, off, hA, hc⟩
  · exact .inl hA
  · refine .inr ⟨b, off, hA, fun j u hu => ?_⟩
    have hc' := hc j u hu
    rw [hM.cell b _ (World.block_lt_of_cell? w _ hc') (hn b (by rw [hv, hA]; rfl))]; exact hc'
/-- the number of elements of a slice, for a measure -/
def lenOfV : Value → Nat | .slice _ n _ => n | _ => 0
/-- a slice of slices, each so many elements of 'size' cells -/
def RdLL (w : World) (size : Nat) (v : Value) (ls : List (Nat × List Value)) : Prop :=
  ∃ vs : List Value, vs.length = ls.length ∧ RdN w 1 v ls.length vs ∧ ∀ (j : Nat) x l, vs[j]? = some x → ls[j]? = some l → RdN w size x l.1 l.2
def tot (ls : List (Nat × List Value)) : Nat := (ls.map (·.1)).sum
def cat (ls : List (Nat × List Value)) : List Value := (ls.map (·.2)).flatten
theorem tot_succ {ls : List (Nat × List Value)} {k : Nat} {l : Nat × List Value} (h : ls[k]? = some l) : tot (ls.take (k + 1)) = tot (ls.take k) + l.1 := by
  simp [tot, List.take_add_one, h]
theorem cat_succ {ls : List (Nat × List Value)} {k : Nat} {l : Nat × List Value} (h : ls[k]? = some l) : cat (ls.take (k + 1)) = cat (ls.take k) ++ l.2 := by
  simp [cat, List.take_add_one, h]
theorem tot_take_le (ls : List (Nat × List Value)) (k : Nat) : tot (ls.take k) ≤ tot ls := by
  have h : tot ls = tot (ls.take k) + tot (ls.drop k) := by
    conv => lhs; rw [← List.take_append_drop k ls]
    simp only [tot, List.map_append, List.sum_append]
  omega
theorem mem_le_tot {ls : List (Nat × List Value)} {l : Nat × List Value} (h : l ∈ ls) : l.1 ≤ tot ls := by
  obtain ⟨a, b, rfl⟩ := List.append_of_mem h
  simp [tot]
  omega
theorem RdLL.ext {w w' : World} {size : Nat} {v : Value} {ls : List (Nat × List Value)} (h : RdLL w size v ls) (hE : Ext w w') : RdLL w' size v ls := by
  obtain ⟨vs, h1, h2, h3⟩ := h
  exact ⟨vs, h1, h2.ext hE, fun j x l hx hl => (h3 j x l hx hl).ext hE⟩
theorem RdLL.lit2 {w : World} {size : Nat} {x y : Value} {n m B : Nat} {xs ys : List Value} (t : TypeId) (hB : w.heap.size = B) (hx : RdN w size x n xs) (hy : RdN w size y m ys) :
    RdLL (w.alloc (.cells #[x, y] t)) size (.slice (some ⟨B, 0, none⟩) 2 2) [(n, xs), (m, ys)] := by
  subst hB
  refine ⟨[x, y], rfl, ⟨rfl, _, _, rfl, Nat.le_refl _, by simp [maxLen], .inr ⟨_, _, rfl, fun j u hu => ?_⟩⟩, fun j z l hz hl => ?_⟩
  · have := (Blk.new w t #[x, y]).cell (0 + j)
    rw [this, Nat.zero_add]
    simpa using hu
  · match j, hz, hl with
    | 0, hz, hl => simp at hz hl; subst hz hl; exact hx.alloc _
    | 1, hz, hl => simp at hz hl; subst hz hl; exact hy.alloc _

theorem ofInt_i64 (a : Nat) (ha : a < 9223372036854775808) : (BitVec.ofInt 64 (a : Int)).toNat = a := by
  rw [BitVec.ofInt_natCast, BitVec.toNat_ofNat]; exact Nat.mod_eq_of_lt (by omega)
theorem i64_or_nat (a b : Nat) (ha : a < 9223372036854775808) (hb : b < 9223372036854775808) : bits .or .i64 (a : Int) (b : Int) = ((a ||| b : Nat) : Int) := by
  have hx : a ||| b < 2 ^ 63 := Nat.or_lt_two_pow (by omega) (by omega)
  show IntKind.i64.wrap ((BitVec.ofInt 64 (a : Int) ||| BitVec.ofInt 64 (b : Int)).toNat : Int) = _
  rw [BitVec.toNat_or, ofInt_i64 a ha, ofInt_i64 b hb, IntKind.wrap_i64]
  omega
theorem i64_join (x y : Int) (i : Nat) (hx0 : 0 ≤ x) (hx1 : x < 9223372036854775808) (hy0 : 0 ≤ y) (hy1 : y < 9223372036854775808) (hx : x.toNat % 2 ^ i = 0) (hy : y.toNat < 2 ^ i) : bits .or .i64 x y = x + y := by
  obtain ⟨a, rfl⟩ := Int.eq_ofNat_of_zero_le hx0
  obtain ⟨b, rfl⟩ := Int.eq_ofNat_of_zero_le hy0
  rw [i64_or_nat a b (by omega) (by omega), nat_join i a b (by simpa using hx) (by simpa using hy)]
  simp
theorem four_join (a b c d : Int) (ba : 0 ≤ a ∧ a ≤ 255) (bb : 0 ≤ b ∧ b ≤ 255) (bc : 0 ≤ c ∧ c ≤ 255) (bd : 0 ≤ d ∧ d ≤ 255) :
    bits .or .i64 (bits .or .i64 (bits .or .i64 (a * 16777216) (b * 65536)) (c * 256)) d = a * 16777216 + b * 65536 + c * 256 + d := by
  rw [i64_join (a * 16777216) (b * 65536) 24 (by omega) (by omega) (by omega) (by omega) (by omega) (by omega)]
  rw [i64_join _ (c * 256) 16 (by omega) (by omega) (by omega) (by omega) (by omega) (by omega)]
  rw [i64_join _ d 8 (by omega) (by omega) (by omega) (by omega) (by omega) (by omega)]
theorem ret_int {k : IntKind} {a b : Int} (h : a = b) : Ending.returned (.int k a) = .returned (.int k b) := by rw [h]
theorem ret_bool {a b : Bool} (h : a = b) : Ending.returned (.bool a) = .returned (.bool b) := by rw [h]
end Go.Kb
