/- Written by chain.py of Base Rep Row Bits Tail Frame Open Fld. No condition. -/
import Derived.WalkKit
import Derived.WalkSpells
import Derived.WalkLawsBesides
import Derived.BigQuiet
import Derived.Lib.Hide
import Derived.Deep.QuietTactic
import Derived.Deep.Draws
import Derived.Deep.AppendLies
import Derived.Maps.AppendAt
import Derived.Deep.RegionLaw
import Derived.Deep.RegionHeld3
import Derived.Lib.SliceRun
import Derived.Lib.SlBytesConst
import Derived.Lib.AppendZeros
import Derived.Laws.BitsAllLaws
import Derived.Laws.BitsLemmas
import Derived.Laws.BytesArg
import Derived.Laws.BytesString
import Derived.Deep.MidRow
import Derived.Laws.Rows
import Derived.IntWalk
import Derived.ProofKit
import Derived.OpenShut
import Derived.ShutString
import Derived.ChangeOld
import Derived.Lib.SmallJoins
import Derived.Deep.Slices
import Derived.SizedLaws
namespace Go.Kb
open Go.RowKit

/-- The world only grew: whatever was there is as it was. -/
abbrev Ext (w w' : World) : Prop := Below w.heap.size w w'
theorem Ext.refl (w : World) : Ext w w := Below.refl _ _
theorem Ext.trans {a b c : World} (h : Ext a b) (k : Ext b c) : Ext a c := Below.trans h (k.mono h.size)
theorem Ext.trans_below {a b c : World} {B : Nat} (h : Ext a b) (k : Below B b c) (hB : a.heap.size ≤ B := by omega) : Ext a c := Below.trans h (k.mono hB)
theorem Ext.alloc {a w : World} (h : Ext a w) (o : Obj) : Ext a (w.alloc o) := Below.alloc h h.size o
theorem Ext.drewN {a w : World} (h : Ext a w) (n : Nat) : Ext a (w.drewN n) := ⟨h.os, h.tape, h.output, h.size, h.block⟩
theorem Ext.drew {a w : World} (h : Ext a w) : Ext a w.drew := ⟨h.os, h.tape, h.output, h.size, h.block⟩
theorem Ext.setNew {a w : World} (h : Ext a w) {p : Addr} (hp : a.heap.size ≤ p.block) (u : Value) : Ext a (w.setCell p u) := Below.setCell h hp u
theorem Ext.grownNew {a w w' : World} {row : Option Nat} (h : Ext a w) (hg : w.grownBy w' row) (hr : ∀ k, row = some k → a.heap.size ≤ k) : Ext a w' := Below.grown h hg h.size hr
theorem Bc {B : Nat} {w w1 : World} (hb : Below B w w1) : ∀ b o, b < B → w1.cell? ⟨b, o, none⟩ = w.cell? ⟨b, o, none⟩ := fun b o h => Below.cell hb (p := ⟨b, o, none⟩) h
theorem Bf {B : Nat} {w w1 : World} (hb : Below B w w1) : ∀ b o, b < B → w1.frozen? ⟨b, o, none⟩ = w.frozen? ⟨b, o, none⟩ := fun b o h => Below.frozen hb (p := ⟨b, o, none⟩) h
theorem cell_ext {w w' : World} {a : Addr} {v : Value} (hE : Ext w w') (h : w.cell? a = some v) : w'.cell? a = some v := by
  rw [Below.cell hE (World.block_lt_of_cell? w a h)]; exact h
theorem Ext.cell {w w1 : World} (hb : Ext w w1) : ∀ b o, b < w.heap.size → w1.cell? ⟨b, o, none⟩ = w.cell? ⟨b, o, none⟩ := fun b o h => Below.cell hb (p := ⟨b, o, none⟩) h
theorem Ext.frozen {w w1 : World} (hb : Ext w w1) : ∀ b o, b < w.heap.size → w1.frozen? ⟨b, o, none⟩ = w.frozen? ⟨b, o, none⟩ := fun b o h => Below.frozen hb (p := ⟨b, o, none⟩) h

/-- 'v' is a slice of 'n' elements of 'size' cells, and its cells read 'xs'. -/
def RdN (w : World) (size : Nat) (v : Value) (n : Nat) (xs : List Value) : Prop :=
  xs.length = n * size ∧ ∃ A c, v = .slice A n c ∧ n ≤ c ∧ c ≤ maxLen ∧
    (c = 0 ∨ ∃ b off, A = some ⟨b, off, none⟩ ∧ ∀ j u, xs[j]? = some u → w.cell? ⟨b, off + j, none⟩ = some u)
abbrev Rd (w : World) (v : Value) (xs : List Value) : Prop := RdN w 1 v xs.length xs

section
variable {w w' : World} {size n : Nat} {v : Value} {xs : List Value}
theorem RdN.nil (w : World) (size : Nat) : RdN w size (.slice none 0 0) 0 [] := ⟨by simp, none, 0, rfl, Nat.le_refl _, Nat.zero_le _, .inl rfl⟩
theorem RdN.keep (h : RdN w size v n xs) (hk : ∀ b off j u, xs[j]? = some u → w.cell? ⟨b, off + j, none⟩ = some u → w'.cell? ⟨b, off + j, none⟩ = some u) : RdN w' size v n xs := by
  obtain ⟨hl, A, c, hv, hnc, hm, hA⟩ := h
  refine ⟨hl, A, c, hv, hnc, hm, ?_⟩
  rcases hA with hA | ⟨b, off, hA, hc⟩
  · exact .inl hA
  · exact .inr ⟨b, off, hA, fun j u hu => hk b off j u hu (hc j u hu)⟩
theorem RdN.ext (h : RdN w size v n xs) (hE : Ext w w') : RdN w' size v n xs :=
  h.keep fun b off j u _ hc => by
    rw [hE.cell b _ (World.block_lt_of_cell? w _ hc)]; exact hc
theorem RdN.alloc (h : RdN w size v n xs) (o : Obj) : RdN (w.alloc o) size v n xs := h.ext ((Ext.refl w).alloc o)
theorem RdN.drewN (h : RdN w size v n xs) (k : Nat) : RdN (w.drewN k) size v n xs := h
theorem RdN.drew (h : RdN w size v n xs) : RdN w.drew size v n xs := h
/-- what an owned row reads as -/
theorem RdN.of_own {base : Nat} {e : TypeId} (h : w.ownsRow base e size v n xs) : RdN w size v n xs := by
  refine ⟨h.1, ?_⟩
  rcases h.2 with ⟨rfl, rfl⟩ | ⟨g, cap, cur, rfl, _, _, hnc, hcm, _⟩
  · exact ⟨none, 0, rfl, Nat.le_refl _, Nat.zero_le _, .inl rfl⟩
  · refine ⟨some ⟨g, 0, none⟩, cap, rfl, hnc, hcm, .inr ⟨g, 0, rfl, fun j u hu => ?_⟩⟩
    have := h.cells (g := g) rfl j u hu
    simpa [Addr.add_lit] using this
theorem RdN.shape (h : RdN w size v n xs) : ∃ A c, v = .slice A n c ∧ n ≤ c ∧ c ≤ 9223372036854775807 := by
  obtain ⟨_, A, c, hv, h1, h2, _⟩ := h
  exact ⟨A, c, hv, h1, h2⟩
/-- a cut from 'k' on -/
theorem RdN.from_ {A : Option Addr} {c : Nat} (h : RdN w size (.slice A n c) n xs) {k : Nat} (hk : k ≤ n) :
    RdN w size (.slice (if c = k then A else A.map (·.add (k * size))) (n - k) (c - k)) (n - k) (xs.drop (k * size)) := by
  obtain ⟨hl, A', c', hv, hnc, hm, hA⟩ := h
  simp only [Value.slice.injEq] at hv
  obtain ⟨rfl, _, rfl⟩ := hv
  refine ⟨by rw [List.length_drop, hl, Nat.sub_mul], _, _, rfl, by omega, by omega, ?_⟩
  rcases hA with rfl | ⟨b, off, rfl, hc⟩
  · exact .inl (by omega)
  · by_cases hck : c = k
    · rw [if_pos hck]
      refine .inr ⟨b, off, rfl, fun j u hu => ?_⟩
      have : n = k := by omega
      subst this
      rw [List.drop_eq_nil_of_le (by omega)] at hu
      simp at hu
    · rw [if_neg hck]
      refine .inr ⟨b, off + k * size, ?_, fun j u hu => ?_⟩
      · simp [Addr.add]
      · rw [List.getElem?_drop] at hu
        have := hc _ u hu
        rw [Nat.add_assoc]; exact this
/-- a cut up to 'k' -/
theorem RdN.to_ {A : Option Addr} {c : Nat} (h : RdN w size (.slice A n c) n xs) {k : Nat} (hk : k ≤ n) :
    RdN w size (.slice A k c) k (xs.take (k * size)) := by
  obtain ⟨hl, A', c', hv, hnc, hm, hA⟩ := h
  simp only [Value.slice.injEq] at hv
  obtain ⟨rfl, _, rfl⟩ := hv
  refine ⟨?_, _, _, rfl, by omega, hm, ?_⟩
  · rw [List.length_take, hl]; exact Nat.min_eq_left (Nat.mul_le_mul_right _ hk)
  · rcases hA with hA | ⟨b, off, rfl, hc⟩
    · exact .inl hA
    · refine .inr ⟨b, off, rfl, fun j u hu => hc j u ?_⟩
      rw [List.getElem?_take] at hu
      split at hu
      · exact hu
      · cases hu
end

/-- the shape of a value that reads as n elements, n not nought -/
theorem RdN.form {w : World} {size n : Nat} {v : Value} {xs : List Value} (h : RdN w size v n xs) (hn : 0 < n) :
    ∃ b off c, v = .slice (some ⟨b, off, none⟩) n c ∧ n ≤ c ∧ c ≤ maxLen ∧ ∀ j u, xs[j]? = some u → w.cell? ⟨b, off + j, none⟩ = some u := by
  obtain ⟨_, A, c, hv, hnc, hm, hA⟩ := h
  rcases hA with rfl | ⟨b, off, rfl, hc⟩
  · omega
  · exact ⟨b, off, c, hv, hnc, hm, hc⟩

/-- bytes, and lists of ints, as cells -/
abbrev u8s (l : List Int) : List Value := l.map (Value.int .u8)
abbrev i64s (l : List Int) : List Value := l.map (Value.int .i64)
/-- bytes -/
def Bs (l : List Int) : Prop := ∀ x ∈ l, 0 ≤ x ∧ x ≤ 255
theorem RdN.addr {w : World} {size n n' c : Nat} {A : Option Addr} {xs : List Value} (h : RdN w size (.slice A n c) n' xs) (hn : 0 < n) : ∃ b off, A = some ⟨b, off, none⟩ := by
  obtain ⟨_, A', c', hv, hnc, _, hA⟩ := h
  simp only [Value.slice.injEq] at hv
  obtain ⟨rfl, rfl, rfl⟩ := hv
  rcases hA with rfl | ⟨b, off, rfl, _⟩
  · omega
  · exact ⟨b, off, rfl⟩
/-- a slice of ints of a kind -/
abbrev RI (k : IntKind) (w : World) (v : Value) (l : List Int) : Prop := RdN w 1 v l.length (l.map (Value.int k))
theorem RdN.icell {k : IntKind} {w : World} {A : Option Addr} {n c : Nat} {l : List Int} (h : RI k w (.slice A n c) l) {j : Nat} (hj : j < n) :
    ∃ b off x, A = some ⟨b, off, none⟩ ∧ w.cell? ⟨b, off + j, none⟩ = some (.int k x) ∧ Hid (l[j]? = some x) := by
  obtain ⟨hl, A', c', hv, hnc, hm, hA⟩ := h
  simp only [Value.slice.injEq] at hv
  obtain ⟨rfl, rfl, rfl⟩ := hv
  rcases hA with rfl | ⟨b, off, rfl, hc⟩
  · omega
  · refine ⟨b, off, l[j]'hj, rfl, hc j _ ?_, ?_⟩
    · simp [List.getElem?_eq_getElem hj]
    · exact (List.getElem?_eq_getElem hj : l[j]? = some l[j])
theorem RI.sub_ {k : IntKind} {w : World} {b off c n : Nat} {l : List Int} (h : RI k w (.slice (some ⟨b, off, none⟩) n c) l) {lo m : Nat} (hm : lo + m ≤ n) :
    RI k w (.slice (some ⟨b, off + lo, none⟩) m (c - lo)) ((l.drop lo).take m) := by
  obtain ⟨_, A', c', hv, hnc, hcm, hA⟩ := h
  simp only [Value.slice.injEq] at hv
  obtain ⟨rfl, rfl, rfl⟩ := hv
  have hl : ((l.drop lo).take m).length = m := by simp; omega
  refine ⟨by simp, _, _, by rw [hl], by omega, by omega, .inr ⟨b, off + lo, rfl, fun j u hu => ?_⟩⟩
  rcases hA with h0 | ⟨b', off', h0, hc⟩
  · rw [List.getElem?_eq_none (by simp; omega)] at hu; cases hu
  · simp only [Option.some.injEq, Addr.mk.injEq] at h0
    obtain ⟨rfl, rfl, _⟩ := h0
    rw [Nat.add_assoc]
    apply hc
    rw [List.getElem?_map, List.getElem?_take] at hu
    split at hu
    · rw [List.getElem?_drop] at hu
      rw [List.getElem?_map]; exact hu
    · simp at hu
theorem RI.toA {k : IntKind} {w : World} {A : Option Addr} {c n : Nat} {l : List Int} (h : RI k w (.slice A n c) l) {m : Nat} (hm : m ≤ n) : RI k w (.slice A m c) (l.take m) := by
  obtain ⟨_, A', c', hv, hnc, hcm, hA⟩ := h
  simp only [Value.slice.injEq] at hv
  obtain ⟨rfl, rfl, rfl⟩ := hv
  have hl : (l.take m).length = m := by simp; omega
  refine ⟨by simp, _, _, by rw [hl], by omega, hcm, ?_⟩
  rcases hA with rfl | ⟨b, off, rfl, hc⟩
  · exact .inl rfl
  · refine .inr ⟨b, off, rfl, fun j u hu => hc j u ?_⟩
    rw [List.getElem?_map, List.getElem?_take] at hu
    split at hu
    · rw [List.getElem?_map]; exact hu
    · simp at hu
theorem RI.fromA {k : IntKind} {w : World} {A : Option Addr} {c n : Nat} {l : List Int} (h : RI k w (.slice A n c) l) {lo : Nat} (hm : lo ≤ n) :
    RI k w (.slice (if c = lo then A else Option.map (fun x => ⟨x.block, x.off + lo, none⟩) A) (n - lo) (c - lo)) (l.drop lo) := by
  obtain ⟨_, A', c', hv, hnc, hcm, hA⟩ := h
  simp only [Value.slice.injEq] at hv
  obtain ⟨rfl, rfl, rfl⟩ := hv
  have hl : (l.drop lo).length = l.length - lo := by simp
  refine ⟨by simp, _, _, by rw [hl], by omega, by omega, ?_⟩
  by_cases hcl : c = lo
  · exact .inl (by omega)
  · rw [if_neg hcl]
    rcases hA with rfl | ⟨b, off, rfl, hc⟩
    · omega
    · refine .inr ⟨b, off + lo, rfl, fun j u hu => ?_⟩
      rw [Nat.add_assoc]
      apply hc
      rw [List.getElem?_map, List.getElem?_drop] at hu
      rw [List.getElem?_map]; exact hu
theorem RI.fromB {k : IntKind} {w : World} {A : Option Addr} {c n : Nat} {l : List Int} (h : RI k w (.slice A n c) l) {lo : Nat} (hm : lo ≤ n) :
    RI k w (.slice (if c = lo then A else Option.map (fun x => x.add lo) A) (n - lo) (c - lo)) (l.drop lo) := by
  have h1 := h.fromA hm
  by_cases hc : c = lo
  · rw [if_pos hc] at h1 ⊢; exact h1
  · rw [if_neg hc] at h1 ⊢
    obtain ⟨_, A', c', hv, hnc, _, hA⟩ := h
    simp only [Value.slice.injEq] at hv
    obtain ⟨rfl, rfl, rfl⟩ := hv
    rcases hA with rfl | ⟨b, off, rfl, _⟩
    · omega
    · simpa [Addr.add_lit] using h1
theorem RI.from_ {k : IntKind} {w : World} {b off c n : Nat} {l : List Int} (h : RI k w (.slice (some ⟨b, off, none⟩) n c) l) {lo : Nat} (hm : lo ≤ n) :
    RI k w (.slice (if c = lo then some ⟨b, off, none⟩ else some ⟨b, off + lo, none⟩) (n - lo) (c - lo)) (l.drop lo) := by
  obtain ⟨_, A', c', hv, hnc, hcm, hA⟩ := h
  simp only [Value.slice.injEq] at hv
  obtain ⟨rfl, rfl, rfl⟩ := hv
  have hl : (l.drop lo).length = l.length - lo := by simp
  by_cases hcl : c = lo
  · have : l.length = lo := by omega
    rw [if_pos hcl]
    refine ⟨by simp, _, _, by rw [hl], by omega, by omega, .inr ⟨b, off, rfl, fun j u hu => ?_⟩⟩
    rw [List.drop_eq_nil_of_le (by omega)] at hu
    simp at hu
  · rw [if_neg hcl]
    refine ⟨by simp, _, _, by rw [hl], by omega, by omega, .inr ⟨b, off + lo, rfl, fun j u hu => ?_⟩⟩
    rcases hA with h0 | ⟨b', off', h0, hc⟩
    · omega
    · simp only [Option.some.injEq, Addr.mk.injEq] at h0
      obtain ⟨rfl, rfl, _⟩ := h0
      rw [Nat.add_assoc]
      apply hc
      rw [List.getElem?_map, List.getElem?_drop] at hu
      rw [List.getElem?_map]; exact hu
theorem RI.lit {w : World} {B : Nat} {fr : Nat × Nat} (k : IntKind) (l : List Int) (e : TypeId) (hB : w.heap.size = B) (hl : l.length ≤ 1000000) :
    RI k (w.alloc (.cells (l.map (Value.int k)).toArray e fr)) (.slice (some ⟨B, 0, none⟩) l.length l.length) l := by
  subst hB
  refine ⟨by simp, _, _, rfl, Nat.le_refl _, by unfold maxLen; omega, .inr ⟨_, _, rfl, fun j u hu => ?_⟩⟩
  have h : (w.alloc (.cells (l.map (Value.int k)).toArray e fr)).cell? ⟨w.heap.size, 0 + j, none⟩ = (l.map (Value.int k)).toArray[0 + j]? := cell_of_row _ _ _ _ e fr (heap_alloc_new w _)
  rw [h, Nat.zero_add]
  simpa using hu
theorem take_succ_of {l : List Int} {j : Nat} {x : Int} (h : l[j]? = some x) : l.take (j + 1) = l.take j ++ [x] := by
  rw [List.take_add_one, h]; rfl
/-- the number that the first four bytes tell -/
def hd4 (r : List Int) : Int := r.getD 0 0 * 16777216 + r.getD 1 0 * 65536 + r.getD 2 0 * 256 + r.getD 3 0
theorem hd4_bd {r : List Int} (hB : Bs r) : 0 ≤ hd4 r ∧ hd4 r < 4294967296 := by
  have key : ∀ i, 0 ≤ r.getD i 0 ∧ r.getD i 0 ≤ 255 := fun i => by
    rcases Nat.lt_or_ge i r.length with h | h
    · rw [List.getD_eq_getElem?_getD, List.getElem?_eq_getElem h]; exact hB _ (List.getElem_mem h)
    · rw [List.getD_eq_getElem?_getD, List.getElem?_eq_none h]; decide
  have h0 := key 0
  have h1 := key 1
  have h2 := key 2
  have h3 := key 3
  unfold hd4
  omega
theorem four_of {r : List Int} (h : 4 ≤ r.length) : ∃ a b c d t, r = a :: b :: c :: d :: t := by
  match r, h with
  | a :: b :: c :: d :: t, _ => exact ⟨a, b, c, d, t, rfl⟩
theorem one_ints (k : IntKind) (l : List Int) : ∀ u ∈ l.map (Value.int k), u.oneCell' = true := ints_oneCell k l

section
variable {P : Program} (w : World)
/-- append onto a row of the call's own, whatever is appended -/
theorem run_append_rd (base : Nat) (t ty e : TypeId) (i : TypeInfo) (z : Value) (size bytes : Nat) (ht : P.underlying t = some (.slice e)) (hi : P.info? e = some i) (hz : i.zero = some z)
    (hsize : i.size = size) (hby : i.bytes = bytes) (hzs : z.cells.size = size) (hsz : 0 < size)
    (v : Value) (n : Nat) (xs : List Value) (hown : w.ownsRow base e size v n xs)
    (x : Value) (m : Nat) (news : List Value) (hr : RdN w size x m news) (h1 : ∀ u ∈ news, u.oneCell' = true)
    (h63 : n + m ≤ maxLen) (hbytes : (n + m) * bytes ≤ 140737488355328) (hbase : base ≤ w.heap.size) :
    ∃ v' w', (Builtin.append_ #[t, t] ty #[v, x]).run P w = .ok v' w' ∧ w'.ownsRow base e size v' (n + m) (xs ++ news) ∧ w.grownBy w' v.ownBlock ∧
      (v'.ownBlock = v.ownBlock ∨ v'.ownBlock = some w.heap.size) := by
  obtain ⟨hl, A, c, rfl, hmc, hcm, hA⟩ := hr
  rcases hA with rfl | ⟨b, off, rfl, hcell⟩
  · have hm : m = 0 := by omega
    subst hm
    have hn : news = [] := List.eq_nil_of_length_eq_zero (by simpa using hl)
    subst hn
    rcases A with _ | ad
    · refine ⟨v, w, ?_, by simpa using hown, World.grownBy.refl w _, .inl rfl⟩
      rcases hown.2 with ⟨rfl, rfl⟩ | ⟨g, cap, cur, rfl, _, _, hnc, _⟩
      · simp [Builtin.append_, run_underlying ht, sizeOf, typeInfo, hi, Builtin.lenOf, Builtin.firstCells]
      · simp [Builtin.append_, run_underlying ht, sizeOf, typeInfo, hi, Builtin.lenOf, Builtin.firstCells, hnc, storeCells]
    · obtain ⟨v', w', hrun, h2, h3, _, h5⟩ := run_append_own_at (P := P) w base t ty e i z size bytes ht hi hz hsize hby hzs hsz v n xs hown ad 0 0 [] (by simp) (fun j u hu => by simp at hu) h1 h63 hbytes hbase
      exact ⟨v', w', hrun, h2, h3, h5⟩
  · have hcells : ∀ j u, news[j]? = some u → w.cell? ((⟨b, off, none⟩ : Addr).add j) = some u := by
      intro j u hu
      simpa [Addr.add_lit] using hcell j u hu
    obtain ⟨v', w', hrun, h2, h3, _, h5⟩ := run_append_own_at (P := P) w base t ty e i z size bytes ht hi hz hsize hby hzs hsz v n xs hown _ m c news hl hcells h1 h63 hbytes hbase
    exact ⟨v', w', hrun, h2, h3, h5⟩

theorem wp_append_rd {o : Oper} {a : Act} {K : Act → World → Prop} {Q : Exit → Act → World → Prop} (s x : Operand) (t : TypeId)
    (ho : o.op = .call { callee := .builtin .append, args := #[s, x], argTypes := #[t, t] })
    (base : Nat) (e : TypeId) (i : TypeInfo) (z : Value) (size bytes : Nat) (ht : P.underlying t = some (.slice e)) (hi : P.info? e = some i) (hz : i.zero = some z)
    (hsize : i.size = size) (hby : i.bytes = bytes) (hzs : z.cells.size = size) (hsz : 0 < size)
    (v : Value) (n : Nat) (xs : List Value) (hs : a.eval s = v) (hown : w.ownsRow base e size v n xs)
    (y : Value) (m : Nat) (news : List Value) (hx : a.eval x = y) (hr : RdN w size y m news) (h1 : ∀ u ∈ news, u.oneCell' = true)
    (h63 : n + m ≤ maxLen) (hbytes : (n + m) * bytes ≤ 140737488355328) (hbase : base ≤ w.heap.size)
    (h : ∀ v' w', w'.ownsRow base e size v' (n + m) (xs ++ news) → w.grownBy w' v.ownBlock → (v'.ownBlock = v.ownBlock ∨ v'.ownBlock = some w.heap.size) → K (a.put o.dst v') w') : o.wp P a w K Q := by
  obtain ⟨v', w', hrun, h2, h3, h4⟩ := run_append_rd (P := P) w base t o.type e i z size bytes ht hi hz hsize hby hzs hsz v n xs hown y m news hr h1 h63 hbytes hbase
  unfold Oper.wp execOp
  simp only [ho, resolve, invoke, builtin, Sem.run_bind, Sem.run_pure, Result.andThen_ok, List.map_toArray, List.map_cons, List.map_nil, hs, hx, hrun]
  exact h v' w' h2 h3 h4

theorem wpList_append_rd {ops : Array Oper} {rest : List Oper} {o : Oper} {a : Act} {Q : Exit → Act → World → Prop} (hgd : o.guard = none) (s x : Operand) (t : TypeId)
    (ho : o.op = .call { callee := .builtin .append, args := #[s, x], argTypes := #[t, t] })
    (base : Nat) (e : TypeId) (i : TypeInfo) (z : Value) (size bytes : Nat) (ht : P.underlying t = some (.slice e)) (hi : P.info? e = some i) (hz : i.zero = some z)
    (hsize : i.size = size) (hby : i.bytes = bytes) (hzs : z.cells.size = size) (hsz : 0 < size)
    (v : Value) (n : Nat) (xs : List Value) (hs : a.eval s = v) (hown : w.ownsRow base e size v n xs)
    (y : Value) (m : Nat) (news : List Value) (hx : a.eval x = y) (hr : RdN w size y m news) (h1 : ∀ u ∈ news, u.oneCell' = true)
    (h63 : n + m ≤ maxLen) (hbytes : (n + m) * bytes ≤ 140737488355328) (hbase : base ≤ w.heap.size)
    (h : ∀ v' w', w'.ownsRow base e size v' (n + m) (xs ++ news) → w.grownBy w' v.ownBlock → (v'.ownBlock = v.ownBlock ∨ v'.ownBlock = some w.heap.size) → wpList P ops Q rest (a.put o.dst v') w') : wpList P ops Q (o :: rest) a w :=
  wpList_plain hgd fun _ hK => wp_append_rd w s x t ho base e i z size bytes ht hi hz hsize hby hzs hsz v n xs hs hown y m news hx hr h1 h63 hbytes hbase fun v' w' h2 h3 h4 => hK _ _ (h v' w' h2 h3 h4)

theorem step_append_rd {ops : Array Oper} {o : Oper} {a : Act} {K : Act → World → Prop} {Q : Exit → Act → World → Prop} {E : Prop} (hgd : o.guard = none) (s x : Operand) (t : TypeId)
    (ho : o.op = .call { callee := .builtin .append, args := #[s, x], argTypes := #[t, t] })
    (base : Nat) (e : TypeId) (i : TypeInfo) (z : Value) (size bytes : Nat) (ht : P.underlying t = some (.slice e)) (hi : P.info? e = some i) (hz : i.zero = some z)
    (hsize : i.size = size) (hby : i.bytes = bytes) (hzs : z.cells.size = size) (hsz : 0 < size)
    (v : Value) (n : Nat) (xs : List Value) (hs : a.eval s = v) (hown : w.ownsRow base e size v n xs)
    (y : Value) (m : Nat) (news : List Value) (hx : a.eval x = y) (hr : RdN w size y m news) (h1 : ∀ u ∈ news, u.oneCell' = true)
    (h63 : n + m ≤ maxLen) (hbytes : (n + m) * bytes ≤ 140737488355328) (hbase : base ≤ w.heap.size)
    (h : ∀ v' w', w'.ownsRow base e size v' (n + m) (xs ++ news) → w.grownBy w' v.ownBlock → (v'.ownBlock = v.ownBlock ∨ v'.ownBlock = some w.heap.size) → K (a.put o.dst v') w') :
    if Region.wanted o (yielded ops a.tmps) = true then Oper.wp P o a w K Q else E := by
  have hw : Region.wanted o (yielded ops a.tmps) = true := by simp [Region.wanted, hgd]
  rw [if_pos hw]
  exact wp_append_rd w s x t ho base e i z size bytes ht hi hz hsize hby hzs hsz v n xs hs hown y m news hx hr h1 h63 hbytes hbase h
end

theorem own_ext {w w' : World} {base : Nat} {e : TypeId} {size : Nat} {v : Value} {n : Nat} {xs : List Value} (h : w.ownsRow base e size v n xs) (hE : Ext w w') : w'.ownsRow base e size v n xs := by
  refine ⟨h.1, ?_⟩
  rcases h.2 with h2 | ⟨g, cap, cur, hv, hg, hh, r⟩
  · exact .inl h2
  · exact .inr ⟨g, cap, cur, hv, hg, by rw [hE.block g (lt_of_block hh)]; exact hh, r⟩
theorem own_base {w : World} {base base' : Nat} {e : TypeId} {size : Nat} {v : Value} {n : Nat} {xs : List Value} (h : w.ownsRow base e size v n xs) (hb : base' ≤ base) : w.ownsRow base' e size v n xs := by
  refine ⟨h.1, ?_⟩
  rcases h.2 with h2 | ⟨g, cap, cur, hv, hg, r⟩
  · exact .inl h2
  · exact .inr ⟨g, cap, cur, hv, Nat.le_trans hb hg, r⟩
/-- a literal slice, just made -/
theorem own_lit (w : World) (base : Nat) (e : TypeId) (cs : Array Value) (hb : base ≤ w.heap.size) (hm : cs.size ≤ maxLen) :
    (w.alloc (.cells cs e)).ownsRow base e 1 (.slice (some ⟨w.heap.size, 0, none⟩) cs.size cs.size) cs.size cs.toList :=
  ⟨by simp, .inr ⟨_, _, cs, rfl, hb, heap_alloc_new w _, Nat.le_refl _, hm, by simp, by rw [List.take_of_length_le (by simp)]⟩⟩
/-- one value, just laid in a block of its own -/
theorem RdN.one_ (w : World) (e : TypeId) (u : Value) : RdN (w.alloc (.cells #[u] e)) 1 (.slice (some ⟨w.heap.size, 0, none⟩) 1 1) 1 [u] := by
  have := RdN.of_own (own_lit w w.heap.size e #[u] (Nat.le_refl _) (by simp [maxLen]))
  simpa using this
theorem own_litB {w : World} {B : Nat} (hB : w.heap.size = B) (base : Nat) (e : TypeId) (cs : Array Value) (hb : base ≤ B) (hm : cs.size ≤ maxLen) :
    (w.alloc (.cells cs e)).ownsRow base e 1 (.slice (some ⟨B, 0, none⟩) cs.size cs.size) cs.size cs.toList := by
  subst hB; exact own_lit w base e cs hb hm
theorem own_empty {w : World} {B : Nat} (hB : w.heap.size = B) (base : Nat) (e : TypeId) (size : Nat) (hb : base ≤ B) :
    (w.alloc (.cells #[] e)).ownsRow base e size (.slice (some ⟨B, 0, none⟩) 0 0) 0 [] := by
  subst hB; exact ⟨by simp, .inr ⟨_, _, #[], rfl, hb, heap_alloc_new w _, Nat.le_refl _, Nat.zero_le _, by simp, by simp⟩⟩
theorem RdN.oneB {w : World} {B : Nat} (hB : w.heap.size = B) (e : TypeId) (u : Value) : RdN (w.alloc (.cells #[u] e)) 1 (.slice (some ⟨B, 0, none⟩) 1 1) 1 [u] := by
  subst hB; simpa using RdN.of_own (own_lit w w.heap.size e #[u] (Nat.le_refl _) (by simp [maxLen]))
theorem own_shape {w : World} {base : Nat} {e : TypeId} {size : Nat} {v : Value} {n : Nat} {xs : List Value} (h : w.ownsRow base e size v n xs) : ∃ A c, v = .slice A n c := by
  rcases h.2 with ⟨rfl, rfl⟩ | ⟨g, cap, cur, rfl, _⟩
  · exact ⟨_, _, rfl⟩
  · exact ⟨_, _, rfl⟩
theorem own_len {w : World} {base : Nat} {e : TypeId} {size n m c : Nat} {A : Option Addr} {xs : List Value} (h : w.ownsRow base e size (.slice A m c) n xs) : m = n := by
  rcases h.2 with ⟨h', rfl⟩ | ⟨_, _, _, h', _⟩
  · simp only [Value.slice.injEq] at h'
    exact h'.2.1
  · simp only [Value.slice.injEq] at h'
    exact h'.2.1
theorem own_addr {w : World} {base : Nat} {e : TypeId} {size n m c : Nat} {A : Option Addr} {xs : List Value} (h : w.ownsRow base e size (.slice A m c) n xs) (hn : 0 < n) : ∃ g, A = some ⟨g, 0, none⟩ ∧ base ≤ g ∧ m = n := by
  obtain ⟨g, cap, hv, hb, _⟩ := h.form hn
  simp only [Value.slice.injEq] at hv
  exact ⟨g, hv.1, hb, hv.2.1⟩
/-- one int of an owned row, and a store there -/
theorem own_int {w : World} {base : Nat} {e : TypeId} {k : IntKind} {g n cap : Nat} {zs : List Int} (h : w.ownsRow base e 1 (.slice (some ⟨g, 0, none⟩) n cap) n (zs.map (Value.int k))) {j : Nat} (hj : j < n) :
    ∃ x, zs[j]? = some x ∧ w.cell? ⟨g, j, none⟩ = some (.int k x) ∧ w.frozen? ⟨g, j, none⟩ = false := by
  have hl : zs.length = n := by simpa using h.1
  refine ⟨zs[j]'(by omega), List.getElem?_eq_getElem (by omega), ?_, h.frozenAt j⟩
  rw [h.cellAt j (by omega), List.getElem?_map, List.getElem?_eq_getElem (by omega)]
  rfl
theorem own_int_set {w : World} {base : Nat} {e : TypeId} {k : IntKind} {g n cap : Nat} {zs : List Int} (h : w.ownsRow base e 1 (.slice (some ⟨g, 0, none⟩) n cap) n (zs.map (Value.int k))) (j : Nat) (y : Int) :
    (w.setCell ⟨g, j, none⟩ (.int k y)).ownsRow base e 1 (.slice (some ⟨g, 0, none⟩) n cap) n ((zs.set j y).map (Value.int k)) := by
  have := (h.stored j (.int k y)).1
  rw [List.map_set]
  exact this
theorem grown_ext {a w w' : World} {v : Value} {base : Nat} {e : TypeId} {size n : Nat} {xs : List Value} (h : Ext a w) (hown : w.ownsRow base e size v n xs) (hg : w.grownBy w' v.ownBlock) (hb : a.heap.size ≤ base) : Ext a w' :=
  h.grownNew hg fun k hk => Nat.le_trans hb (hown.lt k hk).1
/-- The world but for draws. -/
def Qt (w w' : World) : Prop := ∃ d, w' = w.drewN d
theorem Qt.refl (w : World) : Qt w w := ⟨0, rfl⟩
theorem Qt.drewN {w w' : World} (h : Qt w w') (n : Nat) : Qt w (w'.drewN n) := by
  obtain ⟨d, rfl⟩ := h
  exact ⟨d + n, by simp⟩
theorem Qt.trans {a b c : World} (h : Qt a b) (k : Qt b c) : Qt a c := by
  obtain ⟨d, rfl⟩ := k
  exact h.drewN d
theorem Qt.ext {w w' : World} (h : Qt w w') : Ext w w' := by
  obtain ⟨d, rfl⟩ := h
  exact (Ext.refl w).drewN d
theorem Qt.calls {P : Program} {f : FuncId} {args : Array Value} {w : World} {n : Nat} {v u : Value} (hv : v = u)
    (h : Calls P f args (w.drewN n) fun e w' => e = .returned v ∧ Qt (w.drewN n) w') : Calls P f args (w.drewN n) fun e w'' => e = .returned u ∧ ∃ m, w'' = w.drewN m :=
  h.mono fun _ _ ⟨he, m, hm⟩ => ⟨by rw [he, hv], n + m, by rw [hm, World.drewN_drewN]⟩
/-- Only blocks of S, and new ones, have turned. -/
structure Mod (S : Nat → Prop) (w w' : World) : Prop where
  os : w'.os = w.os
  tape : w'.tape = w.tape
  output : w'.output = w.output
  size : w.heap.size ≤ w'.heap.size
  block : ∀ k, k < w.heap.size → ¬ S k → w'.heap[k]? = w.heap[k]?
theorem Mod.refl (S : Nat → Prop) (w : World) : Mod S w w := ⟨rfl, rfl, rfl, Nat.le_refl _, fun _ _ _ => rfl⟩
theorem Mod.of_ext {S : Nat → Prop} {w w' : World} (h : Ext w w') : Mod S w w' := ⟨h.os, h.tape, h.output, h.size, fun k hk _ => h.block k hk⟩
theorem Mod.trans {S : Nat → Prop} {a b c : World} (h : Mod S a b) (k : Mod S b c) : Mod S a c :=
  ⟨k.os.trans h.os, k.tape.trans h.tape, k.output.trans h.output, Nat.le_trans h.size k.size, fun i hi hn => (k.block i (Nat.lt_of_lt_of_le hi h.size) hn).trans (h.block i hi hn)⟩
theorem Mod.mono {S T : Nat → Prop} {a b : World} (h : Mod S a b) (hT : ∀ k, k < a.heap.size → S k → T k) : Mod T a b :=
  ⟨h.os, h.tape, h.output, h.size, fun k hk hn => h.block k hk fun hs => hn (hT k hk hs)⟩
theorem Mod.alloc {S : Nat → Prop} {a w : World} (h : Mod S a w) (o : Obj) : Mod S a (w.alloc o) := h.trans (.of_ext ((Ext.refl w).alloc o))
theorem Mod.drewN {S : Nat → Prop} {a w : World} (h : Mod S a w) (n : Nat) : Mod S a (w.drewN n) := h.trans (.of_ext ((Ext.refl w).drewN n))
theorem Mod.drew {S : Nat → Prop} {a w : World} (h : Mod S a w) : Mod S a w.drew := h.trans (.of_ext (Ext.refl w).drew)
theorem Mod.ext {S : Nat → Prop} {a b c : World} (h : Mod S a b) (k : Ext b c) : Mod S a c := h.trans (.of_ext k)
theorem Mod.set_ {S : Nat → Prop} {a w : World} (h : Mod S a w) {p : Addr} (hp : a.heap.size ≤ p.block ∨ S p.block) (u : Value) : Mod S a (w.setCell p u) :=
  ⟨h.os, h.tape, h.output, by simpa [World.setCell] using h.size, fun k hk hn => (Below.heap_setCell w p u k (by
    rintro rfl
    rcases hp with hp | hp
    · omega
    · exact hn hp)).trans (h.block k hk hn)⟩
theorem Mod.set1 {g o : Nat} {a w : World} (h : Mod (fun k => k = g) a w) (u : Value) : Mod (fun k => k = g) a (w.setCell ⟨g, o, none⟩ u) := Mod.set_ h (.inr rfl) u
theorem Mod.grown {S : Nat → Prop} {a w w' : World} {row : Option Nat} (h : Mod S a w) (hg : w.grownBy w' row) (hr : ∀ k, row = some k → a.heap.size ≤ k ∨ S k) : Mod S a w' :=
  ⟨hg.os.trans h.os, hg.tape.trans h.tape, hg.output.trans h.output, Nat.le_trans h.size hg.size, fun k hk hn => (hg.block k (Nat.lt_of_lt_of_le hk h.size) (fun e => by
    rcases hr k e.symm with h1 | h1
    · omega
    · exact hn h1)).trans (h.block k hk hn)⟩
theorem Mod.below {S : Nat → Prop} {a b : World} (h : Mod S a b) {B : Nat} (hB : B ≤ a.heap.size) (hS : ∀ k, k < B → ¬ S k) : Below B a b :=
  ⟨h.os, h.tape, h.output, h.size, fun k hk => h.block k (by omega) (hS k hk)⟩
theorem Mod.toExt {S : Nat → Prop} {w a b : World} (h : Ext w a) (hm : Mod S a b) (hS : ∀ k, k < w.heap.size → ¬ S k) : Ext w b := h.trans (a := w) (b := a) (c := a) (Ext.refl a) |> fun h => Below.trans h (hm.below h.size hS)
theorem Mod.cell {S : Nat → Prop} {a b : World} (h : Mod S a b) : ∀ k o, k < a.heap.size → ¬ S k → b.cell? ⟨k, o, none⟩ = a.cell? ⟨k, o, none⟩ := fun k _ hk hn =>
  World.cell?_of_block (h.block k hk hn)

/-- a block that is known whole -/
def Blk (w : World) (g : Nat) (t : TypeId) (cs : Array Value) : Prop := w.heap[g]? = some (.cells cs t (0, 0))
section
variable {w w' : World} {g : Nat} {t : TypeId} {cs : Array Value}
theorem Blk.lt (h : Blk w g t cs) : g < w.heap.size := lt_of_block h
theorem Blk.cell (h : Blk w g t cs) (i : Nat) : w.cell? ⟨g, i, none⟩ = cs[i]? := cell_of_row w g i cs t (0, 0) h
theorem Blk.frozen (h : Blk w g t cs) (i : Nat) : w.frozen? ⟨g, i, none⟩ = false := by
  unfold Blk at h
  simp [World.frozen?, h]
theorem Blk.new (w : World) (t : TypeId) (cs : Array Value) : Blk (w.alloc (.cells cs t)) w.heap.size t cs := heap_alloc_new w _
theorem Blk.at_ {w : World} {B : Nat} (t : TypeId) (cs : Array Value) (hB : w.heap.size = B) : Blk (w.alloc (.cells cs t)) B t cs := by
  subst hB; exact heap_alloc_new w _
theorem Blk.ext (h : Blk w g t cs) (hE : Ext w w') : Blk w' g t cs := (hE.block g h.lt).trans h
theorem Blk.mod {S : Nat → Prop} (h : Blk w g t cs) (hM : Mod S w w') (hn : ¬ S g) : Blk w' g t cs := (hM.block g h.lt hn).trans h
theorem Blk.alloc (h : Blk w g t cs) (o : Obj) : Blk (w.alloc o) g t cs := h.ext ((Ext.refl w).alloc o)
theorem Blk.drewN (h : Blk w g t cs) (n : Nat) : Blk (w.drewN n) g t cs := h
theorem Blk.set_ (h : Blk w g t cs) (i : Nat) (u : Value) : Blk (w.setCell ⟨g, i, none⟩ u) g t (cs.setIfInBounds i u) := by
  unfold Blk at h ⊢
  simp [World.setCell, Array.getElem?_modify, h]
theorem Blk.far (h : Blk w g t cs) {p : Addr} (hp : g ≠ p.block) (u : Value) : Blk (w.setCell p u) g t cs := (Below.heap_setCell w p u g hp).trans h
theorem Blk.grown {row : Option Nat} (h : Blk w g t cs) (hb : w.grownBy w' row) (hg : some g ≠ row) : Blk w' g t cs := (hb.block g h.lt hg).trans h
theorem Blk.cell0 {u : Value} (h : Blk w g t #[u]) : w.cell? ⟨g, 0, none⟩ = some u := by simpa using h.cell 0
theorem Blk.two {u v : Value} (h : Blk w g t #[u, v]) : w.cell? ⟨g, 0, none⟩ = some u ∧ w.cell? ⟨g, 1, none⟩ = some v ∧ w.frozen? ⟨g, 0, none⟩ = false ∧ w.frozen? ⟨g, 1, none⟩ = false :=
  ⟨by simpa using h.cell 0, by simpa using h.cell 1, h.frozen 0, h.frozen 1⟩
theorem Blk.put2 {u v : Value} (h : Blk w g t #[u, v]) (x y : Value) : Blk ((w.setCell ⟨g, 0, none⟩ x).setCell ⟨g, 1, none⟩ y) g t #[x, y] := by
  simpa using (h.set_ 0 x).set_ 1 y
theorem own_blk_ne {base : Nat} {e : TypeId} {size n : Nat} {v : Value} {xs : List Value} (h : w.ownsRow base e size v n xs) (hg : Blk w g t cs) (hne : e ≠ t) : v.ownBlock ≠ some g := by
  rcases h.2 with ⟨rfl, _⟩ | ⟨g', cap, cur, rfl, _, hh, _⟩
  · simp [Value.ownBlock]
  · intro he
    have : g' = g := by simpa [Value.ownBlock] using he
    subst this
    unfold Blk at hg
    rw [hg] at hh
    simp at hh
    exact hne hh.2.symm
end
theorem own_own_ne {w : World} {b b' : Nat} {e e' : TypeId} {s s' n n' : Nat} {v v' : Value} {xs xs' : List Value} (h : w.ownsRow b e s v n xs) (h' : w.ownsRow b' e' s' v' n' xs') (hne : e ≠ e') : v.ownBlock = none ∨ v.ownBlock ≠ v'.ownBlock := by
  rcases h.2 with ⟨rfl, _⟩ | ⟨g, cap, cur, rfl, _, hh, _⟩
  · exact .inl rfl
  · right
    intro he
    exact own_blk_ne (e := e') h' (g := g) (t := e) (cs := cur) hh (Ne.symm hne) he.symm
theorem own_mod {S : Nat → Prop} {w w' : World} {base : Nat} {e : TypeId} {size : Nat} {v : Value} {n : Nat} {xs : List Value} (h : w.ownsRow base e size v n xs) (hM : Mod S w w') (hn : ∀ k, v.ownBlock = some k → ¬ S k) : w'.ownsRow base e size v n xs := by
  refine ⟨h.1, ?_⟩
  rcases h.2 with h2 | ⟨g, cap, cur, hv, hg, hh, r⟩
  · exact .inl h2
  · refine .inr ⟨g, cap, cur, hv, hg, ?_, r⟩
    rw [hM.block g (lt_of_block hh) (hn g (by rw [hv]; rfl))]; exact hh
theorem RdN.mod {S : Nat → Prop} {w w' : World} {size n : Nat} {v : Value} {xs : List Value} (h : RdN w size v n xs) (hM : Mod S w w') (hn : ∀ k, v.ownBlock = some k → ¬ S k) : RdN w' size v n xs := by
  obtain ⟨hl, A, c, hv, hnc, hm, hA⟩ := h
  refine ⟨hl, A, c, hv, hnc, hm, ?_⟩
  rcases hA with hA | ⟨b, off, hA, hc⟩
  · exact .inl hA
  · refine .inr ⟨b, off, hA, fun j u hu => ?_⟩
    have hc' := hc j u hu
    rw [hM.cell b _ (World.block_lt_of_cell? w _ hc') (hn b (by rw [hv, hA]; rfl))]; exact hc'
/-- the number of elements of a slice, for a measure -/
def lenOfV : Value → Nat | .slice _ n _ => n | _ => 0
/-- a slice of slices, each so many elements of 'size' cells -/
def RdLL (w : World) (size : Nat) (v : Value) (ls : List (Nat × List Value)) : Prop :=
  ∃ vs : List Value, vs.length = ls.length ∧ RdN w 1 v ls.length vs ∧ ∀ (j : Nat) x l, vs[j]? = some x → ls[j]? = some l → RdN w size x l.1 l.2
def tot (ls : List (Nat × List Value)) : Nat := (ls.map (·.1)).sum
def cat (ls : List (Nat × List Value)) : List Value := (ls.map (·.2)).flatten
theorem tot_succ {ls : List (Nat × List Value)} {k : Nat} {l : Nat × List Value} (h : ls[k]? = some l) : tot (ls.take (k + 1)) = tot (ls.take k) + l.1 := by
  simp [tot, List.take_add_one, h]
theorem cat_succ {ls : List (Nat × List Value)} {k : Nat} {l : Nat × List Value} (h : ls[k]? = some l) : cat (ls.take (k + 1)) = cat (ls.take k) ++ l.2 := by
  simp [cat, List.take_add_one, h]
theorem tot_take_le (ls : List (Nat × List Value)) (k : Nat) : tot (ls.take k) ≤ tot ls := by
  have h : tot ls = tot (ls.take k) + tot (ls.drop k) := by
    conv => lhs; rw [← List.take_append_drop k ls]
    simp only [tot, List.map_append, List.sum_append]
  omega
theorem mem_le_tot {ls : List (Nat × List Value)} {l : Nat × List Value} (h : l ∈ ls) : l.1 ≤ tot ls := by
  obtain ⟨a, b, rfl⟩ := List.append_of_mem h
  simp [tot]
  omega
theorem RdLL.ext {w w' : World} {size : Nat} {v : Value} {ls : List (Nat × List Value)} (h : RdLL w size v ls) (hE : Ext w w') : RdLL w' size v ls := by
  obtain ⟨vs, h1, h2, h3⟩ := h
  exact ⟨vs, h1, h2.ext hE, fun j x l hx hl => (h3 j x l hx hl).ext hE⟩
theorem RdLL.lit2 {w : World} {size : Nat} {x y : Value} {n m B : Nat} {xs ys : List Value} (t : TypeId) (hB : w.heap.size = B) (hx : RdN w size x n xs) (hy : RdN w size y m ys) :
    RdLL (w.alloc (.cells #[x, y] t)) size (.slice (some ⟨B, 0, none⟩) 2 2) [(n, xs), (m, ys)] := by
  subst hB
  refine ⟨[x, y], rfl, ⟨rfl, _, _, rfl, Nat.le_refl _, by simp [maxLen], .inr ⟨_, _, rfl, fun j u hu => ?_⟩⟩, fun j z l hz hl => ?_⟩
  · have := (Blk.new w t #[x, y]).cell (0 + j)
    rw [this, Nat.zero_add]
    simpa using hu
  · match j, hz, hl with
    | 0, hz, hl => simp at hz hl; subst hz hl; exact hx.alloc _
    | 1, hz, hl => simp at hz hl; subst hz hl; exact hy.alloc _

theorem ofInt_i64 (a : Nat) (ha : a < 9223372036854775808) : (BitVec.ofInt 64 (a : Int)).toNat = a := by
  rw [BitVec.ofInt_natCast, BitVec.toNat_ofNat]; exact Nat.mod_eq_of_lt (by omega)
theorem i64_or_nat (a b : Nat) (ha : a < 9223372036854775808) (hb : b < 9223372036854775808) : bits .or .i64 (a : Int) (b : Int) = ((a ||| b : Nat) : Int) := by
  have hx : a ||| b < 2 ^ 63 := Nat.or_lt_two_pow (by omega) (by omega)
  show IntKind.i64.wrap ((BitVec.ofInt 64 (a : Int) ||| BitVec.ofInt 64 (b : Int)).toNat : Int) = _
  rw [BitVec.toNat_or, ofInt_i64 a ha, ofInt_i64 b hb, IntKind.wrap_i64]
  omega
theorem i64_join (x y : Int) (i : Nat) (hx0 : 0 ≤ x) (hx1 : x < 9223372036854775808) (hy0 : 0 ≤ y) (hy1 : y < 9223372036854775808) (hx : x.toNat % 2 ^ i = 0) (hy : y.toNat < 2 ^ i) : bits .or .i64 x y = x + y := by
  obtain ⟨a, rfl⟩ := Int.eq_ofNat_of_zero_le hx0
  obtain ⟨b, rfl⟩ := Int.eq_ofNat_of_zero_le hy0
  rw [i64_or_nat a b (by omega) (by omega), nat_join i a b (by simpa using hx) (by simpa using hy)]
  simp
theorem four_join (a b c d : Int) (ba : 0 ≤ a ∧ a ≤ 255) (bb : 0 ≤ b ∧ b ≤ 255) (bc : 0 ≤ c ∧ c ≤ 255) (bd : 0 ≤ d ∧ d ≤ 255) :
    bits .or .i64 (bits .or .i64 (bits .or .i64 (a * 16777216) (b * 65536)) (c * 256)) d = a * 16777216 + b * 65536 + c * 256 + d := by
  rw [i64_join (a * 16777216) (b * 65536) 24 (by omega) (by omega) (by omega) (by omega) (by omega) (by omega)]
  rw [i64_join _ (c * 256) 16 (by omega) (by omega) (by omega) (by omega) (by omega) (by omega)]
  rw [i64_join _ d 8 (by omega) (by omega) (by omega) (by omega) (by omega) (by omega)]
theorem ret_int {k : IntKind} {a b : Int} (h : a = b) : Ending.returned (.int k a) = .returned (.int k b) := by rw [h]
theorem ret_bool {a b : Bool} (h : a = b) : Ending.returned (.bool a) = .returned (.bool b) := by rw [h]
end Go.Kb
namespace Go.Kb
open Go.RowKit

/-- how a datum lies in so many cells: what it reads lies in blocks of A -/
structure Rep (D : Type) where
  size : Nat
  pos : 0 < size
  rel : (Nat → Prop) → World → List Value → D → Prop
  len : ∀ {A : Nat → Prop} {w : World} {cs : List Value} {d : D}, rel A w cs d → cs.length = size
  one : ∀ {A : Nat → Prop} {w : World} {cs : List Value} {d : D}, rel A w cs d → ∀ u ∈ cs, u.oneCell' = true
  keep : ∀ {A B : Nat → Prop} {w w' : World} {cs : List Value} {d : D}, rel A w cs d → (∀ k, k < w.heap.size → A k → B k ∧ w'.heap[k]? = w.heap[k]?) → rel B w' cs d

def Rep.int (k : IntKind) : Rep Int where
  size := 1
  pos := by decide
  rel := fun _ _ cs d => cs = [.int k d]
  len := fun h => by rw [h]; rfl
  one := fun h u hu => by rw [h] at hu; simp at hu; subst hu; rfl
  keep := fun h _ => h
def Rep.bool : Rep Bool where
  size := 1
  pos := by decide
  rel := fun _ _ cs d => cs = [.bool d]
  len := fun h => by rw [h]; rfl
  one := fun h u hu => by rw [h] at hu; simp at hu; subst hu; rfl
  keep := fun h _ => h
def Rep.pair {D E : Type} (x : Rep D) (y : Rep E) : Rep (D × E) where
  size := x.size + y.size
  pos := by have := x.pos; omega
  rel := fun A w cs d => ∃ us vs, cs = us ++ vs ∧ x.rel A w us d.1 ∧ y.rel A w vs d.2
  len := fun ⟨us, vs, h, h1, h2⟩ => by rw [h, List.length_append, x.len h1, y.len h2]
  one := fun ⟨us, vs, h, h1, h2⟩ u hu => by
    rw [h] at hu
    rcases List.mem_append.1 hu with hu | hu
    · exact x.one h1 u hu
    · exact y.one h2 u hu
  keep := fun ⟨us, vs, h, h1, h2⟩ hk => ⟨us, vs, h, x.keep h1 hk, y.keep h2 hk⟩

section
variable {D : Type} {e : Rep D} {A B : Nat → Prop} {S : Nat → Prop} {w w' : World} {cs us news : List Value} {d : D} {ds ds2 : List D} {v : Value}
theorem Rep.ext (h : e.rel A w cs d) (hE : Ext w w') : e.rel A w' cs d := e.keep h fun k hk ha => ⟨ha, hE.block k hk⟩
theorem Rep.mod (h : e.rel A w cs d) (hM : Mod S w w') (hS : ∀ k, k < w.heap.size → A k → ¬ S k) : e.rel A w' cs d := e.keep h fun k hk ha => ⟨ha, hM.block k hk (hS k hk ha)⟩
theorem Rep.mono (h : e.rel A w cs d) (hS : ∀ k, k < w.heap.size → A k → B k) : e.rel B w cs d := e.keep h fun k hk ha => ⟨hS k hk ha, rfl⟩

/-- the cells of so many elements -/
def RdE (e : Rep D) (A : Nat → Prop) (w : World) (us : List Value) (ds : List D) : Prop :=
  us.length = ds.length * e.size ∧ ∀ (j : Nat) d, ds[j]? = some d → e.rel A w ((us.drop (j * e.size)).take e.size) d
theorem RdE.keep (h : RdE e A w us ds) (hk : ∀ k, k < w.heap.size → A k → B k ∧ w'.heap[k]? = w.heap[k]?) : RdE e B w' us ds :=
  ⟨h.1, fun j d hd => e.keep (h.2 j d hd) hk⟩
theorem RdE.nil (e : Rep D) (A : Nat → Prop) (w : World) : RdE e A w [] [] := ⟨by simp, fun j d hd => by simp at hd⟩
theorem RdE.one (h : RdE e A w us ds) : ∀ u ∈ us, u.oneCell' = true := by
  intro u hu
  obtain ⟨j, hj, rfl⟩ := List.getElem_of_mem hu
  have hp := e.pos
  have hlen := h.1
  have hjd : j / e.size < ds.length := by
    rw [Nat.div_lt_iff_lt_mul hp]; omega
  have hr := h.2 (j / e.size) _ (List.getElem?_eq_getElem hjd)
  refine e.one hr _ ?_
  have hm : j % e.size < e.size := Nat.mod_lt _ hp
  have hj2 : j / e.size * e.size + j % e.size = j := Nat.div_add_mod' j e.size
  rw [List.mem_iff_getElem?]
  refine ⟨j % e.size, ?_⟩
  rw [List.getElem?_take, if_pos hm, List.getElem?_drop, hj2, List.getElem?_eq_getElem hj]
theorem RdE.single (h : e.rel A w cs d) : RdE e A w cs [d] := by
  refine ⟨by rw [e.len h]; simp, fun j x hx => ?_⟩
  match j, hx with
  | 0, hx =>
    simp at hx
    subst hx
    have : (cs.drop (0 * e.size)).take e.size = cs := by
      rw [Nat.zero_mul, List.drop_zero, List.take_of_length_le (by rw [e.len h]; exact Nat.le_refl _)]
    rw [this]; exact h
theorem RdE.append (h : RdE e A w us ds) (h2 : RdE e A w news ds2) : RdE e A w (us ++ news) (ds ++ ds2) := by
  refine ⟨by rw [List.length_append, List.length_append, h.1, h2.1, Nat.add_mul], fun j x hx => ?_⟩
  rcases Nat.lt_or_ge j ds.length with hj | hj
  · rw [List.getElem?_append_left hj] at hx
    have hle : (j + 1) * e.size ≤ us.length := by rw [h.1]; exact Nat.mul_le_mul_right _ hj
    rw [Nat.add_mul, Nat.one_mul] at hle
    rw [List.drop_append_of_le_length (by omega), List.take_append_of_le_length (by rw [List.length_drop]; omega)]
    exact h.2 j x hx
  · rw [List.getElem?_append_right hj] at hx
    have : (us ++ news).drop (j * e.size) = news.drop ((j - ds.length) * e.size) := by
      have hj2 : j * e.size = us.length + (j - ds.length) * e.size := by
        rw [h.1, ← Nat.add_mul]; congr 1; omega
      rw [hj2, List.drop_append]
      have : us.length + (j - ds.length) * e.size - us.length = (j - ds.length) * e.size := by omega
      rw [this, List.drop_eq_nil_of_le (by omega), List.nil_append]
    rw [this]
    exact h2.2 _ x hx
theorem RdE.take (h : RdE e A w us ds) (k : Nat) (hk : k ≤ ds.length) : RdE e A w (us.take (k * e.size)) (ds.take k) := by
  have hle : k * e.size ≤ us.length := by rw [h.1]; exact Nat.mul_le_mul_right _ hk
  refine ⟨by rw [List.length_take, List.length_take, Nat.min_eq_left hle, Nat.min_eq_left hk], fun j x hx => ?_⟩
  rw [List.getElem?_take] at hx
  split at hx
  · rename_i hj
    have := h.2 j x hx
    have hle2 : (j + 1) * e.size ≤ k * e.size := Nat.mul_le_mul_right _ hj
    rw [Nat.add_mul, Nat.one_mul] at hle2
    have e1 : ((us.take (k * e.size)).drop (j * e.size)).take e.size = (us.drop (j * e.size)).take e.size := by
      rw [List.drop_take, List.take_take, Nat.min_eq_left (by omega)]
    rw [e1]; exact this
  · cases hx
theorem RdE.drop (h : RdE e A w us ds) (k : Nat) : RdE e A w (us.drop (k * e.size)) (ds.drop k) := by
  refine ⟨by rw [List.length_drop, List.length_drop, h.1, Nat.sub_mul], fun j x hx => ?_⟩
  rw [List.getElem?_drop] at hx
  have := h.2 _ x hx
  rw [List.drop_drop, ← Nat.add_mul]
  exact this
theorem RdE.set (h : RdE e A w us ds) {j : Nat} (hj : j < ds.length) (hr : e.rel A w cs d) : RdE e A w (us.take (j * e.size) ++ cs ++ us.drop ((j + 1) * e.size)) (ds.set j d) := by
  have hs : ds.set j d = (ds.take j ++ [d]) ++ ds.drop (j + 1) := by
    rw [List.set_eq_take_append_cons_drop, if_pos hj]; simp
  rw [hs]
  exact ((h.take j (by omega)).append (RdE.single hr)).append (h.drop (j + 1))

/-- a slice whose elements read so (the elements' own memory lies in A) -/
def RdY (e : Rep D) (A : Nat → Prop) (w : World) (v : Value) (ds : List D) : Prop :=
  ∃ us, RdN w e.size v ds.length us ∧ RdE e A w us ds
/-- the same, and its row lies in A too -/
def RdS (e : Rep D) (A : Nat → Prop) (w : World) (v : Value) (ds : List D) : Prop :=
  RdY e A w v ds ∧ (0 < ds.length → ∀ k, v.ownBlock = some k → A k)
theorem RdS.y (h : RdS e A w v ds) : RdY e A w v ds := h.1
theorem RdY.shape (h : RdY e A w v ds) : ∃ Ad c, v = .slice Ad ds.length c ∧ ds.length ≤ c ∧ c ≤ 9223372036854775807 := by
  obtain ⟨us, hr, _⟩ := h
  exact hr.shape
theorem RdS.shape (h : RdS e A w v ds) : ∃ Ad c, v = .slice Ad ds.length c ∧ ds.length ≤ c ∧ c ≤ 9223372036854775807 := h.1.shape
theorem RdN.lt_own {size n : Nat} {xs : List Value} (h : RdN w size v n xs) (hn : 0 < n) (hs : 0 < size) : ∀ k, v.ownBlock = some k → k < w.heap.size := by
  obtain ⟨b, off, c, rfl, _, _, hc⟩ := h.form hn
  intro k hk
  have : k = b := by simpa [Value.ownBlock, eq_comm] using hk
  subst this
  have hl : 0 < xs.length := by rw [h.1]; exact Nat.mul_pos hn hs
  exact World.block_lt_of_cell? w _ (hc 0 _ (List.getElem?_eq_getElem hl))
theorem RdN.keepB {size n : Nat} {xs : List Value} (h : RdN w size v n xs) (hk : ∀ k, k < w.heap.size → 0 < n → v.ownBlock = some k → w'.heap[k]? = w.heap[k]?) : RdN w' size v n xs := by
  obtain ⟨hl, Ad, c, rfl, hnc, hm, hA⟩ := h
  refine ⟨hl, Ad, c, rfl, hnc, hm, ?_⟩
  rcases hA with hA | ⟨b, off, rfl, hc⟩
  · exact .inl hA
  · refine .inr ⟨b, off, rfl, fun j u hu => ?_⟩
    have h1 := hc j u hu
    have hn : 0 < n := by
      rcases Nat.eq_zero_or_pos n with rfl | h0
      · rw [List.getElem?_eq_none (by omega)] at hu; cases hu
      · exact h0
    rw [World.cell?_of_block (a := ⟨b, off + j, none⟩) (hk b (World.block_lt_of_cell? w _ h1) hn rfl)]
    exact h1
theorem RdS.keep (h : RdS e A w v ds) (hk : ∀ k, k < w.heap.size → A k → B k ∧ w'.heap[k]? = w.heap[k]?) : RdS e B w' v ds := by
  obtain ⟨⟨us, hr, he⟩, ho⟩ := h
  refine ⟨⟨us, hr.keepB fun k hlt hn hb => (hk k hlt (ho hn k hb)).2, he.keep hk⟩, fun hn k hb => ?_⟩
  exact (hk k (hr.lt_own hn e.pos k hb) (ho hn k hb)).1
theorem RdS.ext (h : RdS e A w v ds) (hE : Ext w w') : RdS e A w' v ds := h.keep fun k hk ha => ⟨ha, hE.block k hk⟩
theorem RdS.mod (h : RdS e A w v ds) (hM : Mod S w w') (hS : ∀ k, k < w.heap.size → A k → ¬ S k) : RdS e A w' v ds := h.keep fun k hk ha => ⟨ha, hM.block k hk (hS k hk ha)⟩
theorem RdS.mono (h : RdS e A w v ds) (hS : ∀ k, k < w.heap.size → A k → B k) : RdS e B w v ds := h.keep fun k hk ha => ⟨hS k hk ha, rfl⟩
theorem RdS.alloc (h : RdS e A w v ds) (o : Obj) : RdS e A (w.alloc o) v ds := h.ext ((Ext.refl w).alloc o)
theorem RdS.drewN (h : RdS e A w v ds) (n : Nat) : RdS e A (w.drewN n) v ds := h.ext ((Ext.refl w).drewN n)
theorem RdS.below {L : Nat} (h : RdS e A w v ds) (hB : Below L w w') (hS : ∀ k, k < w.heap.size → A k → k < L) : RdS e A w' v ds := h.keep fun k hk ha => ⟨ha, hB.block k (hS k hk ha)⟩
/-- all that it reads was there when it was read -/
theorem RdS.lt (h : RdS e A w v ds) : RdS e (fun k => A k ∧ k < w.heap.size) w v ds := h.mono fun _ hk ha => ⟨ha, hk⟩
theorem RdY.ext (h : RdY e A w v ds) (hE : Ext w w') : RdY e A w' v ds := by
  obtain ⟨us, hr, he⟩ := h
  exact ⟨us, hr.ext hE, he.keep fun k hk ha => ⟨ha, hE.block k hk⟩⟩
theorem RdY.alloc (h : RdY e A w v ds) (o : Obj) : RdY e A (w.alloc o) v ds := h.ext ((Ext.refl w).alloc o)
theorem RdY.lt (h : RdY e A w v ds) : RdY e (fun k => A k ∧ k < w.heap.size) w v ds := by
  obtain ⟨us, hr, he⟩ := h
  exact ⟨us, hr, he.keep fun k hk ha => ⟨⟨ha, hk⟩, rfl⟩⟩
theorem RdY.mono (h : RdY e A w v ds) (hS : ∀ k, k < w.heap.size → A k → B k) : RdY e B w v ds := by
  obtain ⟨us, hr, he⟩ := h
  exact ⟨us, hr, he.keep fun k hk ha => ⟨hS k hk ha, rfl⟩⟩
theorem RdS.nil (e : Rep D) (A : Nat → Prop) (w : World) : RdS e A w (.slice none 0 0) [] := ⟨⟨[], RdN.nil _ _, RdE.nil _ _ _⟩, fun h => absurd h (by simp)⟩
/-- a slice as one cell -/
def Rep.sl (e : Rep D) : Rep (List D) where
  size := 1
  pos := by decide
  rel := fun A w cs ds => ∃ v, cs = [v] ∧ RdS e A w v ds
  len := fun ⟨v, h, _⟩ => by rw [h]; rfl
  one := fun ⟨v, h, h2⟩ u hu => by
    obtain ⟨Ad, c, rfl, _⟩ := h2.shape
    rw [h] at hu; simp at hu; subst hu; rfl
  keep := fun ⟨v, h, h2⟩ hk => ⟨v, h, h2.keep hk⟩

/-! ## ints -/
theorem RdE.ints {k : IntKind} {l : List Int} : RdE (Rep.int k) A w (l.map (Value.int k)) l := by
  refine ⟨by simp [Rep.int], fun j x hx => ?_⟩
  show ((l.map (Value.int k)).drop (j * 1)).take 1 = [.int k x]
  rw [Nat.mul_one, ← List.map_drop, ← List.map_take, List.take_one, List.head?_drop, hx]; rfl
theorem RdE.ints_eq {k : IntKind} {l : List Int} (h : RdE (Rep.int k) A w us l) : us = l.map (Value.int k) := by
  apply List.ext_getElem?
  intro j
  have hl : us.length = l.length := by simpa [Rep.int] using h.1
  rcases Nat.lt_or_ge j l.length with hj | hj
  · have h2 : ((us.drop (j * 1)).take 1) = [.int k l[j]] := h.2 j _ (List.getElem?_eq_getElem hj)
    rw [Nat.mul_one, List.take_one, List.head?_drop, List.getElem?_eq_getElem (by omega : j < us.length)] at h2
    simp at h2
    rw [List.getElem?_eq_getElem (by omega), h2, List.getElem?_map, List.getElem?_eq_getElem hj]; rfl
  · rw [List.getElem?_eq_none (by omega), List.getElem?_eq_none (by simp; omega)]
theorem RI.y {k : IntKind} {l : List Int} (h : RI k w v l) : RdY (Rep.int k) A w v l := ⟨_, h, RdE.ints⟩
theorem RI.s {k : IntKind} {l : List Int} (h : RI k w v l) : RdS (Rep.int k) (fun _ => True) w v l := ⟨h.y, fun _ _ _ => trivial⟩
theorem RdY.ri {k : IntKind} {l : List Int} (h : RdY (Rep.int k) A w v l) : RI k w v l := by
  obtain ⟨us, hr, he⟩ := h
  rw [RdE.ints_eq he] at hr
  exact hr
theorem RdS.ri {k : IntKind} {l : List Int} (h : RdS (Rep.int k) A w v l) : RI k w v l := h.1.ri

/-! ## one element, and cuts -/
theorem RdY.cells (h : RdY e A w v ds) {j : Nat} (hj : j < ds.length) : ∃ b off c d cs, v = .slice (some ⟨b, off, none⟩) ds.length c ∧ Hid (ds[j]? = some d) ∧ Hid (e.rel A w cs d) ∧ cs.length = e.size ∧
    ∀ i u, cs[i]? = some u → w.cell? ⟨b, off + j * e.size + i, none⟩ = some u := by
  obtain ⟨us, hr, he⟩ := h
  obtain ⟨b, off, c, rfl, _, _, hc⟩ := hr.form (by omega)
  refine ⟨b, off, c, _, _, rfl, List.getElem?_eq_getElem hj, he.2 j _ (List.getElem?_eq_getElem hj), e.len (he.2 j _ (List.getElem?_eq_getElem hj)), fun i u hu => ?_⟩
  rw [List.getElem?_take] at hu
  split at hu
  · rw [List.getElem?_drop] at hu
    rw [Nat.add_assoc]
    exact hc _ u hu
  · cases hu
/-- of one cell -/
theorem RdY.at1 {Ad : Option Addr} {n c : Nat} (h : RdY e A w (.slice Ad n c) ds) (hs : e.size = 1) {j : Nat} (hj : j < n) :
    ∃ b off u d, Ad = some ⟨b, off, none⟩ ∧ w.cell? ⟨b, off + j, none⟩ = some u ∧ Hid (ds[j]? = some d) ∧ Hid (e.rel A w [u] d) := by
  obtain ⟨Ad', c', hv, _⟩ := h.shape
  simp only [Value.slice.injEq] at hv
  obtain ⟨rfl, rfl, rfl⟩ := hv
  obtain ⟨b, off, c, d, cs, hv, hd, hr, hl, hc⟩ := h.cells hj
  simp only [Value.slice.injEq] at hv
  rw [hs] at hl hc
  match cs, hl with
  | [u], _ => exact ⟨b, off, u, d, hv.1, by simpa using hc 0 u rfl, hd, hr⟩
/-- of two cells -/
theorem RdY.at2 {Ad : Option Addr} {n c : Nat} (h : RdY e A w (.slice Ad n c) ds) (hs : e.size = 2) {j : Nat} (hj : j < n) :
    ∃ b off u u2 d, Ad = some ⟨b, off, none⟩ ∧ w.cell? ⟨b, off + j * 2, none⟩ = some u ∧ w.cell? ⟨b, off + j * 2 + 1, none⟩ = some u2 ∧ Hid (ds[j]? = some d) ∧ Hid (e.rel A w [u, u2] d) := by
  obtain ⟨Ad', c', hv, _⟩ := h.shape
  simp only [Value.slice.injEq] at hv
  obtain ⟨rfl, rfl, rfl⟩ := hv
  obtain ⟨b, off, c, d, cs, hv, hd, hr, hl, hc⟩ := h.cells hj
  simp only [Value.slice.injEq] at hv
  rw [hs] at hl hc
  match cs, hl with
  | [u, u2], _ => exact ⟨b, off, u, u2, d, hv.1, by simpa using hc 0 u rfl, hc 1 u2 rfl, hd, hr⟩
theorem RdS.to_ {Ad : Option Addr} {n c : Nat} (h : RdS e A w (.slice Ad n c) ds) {k : Nat} (hk : k ≤ n) : RdS e A w (.slice Ad k c) (ds.take k) := by
  obtain ⟨Ad', c', hv, _⟩ := h.shape
  simp only [Value.slice.injEq] at hv
  obtain ⟨rfl, rfl, rfl⟩ := hv
  obtain ⟨⟨us, hr, he⟩, ho⟩ := h
  have hl : (ds.take k).length = k := by rw [List.length_take]; omega
  refine ⟨⟨us.take (k * e.size), by rw [hl]; exact hr.to_ hk, he.take k hk⟩, fun hn b hb => ho (by omega) b (by cases Ad with | none => simp [Value.ownBlock] at hb | some a => exact hb)⟩
theorem RdS.cap {Ad : Option Addr} {n c c' : Nat} (h : RdS e A w (.slice Ad n c) ds) (h1 : n ≤ c') (h2 : c' ≤ c) : RdS e A w (.slice Ad n c') ds := by
  obtain ⟨⟨us, ⟨hl, A', k, hv, hnc, hm, hA⟩, he⟩, ho⟩ := h
  simp only [Value.slice.injEq] at hv
  obtain ⟨rfl, rfl, rfl⟩ := hv
  refine ⟨⟨us, ⟨hl, Ad, c', rfl, h1, by omega, ?_⟩, he⟩, fun hn b hb => ho hn b (by cases Ad with | none => simp [Value.ownBlock] at hb | some a => exact hb)⟩
  rcases hA with hA | hA
  · exact .inl (by omega)
  · exact .inr hA
theorem RdS.from_ {Ad : Option Addr} {n c : Nat} (h : RdS e A w (.slice Ad n c) ds) {k : Nat} (hk : k ≤ n) :
    RdS e A w (.slice (if c = k then Ad else Ad.map (·.add (k * e.size))) (n - k) (c - k)) (ds.drop k) := by
  obtain ⟨Ad', c', hv, _⟩ := h.shape
  simp only [Value.slice.injEq] at hv
  obtain ⟨rfl, rfl, rfl⟩ := hv
  obtain ⟨⟨us, hr, he⟩, ho⟩ := h
  have hl : (ds.drop k).length = ds.length - k := by rw [List.length_drop]
  refine ⟨⟨us.drop (k * e.size), by rw [hl]; exact hr.from_ hk, he.drop k⟩, fun hn b hb => ho (by omega) b ?_⟩
  split at hb
  · cases Ad
    · simp [Value.ownBlock] at hb
    · exact hb
  · rcases Ad with _ | a
    · simp [Value.ownBlock] at hb
    · simp only [Option.map_some, Value.ownBlock, Option.some.injEq] at hb ⊢
      rw [← hb]; unfold Addr.add; split <;> rfl
end

/-! ## rows of the call's own -/
section
variable {D : Type} {e : Rep D} {T : TypeId} {base base' : Nat} {A B : Nat → Prop} {S : Nat → Prop} {w w' : World} {cs us news : List Value} {d : D} {ds ds2 : List D} {v v' : Value}
/-- a row of the call's own in a block from 'base' on; what its elements read lies in B, and not in the row -/
def OwnS (e : Rep D) (T : TypeId) (base : Nat) (B : Nat → Prop) (w : World) (v : Value) (ds : List D) : Prop :=
  ∃ us, w.ownsRow base T e.size v ds.length us ∧ RdE e (fun k => B k ∧ v.ownBlock ≠ some k) w us ds
theorem OwnS.shape (h : OwnS e T base B w v ds) : ∃ Ad c, v = .slice Ad ds.length c ∧ ds.length ≤ c ∧ c ≤ 9223372036854775807 := by
  obtain ⟨us, ho, _⟩ := h
  exact (RdN.of_own ho).shape
theorem OwnS.shapeN {n : Nat} (h : OwnS e T base B w v ds) (hn : ds.length = n) : ∃ Ad c, v = .slice Ad n c ∧ n ≤ c ∧ c ≤ 9223372036854775807 := by
  subst hn; exact h.shape
theorem OwnS.row (h : OwnS e T base B w v ds) : ∀ k, v.ownBlock = some k → base ≤ k ∧ k < w.heap.size := by
  obtain ⟨us, ho, _⟩ := h
  exact ho.lt
theorem OwnS.newer (h : OwnS e T base B w v ds) {k : Nat} (hk : w.heap.size ≤ k) : v.ownBlock ≠ some k := fun hv => by have := (h.row k hv).2; omega
theorem OwnS.rd (h : OwnS e T base B w v ds) (hA : ∀ k, base ≤ k → A k) (hB : ∀ k, B k → A k) : RdS e A w v ds := by
  obtain ⟨us, ho, he⟩ := h
  exact ⟨⟨us, RdN.of_own ho, he.keep fun k _ hk => ⟨hB k hk.1, rfl⟩⟩, fun _ k hk => hA k (ho.lt k hk).1⟩
theorem OwnS.rdT (h : OwnS e T base B w v ds) : RdS e (fun _ => True) w v ds := h.rd (fun _ _ => trivial) (fun _ _ => trivial)
theorem OwnS.ext (h : OwnS e T base B w v ds) (hE : Ext w w') : OwnS e T base B w' v ds := by
  obtain ⟨us, ho, he⟩ := h
  exact ⟨us, own_ext ho hE, he.keep fun k hk ha => ⟨ha, hE.block k hk⟩⟩
theorem OwnS.y (h : OwnS e T base B w v ds) : RdY e (fun k => B k ∧ v.ownBlock ≠ some k) w v ds := by
  obtain ⟨us, ho, he⟩ := h
  exact ⟨us, RdN.of_own ho, he⟩
theorem OwnS.addr {Ad : Option Addr} {n c : Nat} (h : OwnS e T base B w (.slice Ad n c) ds) (hn : 0 < n) : ∃ g, Ad = some ⟨g, 0, none⟩ ∧ base ≤ g ∧ ∀ o, w.frozen? ⟨g, o, none⟩ = false := by
  obtain ⟨us, ho, _⟩ := h
  have hl := own_len ho
  obtain ⟨g, h1, h2, h3⟩ := own_addr ho (by omega)
  subst h1 h3
  exact ⟨g, rfl, h2, fun o => ho.frozenAt o⟩
/-- a store into a cell of an element -/
theorem OwnS.store {g n c i j : Nat} {x : Value} {d' : D} (h : OwnS e T base B w (.slice (some ⟨g, 0, none⟩) n c) ds) (hj : j < ds.length) (hi : i < e.size)
    (hr : ∀ cs d, ds[j]? = some d → e.rel (fun k => B k ∧ g ≠ k) w cs d → e.rel (fun k => B k ∧ g ≠ k) w (cs.set i x) d') :
    OwnS e T base B (w.setCell ⟨g, j * e.size + i, none⟩ x) (.slice (some ⟨g, 0, none⟩) n c) (ds.set j d') := by
  obtain ⟨us, ho, he⟩ := h
  obtain rfl := own_len ho
  have hg : ∀ k, (Value.slice (some ⟨g, 0, none⟩) ds.length c).ownBlock ≠ some k ↔ g ≠ k := fun k => by simp [Value.ownBlock]
  refine ⟨us.set (j * e.size + i) x, by rw [List.length_set]; exact (ho.stored _ x).1, ?_⟩
  have key : RdE e (fun k => B k ∧ g ≠ k) w (us.set (j * e.size + i) x) (ds.set j d') := by
    refine ⟨by rw [List.length_set, List.length_set]; exact he.1, fun m d hd => ?_⟩
    by_cases hm : j = m
    · subst hm
      rw [List.getElem?_set_self hj] at hd
      cases hd
      have e1 : ((us.set (j * e.size + i) x).drop (j * e.size)).take e.size = (((us.drop (j * e.size)).take e.size).set i x) := by
        rw [List.drop_set, if_neg (by omega), Nat.add_sub_cancel_left, List.take_set]
      rw [e1]
      exact hr _ _ (List.getElem?_eq_getElem hj) (e.keep (he.2 j _ (List.getElem?_eq_getElem hj)) fun k _ hk => ⟨⟨hk.1, (hg k).1 hk.2⟩, rfl⟩)
    · rw [List.getElem?_set_ne hm] at hd
      have e1 : ((us.set (j * e.size + i) x).drop (m * e.size)).take e.size = (us.drop (m * e.size)).take e.size := by
        rcases Nat.lt_or_gt_of_ne hm with h1 | h1
        · have : (j + 1) * e.size ≤ m * e.size := Nat.mul_le_mul_right _ h1
          rw [Nat.add_mul, Nat.one_mul] at this
          rw [List.drop_set, if_pos (by omega)]
        · have : (m + 1) * e.size ≤ j * e.size := Nat.mul_le_mul_right _ h1
          rw [Nat.add_mul, Nat.one_mul] at this
          rw [List.drop_set, if_neg (by omega), List.take_set_of_le (by omega)]
      rw [e1]
      exact e.keep (he.2 m d hd) fun k _ hk => ⟨⟨hk.1, (hg k).1 hk.2⟩, rfl⟩
  exact key.keep fun k _ hk => ⟨⟨hk.1, (hg k).2 hk.2⟩, Below.heap_setCell w ⟨g, j * e.size + i, none⟩ x k (Ne.symm hk.2)⟩
theorem OwnS.alloc (h : OwnS e T base B w v ds) (o : Obj) : OwnS e T base B (w.alloc o) v ds := h.ext ((Ext.refl w).alloc o)
theorem OwnS.mod (h : OwnS e T base B w v ds) (hM : Mod S w w') (h1 : ∀ k, v.ownBlock = some k → ¬ S k) (h2 : ∀ k, k < w.heap.size → B k → ¬ S k) : OwnS e T base B w' v ds := by
  obtain ⟨us, ho, he⟩ := h
  exact ⟨us, own_mod ho hM h1, he.keep fun k hk ha => ⟨ha, hM.block k hk (h2 k hk ha.1)⟩⟩
theorem OwnS.lower (h : OwnS e T base B w v ds) (hb : base' ≤ base) : OwnS e T base' B w v ds := by
  obtain ⟨us, ho, he⟩ := h
  exact ⟨us, own_base ho hb, he⟩
theorem OwnS.mono (h : OwnS e T base A w v ds) (hB : ∀ k, k < w.heap.size → A k → B k) : OwnS e T base B w v ds := by
  obtain ⟨us, ho, he⟩ := h
  exact ⟨us, ho, he.keep fun k hk ha => ⟨⟨hB k hk ha.1, ha.2⟩, rfl⟩⟩
theorem OwnS.nil (e : Rep D) (T : TypeId) (base : Nat) (B : Nat → Prop) (w : World) : OwnS e T base B w (.slice none 0 0) [] := ⟨[], World.ownsRow_nil _ _ _ _, RdE.nil _ _ _⟩
theorem OwnS.empty (e : Rep D) (T : TypeId) {base n : Nat} (B : Nat → Prop) (hn : w.heap.size = n) (hb : base ≤ n) : OwnS e T base B (w.alloc (.cells #[] T)) (.slice (some ⟨n, 0, none⟩) 0 0) [] :=
  ⟨[], own_empty hn base T e.size hb, RdE.nil _ _ _⟩
theorem OwnS.emptyB (e : Rep D) {n : Nat} (B : Nat → Prop) (h : Blk w n T #[]) (hb : base ≤ n) : OwnS e T base B w (.slice (some ⟨n, 0, none⟩) 0 0) [] :=
  ⟨[], ⟨by simp, .inr ⟨_, _, #[], rfl, hb, h, Nat.le_refl _, Nat.zero_le _, by simp, by simp⟩⟩, RdE.nil _ _ _⟩
theorem OwnS.litB {n m : Nat} (h : RdE e A w cs ds) (hb : Blk w n T cs.toArray) (hA : ∀ k, k < w.heap.size → A k → B k ∧ k ≠ n) (hbase : base ≤ n) (hm : ds.length = m) (hx : m ≤ 1000000) : OwnS e T base B w (.slice (some ⟨n, 0, none⟩) m m) ds := by
  subst hm
  refine ⟨cs, ⟨h.1, .inr ⟨n, ds.length, cs.toArray, rfl, hbase, hb, Nat.le_refl _, by unfold maxLen; omega, by simpa using h.1, ?_⟩⟩, h.keep fun k hk ha => ⟨⟨(hA k hk ha).1, fun h => ?_⟩, rfl⟩⟩
  · rw [List.take_of_length_le (by rw [h.1]; exact Nat.le_refl _)]
  · simp only [Value.ownBlock, Option.some.injEq] at h
    exact (hA k hk ha).2 h.symm
theorem OwnS.of_ints {k : IntKind} {l : List Int} (h : w.ownsRow base T 1 v l.length (l.map (Value.int k))) : OwnS (Rep.int k) T base B w v l := ⟨_, h, RdE.ints⟩
theorem OwnS.ints {k : IntKind} {l : List Int} (h : OwnS (Rep.int k) T base B w v l) : w.ownsRow base T 1 v l.length (l.map (Value.int k)) := by
  obtain ⟨us, ho, he⟩ := h
  rw [RdE.ints_eq he] at ho
  exact ho
/-- what more elements behind it make of it -/
theorem OwnS.app {us : List Value} (he : RdE e (fun k => B k ∧ v.ownBlock ≠ some k) w us ds) (h2 : RdE e A w news ds2) (hA : ∀ k, k < w.heap.size → A k → B k ∧ v.ownBlock ≠ some k) (ho : w'.ownsRow base T e.size v' (ds.length + ds2.length) (us ++ news))
    (hg : w.grownBy w' v.ownBlock) (hb : v'.ownBlock = v.ownBlock ∨ v'.ownBlock = some w.heap.size) : OwnS e T base B w' v' (ds ++ ds2) := by
  refine ⟨us ++ news, by rw [List.length_append]; exact ho, ?_⟩
  refine RdE.keep (he.append (h2.keep fun k hk ha => ⟨hA k hk ha, rfl⟩)) fun k hk ha => ⟨⟨ha.1, ?_⟩, hg.block k hk (Ne.symm ha.2)⟩
  rcases hb with hb | hb
  · rw [hb]; exact ha.2
  · rw [hb]; intro h; cases h; omega
theorem Blk.drew {g : Nat} {cs : Array Value} (h : Blk w g T cs) : Blk w.drew g T cs := h
theorem RdY.singleB (h : e.rel A w cs d) {n : Nat} {t : TypeId} (hn : Blk w n t cs.toArray) : RdY e A w (.slice (some ⟨n, 0, none⟩) 1 1) [d] := by
  refine ⟨cs, ?_, RdE.single h⟩
  refine ⟨by rw [e.len h]; simp, _, _, rfl, Nat.le_refl _, by simp [maxLen], .inr ⟨_, _, rfl, fun j u hu => ?_⟩⟩
  have := hn.cell (0 + j)
  rw [this, Nat.zero_add]
  simpa using hu
theorem RdN.twoB {n : Nat} (hn : w.heap.size = n) (t : TypeId) (x y : Value) : RdN (w.alloc (.cells #[x, y] t)) 1 (.slice (some ⟨n, 0, none⟩) 2 2) 2 [x, y] := by
  subst hn
  refine ⟨rfl, _, _, rfl, Nat.le_refl _, by simp [maxLen], .inr ⟨_, _, rfl, fun j u hu => ?_⟩⟩
  rw [(Blk.new w t #[x, y]).cell (0 + j), Nat.zero_add]
  simpa using hu
theorem grown_mod (hg : w.grownBy w' v.ownBlock) : Mod (fun k => v.ownBlock = some k) w w' :=
  ⟨hg.os, hg.tape, hg.output, hg.size, fun k hk hn => hg.block k hk fun h => hn h.symm⟩
theorem RdY.single (h : e.rel A w cs d) {n : Nat} (hn : w.heap.size = n) (t : TypeId) : RdY e A (w.alloc (.cells cs.toArray t)) (.slice (some ⟨n, 0, none⟩) 1 1) [d] := by
  subst hn
  refine ⟨cs, ?_, RdE.single (Rep.ext h ((Ext.refl w).alloc _))⟩
  refine ⟨by rw [e.len h]; simp, _, _, rfl, Nat.le_refl _, by simp [maxLen], .inr ⟨_, _, rfl, fun j u hu => ?_⟩⟩
  have := (Blk.new w t cs.toArray).cell (0 + j)
  rw [this, Nat.zero_add]
  simpa using hu

variable {P : Program} {z : Value} {bytes : Nat} {t : TypeId}
/-- append, whatever is appended, onto a row of the call's own -/
theorem wp_app {o : Oper} {a : Act} {K : Act → World → Prop} {Q : Exit → Act → World → Prop} (s x : Operand)
    (ho : o.op = .call { callee := .builtin .append, args := #[s, x], argTypes := #[t, t] })
    (ht : P.underlying t = some (.slice T)) (hi : (P.info? T).map (fun i => (i.zero, i.size, i.bytes)) = some (some z, e.size, bytes)) (hz : z.cells.size = e.size)
    (hown : OwnS e T base B w v ds) (hs : a.eval s = v) {y : Value} (hr : RdY e A w y ds2) (hx : a.eval x = y) (hA : ∀ k, k < w.heap.size → A k → B k ∧ v.ownBlock ≠ some k)
    {N : Nat} (hN : ds.length + ds2.length = N) (h63 : N ≤ maxLen) (hbytes : N * bytes ≤ 140737488355328) (hbase : base ≤ w.heap.size)
    (h : ∀ Ad c w', OwnS e T base B w' (.slice Ad N c) (ds ++ ds2) → Mod (fun k => v.ownBlock = some k) w w' → Below base w w' → K (a.put o.dst (.slice Ad N c)) w') : o.wp P a w K Q := by
  subst hN
  obtain ⟨us, hus, he⟩ := hown
  obtain ⟨news, hn, hne⟩ := hr
  obtain ⟨i0, hi0, hz0, hz1, hz2⟩ := info_parts hi
  refine wp_append_rd w s x t ho base T i0 z e.size bytes ht hi0 hz0 hz1 hz2 hz e.pos v ds.length us hs hus y ds2.length news hx hn hne.one h63 hbytes hbase fun v' w' h1 h2 h3 => ?_
  obtain ⟨Ad, c, rfl⟩ := own_shape h1
  exact h Ad c w' (OwnS.app he hne hA h1 h2 h3) (grown_mod h2) ((Below.refl _ _).grown h2 hbase fun k hk => (hus.lt k hk).1)
theorem wpList_app {ops : Array Oper} {rest : List Oper} {o : Oper} {a : Act} {Q : Exit → Act → World → Prop} (hgd : o.guard = none) (s x : Operand)
    (ho : o.op = .call { callee := .builtin .append, args := #[s, x], argTypes := #[t, t] })
    (ht : P.underlying t = some (.slice T)) (hi : (P.info? T).map (fun i => (i.zero, i.size, i.bytes)) = some (some z, e.size, bytes)) (hz : z.cells.size = e.size)
    (hown : OwnS e T base B w v ds) (hs : a.eval s = v) {y : Value} (hr : RdY e A w y ds2) (hx : a.eval x = y) (hA : ∀ k, k < w.heap.size → A k → B k ∧ v.ownBlock ≠ some k)
    {N : Nat} (hN : ds.length + ds2.length = N) (h63 : N ≤ maxLen) (hbytes : N * bytes ≤ 140737488355328) (hbase : base ≤ w.heap.size)
    (h : ∀ Ad c w', OwnS e T base B w' (.slice Ad N c) (ds ++ ds2) → Mod (fun k => v.ownBlock = some k) w w' → Below base w w' → wpList P ops Q rest (a.put o.dst (.slice Ad N c)) w') : wpList P ops Q (o :: rest) a w :=
  wpList_plain hgd fun _ hK => wp_app s x ho ht hi hz hown hs hr hx hA hN h63 hbytes hbase fun Ad c w' h1 h2 h3 => hK _ _ (h Ad c w' h1 h2 h3)
theorem step_app {ops : Array Oper} {o : Oper} {a : Act} {K : Act → World → Prop} {Q : Exit → Act → World → Prop} {E : Prop} (hgd : o.guard = none) (s x : Operand)
    (ho : o.op = .call { callee := .builtin .append, args := #[s, x], argTypes := #[t, t] })
    (ht : P.underlying t = some (.slice T)) (hi : (P.info? T).map (fun i => (i.zero, i.size, i.bytes)) = some (some z, e.size, bytes)) (hz : z.cells.size = e.size)
    (hown : OwnS e T base B w v ds) (hs : a.eval s = v) {y : Value} (hr : RdY e A w y ds2) (hx : a.eval x = y) (hA : ∀ k, k < w.heap.size → A k → B k ∧ v.ownBlock ≠ some k)
    {N : Nat} (hN : ds.length + ds2.length = N) (h63 : N ≤ maxLen) (hbytes : N * bytes ≤ 140737488355328) (hbase : base ≤ w.heap.size)
    (h : ∀ Ad c w', OwnS e T base B w' (.slice Ad N c) (ds ++ ds2) → Mod (fun k => v.ownBlock = some k) w w' → Below base w w' → K (a.put o.dst (.slice Ad N c)) w') :
    if Region.wanted o (yielded ops a.tmps) = true then Oper.wp P o a w K Q else E := by
  have hw : Region.wanted o (yielded ops a.tmps) = true := by simp [Region.wanted, hgd]
  rw [if_pos hw]
  exact wp_app s x ho ht hi hz hown hs hr hx hA hN h63 hbytes hbase h
/-- the same onto an empty literal -/
theorem wpList_app0 {ops : Array Oper} {rest : List Oper} {o : Oper} {a : Act} {Q : Exit → Act → World → Prop} {n : Nat} (hgd : o.guard = none) (s x : Operand)
    (ho : o.op = .call { callee := .builtin .append, args := #[s, x], argTypes := #[t, t] })
    (ht : P.underlying t = some (.slice T)) (hi : (P.info? T).map (fun i => (i.zero, i.size, i.bytes)) = some (some z, e.size, bytes)) (hz : z.cells.size = e.size)
    (hn : Blk w n T #[]) (hs : a.eval s = .slice (some ⟨n, 0, none⟩) 0 0) {y : Value} (hr : RdY e A w y ds2) (hx : a.eval x = y) (hA : ∀ k, k < w.heap.size → A k → k ≠ n)
    (h63 : ds2.length ≤ maxLen) (hbytes : ds2.length * bytes ≤ 140737488355328)
    (h : ∀ Ad c w', OwnS e T n A w' (.slice Ad ds2.length c) ds2 → Mod (fun k => k = n) w w' → Below n w w' → wpList P ops Q rest (a.put o.dst (.slice Ad ds2.length c)) w') : wpList P ops Q (o :: rest) a w := by
  refine wpList_app (B := A) hgd s x ho ht hi hz (OwnS.emptyB e A hn (Nat.le_refl n)) hs hr hx (fun k hk ha => ⟨ha, fun h => ?_⟩) (N := ds2.length) (by simp) h63 hbytes (Nat.le_of_lt hn.lt) fun Ad c w' h1 h2 h3 => ?_
  · simp only [Value.ownBlock, Option.some.injEq] at h
    exact hA k hk ha h.symm
  · simp only [List.nil_append] at h1
    exact h Ad c w' h1 (h2.mono fun k _ hk => by simpa [Value.ownBlock, eq_comm] using hk) h3
theorem step_app0 {ops : Array Oper} {o : Oper} {a : Act} {K : Act → World → Prop} {Q : Exit → Act → World → Prop} {E : Prop} {n : Nat} (hgd : o.guard = none) (s x : Operand)
    (ho : o.op = .call { callee := .builtin .append, args := #[s, x], argTypes := #[t, t] })
    (ht : P.underlying t = some (.slice T)) (hi : (P.info? T).map (fun i => (i.zero, i.size, i.bytes)) = some (some z, e.size, bytes)) (hz : z.cells.size = e.size)
    (hn : Blk w n T #[]) (hs : a.eval s = .slice (some ⟨n, 0, none⟩) 0 0) {y : Value} (hr : RdY e A w y ds2) (hx : a.eval x = y) (hA : ∀ k, k < w.heap.size → A k → k ≠ n)
    (h63 : ds2.length ≤ maxLen) (hbytes : ds2.length * bytes ≤ 140737488355328)
    (h : ∀ Ad c w', OwnS e T n A w' (.slice Ad ds2.length c) ds2 → Mod (fun k => k = n) w w' → Below n w w' → K (a.put o.dst (.slice Ad ds2.length c)) w') :
    if Region.wanted o (yielded ops a.tmps) = true then Oper.wp P o a w K Q else E := by
  refine step_app (B := A) hgd s x ho ht hi hz (OwnS.emptyB e A hn (Nat.le_refl n)) hs hr hx (fun k hk ha => ⟨ha, fun h => ?_⟩) (N := ds2.length) (by simp) h63 hbytes (Nat.le_of_lt hn.lt) fun Ad c w' h1 h2 h3 => ?_
  · simp only [Value.ownBlock, Option.some.injEq] at h
    exact hA k hk ha h.symm
  · simp only [List.nil_append] at h1
    exact h Ad c w' h1 (h2.mono fun k _ hk => by simpa [Value.ownBlock, eq_comm] using hk) h3
end
/-- a guarded operation that is wanted -/
theorem wpList_openG {P : Program} {ops : Array Oper} {Q : Exit → Act → World → Prop} {a : Act} {w : World} {rest : List Oper} {o : Oper} {j : Nat} {b : Bool} (hg : o.guard = some (j, b)) (hj : yielded ops a.tmps j = some b)
    (h : wpList P ops Q ({ o with guard := none } :: rest) a w) : wpList P ops Q (o :: rest) a w := by
  simp only [wpList, Region.wanted, hg, hj, beq_self_eq_true, if_true] at h ⊢
  exact h
/-- bytes as a text -/
theorem RI.str {P : Program} {src dst e : TypeId} {w : World} {A : Option Addr} {n c : Nat} {l : List Int} (hs : P.underlying src = some (.slice e)) (he : P.underlying e = some (.int .u8)) (hd : P.underlying dst = some .string)
    (h : RI .u8 w (.slice A n c) l) : (convert src dst (.slice A n c)).run P w = .ok (.string (strOfNums l)) w := by
  obtain ⟨_, A', c', hv, hnc, hm, hA⟩ := h
  simp only [Value.slice.injEq] at hv
  obtain ⟨rfl, rfl, rfl⟩ := hv
  rcases hA with rfl | ⟨b, off, rfl, hc⟩
  · obtain rfl : l = [] := List.eq_nil_of_length_eq_zero (by omega)
    rcases A with _ | a
    · rw [run_convert_bytes_nil w src e hs he _ _ dst hd]; rfl
    · rw [run_convert_bytes_string w src dst e _ _ _ hs he hd, run_bytesToString w a _ _ [] (by simp [loadCells, loadCellsFrom])]; rfl
  · refine run_convert_bytes_arg w src e hs he b off _ _ l rfl (fun i hi => ?_) dst hd
    rw [hc i (.int .u8 (l.getD i 0))]
    rw [List.getElem?_map, List.getElem?_eq_getElem hi, List.getD_eq_getElem?_getD, List.getElem?_eq_getElem hi]; rfl
/-- a literal slice -/
theorem RdS.litB {D : Type} {e : Rep D} {A : Nat → Prop} {w : World} {cs : List Value} {ds : List D} {n m : Nat} {t : TypeId} (h : RdE e A w cs ds) (hb : Blk w n t cs.toArray) (hm : ds.length = m) (hx : m ≤ 1000000) :
    RdS e (fun k => A k ∨ k = n) w (.slice (some ⟨n, 0, none⟩) m m) ds := by
  subst hm
  refine ⟨⟨cs, ⟨h.1, _, _, rfl, Nat.le_refl _, by unfold maxLen; omega, .inr ⟨_, _, rfl, fun j u hu => ?_⟩⟩, h.keep fun k _ hk => ⟨.inl hk, rfl⟩⟩, fun _ k hk => .inr (by simpa [Value.ownBlock, eq_comm] using hk)⟩
  rw [hb.cell (0 + j), Nat.zero_add]
  simpa using hu
end Go.Kb
namespace Go.Kb
open Go.RowKit

theorem below_setRow {B g : Nat} {a w : World} (h : Below B a w) (hp : B ≤ g) (cs : Array Value) : Below B a (w.setRow g cs) :=
  h.trans ⟨rfl, rfl, rfl, by simp, fun k hk => setRow_other w g k cs (by omega)⟩
theorem Blk.setRow {w : World} {g : Nat} {t : TypeId} {cs : Array Value} (h : Blk w g t cs) (cs' : Array Value) : Blk (w.setRow g cs') g t cs' := setRow_heap w g cs cs' t (0, 0) h
theorem wpList_store_A {P : Program} {ops : Array Oper} {rest : List Oper} {o : Oper} {a : Act} {w : World} {Q : Exit → Act → World → Prop} (hgd : o.guard = none) (ty : TypeId) (x y : Operand) (ho : o.op = .store ty x y)
    (g : Nat) (cells : Array Value) (hx : a.eval x = .pointer (some ⟨g, 0, none⟩)) (hy : a.eval y = .agg cells)
    (t : TypeId) (old : Array Value) (hg : Blk w g t old) (hi : (P.info? ty).map (·.size) = some cells.size)
    (hold : old.size = cells.size) (h1 : cells.all (·.oneCell') = true)
    (h : ∀ w', Blk w' g t cells → (∀ (B : Nat) (a : World), Below B a w → B ≤ g → Below B a w') → wpList P ops Q rest (a.put o.dst undef) w') : wpList P ops Q (o :: rest) a w :=
  wpList_store_row hgd ty x y ho g cells hx hy t old hg hi hold h1 (h _ (Blk.setRow hg _) fun _ _ hb hB => below_setRow hb hB _)
theorem yieldsIf_load_row {P : Program} {ops : Array Oper} {S : World → Prop} {op : Oper} {a : Act} (hw : Region.wanted op (yielded ops a.tmps) = true) (ty : TypeId) (x : Operand) (ho : op.op = .load ty x)
    (g : Nat) (hx : a.eval x = .pointer (some ⟨g, 0, none⟩)) (t : TypeId) (cs : Array Value) (fr : Nat × Nat) (d : TypeDesc) (hg : ∀ w, S w → w.heap[g]? = some (.cells cs t fr))
    (hu : P.underlying ty = some d) (hd : (match d with | .struct _ | .array _ _ => true | _ => false) = true) (hi : (P.info? ty).map (·.size) = some cs.size) : YieldsIf P ops S op (.agg cs) a :=
  .inl ⟨hw, fun w hw' => by
    unfold execOp
    simp only [ho, hx, Instr.loadAt, Instr.sureAddr, Sem.run_bind, Sem.run_pure, Result.andThen_ok, run_loadVar_row w g t ty cs fr d (hg w hw') hu hd hi]⟩
theorem yieldsIf_build {P : Program} {ops : Array Oper} {S : World → Prop} {op : Oper} {a : Act} (hw : Region.wanted op (yielded ops a.tmps) = true) (t : TypeId) (parts : Array (Nat × Operand)) (ho : op.op = .build t parts) {L : Array Value}
    (hf : P.built t (parts.map fun (i, x) => (i, a.eval x)).toList = some L) : YieldsIf P ops S op (.agg L) a :=
  .inl ⟨hw, fun w _ => by
    unfold execOp
    simp only [ho, Sem.run_bind, run_build w t _ L hf, Result.andThen_ok]
    rfl⟩
theorem wpList_build_eq {P : Program} {ops : Array Oper} {rest : List Oper} {o : Oper} {a : Act} {w : World} {Q : Exit → Act → World → Prop} (hg : o.guard = none) (t : TypeId) (parts : Array (Nat × Operand)) (ho : o.op = .build t parts) {L : Array Value}
    (hf : P.built t (parts.map fun (i, x) => (i, a.eval x)).toList = some L) (h : wpList P ops Q rest (a.put o.dst (.agg L)) w) : wpList P ops Q (o :: rest) a w := by
  refine wpList_build hg t parts ho (by rw [hf]; rfl) ?_
  rw [hf]
  exact h
theorem wp_store_A {P : Program} {o : Oper} {a : Act} {w : World} {K : Act → World → Prop} {Q : Exit → Act → World → Prop} (ty : TypeId) (x y : Operand) (ho : o.op = .store ty x y)
    (g : Nat) (cells : Array Value) (hx : a.eval x = .pointer (some ⟨g, 0, none⟩)) (hy : a.eval y = .agg cells)
    (t : TypeId) (old : Array Value) (hg : Blk w g t old) (hi : (P.info? ty).map (·.size) = some cells.size)
    (hold : old.size = cells.size) (h1 : cells.all (·.oneCell') = true)
    (h : ∀ w', Blk w' g t cells → (∀ (B : Nat) (a : World), Below B a w → B ≤ g → Below B a w') → K (a.put o.dst undef) w') : o.wp P a w K Q :=
  wp_store_row ty x y ho g cells hx hy t old hg hi hold h1 (h _ (Blk.setRow hg _) fun _ _ hb hB => below_setRow hb hB _)
theorem wp_store_B {P : Program} {o : Oper} {a : Act} {w : World} {K : Act → World → Prop} {Q : Exit → Act → World → Prop} (ty : TypeId) (x y : Operand) (ho : o.op = .store ty x y)
    (g k : Nat) (hx : a.eval x = .pointer (some ⟨g, k, none⟩)) (u : Value) (hy : a.eval y = u) (h1 : u.oneCell' = true) (hc : u.cells = #[u])
    (t : TypeId) (old : Array Value) (hg : Blk w g t old) (hk : k < old.size) (hi : (P.info? ty).map (·.size) = some 1)
    (h : ∀ w', Blk w' g t (old.setIfInBounds k u) → (∀ (g' : Nat) (t' : TypeId) (c' : Array Value), g' ≠ g → Blk w g' t' c' → Blk w' g' t' c') → (∀ (B : Nat) (a : World), Below B a w → B ≤ g → Below B a w') → K (a.put o.dst undef) w') : o.wp P a w K Q := by
  have hrun : (storeVar ty ⟨g, k, none⟩ u).run P w = .ok () (w.setCell ⟨g, k, none⟩ u) := by
    have hst := run_storeCells_cells (P := P) g k [u] 0 w (fun j hj => by
        have : j = 0 := by simpa using hj
        subst this
        rw [hg.cell, Array.getElem?_eq_getElem (by omega)]
        rfl) (fun j _ => hg.frozen _) (fun v hv => by rw [List.mem_singleton.1 hv]; exact h1)
    cases hq : P.info? ty with
    | none => simp [hq] at hi
    | some i =>
      have hs : i.size = 1 := by simpa [hq] using hi
      simp only [storeVar, sizeOf, typeInfo, hc]
      simp [hq, hs, hst]
      rfl
  unfold Oper.wp execOp
  simp only [ho, hx, hy, Instr.storeAt, Instr.sureAddr, Sem.run_bind, Sem.run_pure, Result.andThen_ok, hrun]
  exact h _ (hg.set_ k u) (fun g' t' c' hne hb => hb.far (p := ⟨g, k, none⟩) hne u) (fun B a hB hl => Below.setCell hB hl u)
theorem wpList_store_B {P : Program} {ops : Array Oper} {rest : List Oper} {o : Oper} {a : Act} {w : World} {Q : Exit → Act → World → Prop} (hgd : o.guard = none) (ty : TypeId) (x y : Operand) (ho : o.op = .store ty x y)
    (g k : Nat) (hx : a.eval x = .pointer (some ⟨g, k, none⟩)) (u : Value) (hy : a.eval y = u) (h1 : u.oneCell' = true) (hc : u.cells = #[u])
    (t : TypeId) (old : Array Value) (hg : Blk w g t old) (hk : k < old.size) (hi : (P.info? ty).map (·.size) = some 1)
    (h : ∀ w', Blk w' g t (old.setIfInBounds k u) → (∀ (g' : Nat) (t' : TypeId) (c' : Array Value), g' ≠ g → Blk w g' t' c' → Blk w' g' t' c') → (∀ (B : Nat) (a : World), Below B a w → B ≤ g → Below B a w') → wpList P ops Q rest (a.put o.dst undef) w') : wpList P ops Q (o :: rest) a w :=
  wpList_plain hgd fun _ hK => wp_store_B ty x y ho g k hx u hy h1 hc t old hg hk hi fun w' h1 h2 h3 => hK _ _ (h w' h1 h2 h3)
theorem results_cell_tmp {P : Program} {fn : Func} {p q : Tmp} {ty : TypeId} (h : fn.results = #[.cell p ty, .tmp q]) (tmps : Array Value) (w : World) (g : Nat) (t : TypeId) (cs : Array Value) (fr : Nat × Nat) (d : TypeDesc)
    (hp : tmps.getD p undef = .pointer (some ⟨g, 0, none⟩)) (v : Value) (hq : tmps.getD q undef = v) (hg : w.heap[g]? = some (.cells cs t fr))
    (hu : P.underlying ty = some d) (hd : (match d with | .struct _ | .array _ _ => true | _ => false) = true) (hi : (P.info? ty).map (·.size) = some cs.size) :
    (results fn tmps).run P w = .ok (.tuple #[.agg cs, v]) w := by
  have hp' : tmps[p]?.getD undef = .pointer (some ⟨g, 0, none⟩) := by simpa using hp
  have hq' : tmps[q]?.getD undef = v := by simpa using hq
  simp [results, h, hp', hq', asAddr, run_loadVar_row w g t ty cs fr d hg hu hd hi]
theorem wpList_store_AF {P : Program} {ops : Array Oper} {rest : List Oper} {o : Oper} {a : Act} {w : World} {Q : Exit → Act → World → Prop} (hgd : o.guard = none) (ty : TypeId) (x y : Operand) (ho : o.op = .store ty x y)
    (g : Nat) (cells : Array Value) (hx : a.eval x = .pointer (some ⟨g, 0, none⟩)) (hy : a.eval y = .agg cells)
    (t : TypeId) (old : Array Value) (hg : Blk w g t old) (hi : (P.info? ty).map (·.size) = some cells.size)
    (hold : old.size = cells.size) (h1 : cells.all (·.oneCell') = true)
    (h : ∀ w', Blk w' g t cells → (∀ (g' : Nat) (t' : TypeId) (c' : Array Value), g' ≠ g → Blk w g' t' c' → Blk w' g' t' c') → (∀ (B : Nat) (a : World), Below B a w → B ≤ g → Below B a w') → wpList P ops Q rest (a.put o.dst undef) w') : wpList P ops Q (o :: rest) a w :=
  wpList_store_row hgd ty x y ho g cells hx hy t old hg hi hold h1 (h _ (Blk.setRow hg _) (fun g' t' c' hne hb => by unfold Blk; rw [setRow_other w g g' cells hne]; exact hb) fun _ _ hb hB => below_setRow hb hB _)
theorem OwnS.blk {D : Type} {e : Rep D} {T t : TypeId} {base : Nat} {B : Nat → Prop} {w w' : World} {v : Value} {ds : List D} {g : Nat} {cs : Array Value} (h : OwnS e T base B w v ds) (M : Mod (fun k => v.ownBlock = some k) w w') (hb : Blk w g t cs) (hne : T ≠ t) : Blk w' g t cs := by
  obtain ⟨us, ho, _⟩ := h
  exact hb.mod M (own_blk_ne ho hb hne)
end Go.Kb
namespace Go.Kb.Bits
open Go.RowKit Go.Kb
def pw (op : Int) : Int := 2 ^ op.toNat
theorem pw_bd {op : Int} (h : 0 ≤ op ∧ op ≤ 63) : 1 ≤ pw op ∧ pw op ≤ 9223372036854775808 := by
  unfold pw
  have h1 : 2 ^ op.toNat ≤ 2 ^ 63 := Nat.pow_le_pow_right (by decide) (by omega)
  have h2 : 0 < 2 ^ op.toNat := Nat.two_pow_pos _
  have h3 : (2 : Int) ^ op.toNat = ((2 ^ op.toNat : Nat) : Int) := by simp
  rw [h3]
  omega
theorem or_and_nat : ∀ (n x y : Nat), x < 2 ^ n → (x ||| y) + (x &&& y) = x + y := by
  intro n
  induction n with
  | zero => intro x y h; obtain rfl : x = 0 := by omega
            simp
  | succ n ih =>
    intro x y h
    have h1 := ih (x / 2) (y / 2) (by rw [Nat.pow_succ] at h; omega)
    have h2 := Nat.or_div_two (a := x) (b := y)
    have h3 := Nat.and_div_two (a := x) (b := y)
    have h4 := Nat.or_mod_two_eq_one (a := x) (b := y)
    have h5 := Nat.and_mod_two_eq_one (a := x) (b := y)
    omega
theorem andNot_nat : ∀ (n x y : Nat), x < 2 ^ n → y < 2 ^ n → (x &&& (2 ^ n - 1 - y)) + (x &&& y) = x := by
  intro n
  induction n with
  | zero => intro x y h h2; obtain rfl : x = 0 := by omega
            simp
  | succ n ih =>
    intro x y h hy
    rw [Nat.pow_succ] at *
    have h1 := ih (x / 2) (y / 2) (by omega) (by omega)
    have h0 : (2 ^ n * 2 - 1 - y) / 2 = 2 ^ n - 1 - y / 2 := by omega
    have h2 := Nat.and_div_two (a := x) (b := 2 ^ n * 2 - 1 - y)
    have h3 := Nat.and_div_two (a := x) (b := y)
    have h4 := Nat.and_mod_two_eq_one (a := x) (b := 2 ^ n * 2 - 1 - y)
    have h5 := Nat.and_mod_two_eq_one (a := x) (b := y)
    rw [h0] at h2
    omega
def onL (f op : Int) : Bool := decide (f / pw op % 2 = 1)
theorem pw_nat {op : Int} : pw op = ((2 ^ op.toNat : Nat) : Int) := by simp [pw]
theorem and_pw {f op : Int} (hf : 0 ≤ f ∧ f < 18446744073709551616) (ho : 0 ≤ op ∧ op ≤ 63) : bits .and .u64 f (pw op) = if onL f op then pw op else 0 := by
  have h := pw_bd ho
  rw [u64_and f (pw op) hf.1 hf.2 (by omega) (by omega)]
  obtain ⟨X, rfl⟩ := Int.eq_ofNat_of_zero_le hf.1
  unfold onL
  rw [pw_nat, Int.toNat_natCast, Int.toNat_natCast, nat_bit]
  generalize hP : 2 ^ op.toNat = P
  have e : ((X : Int) / (P : Int) % 2) = ((X / P % 2 : Nat) : Int) := by simp
  rw [e]
  have h2 : X / P % 2 = 0 ∨ X / P % 2 = 1 := by omega
  rcases h2 with h2 | h2 <;> simp [h2]
theorem or_pw {f op : Int} (hf : 0 ≤ f ∧ f < 18446744073709551616) (ho : 0 ≤ op ∧ op ≤ 63) : bits .or .u64 f (pw op) = if onL f op then f else f + pw op := by
  have h := pw_bd ho
  have ha := and_pw hf ho
  rw [u64_and f (pw op) hf.1 hf.2 (by omega) (by omega)] at ha
  rw [u64_or f (pw op) hf.1 hf.2 (by omega) (by omega)]
  have h1 := or_and_nat 64 f.toNat (pw op).toNat (by omega)
  by_cases hx : onL f op = true
  · rw [if_pos hx] at ha ⊢; omega
  · rw [if_neg hx] at ha ⊢; omega
theorem andNot_pw {f op : Int} (hf : 0 ≤ f ∧ f < 18446744073709551616) (ho : 0 ≤ op ∧ op ≤ 63) : bits .andNot .u64 f (pw op) = if onL f op then f - pw op else f := by
  have h := pw_bd ho
  have ha := and_pw hf ho
  rw [u64_and f (pw op) hf.1 hf.2 (by omega) (by omega)] at ha
  rw [u64_andNot f (pw op) hf.1 hf.2 (by omega) (by omega)]
  have h1 := andNot_nat 64 f.toNat (pw op).toNat (by omega) (by omega)
  have h2 : (2 : Nat) ^ 64 - 1 = 18446744073709551615 := by decide
  rw [h2] at h1
  by_cases hx : onL f op = true
  · rw [if_pos hx] at ha ⊢; omega
  · rw [if_neg hx] at ha ⊢; omega
theorem div_pw {f op : Int} (hf : 0 ≤ f ∧ f < 18446744073709551616) (ho : 0 ≤ op ∧ op ≤ 63) : IntKind.u64.wrap (f.tdiv (pw op)) = f / pw op ∧ 0 ≤ f / pw op ∧ (f / pw op).tmod 2 = f / pw op % 2 ∧ IntKind.u64.wrap (f / pw op % 2) = f / pw op % 2 := by
  have h := pw_bd ho
  have h1 : 0 ≤ f / pw op := Int.ediv_nonneg hf.1 (by omega)
  have h2 : f / pw op ≤ f := Int.ediv_le_self _ hf.1
  have h3 : f.tdiv (pw op) = f / pw op := Int.tdiv_eq_ediv_of_nonneg hf.1
  refine ⟨?_, h1, Int.tmod_eq_emod_of_nonneg h1, ?_⟩
  · rw [h3, IntKind.wrap_u64]; omega
  · rw [IntKind.wrap_u64]; omega
def fset (f op : Int) (on : Bool) : Int := if on then (if onL f op then f else f + pw op) else if onL f op then f - pw op else f
theorem fset_bd {f op : Int} (on : Bool) (hf : 0 ≤ f ∧ f < 18446744073709551616) (ho : 0 ≤ op ∧ op ≤ 63) : 0 ≤ fset f op on ∧ fset f op on < 18446744073709551616 := by
  have h := pw_bd ho
  have h1 := or_pw hf ho
  have h2 := andNot_pw hf ho
  have w1 : 0 ≤ bits .or .u64 f (pw op) ∧ bits .or .u64 f (pw op) < 18446744073709551616 := by
    have : bits .or .u64 f (pw op) = IntKind.u64.wrap (bits .or .u64 f (pw op)) := by
      rw [u64_or f (pw op) hf.1 hf.2 (by omega) (by omega), IntKind.wrap_u64]
      have := Nat.or_lt_two_pow (x := f.toNat) (y := (pw op).toNat) (n := 64) (by omega) (by omega)
      omega
    rw [this, IntKind.wrap_u64]
    omega
  have w2 : 0 ≤ bits .andNot .u64 f (pw op) ∧ bits .andNot .u64 f (pw op) < 18446744073709551616 := by
    rw [u64_andNot f (pw op) hf.1 hf.2 (by omega) (by omega)]
    have := Nat.and_le_left (n := f.toNat) (m := 18446744073709551615 - (pw op).toNat)
    omega
  unfold fset
  cases on
  · rw [← h2] at *
    simpa using w2
  · rw [← h1] at *
    simpa using w1
theorem onL_bit (X : Nat) (op : Int) : onL (X : Int) op = X.testBit op.toNat := by
  rw [Nat.testBit_eq_decide_div_mod_eq]
  unfold onL
  rw [pw_nat]
  generalize 2 ^ op.toNat = P
  have e : ((X : Int) / (P : Int) % 2) = ((X / P % 2 : Nat) : Int) := by simp
  rw [e, Bool.eq_iff_iff]
  simp only [decide_eq_true_eq]
  omega
theorem onL_fset {f op q : Int} (on : Bool) (hf : 0 ≤ f ∧ f < 18446744073709551616) (ho : 0 ≤ op ∧ op ≤ 63) (hq : 0 ≤ q ∧ q ≤ 63) : onL (fset f op on) q = if q = op then on else onL f q := by
  have h := pw_bd ho
  have h1 := or_pw hf ho
  have h2 := andNot_pw hf ho
  rw [u64_or f (pw op) hf.1 hf.2 (by omega) (by omega)] at h1
  rw [u64_andNot f (pw op) hf.1 hf.2 (by omega) (by omega)] at h2
  obtain ⟨X, rfl⟩ := Int.eq_ofNat_of_zero_le hf.1
  have hp : (pw op).toNat = 2 ^ op.toNat := by rw [pw_nat, Int.toNat_natCast]
  rw [hp, Int.toNat_natCast] at h1 h2
  have hi : op.toNat < 64 := by omega
  have hj : q.toNat < 64 := by omega
  have hpl : 2 ^ op.toNat < 2 ^ 64 := Nat.pow_lt_pow_right (by decide) hi
  have hqo : (op.toNat = q.toNat) ↔ (q = op) := by omega
  cases on
  · have e : fset (X : Int) op false = if onL (X : Int) op then (X : Int) - pw op else (X : Int) := rfl
    rw [e, ← h2, onL_bit, onL_bit, Nat.testBit_and]
    have e2 : (18446744073709551615 - 2 ^ op.toNat) = 2 ^ 64 - (2 ^ op.toNat + 1) := by omega
    rw [e2, Nat.testBit_two_pow_sub_succ hpl, Nat.testBit_two_pow]
    by_cases hx : q = op
    · have := hqo.2 hx
      simp [hx]
    · have : ¬ (op.toNat = q.toNat) := fun h => hx (hqo.1 h)
      simp [this, hx, hj]
  · have e : fset (X : Int) op true = if onL (X : Int) op then (X : Int) else (X : Int) + pw op := rfl
    rw [e, ← h1, onL_bit, onL_bit, Nat.testBit_or, Nat.testBit_two_pow]
    by_cases hx : q = op
    · simp [hx]
    · have : ¬ (op.toNat = q.toNat) := fun h => hx (hqo.1 h)
      simp [this, hx]
theorem fset_fset {f op : Int} (hf : 0 ≤ f ∧ f < 18446744073709551616) (ho : 0 ≤ op ∧ op ≤ 63) (a b : Bool) : fset (fset f op a) op b = fset f op b := by
  have h1 := onL_fset a hf ho ho
  rw [if_pos rfl] at h1
  have e : fset (fset f op a) op b = if b then (if onL (fset f op a) op then fset f op a else fset f op a + pw op) else if onL (fset f op a) op then fset f op a - pw op else fset f op a := rfl
  rw [e, h1]
  unfold fset
  cases a <;> cases b <;> by_cases h : onL f op = true <;> simp [h]
theorem fset_own {f op : Int} {b : Bool} (h : onL f op = b) : fset f op b = f := by
  unfold fset
  rw [h]
  cases b <;> simp
theorem fset_delta (g c : Int) (z : Bool) : fset g c z = g + (if z then (if onL g c then 0 else pw c) else if onL g c then - pw c else 0) := by
  unfold fset
  cases z <;> by_cases h : onL g c = true <;> simp [h]
  omega
theorem fset_comm {f a b : Int} (x y : Bool) (hf : 0 ≤ f ∧ f < 18446744073709551616) (ha : 0 ≤ a ∧ a ≤ 63) (hb : 0 ≤ b ∧ b ≤ 63) (hab : a ≠ b) : fset (fset f a x) b y = fset (fset f b y) a x := by
  have e1 := onL_fset x hf ha hb
  rw [if_neg (fun h => hab h.symm)] at e1
  have e2 := onL_fset y hf hb ha
  rw [if_neg hab] at e2
  rw [fset_delta (fset f a x) b y, e1, fset_delta f a x, fset_delta (fset f b y) a x, e2, fset_delta f b y]
  omega
theorem onL_ext {f g : Int} (hf : 0 ≤ f ∧ f < 18446744073709551616) (hg : 0 ≤ g ∧ g < 18446744073709551616) (h : ∀ q : Int, 0 ≤ q ∧ q ≤ 63 → onL f q = onL g q) : f = g := by
  obtain ⟨X, rfl⟩ := Int.eq_ofNat_of_zero_le hf.1
  obtain ⟨Y, rfl⟩ := Int.eq_ofNat_of_zero_le hg.1
  congr 1
  apply Nat.eq_of_testBit_eq
  intro i
  by_cases hi : i < 64
  · have := h (i : Int) (by omega)
    rw [onL_bit, onL_bit] at this
    rw [show ((i : Int)).toNat = i by omega] at this
    exact this
  · have h64 : (2 : Nat) ^ 64 ≤ 2 ^ i := Nat.pow_le_pow_right (by decide) (by omega)
    rw [Nat.testBit_lt_two_pow (by omega), Nat.testBit_lt_two_pow (by omega)]
end Go.Kb.Bits
namespace Go.Kb
open Go.RowKit

section
variable {D : Type} {e : Rep D} {T : TypeId} {A F G : Nat → Prop} {S : Nat → Prop} {w w' : World} {cs us : List Value} {d : D} {ds : List D} {v v' : Value}
theorem setCells_one (w : World) (g o : Nat) (u : Value) : w.setCells g o [u] = w.setCell ⟨g, o, none⟩ u := rfl
theorem Blk.setCells {g : Nat} {t : TypeId} : ∀ (vs : List Value) (o : Nat) (w : World) (cs : Array Value), Blk w g t cs → o + vs.length ≤ cs.size → Blk (w.setCells g o vs) g t (cs.toList.take o ++ vs ++ cs.toList.drop (o + vs.length)).toArray
  | [], o, w, cs, h, _ => by
    have e : w.setCells g o [] = w := rfl
    rw [e]
    simpa using h
  | u :: r, o, w, cs, h, hl => by
    simp only [List.length_cons] at hl
    have h1 := Blk.setCells r (o + 1) _ _ (h.set_ o u) (by simp; omega)
    have e1 : ((cs.setIfInBounds o u).toList.take (o + 1) ++ r ++ (cs.setIfInBounds o u).toList.drop (o + 1 + r.length)) = cs.toList.take o ++ u :: r ++ cs.toList.drop (o + (u :: r).length) := by
      have hlt : o < cs.toList.length := by simp; omega
      rw [Array.toList_setIfInBounds, List.set_eq_take_append_cons_drop, if_pos hlt]
      have h2 : (cs.toList.take o).length = o := by simp; omega
      have h3 : (cs.toList.take o ++ u :: cs.toList.drop (o + 1)).take (o + 1) = cs.toList.take o ++ [u] := by
        rw [List.take_append, h2, List.take_of_length_le (by omega)]
        simp
      have h4 : (cs.toList.take o ++ u :: cs.toList.drop (o + 1)).drop (o + 1 + r.length) = cs.toList.drop (o + (u :: r).length) := by
        rw [List.drop_append, h2, List.drop_eq_nil_of_le (by omega), List.nil_append, show o + 1 + r.length - o = r.length + 1 by omega, List.drop_succ_cons, List.drop_drop, List.length_cons]
        congr 1
        omega
      rw [h3, h4]
      simp
    rw [← e1]
    exact h1
theorem Mod.setCells {g : Nat} : ∀ (vs : List Value) (o : Nat) (a w : World), Mod (fun k => k = g) a w → Mod (fun k => k = g) a (w.setCells g o vs)
  | [], _, _, _, h => h
  | u :: r, o, a, _, h => Mod.setCells r (o + 1) a _ (h.set1 u)

/-- the row lies in a block of F (or there is none); what its elements read lies in F, and not in the row -/
def TailS (e : Rep D) (T : TypeId) (F : Nat → Prop) (w : World) (v : Value) (ds : List D) : Prop :=
  ∃ us, RdE e (fun k => F k ∧ v.ownBlock ≠ some k) w us ds ∧ ((v = .slice none 0 0 ∧ ds = []) ∨
    ∃ g off c cur, v = .slice (some ⟨g, off, none⟩) ds.length c ∧ F g ∧ Blk w g T cur ∧ off + c ≤ cur.size ∧ ds.length ≤ c ∧ c ≤ 9223372036854775807 ∧ (cur.toList.drop off).take ds.length = us)
theorem TailS.nil (e : Rep D) (T : TypeId) (F : Nat → Prop) (w : World) : TailS e T F w (.slice none 0 0) [] := ⟨[], RdE.nil _ _ _, .inl ⟨rfl, rfl⟩⟩
theorem TailS.keep (h : TailS e T F w v ds) (hk : ∀ k, k < w.heap.size → F k → G k ∧ w'.heap[k]? = w.heap[k]?) : TailS e T G w' v ds := by
  obtain ⟨us, he, h⟩ := h
  refine ⟨us, he.keep fun k hl ha => ⟨⟨(hk k hl ha.1).1, ha.2⟩, (hk k hl ha.1).2⟩, ?_⟩
  rcases h with h | ⟨g, off, c, cur, hv, hF, hb, h⟩
  · exact .inl h
  · exact .inr ⟨g, off, c, cur, hv, (hk g hb.lt hF).1, (hk g hb.lt hF).2.trans hb, h⟩
theorem TailS.ext (h : TailS e T F w v ds) (hE : Ext w w') : TailS e T F w' v ds := h.keep fun k hk ha => ⟨ha, hE.block k hk⟩
theorem TailS.mod (h : TailS e T F w v ds) (hM : Mod S w w') (hS : ∀ k, k < w.heap.size → F k → ¬ S k) : TailS e T F w' v ds := h.keep fun k hk ha => ⟨ha, hM.block k hk (hS k hk ha)⟩
theorem TailS.mono (h : TailS e T F w v ds) (hS : ∀ k, k < w.heap.size → F k → G k) : TailS e T G w v ds := h.keep fun k hk ha => ⟨hS k hk ha, rfl⟩
theorem TailS.rd (he : e.size = 1) (h : TailS e T F w v ds) : RdS e F w v ds := by
  obtain ⟨us, hr, h⟩ := h
  have hlen : us.length = ds.length := by have := hr.1; rw [he, Nat.mul_one] at this; exact this
  rcases h with ⟨rfl, rfl⟩ | ⟨g, off, c, cur, rfl, hF, hb, h1, h2, h3, h4⟩
  · exact RdS.nil _ _ _
  · refine ⟨⟨us, ⟨hr.1, _, c, rfl, h2, h3, .inr ⟨g, off, rfl, fun j u hu => ?_⟩⟩, hr.keep fun k _ ha => ⟨ha.1, rfl⟩⟩, fun _ k hk => ?_⟩
    · rw [hb.cell, ← Array.getElem?_toList, ← hu, ← h4, List.getElem?_take, if_pos (by rw [← hlen]; exact (List.getElem?_eq_some_iff.1 hu).1), List.getElem?_drop]
    · simp only [Value.ownBlock, Option.some.injEq] at hk
      exact hk ▸ hF
theorem TailS.shape (h : TailS e T F w v ds) : ∃ Ad c, v = .slice Ad ds.length c ∧ ds.length ≤ c ∧ c ≤ 9223372036854775807 := by
  obtain ⟨us, _, ⟨rfl, rfl⟩ | ⟨g, off, c, cur, rfl, _, _, _, h2, h3, _⟩⟩ := h
  · exact ⟨_, _, rfl, by simp, by simp⟩
  · exact ⟨_, _, rfl, h2, h3⟩
/-- a row of the call's own is one -/
theorem TailS.own {base : Nat} {us : List Value} (hr : RdE e A w us ds) (ho : w.ownsRow base T 1 v ds.length us) (hA : ∀ k, k < w.heap.size → A k → F k ∧ v.ownBlock ≠ some k) (hv : ∀ k, v.ownBlock = some k → F k) : TailS e T F w v ds := by
  refine ⟨us, hr.keep fun k hk ha => ⟨hA k hk ha, rfl⟩, ?_⟩
  rcases ho.2 with ⟨rfl, h0⟩ | ⟨g, cap, cur, rfl, hb, hh, h1, h2, h3, h4⟩
  · exact .inl ⟨rfl, List.eq_nil_of_length_eq_zero h0⟩
  · exact .inr ⟨g, 0, cap, cur, rfl, hv g rfl, hh, by omega, h1, by unfold maxLen at h2; omega, by simpa using h4⟩
/-- the front cut off -/
theorem TailS.tail (he : e.size = 1) {g off n c : Nat} (h : TailS e T F w (.slice (some ⟨g, off, none⟩) (n + 1) c) (d :: ds)) : ds.length = n ∧
    TailS e T F w (.slice (if c = 1 then some ⟨g, off, none⟩ else some ⟨g, off + 1, none⟩) n (c - 1)) ds := by
  obtain ⟨us, hr, h⟩ := h
  rcases h with ⟨h, _⟩ | ⟨g', off', c', cur, hv, hF, hb, h1, h2, h3, h4⟩
  · cases h
  · simp only [Value.slice.injEq, Option.some.injEq, Addr.mk.injEq, and_true, List.length_cons] at hv
    obtain ⟨⟨rfl, rfl⟩, hn, rfl⟩ := hv
    obtain rfl : n = ds.length := by omega
    simp only [List.length_cons] at h2 h4
    refine ⟨rfl, us.drop 1, ?_, ?_⟩
    · have := hr.drop 1
      rw [he] at this
      refine this.keep fun k _ ha => ⟨⟨ha.1, ?_⟩, rfl⟩
      have h5 := ha.2
      split <;> simpa [Value.ownBlock] using h5
    · right
      by_cases hc : c = 1
      · rw [if_pos hc]
        obtain rfl : ds = [] := List.eq_nil_of_length_eq_zero (by omega)
        refine ⟨g, off, c - 1, cur, rfl, hF, hb, by omega, by simp, by omega, ?_⟩
        rw [← h4]
        simp
      · rw [if_neg hc]
        refine ⟨g, off + 1, c - 1, cur, rfl, hF, hb, by omega, by omega, by omega, ?_⟩
        rw [← h4, List.drop_take, List.drop_drop]
        simp
variable {P : Program} {z : Value} {bytes : Nat} {t : TypeId}
/-- append of one element that lies in a literal of one -/
theorem run_tail (ty : TypeId) (he : e.size = 1) (ht : P.underlying t = some (.slice T)) (hi : (P.info? T).map (fun i => (i.zero, i.size, i.bytes)) = some (some z, e.size, bytes)) (hz : z.cells.size = e.size)
    (h : TailS e T F w v ds) {u : Value} {n : Nat} {t' : TypeId} (hu : Blk w n t' #[u]) (hr : e.rel A w [u] d) (hA : ∀ k, k < w.heap.size → A k → F k ∧ v.ownBlock ≠ some k) (hm : ds.length ≤ 1000000) (hb : bytes ≤ 1000) :
    ∃ Ad c w', (Builtin.append_ #[t, t] ty #[v, .slice (some ⟨n, 0, none⟩) 1 1]).run P w = .ok (.slice Ad (ds.length + 1) c) w' ∧ TailS e T (fun k => F k ∨ w.heap.size ≤ k) w' (.slice Ad (ds.length + 1) c) (ds ++ [d]) ∧ Mod (fun k => v.ownBlock = some k) w w' := by
  obtain ⟨i, hi0, hz0, hz1, hz2⟩ := info_parts hi
  rw [he] at hz1 hz
  have h1u : ∀ x ∈ [u], x.oneCell' = true := e.one hr
  have hnews : ∀ j x, [u][j]? = some x → w.cell? ((⟨n, 0, none⟩ : Addr).add j) = some x := by
    intro j x hx
    rcases j with _ | j
    · simp only [List.getElem?_cons_zero, Option.some.injEq] at hx
      subst hx
      rw [Addr.add_lit]
      simpa using hu.cell 0
    · simp at hx
  have hbytes : (ds.length + 1) * bytes ≤ 140737488355328 := by
    have := Nat.mul_le_mul (show ds.length + 1 ≤ 1000001 by omega) hb
    omega
  -- behind a row that is new
  have new : ∀ (w' : World) (v' : Value) (us : List Value), RdE e (fun k => F k ∧ v.ownBlock ≠ some k) w us ds → w'.ownsRow w.heap.size T 1 v' (ds.length + 1) (us ++ [u]) → w.grownBy w' none →
      ∃ Ad c, v' = .slice Ad (ds.length + 1) c ∧ TailS e T (fun k => F k ∨ w.heap.size ≤ k) w' v' (ds ++ [d]) ∧ Mod (fun k => v.ownBlock = some k) w w' := by
    intro w' v' us he1 ho hg
    obtain ⟨Ad, c, rfl⟩ := own_shape ho
    refine ⟨Ad, c, rfl, ?_, (Mod.refl _ _).grown hg fun k hk => by cases hk⟩
    have hap2 : RdE e (fun k => F k ∧ k < w.heap.size) w' (us ++ [u]) (ds ++ [d]) := (he1.keep fun k hk ha => ⟨⟨ha.1, hk⟩, hg.block k hk (by simp)⟩).append (RdE.single (e.keep hr fun k hk ha => ⟨⟨(hA k hk ha).1, hk⟩, hg.block k hk (by simp)⟩))
    refine TailS.own hap2 (base := w.heap.size) (by simpa using ho) (fun k _ ha => ⟨.inl ha.1, fun hv => ?_⟩) fun k hv => .inr (ho.lt k hv).1
    have := (ho.lt k hv).1
    omega
  obtain ⟨us, he1, h⟩ := h
  have hlen : us.length = ds.length := by have := he1.1; rw [he, Nat.mul_one] at this; exact this
  rcases h with ⟨rfl, rfl⟩ | ⟨g, off, c, cur, rfl, hF, hbk, h1, h2, h3, h4⟩
  · obtain rfl : us = [] := List.eq_nil_of_length_eq_zero hlen
    obtain ⟨v', w', hrun, ho, hg, _⟩ := run_append_rd (P := P) w w.heap.size t ty T i z 1 bytes ht hi0 hz0 hz1 hz2 hz (by omega) _ 0 [] (World.ownsRow_nil _ _ _ _) (.slice (some ⟨n, 0, none⟩) 1 1) 1 [u] ⟨rfl, _, 1, rfl, Nat.le_refl _, by unfold maxLen; omega, .inr ⟨n, 0, rfl, fun j x hx => by have := hnews j x hx; rwa [Addr.add_lit] at this⟩⟩ h1u (by unfold maxLen; omega) (by simpa using hbytes) (Nat.le_refl _)
    obtain ⟨Ad, c, rfl, hT, hM⟩ := new w' v' [] he1 (by simpa using ho) (by simpa [Value.ownBlock] using hg)
    exact ⟨Ad, c, w', hrun, hT, hM⟩
  · have hold : ∀ j x, us[j]? = some x → w.cell? ((⟨g, off, none⟩ : Addr).add j) = some x := by
      intro j x hx
      have hj := (List.getElem?_eq_some_iff.1 hx).1
      rw [Addr.add_lit, hbk.cell, ← Array.getElem?_toList, ← hx, ← h4, List.getElem?_take, if_pos (by omega), List.getElem?_drop]
    by_cases hroom : ds.length + 1 ≤ c
    · have hlt : off + ds.length < cur.size := by omega
      have hrun := run_append_room_cells (P := P) w t ty T i ht hi0 g off ds.length c ⟨n, 0, none⟩ 1 1 [u] (by rw [hz1]; rfl) hnews h1u hroom
        (fun j hj => by simp only [List.length_singleton, Nat.lt_one_iff] at hj; subst hj; rw [hz1, hbk.cell]; simp; omega) (fun j _ => hbk.frozen _)
      rw [hz1, Nat.mul_one, setCells_one] at hrun
      refine ⟨_, c, _, hrun, ?_, (Mod.refl (fun k => (Value.slice (some ⟨g, off, none⟩) ds.length c).ownBlock = some k) w).set_ (p := ⟨g, off + ds.length, none⟩) (.inr rfl) u⟩
      have hB := hbk.set_ (off + ds.length) u
      have hsame : ∀ k, k ≠ g → (w.setCell ⟨g, off + ds.length, none⟩ u).heap[k]? = w.heap[k]? := fun k hk => Below.heap_setCell w ⟨g, off + ds.length, none⟩ u k hk
      have ne : ∀ k, (Value.slice (some ⟨g, off, none⟩) ds.length c).ownBlock ≠ some k → k ≠ g := fun k hk hkg => hk (by rw [hkg]; rfl)
      refine ⟨us ++ [u], ?_, .inr ⟨g, off, c, _, by simp, .inl hF, hB, by simpa using h1, by simpa using hroom, h3, ?_⟩⟩
      · refine RdE.append (he1.keep fun k hk ha => ⟨⟨.inl ha.1, ?_⟩, hsame k (ne k ha.2)⟩) (RdE.single (e.keep hr fun k hk ha => ⟨⟨.inl (hA k hk ha).1, ?_⟩, hsame k (ne k (hA k hk ha).2)⟩))
        · exact ha.2
        · exact (hA k hk ha).2
      · rw [Array.toList_setIfInBounds, List.length_append, List.length_singleton, List.drop_set, if_neg (by omega), show off + ds.length - off = ds.length by omega, List.take_set, List.set_eq_take_append_cons_drop, if_pos (by simp; omega), List.take_take, Nat.min_eq_left (by omega), h4]
        congr 1
        rw [List.drop_eq_nil_of_le (by simp; omega)]
    · obtain ⟨v', w', hrun, ho, hg⟩ := run_append_arg_grows (P := P) w t ty T i z 1 bytes ht hi0 hz0 hz1 hz2 hz (by omega) ⟨g, off, none⟩ ds.length c us (by rw [Nat.mul_one]; exact hlen) hold ⟨n, 0, none⟩ 1 1 [u] rfl hnews (by omega) (by unfold maxLen; omega) hbytes
      obtain ⟨Ad, c', rfl, hT, hM⟩ := new w' v' us he1 ho hg
      exact ⟨Ad, c', w', hrun, hT, hM⟩
theorem wp_tail {o : Oper} {a : Act} {K : Act → World → Prop} {Q : Exit → Act → World → Prop} (s x : Operand) (he : e.size = 1)
    (ho : o.op = .call { callee := .builtin .append, args := #[s, x], argTypes := #[t, t] })
    (ht : P.underlying t = some (.slice T)) (hi : (P.info? T).map (fun i => (i.zero, i.size, i.bytes)) = some (some z, e.size, bytes)) (hz : z.cells.size = e.size)
    (h : TailS e T F w v ds) (hs : a.eval s = v) {u : Value} {n : Nat} {t' : TypeId} (hx : a.eval x = .slice (some ⟨n, 0, none⟩) 1 1) (hu : Blk w n t' #[u]) (hr : e.rel A w [u] d) (hA : ∀ k, k < w.heap.size → A k → F k ∧ v.ownBlock ≠ some k) (hm : ds.length ≤ 1000000) (hb : bytes ≤ 1000)
    (hK : ∀ Ad c w', TailS e T (fun k => F k ∨ w.heap.size ≤ k) w' (.slice Ad (ds.length + 1) c) (ds ++ [d]) → Mod (fun k => v.ownBlock = some k) w w' → K (a.put o.dst (.slice Ad (ds.length + 1) c)) w') : o.wp P a w K Q := by
  obtain ⟨Ad, c, w', hrun, h1, h2⟩ := run_tail (P := P) o.type he ht hi hz h hu hr hA hm hb
  unfold Oper.wp execOp
  simp only [ho, resolve, invoke, builtin, Sem.run_bind, Sem.run_pure, Result.andThen_ok, List.map_toArray, List.map_cons, List.map_nil, hs, hx, hrun]
  exact hK Ad c w' h1 h2
theorem wpList_tail {ops : Array Oper} {rest : List Oper} {o : Oper} {a : Act} {Q : Exit → Act → World → Prop} (hgd : o.guard = none) (s x : Operand) (he : e.size = 1)
    (ho : o.op = .call { callee := .builtin .append, args := #[s, x], argTypes := #[t, t] })
    (ht : P.underlying t = some (.slice T)) (hi : (P.info? T).map (fun i => (i.zero, i.size, i.bytes)) = some (some z, e.size, bytes)) (hz : z.cells.size = e.size)
    (h : TailS e T F w v ds) (hs : a.eval s = v) {u : Value} {n : Nat} {t' : TypeId} (hx : a.eval x = .slice (some ⟨n, 0, none⟩) 1 1) (hu : Blk w n t' #[u]) (hr : e.rel A w [u] d) (hA : ∀ k, k < w.heap.size → A k → F k ∧ v.ownBlock ≠ some k) (hm : ds.length ≤ 1000000) (hb : bytes ≤ 1000)
    (hK : ∀ Ad c w', TailS e T (fun k => F k ∨ w.heap.size ≤ k) w' (.slice Ad (ds.length + 1) c) (ds ++ [d]) → Mod (fun k => v.ownBlock = some k) w w' → wpList P ops Q rest (a.put o.dst (.slice Ad (ds.length + 1) c)) w') : wpList P ops Q (o :: rest) a w :=
  wpList_plain hgd fun _ hK' => wp_tail s x he ho ht hi hz h hs hx hu hr hA hm hb fun Ad c w' h1 h2 => hK' _ _ (hK Ad c w' h1 h2)
theorem step_tail {ops : Array Oper} {o : Oper} {a : Act} {K : Act → World → Prop} {Q : Exit → Act → World → Prop} {E : Prop} (hgd : o.guard = none) (s x : Operand) (he : e.size = 1)
    (ho : o.op = .call { callee := .builtin .append, args := #[s, x], argTypes := #[t, t] })
    (ht : P.underlying t = some (.slice T)) (hi : (P.info? T).map (fun i => (i.zero, i.size, i.bytes)) = some (some z, e.size, bytes)) (hz : z.cells.size = e.size)
    (h : TailS e T F w v ds) (hs : a.eval s = v) {u : Value} {n : Nat} {t' : TypeId} (hx : a.eval x = .slice (some ⟨n, 0, none⟩) 1 1) (hu : Blk w n t' #[u]) (hr : e.rel A w [u] d) (hA : ∀ k, k < w.heap.size → A k → F k ∧ v.ownBlock ≠ some k) (hm : ds.length ≤ 1000000) (hb : bytes ≤ 1000)
    (hK : ∀ Ad c w', TailS e T (fun k => F k ∨ w.heap.size ≤ k) w' (.slice Ad (ds.length + 1) c) (ds ++ [d]) → Mod (fun k => v.ownBlock = some k) w w' → K (a.put o.dst (.slice Ad (ds.length + 1) c)) w') :
    if Region.wanted o (yielded ops a.tmps) = true then Oper.wp P o a w K Q else E := by
  have hw : Region.wanted o (yielded ops a.tmps) = true := by simp [Region.wanted, hgd]
  rw [if_pos hw]
  exact wp_tail s x he ho ht hi hz h hs hx hu hr hA hm hb hK
end
end Go.Kb
namespace Go.Kb
open Go.RowKit Go.ChangeShapes Go.WideShapes Go.ChangeAt Go.Deep

section
variable {H : Type} {enc : TypeId × Value → H} {P : Program} {W W' : World}
def okTypes (P : Program) (ts : List TypeId) : Bool := ts.all fun t => P.readableRec t && decide (t < P.types.size)
theorem trodAll_stays (hl : laidOutB P = true) : ∀ {ts : List TypeId} {vs : List Value} {ds : List (DataW H)} {ps : List MemPlace}, okTypes P ts = true →
    DataW.TrodAll enc P W 0 (fun _ => true) true ts vs ds ps → Ext W W' → (∀ x ∈ ps, x.block < W.heap.size) → DataW.TrodAll enc P W' 0 (fun b => decide (b < W.heap.size)) true ts vs ds ps
  | [], vs, ds, ps, _, h, _, _ => by
    obtain ⟨rfl, rfl, rfl⟩ := trodAll_nil h
    rfl
  | t :: ts, vs, ds, ps, hr, h, hb, hlt => by
    obtain ⟨v, vs', d, ds', p, q, rfl, rfl, rfl, h1, h2⟩ := trodAll_cons h
    simp only [okTypes, List.all_cons, Bool.and_eq_true, decide_eq_true_eq] at hr
    exact ⟨p, q, Below.trod hl hr.1.1 hr.1.2 h1 hb fun x hx => hlt x (List.mem_append_left _ hx), trodAll_stays hl hr.2 h2 hb fun x hx => hlt x (List.mem_append_right _ hx), rfl⟩

/-- a number's bounds out of 'wf' -/
theorem u8_bd {n : Int} (h : (Lit.int .u8 n).wf = true) : 0 ≤ n ∧ n ≤ 255 := by
  simpa [Lit.wf, IntKind.min, IntKind.max, IntKind.signed, IntKind.bits] using h

/-- cells of a slice's row, said by RdN -/
theorem open_bytes {t e : TypeId} {fuel : Nat} {cs : List Value} {x : DataW H × List MemPlace} (ht : P.underlying t = some (.slice e)) (he : P.underlying e = some (.int .u8)) (hc : P.cellsOf e = 1)
    (h : DataW.trod enc P W 0 (fun _ => true) true fuel t cs = some x) : ∃ v xs, cs = [v] ∧ RI .u8 W v xs ∧ Bs xs := by
  rcases open_ints ht he hc h with ⟨rfl, _⟩ | ⟨a, len, cap, zs, rfl, _, hl, hm, hz, _, hcell, hwz⟩
  · exact ⟨_, [], rfl, RdN.nil _ _, fun x hx => by simp at hx⟩
  · simp only [if_true] at hz
    have hlen : (zs.take len).length = len := by rw [List.length_take]; omega
    refine ⟨_, zs.take len, rfl, ⟨by simp, some a, cap, by rw [hlen], by omega, hm, ?_⟩, fun x hx => u8_bd (hwz x (List.mem_of_mem_take hx))⟩
    rcases Nat.eq_zero_or_pos cap with h0 | h0
    · exact .inl h0
    · right
      have hsp : a.spot = none := by
        have := hcell 0 (by omega)
        rcases hs : a.spot with _ | s
        · rfl
        · simp [Addr.add, World.cell?, hs] at this
          split at this <;> simp at this
      obtain ⟨b, off, sp⟩ := a
      simp only at hsp
      subst hsp
      refine ⟨b, off, rfl, fun j u hu => ?_⟩
      rw [List.getElem?_map, Option.map_eq_some_iff] at hu
      obtain ⟨n, hn, rfl⟩ := hu
      rw [List.getElem?_take] at hn
      split at hn
      · have hj := (List.getElem?_eq_some_iff.1 hn).1
        have := hcell j hj
        rw [Addr.add_lit] at this
        rw [this, List.getD_eq_getElem?_getD, hn]
        rfl
      · cases hn
theorem open_bytes1 {t e : TypeId} {v : Value} {d : DataW H} {p : List MemPlace} (ht : P.underlying t = some (.slice e)) (he : P.underlying e = some (.int .u8)) (hc : P.cellsOf e = 1) {r : Reach} {b0 : Nat}
    (hok : Value.okWide P W r b0 t v) (h : DataW.Trod enc P W 0 (fun _ => true) true t v d p) : ∃ xs, RI .u8 W v xs ∧ Bs xs := by
  obtain ⟨a, len, cap, rfl⟩ := okWide_slice ht hok
  obtain ⟨fuel, hf⟩ := h
  obtain ⟨v, xs, hv, h1, h2⟩ := open_bytes ht he hc hf
  simp [Value.cells] at hv
  subst hv
  exact ⟨xs, h1, h2⟩
open Go.Joins in
/-- a struct of bytes and a bool -/
theorem open_bytes_bool {t e : TypeId} {f0 f1 : Field} {v : Value} {d : DataW H} {p : List MemPlace} {r : Reach} {b0 : Nat} (hs : P.underlying t = some (.struct #[f0, f1])) (hone : oneCellFields P #[f0, f1] = true) (hC : P.cellsOf t = 2)
    (ht : P.underlying f0.type = some (.slice e)) (he : P.underlying e = some (.int .u8)) (hc : P.cellsOf e = 1) (hb : P.underlying f1.type = some .bool)
    (hok : Value.okWide P W r b0 t v) (h : DataW.Trod enc P W 0 (fun _ => true) true t v d p) : ∃ va xs b, v = .agg #[va, .bool b] ∧ RI .u8 W va xs ∧ Bs xs := by
  obtain ⟨c0, c1, y0, y1, m, rfl, _, _, hy0, hy1⟩ := open_agg2 hs hone hC hok h
  obtain ⟨va, xs, hv, h1, h2⟩ := open_bytes ht he hc hy0
  obtain ⟨b, hv2, _⟩ := DataW.trod_bool hb hy1
  simp only [List.cons.injEq, and_true] at hv hv2
  subst hv hv2
  exact ⟨c0, xs, b, rfl, h1, h2⟩
end
end Go.Kb
namespace Go.Kb
open Go.RowKit Go.ChangeShapes Go.WideShapes Go.ChangeAt Go.Deep

section
variable {H : Type} {enc : TypeId × Value → H} {P : Program} {W : World} {D E : Type}
/-- what data of a type opens as -/
def Opens (enc : TypeId × Value → H) (P : Program) (W : World) (t : TypeId) (e : Rep D) (R : D → Prop) : Prop :=
  ∀ (fuel : Nat) (cs : List Value) (x : DataW H × List MemPlace), DataW.trod enc P W 0 (fun _ => true) true fuel t cs = some x → (x.1.weights P t).all (· ≤ reachBytes) = true → ∃ d, e.rel (fun _ => True) W cs d ∧ R d
theorem opens_int {t : TypeId} {k : IntKind} (hu : P.underlying t = some (.int k)) : Opens enc P W t (Rep.int k) (fun n => (Lit.int k n).wf = true) := by
  intro fuel cs x h _
  obtain ⟨n, rfl, _, hw⟩ := DataW.trod_int hu h
  exact ⟨n, rfl, hw⟩
theorem opens_bool {t : TypeId} (hu : P.underlying t = some .bool) : Opens enc P W t Rep.bool (fun _ => True) := by
  intro fuel cs x h _
  obtain ⟨b, rfl, _⟩ := DataW.trod_bool hu h
  exact ⟨b, rfl, trivial⟩
theorem weights_of_all {t : TypeId} : ∀ {l : List (DataW H)} {d : DataW H}, d ∈ l → (DataW.weightsAll P t l).all (· ≤ reachBytes) = true → (d.weights P t).all (· ≤ reachBytes) = true
  | y :: r, d, h, hw => by
    simp only [DataW.weightsAll, List.all_append, Bool.and_eq_true] at hw
    rcases List.mem_cons.1 h with rfl | h
    · exact hw.1
    · exact weights_of_all h hw.2
theorem opens_pair {t : TypeId} {f0 f1 : Field} {x : Rep D} {y : Rep E} {R : D → Prop} {Q : E → Prop} (hs : P.underlying t = some (.struct #[f0, f1])) (h0 : f0.offset = 0) (h1 : f1.offset = x.size) (c0 : P.cellsOf f0.type = x.size) (c1 : P.cellsOf f1.type = y.size)
    (hc : P.cellsOf t = x.size + y.size) (ho : Opens enc P W f0.type x R) (hp : Opens enc P W f1.type y Q) : Opens enc P W t (Rep.pair x y) (fun d => R d.1 ∧ Q d.2) := by
  intro fuel cs z h hw
  obtain ⟨xs, n, rfl, rfl, hl, hxl, hf⟩ := DataW.trod_struct hs h
  have e0 := hf 0 f0 rfl
  have e1 := hf 1 f1 rfl
  match xs, hxl with
  | [a, b], _ =>
    simp only [DataW.weights, hs, List.map_cons, List.map_nil, DataW.weightsEach, List.append_nil, List.all_append, Bool.and_eq_true] at hw
    rw [h0, c0, List.drop_zero] at e0
    rw [h1, c1] at e1
    obtain ⟨d0, r0, q0⟩ := ho _ _ _ e0 hw.1
    obtain ⟨d1, r1, q1⟩ := hp _ _ _ e1 hw.2
    refine ⟨(d0, d1), ⟨cs.take x.size, cs.drop x.size, (List.take_append_drop _ _).symm, r0, ?_⟩, q0, q1⟩
    have : (cs.drop x.size).take y.size = cs.drop x.size := List.take_of_length_le (by rw [List.length_drop]; omega)
    rw [this] at r1
    exact r1
theorem opens_slice {t te : TypeId} {e : Rep D} {R : D → Prop} (ht : P.underlying t = some (.slice te)) (hc : P.cellsOf te = e.size) (ho : Opens enc P W te e R) :
    Opens enc P W t (Rep.sl e) (fun l => (∀ x ∈ l, R x) ∧ l.length * P.bytesOf te ≤ 140737488351232) := by
  intro fuel cs x h hw
  rcases open_slice ht h with ⟨rfl, _⟩ | ⟨a, len, cap, m, n, Dd, Pl, rfl, _, hl, hm, hmm, rfl, hi⟩
  · exact ⟨[], ⟨_, rfl, RdS.nil _ _ _⟩, by simp, by simp⟩
  · simp only [if_true] at hmm
    subst hmm
    simp only [DataW.weights, ht, List.all_cons, List.all_append, Bool.and_eq_true, List.length_map, List.length_range, reachBytes] at hw
    have hz : a.spot = none ∨ m = 0 := by
      rcases Nat.eq_zero_or_pos m with h0 | h0
      · exact .inr h0
      · obtain ⟨cs', hcs, _⟩ := hi 0 h0
        obtain ⟨_, _, hat⟩ := World.cells?_some hcs
        have hp := e.pos
        have h1 := hat 0 (by omega)
        left
        rcases hs : a.spot with _ | s
        · rfl
        · exfalso
          have hlen : cs'.length = P.cellsOf te := by assumption
          rw [Nat.zero_mul] at h1
          have : cs'[0]? = some (cs'[0]'(by omega)) := List.getElem?_eq_getElem (by omega)
          rw [this] at h1
          simp [Addr.add, World.cell?, hs] at h1
          split at h1 <;> simp at h1
    have key : ∀ k, k ≤ len → ∃ us ds, ds.length = k ∧ RdE e (fun _ => True) W us ds ∧ (∀ x ∈ ds, R x) ∧ ∀ j u, us[j]? = some u → W.cell? (a.add j) = some u := by
      intro k
      induction k with
      | zero => exact fun _ => ⟨[], [], rfl, RdE.nil _ _ _, by simp, by simp⟩
      | succ k ih =>
        intro hk
        obtain ⟨us, ds, hdl, he, hr, hcell⟩ := ih (by omega)
        obtain ⟨cs', hcs, htr⟩ := hi k (by omega)
        have hwk : ((Dd k).weights P te).all (· ≤ reachBytes) = true := weights_of_all (l := (List.range len).map Dd) (List.mem_map.2 ⟨k, List.mem_range.2 (by omega), rfl⟩) hw.2.1
        obtain ⟨d, hrel, hR⟩ := ho _ _ _ htr hwk
        obtain ⟨_, _, hat⟩ := World.cells?_some hcs
        refine ⟨us ++ cs', ds ++ [d], by simp [hdl], he.append (RdE.single hrel), ?_, fun j u hu => ?_⟩
        · intro x hx
          rcases List.mem_append.1 hx with hx | hx
          · exact hr x hx
          · simp at hx; subst hx; exact hR
        · have hul : us.length = k * e.size := by rw [he.1, hdl]
          rcases Nat.lt_or_ge j us.length with hj | hj
          · rw [List.getElem?_append_left hj] at hu
            exact hcell j u hu
          · rw [List.getElem?_append_right hj] at hu
            have hcl : cs'.length = e.size := e.len hrel
            have hjl : j - us.length < cs'.length := (List.getElem?_eq_some_iff.1 hu).1
            have h1 := hat (j - us.length) (by omega)
            rw [hu, hc, Go.Deep.add_add] at h1
            have : k * e.size + (j - us.length) = j := by omega
            rw [this] at h1
            exact h1
    obtain ⟨us, ds, rfl, he, hr, hcell⟩ := key len (Nat.le_refl _)
    refine ⟨ds, ⟨_, rfl, ⟨us, ⟨he.1, some a, m, rfl, hl, hm, ?_⟩, he⟩, fun _ _ _ => trivial⟩, hr, ?_⟩
    · rcases hz with hz | hz
      · obtain ⟨b, off, sp⟩ := a
        simp only at hz
        subst hz
        exact .inr ⟨b, off, rfl, fun j u hu => by have := hcell j u hu; rwa [Addr.add_lit] at this⟩
      · exact .inl hz
    · have h1 := of_decide_eq_true hw.1
      have h2 : ds.length * P.bytesOf te ≤ (ds.length + (m - ds.length)) * P.bytesOf te := Nat.mul_le_mul_right _ (by omega)
      omega
/-- a slice that is an argument -/
theorem Opens.slice {t te : TypeId} {e : Rep D} {R : List D → Prop} {v : Value} {d : DataW H} {p : List MemPlace} {r : Reach} {b0 : Nat} (ho : Opens enc P W t (Rep.sl e) R) (ht : P.underlying t = some (.slice te))
    (hok : Value.okWide P W r b0 t v) (h : DataW.Trod enc P W 0 (fun _ => true) true t v d p) (hw : (d.weights P t).all (· ≤ reachBytes) = true) : ∃ l, RdS e (fun _ => True) W v l ∧ R l := by
  obtain ⟨a, len, cap, rfl⟩ := okWide_slice ht hok
  obtain ⟨fuel, hf⟩ := h
  obtain ⟨l, ⟨v', hv, hr⟩, hR⟩ := ho _ _ _ hf hw
  simp [Value.cells] at hv
  subst hv
  exact ⟨l, hr, hR⟩
/-- a struct that is an argument -/
theorem Opens.agg {t : TypeId} {fs : Array Field} {e : Rep D} {R : D → Prop} {v : Value} {d : DataW H} {p : List MemPlace} {r : Reach} {b0 : Nat} (ho : Opens enc P W t e R) (ht : P.underlying t = some (.struct fs))
    (hok : Value.okWide P W r b0 t v) (h : DataW.Trod enc P W 0 (fun _ => true) true t v d p) (hw : (d.weights P t).all (· ≤ reachBytes) = true) : ∃ cs l, v = .agg cs ∧ e.rel (fun _ => True) W cs.toList l ∧ R l := by
  obtain ⟨cs, rfl, _⟩ := okWide_struct ht hok
  obtain ⟨fuel, hf⟩ := h
  obtain ⟨l, hr, hR⟩ := ho _ _ _ hf hw
  exact ⟨cs, l, rfl, hr, hR⟩
end
end Go.Kb
namespace Go.Kb
open Go.RowKit Go.ChangeShapes Go.WideShapes Go.ChangeAt Go.Deep

section
variable {H : Type} {enc : TypeId × Value → H} {P : Program} {W : World}
theorem weightsEach_at : ∀ {ts : List TypeId} {ds : List (DataW H)} {j : Nat} {t : TypeId} {d : DataW H}, (DataW.weightsEach P ts ds).all (· ≤ reachBytes) = true → ts[j]? = some t → ds[j]? = some d → (d.weights P t).all (· ≤ reachBytes) = true
  | [], _, j, _, _, _, ht, _ => by simp at ht
  | _ :: _, [], j, _, _, _, _, hd => by simp at hd
  | a :: ts, x :: ds, 0, t, d, hw, ht, hd => by
    simp at ht hd
    subst ht hd
    simp only [DataW.weightsEach, List.all_append, Bool.and_eq_true] at hw
    exact hw.1
  | a :: ts, x :: ds, j + 1, t, d, hw, ht, hd => by
    simp only [DataW.weightsEach, List.all_append, Bool.and_eq_true] at hw
    exact weightsEach_at hw.2 (by simpa using ht) (by simpa using hd)
/-- what a field of a struct's data opens as -/
def FieldOpens (enc : TypeId × Value → H) (P : Program) (W : World) (cs : List Value) (t : TypeId) (o : Nat) : Prop :=
  ∃ (fuel : Nat) (x : DataW H × List MemPlace), DataW.trod enc P W 0 (fun _ => true) true fuel t ((cs.drop o).take (P.cellsOf t)) = some x ∧ (x.1.weights P t).all (· ≤ reachBytes) = true
theorem open_fields {t : TypeId} {fs : Array Field} {v : Value} {d : DataW H} {p : List MemPlace} {r : Reach} {b0 : Nat} (hs : P.underlying t = some (.struct fs))
    (hok : Value.okWide P W r b0 t v) (h : DataW.Trod enc P W 0 (fun _ => true) true t v d p) (hw : (d.weights P t).all (· ≤ reachBytes) = true) :
    ∃ cs : Array Value, v = .agg cs ∧ cs.size = P.cellsOf t ∧ ∀ (j : Nat) (f : Field), fs[j]? = some f → FieldOpens enc P W cs.toList f.type f.offset := by
  obtain ⟨cs, rfl, _⟩ := okWide_struct hs hok
  obtain ⟨fuel, hf⟩ := h
  obtain ⟨xs, n, _, hd, hl, hxl, hx⟩ := DataW.trod_struct hs hf
  refine ⟨cs, rfl, by simpa [Value.cells] using hl, fun j f hj => ?_⟩
  have h1 := hx j f hj
  have hlt : j < xs.length := by rw [hxl]; exact (Array.getElem?_eq_some_iff.1 hj).1
  rw [List.getElem?_eq_getElem hlt] at h1
  refine ⟨n, _, h1, ?_⟩
  have hd1 := congrArg Prod.fst hd
  simp only at hd1
  subst hd1
  simp only [DataW.weights, hs] at hw
  refine weightsEach_at hw (j := j) ?_ ?_
  · rw [List.getElem?_map]
    have : fs.toList[j]? = some f := by simpa using hj
    rw [this]; rfl
  · rw [List.getElem?_map, List.getElem?_eq_getElem hlt]; rfl
theorem FieldOpens.opens {cs : List Value} {t : TypeId} {o n : Nat} {D : Type} {e : Rep D} {R : D → Prop} (h : FieldOpens enc P W cs t o) (ho : Opens enc P W t e R) (hc : P.cellsOf t = n) : ∃ d, e.rel (fun _ => True) W ((cs.drop o).take n) d ∧ R d := by
  obtain ⟨fuel, x, h1, h2⟩ := h
  subst hc
  exact ho _ _ _ h1 h2
theorem cell_of_take {cs : List Value} {o : Nat} {v : Value} (h : (cs.drop o).take 1 = [v]) : cs[o]? = some v := by
  have := congrArg (fun l => l[0]?) h
  simpa [List.getElem?_take, List.getElem?_drop] using this
theorem FieldOpens.int {cs : List Value} {t : TypeId} {o : Nat} {k : IntKind} (h : FieldOpens enc P W cs t o) (hu : P.underlying t = some (.int k)) (hc : P.cellsOf t = 1) : ∃ n, cs[o]? = some (.int k n) ∧ (Lit.int k n).wf = true := by
  obtain ⟨n, h1, h2⟩ := h.opens (opens_int hu) hc
  exact ⟨n, cell_of_take h1, h2⟩
theorem FieldOpens.bool {cs : List Value} {t : TypeId} {o : Nat} (h : FieldOpens enc P W cs t o) (hu : P.underlying t = some .bool) (hc : P.cellsOf t = 1) : ∃ b, cs[o]? = some (.bool b) := by
  obtain ⟨b, h1, _⟩ := h.opens (opens_bool hu) hc
  exact ⟨b, cell_of_take h1⟩
theorem FieldOpens.slice {cs : List Value} {t : TypeId} {o : Nat} {D : Type} {e : Rep D} {R : List D → Prop} (h : FieldOpens enc P W cs t o) (ho : Opens enc P W t (Rep.sl e) R) (hc : P.cellsOf t = 1) : ∃ v l, cs[o]? = some v ∧ RdS e (fun _ => True) W v l ∧ R l := by
  obtain ⟨l, ⟨v, h1, h2⟩, h3⟩ := h.opens ho hc
  exact ⟨v, l, cell_of_take h1, h2, h3⟩
end
end Go.Kb
