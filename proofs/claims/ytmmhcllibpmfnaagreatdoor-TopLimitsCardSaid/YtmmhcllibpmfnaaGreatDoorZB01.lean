/- Parts Base Rep Row IG28 MX28 FA17 FB17 FC17 FD17 SH17 SI17 OA04 OB04 OC04 OD04 OE04 OF04 OG04 OH04 OI04 OJ04 OK04 OL04. No condition. -/
import Derived.BigQuiet
import Derived.Deep.AppendLies
import Derived.Deep.Draws
import Derived.Deep.QuietTactic
import Derived.Deep.RegionHeld3
import Derived.Deep.RegionLaw
import Derived.Laws.BitsAllLaws
import Derived.Laws.BitsLemmas
import Derived.Lib.AppendZeros
import Derived.Lib.Hide
import Derived.Lib.SlBytesConst
import Derived.Lib.SliceRun
import Derived.Maps.AppendAt
import Derived.WalkKit
import Derived.WalkLawsBesides
import Derived.WalkSpells
import Derived.Laws.BytesArg
import Derived.Laws.BytesString
import Derived.Deep.MidRow
import Derived.Laws.Rows
import Derived.Deep.DeepCutAuto
import Derived.Test.YtmmhcllibpmfnaaGreatDoorRows
import Derived.Deep.Cut
import Derived.Lib.ConvBytes
import Derived.Laws.IdiomStrings
namespace Go.Kb
open Go.RowKit
/-- The world only grew: whatever was there is as it was. -/
abbrev Ext (w w' : World) : Prop := Below w.heap.size w w'
theorem Ext.refl (w : World) : Ext w w := Below.refl _ _
theorem Ext.trans {a b c : World} (h : Ext a b) (k : Ext b c) : Ext a c := Below.trans h (k.mono h.size)
theorem Ext.alloc {a w : World} (h : Ext a w) (o : Obj) : Ext a (w.alloc o) := Below.alloc h h.size o
theorem Ext.drewN {a w : World} (h : Ext a w) (n : Nat) : Ext a (w.drewN n) := ⟨h.os, h.tape, h.output, h.size, h.block⟩
theorem Ext.drew {a w : World} (h : Ext a w) : Ext a w.drew := ⟨h.os, h.tape, h.output, h.size, h.block⟩
theorem zP : (∀ (a : Act) (d : Tmp) (v : Value), Act.put a (some d) v = { a with tmps := a.tmps.setIfInBounds d v }) ∧ (∀ (a : Act) (v : Value), Act.put a none v = a) ∧ (type_of% @List.getElem_toArray.{0}) ∧ (type_of% @List.getElem_cons_succ.{0}) ∧ (type_of% @List.getElem_cons_zero.{0}) ∧ (type_of% @List.setIfInBounds_toArray.{0}) ∧ (type_of% @List.set_cons_succ.{0}) ∧ (type_of% @List.set_cons_zero.{0}) :=
 ⟨fun _ _ _ => rfl, fun _ _ => rfl, @List.getElem_toArray, @List.getElem_cons_succ, @List.getElem_cons_zero, @List.setIfInBounds_toArray, @List.set_cons_succ, @List.set_cons_zero⟩
theorem zX {w w' : World} (h : Ext w w' := by repeat (first | with_reducible exact Ext.refl _ | refine Ext.drewN ?_ _ | refine Ext.drew ?_ | refine Ext.alloc ?_ _ | assumption | (refine Below.trans ?_ (by assumption)) | (refine Ext.trans ?_ (by assumption)) | (refine Below.trans ?_ (Below.mono (by assumption) (by omega))))) : Ext w w' := h
theorem zT {P : Program} {ops : Array Oper} {Q : Exit → Act → World → Prop} {md : Region.Mode} {S : World → Prop} (i : Nat) {oi : Oper} {v : Value} {fuel : Nat} {listed : Array Bool} {a : Act} {w : World} (hi : ops[i]? = some oi) (hy : YieldsIf P ops S oi v a)
  (h : wpAnyH P md ops Q S fuel (listed.setIfInBounds i true) (a.put oi.dst v) w) (hs : Region.noSelect ops = true := by kernel_rfl) (hf : Region.free md ops listed i = true := by kernel_rfl) (hr : (Region.ready md ops listed).contains i = true := by kernel_rfl)
  (hQ : ∀ c a w, Q (.panic c) (a.put oi.dst v) w → Q (.panic c) a w := by exact fun _ _ _ h => h) (hS : S w := by assumption) : wpAnyH P md ops Q S (fuel + 1) listed a w :=
 wpAnyH_take hi hs hf hr hQ hy hS h
theorem zR {P : Program} {ops : Array Oper} {Q : Exit → Act → World → Prop} {md : Region.Mode} {S : World → Prop} (i : Nat) {oi : Oper} {v : Value} {fuel : Nat} {listed : Array Bool} {a : Act} {w : World} (hi : ops[i]? = some oi)
  (h : wpAnyH P md ops Q S fuel (listed.setIfInBounds i true) (a.put oi.dst v) w) (hy : YieldsIf P ops S oi v a := by exact Or.inl ⟨by rfl, by intro w' hSw; go_simp; try with_reducible rfl⟩) (hs : Region.noSelect ops = true := by kernel_rfl) (hf : Region.free md ops listed i = true := by kernel_rfl) (hr : (Region.ready md ops listed).contains i = true := by kernel_rfl)
  (hQ : ∀ c a w, Q (.panic c) (a.put oi.dst v) w → Q (.panic c) a w := by exact fun _ _ _ h => h) (hS : S w := by assumption) : wpAnyH P md ops Q S (fuel + 1) listed a w :=
 wpAnyH_take hi hs hf hr hQ hy hS h
theorem cell_ext {w w' : World} {a : Addr} {v : Value} (hE : Ext w w') (h : w.cell? a = some v) : w'.cell? a = some v := by
 rw [Below.cell hE (World.block_lt_of_cell? w a h)]; exact h
theorem Ext.cell {w w1 : World} (hb : Ext w w1) : ∀ b o, b < w.heap.size → w1.cell? ⟨b, o, none⟩ = w.cell? ⟨b, o, none⟩ := fun b o h => Below.cell hb (p := ⟨b, o, none⟩) h
theorem Ext.frozen {w w1 : World} (hb : Ext w w1) : ∀ b o, b < w.heap.size → w1.frozen? ⟨b, o, none⟩ = w.frozen? ⟨b, o, none⟩ := fun b o h => Below.frozen hb (p := ⟨b, o, none⟩) h
/-- 'v' is a slice of 'n' elements of 'size' cells, and its cells read 'xs'. -/
def RdN (w : World) (size : Nat) (v : Value) (n : Nat) (xs : List Value) : Prop :=
 xs.length = n * size ∧ ∃ A c, v = .slice A n c ∧ n ≤ c ∧ c ≤ maxLen ∧
   (c = 0 ∨ ∃ b off, A = some ⟨b, off, none⟩ ∧ ∀ j u, xs[j]? = some u → w.cell? ⟨b, off + j, none⟩ = some u)
section
variable {w w' : World} {size n : Nat} {v : Value} {xs : List Value}
theorem RdN.nil (w : World) (size : Nat) : RdN w size (.slice none 0 0) 0 [] := ⟨by simp, none, 0, rfl, Nat.le_refl _, Nat.zero_le _, .inl rfl⟩
theorem RdN.keep (h : RdN w size v n xs) (hk : ∀ b off j u, xs[j]? = some u → w.cell? ⟨b, off + j, none⟩ = some u → w'.cell? ⟨b, off + j, none⟩ = some u) : RdN w' size v n xs := by
 obtain ⟨hl, A, c, hv, hnc, hm, hA⟩ := h
 refine ⟨hl, A, c, hv, hnc, hm, ?_⟩
 rcases hA with hA | ⟨b, off, hA, hc⟩
 · exact .inl hA
 · exact .inr ⟨b, off, hA, fun j u hu => hk b off j u hu (hc j u hu)⟩
theorem RdN.ext (h : RdN w size v n xs) (hE : Ext w w') : RdN w' size v n xs :=
 h.keep fun b off j u _ hc => by
   rw [hE.cell b _ (World.block_lt_of_cell? w _ hc)]; exact hc
theorem RdN.alloc (h : RdN w size v n xs) (o : Obj) : RdN (w.alloc o) size v n xs := h.ext ((Ext.refl w).alloc o)
/-- what an owned row reads as -/
theorem RdN.of_own {base : Nat} {e : TypeId} (h : w.ownsRow base e size v n xs) : RdN w size v n xs := by
 refine ⟨h.1, ?_⟩
 rcases h.2 with ⟨rfl, rfl⟩ | ⟨g, cap, cur, rfl, _, _, hnc, hcm, _⟩
 · exact ⟨none, 0, rfl, Nat.le_refl _, Nat.zero_le _, .inl rfl⟩
 · refine ⟨some ⟨g, 0, none⟩, cap, rfl, hnc, hcm, .inr ⟨g, 0, rfl, fun j u hu => ?_⟩⟩
   have := h.cells (g := g) rfl j u hu
   simpa [Addr.add_lit] using this
theorem RdN.shape (h : RdN w size v n xs) : ∃ A c, v = .slice A n c ∧ n ≤ c ∧ c ≤ 9223372036854775807 := by
 obtain ⟨_, A, c, hv, h1, h2, _⟩ := h
 exact ⟨A, c, hv, h1, h2⟩
/-- a cut from 'k' on -/
theorem RdN.from_ {A : Option Addr} {c : Nat} (h : RdN w size (.slice A n c) n xs) {k : Nat} (hk : k ≤ n) :
   RdN w size (.slice (if c = k then A else A.map (·.add (k * size))) (n - k) (c - k)) (n - k) (xs.drop (k * size)) := by
 obtain ⟨hl, A', c', hv, hnc, hm, hA⟩ := h
 simp only [Value.slice.injEq] at hv
 obtain ⟨rfl, _, rfl⟩ := hv
 refine ⟨by rw [List.length_drop, hl, Nat.sub_mul], _, _, rfl, by omega, by omega, ?_⟩
 rcases hA with rfl | ⟨b, off, rfl, hc⟩
 · exact .inl (by omega)
 · by_cases hck : c = k
   · rw [if_pos hck]
     refine .inr ⟨b, off, rfl, fun j u hu => ?_⟩
     have : n = k := by omega
     subst this
     rw [List.drop_eq_nil_of_le (by omega)] at hu
     simp at hu
   · rw [if_neg hck]
     refine .inr ⟨b, off + k * size, ?_, fun j u hu => ?_⟩
     · simp [Addr.add]
     · rw [List.getElem?_drop] at hu
       have := hc _ u hu
       rw [Nat.add_assoc]; exact this
/-- a cut up to 'k' -/
theorem RdN.to_ {A : Option Addr} {c : Nat} (h : RdN w size (.slice A n c) n xs) {k : Nat} (hk : k ≤ n) :
   RdN w size (.slice A k c) k (xs.take (k * size)) := by
 obtain ⟨hl, A', c', hv, hnc, hm, hA⟩ := h
 simp only [Value.slice.injEq] at hv
 obtain ⟨rfl, _, rfl⟩ := hv
 refine ⟨?_, _, _, rfl, by omega, hm, ?_⟩
 · rw [List.length_take, hl]; exact Nat.min_eq_left (Nat.mul_le_mul_right _ hk)
 · rcases hA with hA | ⟨b, off, rfl, hc⟩
   · exact .inl hA
   · refine .inr ⟨b, off, rfl, fun j u hu => hc j u ?_⟩
     rw [List.getElem?_take] at hu
     split at hu
     · exact hu
     · cases hu
end
/-- the shape of a value that reads as n elements, n not nought -/
theorem RdN.form {w : World} {size n : Nat} {v : Value} {xs : List Value} (h : RdN w size v n xs) (hn : 0 < n) :
   ∃ b off c, v = .slice (some ⟨b, off, none⟩) n c ∧ n ≤ c ∧ c ≤ maxLen ∧ ∀ j u, xs[j]? = some u → w.cell? ⟨b, off + j, none⟩ = some u := by
 obtain ⟨_, A, c, hv, hnc, hm, hA⟩ := h
 rcases hA with rfl | ⟨b, off, rfl, hc⟩
 · omega
 · exact ⟨b, off, c, hv, hnc, hm, hc⟩
/-- bytes, and lists of ints, as cells -/
abbrev u8s (l : List Int) : List Value := l.map (Value.int .u8)
/-- bytes -/
def Bs (l : List Int) : Prop := ∀ x ∈ l, 0 ≤ x ∧ x ≤ 255
theorem RdN.addr {w : World} {size n n' c : Nat} {A : Option Addr} {xs : List Value} (h : RdN w size (.slice A n c) n' xs) (hn : 0 < n) : ∃ b off, A = some ⟨b, off, none⟩ := by
 obtain ⟨_, A', c', hv, hnc, _, hA⟩ := h
 simp only [Value.slice.injEq] at hv
 obtain ⟨rfl, rfl, rfl⟩ := hv
 rcases hA with rfl | ⟨b, off, rfl, _⟩
 · omega
 · exact ⟨b, off, rfl⟩
/-- a slice of ints of a kind -/
abbrev RI (k : IntKind) (w : World) (v : Value) (l : List Int) : Prop := RdN w 1 v l.length (l.map (Value.int k))
theorem RdN.icell {k : IntKind} {w : World} {A : Option Addr} {n c : Nat} {l : List Int} (h : RI k w (.slice A n c) l) {j : Nat} (hj : j < n) :
   ∃ b off x, A = some ⟨b, off, none⟩ ∧ w.cell? ⟨b, off + j, none⟩ = some (.int k x) ∧ Hid (l[j]? = some x) := by
 obtain ⟨hl, A', c', hv, hnc, hm, hA⟩ := h
 simp only [Value.slice.injEq] at hv
 obtain ⟨rfl, rfl, rfl⟩ := hv
 rcases hA with rfl | ⟨b, off, rfl, hc⟩
 · omega
 · refine ⟨b, off, l[j]'hj, rfl, hc j _ ?_, ?_⟩
   · simp [List.getElem?_eq_getElem hj]
   · exact (List.getElem?_eq_getElem hj : l[j]? = some l[j])
theorem RI.sub_ {k : IntKind} {w : World} {b off c n : Nat} {l : List Int} (h : RI k w (.slice (some ⟨b, off, none⟩) n c) l) {lo m : Nat} (hm : lo + m ≤ n) :
   RI k w (.slice (some ⟨b, off + lo, none⟩) m (c - lo)) ((l.drop lo).take m) := by
 obtain ⟨_, A', c', hv, hnc, hcm, hA⟩ := h
 simp only [Value.slice.injEq] at hv
 obtain ⟨rfl, rfl, rfl⟩ := hv
 have hl : ((l.drop lo).take m).length = m := by simp; omega
 refine ⟨by simp, _, _, by rw [hl], by omega, by omega, .inr ⟨b, off + lo, rfl, fun j u hu => ?_⟩⟩
 rcases hA with h0 | ⟨b', off', h0, hc⟩
 · rw [List.getElem?_eq_none (by simp; omega)] at hu; cases hu
 · simp only [Option.some.injEq, Addr.mk.injEq] at h0
   obtain ⟨rfl, rfl, _⟩ := h0
   rw [Nat.add_assoc]
   apply hc
   rw [List.getElem?_map, List.getElem?_take] at hu
   split at hu
   · rw [List.getElem?_drop] at hu
     rw [List.getElem?_map]; exact hu
   · simp at hu
theorem RI.fromA {k : IntKind} {w : World} {A : Option Addr} {c n : Nat} {l : List Int} (h : RI k w (.slice A n c) l) {lo : Nat} (hm : lo ≤ n) :
   RI k w (.slice (if c = lo then A else Option.map (fun x => ⟨x.block, x.off + lo, none⟩) A) (n - lo) (c - lo)) (l.drop lo) := by
 obtain ⟨_, A', c', hv, hnc, hcm, hA⟩ := h
 simp only [Value.slice.injEq] at hv
 obtain ⟨rfl, rfl, rfl⟩ := hv
 have hl : (l.drop lo).length = l.length - lo := by simp
 refine ⟨by simp, _, _, by rw [hl], by omega, by omega, ?_⟩
 by_cases hcl : c = lo
 · exact .inl (by omega)
 · rw [if_neg hcl]
   rcases hA with rfl | ⟨b, off, rfl, hc⟩
   · omega
   · refine .inr ⟨b, off + lo, rfl, fun j u hu => ?_⟩
     rw [Nat.add_assoc]
     apply hc
     rw [List.getElem?_map, List.getElem?_drop] at hu
     rw [List.getElem?_map]; exact hu
theorem RI.from_ {k : IntKind} {w : World} {b off c n : Nat} {l : List Int} (h : RI k w (.slice (some ⟨b, off, none⟩) n c) l) {lo : Nat} (hm : lo ≤ n) :
   RI k w (.slice (if c = lo then some ⟨b, off, none⟩ else some ⟨b, off + lo, none⟩) (n - lo) (c - lo)) (l.drop lo) := by
 obtain ⟨_, A', c', hv, hnc, hcm, hA⟩ := h
 simp only [Value.slice.injEq] at hv
 obtain ⟨rfl, rfl, rfl⟩ := hv
 have hl : (l.drop lo).length = l.length - lo := by simp
 by_cases hcl : c = lo
 · have : l.length = lo := by omega
   rw [if_pos hcl]
   refine ⟨by simp, _, _, by rw [hl], by omega, by omega, .inr ⟨b, off, rfl, fun j u hu => ?_⟩⟩
   rw [List.drop_eq_nil_of_le (by omega)] at hu
   simp at hu
 · rw [if_neg hcl]
   refine ⟨by simp, _, _, by rw [hl], by omega, by omega, .inr ⟨b, off + lo, rfl, fun j u hu => ?_⟩⟩
   rcases hA with h0 | ⟨b', off', h0, hc⟩
   · omega
   · simp only [Option.some.injEq, Addr.mk.injEq] at h0
     obtain ⟨rfl, rfl, _⟩ := h0
     rw [Nat.add_assoc]
     apply hc
     rw [List.getElem?_map, List.getElem?_drop] at hu
     rw [List.getElem?_map]; exact hu
theorem RI.lit {w : World} {B : Nat} {fr : Nat × Nat} (k : IntKind) (l : List Int) (e : TypeId) (hB : w.heap.size = B) (hl : l.length ≤ 1000000) :
   RI k (w.alloc (.cells (l.map (Value.int k)).toArray e fr)) (.slice (some ⟨B, 0, none⟩) l.length l.length) l := by
 subst hB
 refine ⟨by simp, _, _, rfl, Nat.le_refl _, by unfold maxLen; omega, .inr ⟨_, _, rfl, fun j u hu => ?_⟩⟩
 have h : (w.alloc (.cells (l.map (Value.int k)).toArray e fr)).cell? ⟨w.heap.size, 0 + j, none⟩ = (l.map (Value.int k)).toArray[0 + j]? := cell_of_row _ _ _ _ e fr (heap_alloc_new w _)
 rw [h, Nat.zero_add]
 simpa using hu
theorem take_succ_of {l : List Int} {j : Nat} {x : Int} (h : l[j]? = some x) : l.take (j + 1) = l.take j ++ [x] := by
 rw [List.take_add_one, h]; rfl
/-- the number that the first four bytes tell -/
def hd4 (r : List Int) : Int := r.getD 0 0 * 16777216 + r.getD 1 0 * 65536 + r.getD 2 0 * 256 + r.getD 3 0
theorem hd4_bd {r : List Int} (hB : Bs r) : 0 ≤ hd4 r ∧ hd4 r < 4294967296 := by
 have key : ∀ i, 0 ≤ r.getD i 0 ∧ r.getD i 0 ≤ 255 := fun i => by
   rcases Nat.lt_or_ge i r.length with h | h
   · rw [List.getD_eq_getElem?_getD, List.getElem?_eq_getElem h]; exact hB _ (List.getElem_mem h)
   · rw [List.getD_eq_getElem?_getD, List.getElem?_eq_none h]; decide
 have h0 := key 0
 have h1 := key 1
 have h2 := key 2
 have h3 := key 3
 unfold hd4
 omega
theorem four_of {r : List Int} (h : 4 ≤ r.length) : ∃ a b c d t, r = a :: b :: c :: d :: t := by
 match r, h with
 | a :: b :: c :: d :: t, _ => exact ⟨a, b, c, d, t, rfl⟩
theorem one_ints (k : IntKind) (l : List Int) : ∀ u ∈ l.map (Value.int k), u.oneCell' = true := ints_oneCell k l
section
variable {P : Program} (w : World)
/-- append onto a row of the call's own, whatever is appended -/
theorem run_append_rd (base : Nat) (t ty e : TypeId) (i : TypeInfo) (z : Value) (size bytes : Nat) (ht : P.underlying t = some (.slice e)) (hi : P.info? e = some i) (hz : i.zero = some z)
   (hsize : i.size = size) (hby : i.bytes = bytes) (hzs : z.cells.size = size) (hsz : 0 < size)
   (v : Value) (n : Nat) (xs : List Value) (hown : w.ownsRow base e size v n xs)
   (x : Value) (m : Nat) (news : List Value) (hr : RdN w size x m news) (h1 : ∀ u ∈ news, u.oneCell' = true)
   (h63 : n + m ≤ maxLen) (hbytes : (n + m) * bytes ≤ 140737488355328) (hbase : base ≤ w.heap.size) :
   ∃ v' w', (Builtin.append_ #[t, t] ty #[v, x]).run P w = .ok v' w' ∧ w'.ownsRow base e size v' (n + m) (xs ++ news) ∧ w.grownBy w' v.ownBlock ∧
     (v'.ownBlock = v.ownBlock ∨ v'.ownBlock = some w.heap.size) := by
 obtain ⟨hl, A, c, rfl, hmc, hcm, hA⟩ := hr
 rcases hA with rfl | ⟨b, off, rfl, hcell⟩
 · have hm : m = 0 := by omega
   subst hm
   have hn : news = [] := List.eq_nil_of_length_eq_zero (by simpa using hl)
   subst hn
   rcases A with _ | ad
   · refine ⟨v, w, ?_, by simpa using hown, World.grownBy.refl w _, .inl rfl⟩
     rcases hown.2 with ⟨rfl, rfl⟩ | ⟨g, cap, cur, rfl, _, _, hnc, _⟩
     · simp [Builtin.append_, run_underlying ht, sizeOf, typeInfo, hi, Builtin.lenOf, Builtin.firstCells]
     · simp [Builtin.append_, run_underlying ht, sizeOf, typeInfo, hi, Builtin.lenOf, Builtin.firstCells, hnc, storeCells]
   · obtain ⟨v', w', hrun, h2, h3, _, h5⟩ := run_append_own_at (P := P) w base t ty e i z size bytes ht hi hz hsize hby hzs hsz v n xs hown ad 0 0 [] (by simp) (fun j u hu => by simp at hu) h1 h63 hbytes hbase
     exact ⟨v', w', hrun, h2, h3, h5⟩
 · have hcells : ∀ j u, news[j]? = some u → w.cell? ((⟨b, off, none⟩ : Addr).add j) = some u := by
     intro j u hu
     simpa [Addr.add_lit] using hcell j u hu
   obtain ⟨v', w', hrun, h2, h3, _, h5⟩ := run_append_own_at (P := P) w base t ty e i z size bytes ht hi hz hsize hby hzs hsz v n xs hown _ m c news hl hcells h1 h63 hbytes hbase
   exact ⟨v', w', hrun, h2, h3, h5⟩
theorem wp_append_rd {o : Oper} {a : Act} {K : Act → World → Prop} {Q : Exit → Act → World → Prop} (s x : Operand) (t : TypeId)
   (ho : o.op = .call { callee := .builtin .append, args := #[s, x], argTypes := #[t, t] })
   (base : Nat) (e : TypeId) (i : TypeInfo) (z : Value) (size bytes : Nat) (ht : P.underlying t = some (.slice e)) (hi : P.info? e = some i) (hz : i.zero = some z)
   (hsize : i.size = size) (hby : i.bytes = bytes) (hzs : z.cells.size = size) (hsz : 0 < size)
   (v : Value) (n : Nat) (xs : List Value) (hs : a.eval s = v) (hown : w.ownsRow base e size v n xs)
   (y : Value) (m : Nat) (news : List Value) (hx : a.eval x = y) (hr : RdN w size y m news) (h1 : ∀ u ∈ news, u.oneCell' = true)
   (h63 : n + m ≤ maxLen) (hbytes : (n + m) * bytes ≤ 140737488355328) (hbase : base ≤ w.heap.size)
   (h : ∀ v' w', w'.ownsRow base e size v' (n + m) (xs ++ news) → w.grownBy w' v.ownBlock → (v'.ownBlock = v.ownBlock ∨ v'.ownBlock = some w.heap.size) → K (a.put o.dst v') w') : o.wp P a w K Q := by
 obtain ⟨v', w', hrun, h2, h3, h4⟩ := run_append_rd (P := P) w base t o.type e i z size bytes ht hi hz hsize hby hzs hsz v n xs hown y m news hr h1 h63 hbytes hbase
 unfold Oper.wp execOp
 simp only [ho, resolve, invoke, builtin, Sem.run_bind, Sem.run_pure, Result.andThen_ok, List.map_toArray, List.map_cons, List.map_nil, hs, hx, hrun]
 exact h v' w' h2 h3 h4
theorem wpList_append_rd {ops : Array Oper} {rest : List Oper} {o : Oper} {a : Act} {Q : Exit → Act → World → Prop} (hgd : o.guard = none) (s x : Operand) (t : TypeId)
   (ho : o.op = .call { callee := .builtin .append, args := #[s, x], argTypes := #[t, t] })
   (base : Nat) (e : TypeId) (i : TypeInfo) (z : Value) (size bytes : Nat) (ht : P.underlying t = some (.slice e)) (hi : P.info? e = some i) (hz : i.zero = some z)
   (hsize : i.size = size) (hby : i.bytes = bytes) (hzs : z.cells.size = size) (hsz : 0 < size)
   (v : Value) (n : Nat) (xs : List Value) (hs : a.eval s = v) (hown : w.ownsRow base e size v n xs)
   (y : Value) (m : Nat) (news : List Value) (hx : a.eval x = y) (hr : RdN w size y m news) (h1 : ∀ u ∈ news, u.oneCell' = true)
   (h63 : n + m ≤ maxLen) (hbytes : (n + m) * bytes ≤ 140737488355328) (hbase : base ≤ w.heap.size)
   (h : ∀ v' w', w'.ownsRow base e size v' (n + m) (xs ++ news) → w.grownBy w' v.ownBlock → (v'.ownBlock = v.ownBlock ∨ v'.ownBlock = some w.heap.size) → wpList P ops Q rest (a.put o.dst v') w') : wpList P ops Q (o :: rest) a w :=
 wpList_plain hgd fun _ hK => wp_append_rd w s x t ho base e i z size bytes ht hi hz hsize hby hzs hsz v n xs hs hown y m news hx hr h1 h63 hbytes hbase fun v' w' h2 h3 h4 => hK _ _ (h v' w' h2 h3 h4)
theorem step_append_rd {ops : Array Oper} {o : Oper} {a : Act} {K : Act → World → Prop} {Q : Exit → Act → World → Prop} {E : Prop} (hgd : o.guard = none) (s x : Operand) (t : TypeId)
   (ho : o.op = .call { callee := .builtin .append, args := #[s, x], argTypes := #[t, t] })
   (base : Nat) (e : TypeId) (i : TypeInfo) (z : Value) (size bytes : Nat) (ht : P.underlying t = some (.slice e)) (hi : P.info? e = some i) (hz : i.zero = some z)
   (hsize : i.size = size) (hby : i.bytes = bytes) (hzs : z.cells.size = size) (hsz : 0 < size)
   (v : Value) (n : Nat) (xs : List Value) (hs : a.eval s = v) (hown : w.ownsRow base e size v n xs)
   (y : Value) (m : Nat) (news : List Value) (hx : a.eval x = y) (hr : RdN w size y m news) (h1 : ∀ u ∈ news, u.oneCell' = true)
   (h63 : n + m ≤ maxLen) (hbytes : (n + m) * bytes ≤ 140737488355328) (hbase : base ≤ w.heap.size)
   (h : ∀ v' w', w'.ownsRow base e size v' (n + m) (xs ++ news) → w.grownBy w' v.ownBlock → (v'.ownBlock = v.ownBlock ∨ v'.ownBlock = some w.heap.size) → K (a.put o.dst v') w') :
   if Region.wanted o (yielded ops a.tmps) = true then Oper.wp P o a w K Q else E := by
 have hw : Region.wanted o (yielded ops a.tmps) = true := by simp [Region.wanted, hgd]
 rw [if_pos hw]
 exact wp_append_rd w s x t ho base e i z size bytes ht hi hz hsize hby hzs hsz v n xs hs hown y m news hx hr h1 h63 hbytes hbase h
end
theorem own_ext {w w' : World} {base : Nat} {e : TypeId} {size : Nat} {v : Value} {n : Nat} {xs : List Value} (h : w.ownsRow base e size v n xs) (hE : Ext w w') : w'.ownsRow base e size v n xs := by
 refine ⟨h.1, ?_⟩
 rcases h.2 with h2 | ⟨g, cap, cur, hv, hg, hh, r⟩
 · exact .inl h2
 · exact .inr ⟨g, cap, cur, hv, hg, by rw [hE.block g (lt_of_block hh)]; exact hh, r⟩
theorem own_base {w : World} {base base' : Nat} {e : TypeId} {size : Nat} {v : Value} {n : Nat} {xs : List Value} (h : w.ownsRow base e size v n xs) (hb : base' ≤ base) : w.ownsRow base' e size v n xs := by
 refine ⟨h.1, ?_⟩
 rcases h.2 with h2 | ⟨g, cap, cur, hv, hg, r⟩
 · exact .inl h2
 · exact .inr ⟨g, cap, cur, hv, Nat.le_trans hb hg, r⟩
/-- a literal slice, just made -/
theorem own_lit (w : World) (base : Nat) (e : TypeId) (cs : Array Value) (hb : base ≤ w.heap.size) (hm : cs.size ≤ maxLen) :
   (w.alloc (.cells cs e)).ownsRow base e 1 (.slice (some ⟨w.heap.size, 0, none⟩) cs.size cs.size) cs.size cs.toList :=
 ⟨by simp, .inr ⟨_, _, cs, rfl, hb, heap_alloc_new w _, Nat.le_refl _, hm, by simp, by rw [List.take_of_length_le (by simp)]⟩⟩
/-- one value, just laid in a block of its own -/
theorem RdN.one_ (w : World) (e : TypeId) (u : Value) : RdN (w.alloc (.cells #[u] e)) 1 (.slice (some ⟨w.heap.size, 0, none⟩) 1 1) 1 [u] := by
 have := RdN.of_own (own_lit w w.heap.size e #[u] (Nat.le_refl _) (by simp [maxLen]))
 simpa using this
theorem own_empty {w : World} {B : Nat} (hB : w.heap.size = B) (base : Nat) (e : TypeId) (size : Nat) (hb : base ≤ B) :
   (w.alloc (.cells #[] e)).ownsRow base e size (.slice (some ⟨B, 0, none⟩) 0 0) 0 [] := by
 subst hB; exact ⟨by simp, .inr ⟨_, _, #[], rfl, hb, heap_alloc_new w _, Nat.le_refl _, Nat.zero_le _, by simp, by simp⟩⟩
theorem RdN.oneB {w : World} {B : Nat} (hB : w.heap.size = B) (e : TypeId) (u : Value) : RdN (w.alloc (.cells #[u] e)) 1 (.slice (some ⟨B, 0, none⟩) 1 1) 1 [u] := by
 subst hB; simpa using RdN.of_own (own_lit w w.heap.size e #[u] (Nat.le_refl _) (by simp [maxLen]))
theorem own_shape {w : World} {base : Nat} {e : TypeId} {size : Nat} {v : Value} {n : Nat} {xs : List Value} (h : w.ownsRow base e size v n xs) : ∃ A c, v = .slice A n c := by
 rcases h.2 with ⟨rfl, rfl⟩ | ⟨g, cap, cur, rfl, _⟩
 · exact ⟨_, _, rfl⟩
 · exact ⟨_, _, rfl⟩
theorem own_len {w : World} {base : Nat} {e : TypeId} {size n m c : Nat} {A : Option Addr} {xs : List Value} (h : w.ownsRow base e size (.slice A m c) n xs) : m = n := by
 rcases h.2 with ⟨h', rfl⟩ | ⟨_, _, _, h', _⟩
 · simp only [Value.slice.injEq] at h'
   exact h'.2.1
 · simp only [Value.slice.injEq] at h'
   exact h'.2.1
theorem own_addr {w : World} {base : Nat} {e : TypeId} {size n m c : Nat} {A : Option Addr} {xs : List Value} (h : w.ownsRow base e size (.slice A m c) n xs) (hn : 0 < n) : ∃ g, A = some ⟨g, 0, none⟩ ∧ base ≤ g ∧ m = n := by
 obtain ⟨g, cap, hv, hb, _⟩ := h.form hn
 simp only [Value.slice.injEq] at hv
 exact ⟨g, hv.1, hb, hv.2.1⟩
/-- The world but for draws. -/
def Qt (w w' : World) : Prop := ∃ d, w' = w.drewN d
theorem Qt.refl (w : World) : Qt w w := ⟨0, rfl⟩
theorem Qt.drewN {w w' : World} (h : Qt w w') (n : Nat) : Qt w (w'.drewN n) := by
 obtain ⟨d, rfl⟩ := h
 exact ⟨d + n, by simp⟩
theorem Qt.trans {a b c : World} (h : Qt a b) (k : Qt b c) : Qt a c := by
 obtain ⟨d, rfl⟩ := k
 exact h.drewN d
theorem Qt.ext {w w' : World} (h : Qt w w') : Ext w w' := by
 obtain ⟨d, rfl⟩ := h
 exact (Ext.refl w).drewN d
theorem Qt.calls {P : Program} {f : FuncId} {args : Array Value} {w : World} {n : Nat} {v u : Value} (hv : v = u)
   (h : Calls P f args (w.drewN n) fun e w' => e = .returned v ∧ Qt (w.drewN n) w') : Calls P f args (w.drewN n) fun e w'' => e = .returned u ∧ ∃ m, w'' = w.drewN m :=
 h.mono fun _ _ ⟨he, m, hm⟩ => ⟨by rw [he, hv], n + m, by rw [hm, World.drewN_drewN]⟩
/-- Only blocks of S, and new ones, have turned. -/
structure Mod (S : Nat → Prop) (w w' : World) : Prop where
 os : w'.os = w.os
 tape : w'.tape = w.tape
 output : w'.output = w.output
 size : w.heap.size ≤ w'.heap.size
 block : ∀ k, k < w.heap.size → ¬ S k → w'.heap[k]? = w.heap[k]?
theorem Mod.refl (S : Nat → Prop) (w : World) : Mod S w w := ⟨rfl, rfl, rfl, Nat.le_refl _, fun _ _ _ => rfl⟩
theorem Mod.of_ext {S : Nat → Prop} {w w' : World} (h : Ext w w') : Mod S w w' := ⟨h.os, h.tape, h.output, h.size, fun k hk _ => h.block k hk⟩
theorem Mod.trans {S : Nat → Prop} {a b c : World} (h : Mod S a b) (k : Mod S b c) : Mod S a c :=
 ⟨k.os.trans h.os, k.tape.trans h.tape, k.output.trans h.output, Nat.le_trans h.size k.size, fun i hi hn => (k.block i (Nat.lt_of_lt_of_le hi h.size) hn).trans (h.block i hi hn)⟩
theorem Mod.mono {S T : Nat → Prop} {a b : World} (h : Mod S a b) (hT : ∀ k, k < a.heap.size → S k → T k) : Mod T a b :=
 ⟨h.os, h.tape, h.output, h.size, fun k hk hn => h.block k hk fun hs => hn (hT k hk hs)⟩
theorem Mod.alloc {S : Nat → Prop} {a w : World} (h : Mod S a w) (o : Obj) : Mod S a (w.alloc o) := h.trans (.of_ext ((Ext.refl w).alloc o))
theorem Mod.drewN {S : Nat → Prop} {a w : World} (h : Mod S a w) (n : Nat) : Mod S a (w.drewN n) := h.trans (.of_ext ((Ext.refl w).drewN n))
theorem Mod.drew {S : Nat → Prop} {a w : World} (h : Mod S a w) : Mod S a w.drew := h.trans (.of_ext (Ext.refl w).drew)
theorem Mod.ext {S : Nat → Prop} {a b c : World} (h : Mod S a b) (k : Ext b c) : Mod S a c := h.trans (.of_ext k)
theorem Mod.set_ {S : Nat → Prop} {a w : World} (h : Mod S a w) {p : Addr} (hp : a.heap.size ≤ p.block ∨ S p.block) (u : Value) : Mod S a (w.setCell p u) :=
 ⟨h.os, h.tape, h.output, by simpa [World.setCell] using h.size, fun k hk hn => (Below.heap_setCell w p u k (by
   rintro rfl
   rcases hp with hp | hp
   · omega
   · exact hn hp)).trans (h.block k hk hn)⟩
theorem Mod.set1 {g o : Nat} {a w : World} (h : Mod (fun k => k = g) a w) (u : Value) : Mod (fun k => k = g) a (w.setCell ⟨g, o, none⟩ u) := Mod.set_ h (.inr rfl) u
theorem Mod.grown {S : Nat → Prop} {a w w' : World} {row : Option Nat} (h : Mod S a w) (hg : w.grownBy w' row) (hr : ∀ k, row = some k → a.heap.size ≤ k ∨ S k) : Mod S a w' :=
 ⟨hg.os.trans h.os, hg.tape.trans h.tape, hg.output.trans h.output, Nat.le_trans h.size hg.size, fun k hk hn => (hg.block k (Nat.lt_of_lt_of_le hk h.size) (fun e => by
   rcases hr k e.symm with h1 | h1
   · omega
   · exact hn h1)).trans (h.block k hk hn)⟩
theorem Mod.below {S : Nat → Prop} {a b : World} (h : Mod S a b) {B : Nat} (hB : B ≤ a.heap.size) (hS : ∀ k, k < B → ¬ S k) : Below B a b :=
 ⟨h.os, h.tape, h.output, h.size, fun k hk => h.block k (by omega) (hS k hk)⟩
theorem Mod.toExt {S : Nat → Prop} {w a b : World} (h : Ext w a) (hm : Mod S a b) (hS : ∀ k, k < w.heap.size → ¬ S k) : Ext w b := h.trans (a := w) (b := a) (c := a) (Ext.refl a) |> fun h => Below.trans h (hm.below h.size hS)
theorem Mod.cell {S : Nat → Prop} {a b : World} (h : Mod S a b) : ∀ k o, k < a.heap.size → ¬ S k → b.cell? ⟨k, o, none⟩ = a.cell? ⟨k, o, none⟩ := fun k _ hk hn =>
 World.cell?_of_block (h.block k hk hn)
/-- a block that is known whole -/
def Blk (w : World) (g : Nat) (t : TypeId) (cs : Array Value) : Prop := w.heap[g]? = some (.cells cs t (0, 0))
section
variable {w w' : World} {g : Nat} {t : TypeId} {cs : Array Value}
theorem Blk.lt (h : Blk w g t cs) : g < w.heap.size := lt_of_block h
theorem Blk.cell (h : Blk w g t cs) (i : Nat) : w.cell? ⟨g, i, none⟩ = cs[i]? := cell_of_row w g i cs t (0, 0) h
theorem Blk.frozen (h : Blk w g t cs) (i : Nat) : w.frozen? ⟨g, i, none⟩ = false := by
 unfold Blk at h
 simp [World.frozen?, h]
theorem Blk.new (w : World) (t : TypeId) (cs : Array Value) : Blk (w.alloc (.cells cs t)) w.heap.size t cs := heap_alloc_new w _
theorem Blk.at_ {w : World} {B : Nat} (t : TypeId) (cs : Array Value) (hB : w.heap.size = B) : Blk (w.alloc (.cells cs t)) B t cs := by
 subst hB; exact heap_alloc_new w _
theorem Blk.ext (h : Blk w g t cs) (hE : Ext w w') : Blk w' g t cs := (hE.block g h.lt).trans h
theorem Blk.mod {S : Nat → Prop} (h : Blk w g t cs) (hM : Mod S w w') (hn : ¬ S g) : Blk w' g t cs := (hM.block g h.lt hn).trans h
theorem Blk.alloc (h : Blk w g t cs) (o : Obj) : Blk (w.alloc o) g t cs := h.ext ((Ext.refl w).alloc o)
theorem Blk.set_ (h : Blk w g t cs) (i : Nat) (u : Value) : Blk (w.setCell ⟨g, i, none⟩ u) g t (cs.setIfInBounds i u) := by
 unfold Blk at h ⊢
 simp [World.setCell, Array.getElem?_modify, h]
theorem Blk.far (h : Blk w g t cs) {p : Addr} (hp : g ≠ p.block) (u : Value) : Blk (w.setCell p u) g t cs := (Below.heap_setCell w p u g hp).trans h
theorem Blk.grown {row : Option Nat} (h : Blk w g t cs) (hb : w.grownBy w' row) (hg : some g ≠ row) : Blk w' g t cs := (hb.block g h.lt hg).trans h
theorem Blk.cell0 {u : Value} (h : Blk w g t #[u]) : w.cell? ⟨g, 0, none⟩ = some u := by simpa using h.cell 0
theorem Blk.two {u v : Value} (h : Blk w g t #[u, v]) : w.cell? ⟨g, 0, none⟩ = some u ∧ w.cell? ⟨g, 1, none⟩ = some v ∧ w.frozen? ⟨g, 0, none⟩ = false ∧ w.frozen? ⟨g, 1, none⟩ = false :=
 ⟨by simpa using h.cell 0, by simpa using h.cell 1, h.frozen 0, h.frozen 1⟩
theorem Blk.put2 {u v : Value} (h : Blk w g t #[u, v]) (x y : Value) : Blk ((w.setCell ⟨g, 0, none⟩ x).setCell ⟨g, 1, none⟩ y) g t #[x, y] := by
 simpa using (h.set_ 0 x).set_ 1 y
theorem own_blk_ne {base : Nat} {e : TypeId} {size n : Nat} {v : Value} {xs : List Value} (h : w.ownsRow base e size v n xs) (hg : Blk w g t cs) (hne : e ≠ t) : v.ownBlock ≠ some g := by
 rcases h.2 with ⟨rfl, _⟩ | ⟨g', cap, cur, rfl, _, hh, _⟩
 · simp [Value.ownBlock]
 · intro he
   have : g' = g := by simpa [Value.ownBlock] using he
   subst this
   unfold Blk at hg
   rw [hg] at hh
   simp at hh
   exact hne hh.2.symm
end
theorem own_own_ne {w : World} {b b' : Nat} {e e' : TypeId} {s s' n n' : Nat} {v v' : Value} {xs xs' : List Value} (h : w.ownsRow b e s v n xs) (h' : w.ownsRow b' e' s' v' n' xs') (hne : e ≠ e') : v.ownBlock = none ∨ v.ownBlock ≠ v'.ownBlock := by
 rcases h.2 with ⟨rfl, _⟩ | ⟨g, cap, cur, rfl, _, hh, _⟩
 · exact .inl rfl
 · right
   intro he
   exact own_blk_ne (e := e') h' (g := g) (t := e) (cs := cur) hh (Ne.symm hne) he.symm
theorem own_mod {S : Nat → Prop} {w w' : World} {base : Nat} {e : TypeId} {size : Nat} {v : Value} {n : Nat} {xs : List Value} (h : w.ownsRow base e size v n xs) (hM : Mod S w w') (hn : ∀ k, v.ownBlock = some k → ¬ S k) : w'.ownsRow base e size v n xs := by
 refine ⟨h.1, ?_⟩
 rcases h.2 with h2 | ⟨g, cap, cur, hv, hg, hh, r⟩
 · exact .inl h2
 · refine .inr ⟨g, cap, cur, hv, hg, ?_, r⟩
   rw [hM.block g (lt_of_block hh) (hn g (by rw [hv]; rfl))]; exact hh
theorem RdN.mod {S : Nat → Prop} {w w' : World} {size n : Nat} {v : Value} {xs : List Value} (h : RdN w size v n xs) (hM : Mod S w w') (hn : ∀ k, v.ownBlock = some k → ¬ S k) : RdN w' size v n xs := by
 obtain ⟨hl, A, c, hv, hnc, hm, hA⟩ := h
 refine ⟨hl, A, c, hv, hnc, hm, ?_⟩
 rcases hA with hA | ⟨b, off, hA, hc⟩
 · exact .inl hA
 · refine .inr ⟨b, off, hA, fun j u hu => ?_⟩
   have hc' := hc j u hu
   rw [hM.cell b _ (World.block_lt_of_cell? w _ hc') (hn b (by rw [hv, hA]; rfl))]; exact hc'
/-- the number of elements of a slice, for a measure -/
def lenOfV : Value → Nat | .slice _ n _ => n | _ => 0
/-- a slice of slices, each so many elements of 'size' cells -/
def RdLL (w : World) (size : Nat) (v : Value) (ls : List (Nat × List Value)) : Prop :=
 ∃ vs : List Value, vs.length = ls.length ∧ RdN w 1 v ls.length vs ∧ ∀ (j : Nat) x l, vs[j]? = some x → ls[j]? = some l → RdN w size x l.1 l.2
def tot (ls : List (Nat × List Value)) : Nat := (ls.map (·.1)).sum
def cat (ls : List (Nat × List Value)) : List Value := (ls.map (·.2)).flatten
theorem tot_succ {ls : List (Nat × List Value)} {k : Nat} {l : Nat × List Value} (h : ls[k]? = some l) : tot (ls.take (k + 1)) = tot (ls.take k) + l.1 := by
 simp [tot, List.take_add_one, h]
theorem cat_succ {ls : List (Nat × List Value)} {k : Nat} {l : Nat × List Value} (h : ls[k]? = some l) : cat (ls.take (k + 1)) = cat (ls.take k) ++ l.2 := by
 simp [cat, List.take_add_one, h]
theorem tot_take_le (ls : List (Nat × List Value)) (k : Nat) : tot (ls.take k) ≤ tot ls := by
 have h : tot ls = tot (ls.take k) + tot (ls.drop k) := by
   conv => lhs; rw [← List.take_append_drop k ls]
   simp only [tot, List.map_append, List.sum_append]
 omega
theorem RdLL.lit2 {w : World} {size : Nat} {x y : Value} {n m B : Nat} {xs ys : List Value} (t : TypeId) (hB : w.heap.size = B) (hx : RdN w size x n xs) (hy : RdN w size y m ys) :
   RdLL (w.alloc (.cells #[x, y] t)) size (.slice (some ⟨B, 0, none⟩) 2 2) [(n, xs), (m, ys)] := by
 subst hB
 refine ⟨[x, y], rfl, ⟨rfl, _, _, rfl, Nat.le_refl _, by simp [maxLen], .inr ⟨_, _, rfl, fun j u hu => ?_⟩⟩, fun j z l hz hl => ?_⟩
 · have := (Blk.new w t #[x, y]).cell (0 + j)
   rw [this, Nat.zero_add]
   simpa using hu
 · match j, hz, hl with
   | 0, hz, hl => simp at hz hl; subst hz hl; exact hx.alloc _
   | 1, hz, hl => simp at hz hl; subst hz hl; exact hy.alloc _
theorem ofInt_i64 (a : Nat) (ha : a < 9223372036854775808) : (BitVec.ofInt 64 (a : Int)).toNat = a := by
 rw [BitVec.ofInt_natCast, BitVec.toNat_ofNat]; exact Nat.mod_eq_of_lt (by omega)
theorem i64_or_nat (a b : Nat) (ha : a < 9223372036854775808) (hb : b < 9223372036854775808) : bits .or .i64 (a : Int) (b : Int) = ((a ||| b : Nat) : Int) := by
 have hx : a ||| b < 2 ^ 63 := Nat.or_lt_two_pow (by omega) (by omega)
 show IntKind.i64.wrap ((BitVec.ofInt 64 (a : Int) ||| BitVec.ofInt 64 (b : Int)).toNat : Int) = _
 rw [BitVec.toNat_or, ofInt_i64 a ha, ofInt_i64 b hb, IntKind.wrap_i64]
 omega
theorem i64_join (x y : Int) (i : Nat) (hx0 : 0 ≤ x) (hx1 : x < 9223372036854775808) (hy0 : 0 ≤ y) (hy1 : y < 9223372036854775808) (hx : x.toNat % 2 ^ i = 0) (hy : y.toNat < 2 ^ i) : bits .or .i64 x y = x + y := by
 obtain ⟨a, rfl⟩ := Int.eq_ofNat_of_zero_le hx0
 obtain ⟨b, rfl⟩ := Int.eq_ofNat_of_zero_le hy0
 rw [i64_or_nat a b (by omega) (by omega), nat_join i a b (by simpa using hx) (by simpa using hy)]
 simp
theorem four_join (a b c d : Int) (ba : 0 ≤ a ∧ a ≤ 255) (bb : 0 ≤ b ∧ b ≤ 255) (bc : 0 ≤ c ∧ c ≤ 255) (bd : 0 ≤ d ∧ d ≤ 255) :
   bits .or .i64 (bits .or .i64 (bits .or .i64 (a * 16777216) (b * 65536)) (c * 256)) d = a * 16777216 + b * 65536 + c * 256 + d := by
 rw [i64_join (a * 16777216) (b * 65536) 24 (by omega) (by omega) (by omega) (by omega) (by omega) (by omega)]
 rw [i64_join _ (c * 256) 16 (by omega) (by omega) (by omega) (by omega) (by omega) (by omega)]
 rw [i64_join _ d 8 (by omega) (by omega) (by omega) (by omega) (by omega) (by omega)]
theorem ret_int {k : IntKind} {a b : Int} (h : a = b) : Ending.returned (.int k a) = .returned (.int k b) := by rw [h]
end Go.Kb
namespace Go.Kb
open Go.RowKit
/-- how a datum lies in so many cells: what it reads lies in blocks of A -/
structure Rep (D : Type) where
 size : Nat
 pos : 0 < size
 rel : (Nat → Prop) → World → List Value → D → Prop
 len : ∀ {A : Nat → Prop} {w : World} {cs : List Value} {d : D}, rel A w cs d → cs.length = size
 one : ∀ {A : Nat → Prop} {w : World} {cs : List Value} {d : D}, rel A w cs d → ∀ u ∈ cs, u.oneCell' = true
 keep : ∀ {A B : Nat → Prop} {w w' : World} {cs : List Value} {d : D}, rel A w cs d → (∀ k, k < w.heap.size → A k → B k ∧ w'.heap[k]? = w.heap[k]?) → rel B w' cs d
def Rep.int (k : IntKind) : Rep Int where
 size := 1
 pos := by decide
 rel := fun _ _ cs d => cs = [.int k d]
 len := fun h => by rw [h]; rfl
 one := fun h u hu => by rw [h] at hu; simp at hu; subst hu; rfl
 keep := fun h _ => h
section
variable {D : Type} {e : Rep D} {A B : Nat → Prop} {S : Nat → Prop} {w w' : World} {cs us news : List Value} {d : D} {ds ds2 : List D} {v : Value}
theorem Rep.ext (h : e.rel A w cs d) (hE : Ext w w') : e.rel A w' cs d := e.keep h fun k hk ha => ⟨ha, hE.block k hk⟩
/-- the cells of so many elements -/
def RdE (e : Rep D) (A : Nat → Prop) (w : World) (us : List Value) (ds : List D) : Prop :=
 us.length = ds.length * e.size ∧ ∀ (j : Nat) d, ds[j]? = some d → e.rel A w ((us.drop (j * e.size)).take e.size) d
theorem RdE.keep (h : RdE e A w us ds) (hk : ∀ k, k < w.heap.size → A k → B k ∧ w'.heap[k]? = w.heap[k]?) : RdE e B w' us ds :=
 ⟨h.1, fun j d hd => e.keep (h.2 j d hd) hk⟩
theorem RdE.nil (e : Rep D) (A : Nat → Prop) (w : World) : RdE e A w [] [] := ⟨by simp, fun j d hd => by simp at hd⟩
theorem RdE.one (h : RdE e A w us ds) : ∀ u ∈ us, u.oneCell' = true := by
 intro u hu
 obtain ⟨j, hj, rfl⟩ := List.getElem_of_mem hu
 have hp := e.pos
 have hlen := h.1
 have hjd : j / e.size < ds.length := by
   rw [Nat.div_lt_iff_lt_mul hp]; omega
 have hr := h.2 (j / e.size) _ (List.getElem?_eq_getElem hjd)
 refine e.one hr _ ?_
 have hm : j % e.size < e.size := Nat.mod_lt _ hp
 have hj2 : j / e.size * e.size + j % e.size = j := Nat.div_add_mod' j e.size
 rw [List.mem_iff_getElem?]
 refine ⟨j % e.size, ?_⟩
 rw [List.getElem?_take, if_pos hm, List.getElem?_drop, hj2, List.getElem?_eq_getElem hj]
theorem RdE.single (h : e.rel A w cs d) : RdE e A w cs [d] := by
 refine ⟨by rw [e.len h]; simp, fun j x hx => ?_⟩
 match j, hx with
 | 0, hx =>
   simp at hx
   subst hx
   have : (cs.drop (0 * e.size)).take e.size = cs := by
     rw [Nat.zero_mul, List.drop_zero, List.take_of_length_le (by rw [e.len h]; exact Nat.le_refl _)]
   rw [this]; exact h
theorem RdE.append (h : RdE e A w us ds) (h2 : RdE e A w news ds2) : RdE e A w (us ++ news) (ds ++ ds2) := by
 refine ⟨by rw [List.length_append, List.length_append, h.1, h2.1, Nat.add_mul], fun j x hx => ?_⟩
 rcases Nat.lt_or_ge j ds.length with hj | hj
 · rw [List.getElem?_append_left hj] at hx
   have hle : (j + 1) * e.size ≤ us.length := by rw [h.1]; exact Nat.mul_le_mul_right _ hj
   rw [Nat.add_mul, Nat.one_mul] at hle
   rw [List.drop_append_of_le_length (by omega), List.take_append_of_le_length (by rw [List.length_drop]; omega)]
   exact h.2 j x hx
 · rw [List.getElem?_append_right hj] at hx
   have : (us ++ news).drop (j * e.size) = news.drop ((j - ds.length) * e.size) := by
     have hj2 : j * e.size = us.length + (j - ds.length) * e.size := by
       rw [h.1, ← Nat.add_mul]; congr 1; omega
     rw [hj2, List.drop_append]
     have : us.length + (j - ds.length) * e.size - us.length = (j - ds.length) * e.size := by omega
     rw [this, List.drop_eq_nil_of_le (by omega), List.nil_append]
   rw [this]
   exact h2.2 _ x hx
theorem RdE.take (h : RdE e A w us ds) (k : Nat) (hk : k ≤ ds.length) : RdE e A w (us.take (k * e.size)) (ds.take k) := by
 have hle : k * e.size ≤ us.length := by rw [h.1]; exact Nat.mul_le_mul_right _ hk
 refine ⟨by rw [List.length_take, List.length_take, Nat.min_eq_left hle, Nat.min_eq_left hk], fun j x hx => ?_⟩
 rw [List.getElem?_take] at hx
 split at hx
 · rename_i hj
   have := h.2 j x hx
   have hle2 : (j + 1) * e.size ≤ k * e.size := Nat.mul_le_mul_right _ hj
   rw [Nat.add_mul, Nat.one_mul] at hle2
   have e1 : ((us.take (k * e.size)).drop (j * e.size)).take e.size = (us.drop (j * e.size)).take e.size := by
     rw [List.drop_take, List.take_take, Nat.min_eq_left (by omega)]
   rw [e1]; exact this
 · cases hx
theorem RdE.drop (h : RdE e A w us ds) (k : Nat) : RdE e A w (us.drop (k * e.size)) (ds.drop k) := by
 refine ⟨by rw [List.length_drop, List.length_drop, h.1, Nat.sub_mul], fun j x hx => ?_⟩
 rw [List.getElem?_drop] at hx
 have := h.2 _ x hx
 rw [List.drop_drop, ← Nat.add_mul]
 exact this
theorem RdE.set (h : RdE e A w us ds) {j : Nat} (hj : j < ds.length) (hr : e.rel A w cs d) : RdE e A w (us.take (j * e.size) ++ cs ++ us.drop ((j + 1) * e.size)) (ds.set j d) := by
 have hs : ds.set j d = (ds.take j ++ [d]) ++ ds.drop (j + 1) := by
   rw [List.set_eq_take_append_cons_drop, if_pos hj]; simp
 rw [hs]
 exact ((h.take j (by omega)).append (RdE.single hr)).append (h.drop (j + 1))
/-- a slice whose elements read so (the elements' own memory lies in A) -/
def RdY (e : Rep D) (A : Nat → Prop) (w : World) (v : Value) (ds : List D) : Prop :=
 ∃ us, RdN w e.size v ds.length us ∧ RdE e A w us ds
/-- the same, and its row lies in A too -/
def RdS (e : Rep D) (A : Nat → Prop) (w : World) (v : Value) (ds : List D) : Prop :=
 RdY e A w v ds ∧ (0 < ds.length → ∀ k, v.ownBlock = some k → A k)
theorem RdS.y (h : RdS e A w v ds) : RdY e A w v ds := h.1
theorem RdY.shape (h : RdY e A w v ds) : ∃ Ad c, v = .slice Ad ds.length c ∧ ds.length ≤ c ∧ c ≤ 9223372036854775807 := by
 obtain ⟨us, hr, _⟩ := h
 exact hr.shape
theorem RdS.shape (h : RdS e A w v ds) : ∃ Ad c, v = .slice Ad ds.length c ∧ ds.length ≤ c ∧ c ≤ 9223372036854775807 := h.1.shape
theorem RdN.lt_own {size n : Nat} {xs : List Value} (h : RdN w size v n xs) (hn : 0 < n) (hs : 0 < size) : ∀ k, v.ownBlock = some k → k < w.heap.size := by
 obtain ⟨b, off, c, rfl, _, _, hc⟩ := h.form hn
 intro k hk
 have : k = b := by simpa [Value.ownBlock, eq_comm] using hk
 subst this
 have hl : 0 < xs.length := by rw [h.1]; exact Nat.mul_pos hn hs
 exact World.block_lt_of_cell? w _ (hc 0 _ (List.getElem?_eq_getElem hl))
theorem RdN.keepB {size n : Nat} {xs : List Value} (h : RdN w size v n xs) (hk : ∀ k, k < w.heap.size → 0 < n → v.ownBlock = some k → w'.heap[k]? = w.heap[k]?) : RdN w' size v n xs := by
 obtain ⟨hl, Ad, c, rfl, hnc, hm, hA⟩ := h
 refine ⟨hl, Ad, c, rfl, hnc, hm, ?_⟩
 rcases hA with hA | ⟨b, off, rfl, hc⟩
 · exact .inl hA
 · refine .inr ⟨b, off, rfl, fun j u hu => ?_⟩
   have h1 := hc j u hu
   have hn : 0 < n := by
     rcases Nat.eq_zero_or_pos n with rfl | h0
     · rw [List.getElem?_eq_none (by omega)] at hu; cases hu
     · exact h0
   rw [World.cell?_of_block (a := ⟨b, off + j, none⟩) (hk b (World.block_lt_of_cell? w _ h1) hn rfl)]
   exact h1
theorem RdS.keep (h : RdS e A w v ds) (hk : ∀ k, k < w.heap.size → A k → B k ∧ w'.heap[k]? = w.heap[k]?) : RdS e B w' v ds := by
 obtain ⟨⟨us, hr, he⟩, ho⟩ := h
 refine ⟨⟨us, hr.keepB fun k hlt hn hb => (hk k hlt (ho hn k hb)).2, he.keep hk⟩, fun hn k hb => ?_⟩
 exact (hk k (hr.lt_own hn e.pos k hb) (ho hn k hb)).1
theorem RdS.ext (h : RdS e A w v ds) (hE : Ext w w') : RdS e A w' v ds := h.keep fun k hk ha => ⟨ha, hE.block k hk⟩
theorem RdS.mod (h : RdS e A w v ds) (hM : Mod S w w') (hS : ∀ k, k < w.heap.size → A k → ¬ S k) : RdS e A w' v ds := h.keep fun k hk ha => ⟨ha, hM.block k hk (hS k hk ha)⟩
theorem RdS.mono (h : RdS e A w v ds) (hS : ∀ k, k < w.heap.size → A k → B k) : RdS e B w v ds := h.keep fun k hk ha => ⟨hS k hk ha, rfl⟩
theorem RdS.alloc (h : RdS e A w v ds) (o : Obj) : RdS e A (w.alloc o) v ds := h.ext ((Ext.refl w).alloc o)
/-- all that it reads was there when it was read -/
theorem RdS.lt (h : RdS e A w v ds) : RdS e (fun k => A k ∧ k < w.heap.size) w v ds := h.mono fun _ hk ha => ⟨ha, hk⟩
theorem RdY.ext (h : RdY e A w v ds) (hE : Ext w w') : RdY e A w' v ds := by
 obtain ⟨us, hr, he⟩ := h
 exact ⟨us, hr.ext hE, he.keep fun k hk ha => ⟨ha, hE.block k hk⟩⟩
theorem RdY.alloc (h : RdY e A w v ds) (o : Obj) : RdY e A (w.alloc o) v ds := h.ext ((Ext.refl w).alloc o)
theorem RdY.lt (h : RdY e A w v ds) : RdY e (fun k => A k ∧ k < w.heap.size) w v ds := by
 obtain ⟨us, hr, he⟩ := h
 exact ⟨us, hr, he.keep fun k hk ha => ⟨⟨ha, hk⟩, rfl⟩⟩
theorem RdY.mono (h : RdY e A w v ds) (hS : ∀ k, k < w.heap.size → A k → B k) : RdY e B w v ds := by
 obtain ⟨us, hr, he⟩ := h
 exact ⟨us, hr, he.keep fun k hk ha => ⟨hS k hk ha, rfl⟩⟩
theorem RdS.nil (e : Rep D) (A : Nat → Prop) (w : World) : RdS e A w (.slice none 0 0) [] := ⟨⟨[], RdN.nil _ _, RdE.nil _ _ _⟩, fun h => absurd h (by simp)⟩
/-- a slice as one cell -/
def Rep.sl (e : Rep D) : Rep (List D) where
 size := 1
 pos := by decide
 rel := fun A w cs ds => ∃ v, cs = [v] ∧ RdS e A w v ds
 len := fun ⟨v, h, _⟩ => by rw [h]; rfl
 one := fun ⟨v, h, h2⟩ u hu => by
   obtain ⟨Ad, c, rfl, _⟩ := h2.shape
   rw [h] at hu; simp at hu; subst hu; rfl
 keep := fun ⟨v, h, h2⟩ hk => ⟨v, h, h2.keep hk⟩
/-! ## ints -/
theorem RdE.ints {k : IntKind} {l : List Int} : RdE (Rep.int k) A w (l.map (Value.int k)) l := by
 refine ⟨by simp [Rep.int], fun j x hx => ?_⟩
 show ((l.map (Value.int k)).drop (j * 1)).take 1 = [.int k x]
 rw [Nat.mul_one, ← List.map_drop, ← List.map_take, List.take_one, List.head?_drop, hx]; rfl
theorem RdE.ints_eq {k : IntKind} {l : List Int} (h : RdE (Rep.int k) A w us l) : us = l.map (Value.int k) := by
 apply List.ext_getElem?
 intro j
 have hl : us.length = l.length := by simpa [Rep.int] using h.1
 rcases Nat.lt_or_ge j l.length with hj | hj
 · have h2 : ((us.drop (j * 1)).take 1) = [.int k l[j]] := h.2 j _ (List.getElem?_eq_getElem hj)
   rw [Nat.mul_one, List.take_one, List.head?_drop, List.getElem?_eq_getElem (by omega : j < us.length)] at h2
   simp at h2
   rw [List.getElem?_eq_getElem (by omega), h2, List.getElem?_map, List.getElem?_eq_getElem hj]; rfl
 · rw [List.getElem?_eq_none (by omega), List.getElem?_eq_none (by simp; omega)]
theorem RI.y {k : IntKind} {l : List Int} (h : RI k w v l) : RdY (Rep.int k) A w v l := ⟨_, h, RdE.ints⟩
theorem RI.s {k : IntKind} {l : List Int} (h : RI k w v l) : RdS (Rep.int k) (fun _ => True) w v l := ⟨h.y, fun _ _ _ => trivial⟩
theorem RdY.ri {k : IntKind} {l : List Int} (h : RdY (Rep.int k) A w v l) : RI k w v l := by
 obtain ⟨us, hr, he⟩ := h
 rw [RdE.ints_eq he] at hr
 exact hr
theorem RdS.ri {k : IntKind} {l : List Int} (h : RdS (Rep.int k) A w v l) : RI k w v l := h.1.ri
/-! ## one element, and cuts -/
theorem RdY.cells (h : RdY e A w v ds) {j : Nat} (hj : j < ds.length) : ∃ b off c d cs, v = .slice (some ⟨b, off, none⟩) ds.length c ∧ Hid (ds[j]? = some d) ∧ Hid (e.rel A w cs d) ∧ cs.length = e.size ∧
   ∀ i u, cs[i]? = some u → w.cell? ⟨b, off + j * e.size + i, none⟩ = some u := by
 obtain ⟨us, hr, he⟩ := h
 obtain ⟨b, off, c, rfl, _, _, hc⟩ := hr.form (by omega)
 refine ⟨b, off, c, _, _, rfl, List.getElem?_eq_getElem hj, he.2 j _ (List.getElem?_eq_getElem hj), e.len (he.2 j _ (List.getElem?_eq_getElem hj)), fun i u hu => ?_⟩
 rw [List.getElem?_take] at hu
 split at hu
 · rw [List.getElem?_drop] at hu
   rw [Nat.add_assoc]
   exact hc _ u hu
 · cases hu
/-- of one cell -/
theorem RdY.at1 {Ad : Option Addr} {n c : Nat} (h : RdY e A w (.slice Ad n c) ds) (hs : e.size = 1) {j : Nat} (hj : j < n) :
   ∃ b off u d, Ad = some ⟨b, off, none⟩ ∧ w.cell? ⟨b, off + j, none⟩ = some u ∧ Hid (ds[j]? = some d) ∧ Hid (e.rel A w [u] d) := by
 obtain ⟨Ad', c', hv, _⟩ := h.shape
 simp only [Value.slice.injEq] at hv
 obtain ⟨rfl, rfl, rfl⟩ := hv
 obtain ⟨b, off, c, d, cs, hv, hd, hr, hl, hc⟩ := h.cells hj
 simp only [Value.slice.injEq] at hv
 rw [hs] at hl hc
 match cs, hl with
 | [u], _ => exact ⟨b, off, u, d, hv.1, by simpa using hc 0 u rfl, hd, hr⟩
theorem RdS.to_ {Ad : Option Addr} {n c : Nat} (h : RdS e A w (.slice Ad n c) ds) {k : Nat} (hk : k ≤ n) : RdS e A w (.slice Ad k c) (ds.take k) := by
 obtain ⟨Ad', c', hv, _⟩ := h.shape
 simp only [Value.slice.injEq] at hv
 obtain ⟨rfl, rfl, rfl⟩ := hv
 obtain ⟨⟨us, hr, he⟩, ho⟩ := h
 have hl : (ds.take k).length = k := by rw [List.length_take]; omega
 refine ⟨⟨us.take (k * e.size), by rw [hl]; exact hr.to_ hk, he.take k hk⟩, fun hn b hb => ho (by omega) b (by cases Ad with | none => simp [Value.ownBlock] at hb | some a => exact hb)⟩
theorem RdS.cap {Ad : Option Addr} {n c c' : Nat} (h : RdS e A w (.slice Ad n c) ds) (h1 : n ≤ c') (h2 : c' ≤ c) : RdS e A w (.slice Ad n c') ds := by
 obtain ⟨⟨us, ⟨hl, A', k, hv, hnc, hm, hA⟩, he⟩, ho⟩ := h
 simp only [Value.slice.injEq] at hv
 obtain ⟨rfl, rfl, rfl⟩ := hv
 refine ⟨⟨us, ⟨hl, Ad, c', rfl, h1, by omega, ?_⟩, he⟩, fun hn b hb => ho hn b (by cases Ad with | none => simp [Value.ownBlock] at hb | some a => exact hb)⟩
 rcases hA with hA | hA
 · exact .inl (by omega)
 · exact .inr hA
theorem RdS.from_ {Ad : Option Addr} {n c : Nat} (h : RdS e A w (.slice Ad n c) ds) {k : Nat} (hk : k ≤ n) :
   RdS e A w (.slice (if c = k then Ad else Ad.map (·.add (k * e.size))) (n - k) (c - k)) (ds.drop k) := by
 obtain ⟨Ad', c', hv, _⟩ := h.shape
 simp only [Value.slice.injEq] at hv
 obtain ⟨rfl, rfl, rfl⟩ := hv
 obtain ⟨⟨us, hr, he⟩, ho⟩ := h
 have hl : (ds.drop k).length = ds.length - k := by rw [List.length_drop]
 refine ⟨⟨us.drop (k * e.size), by rw [hl]; exact hr.from_ hk, he.drop k⟩, fun hn b hb => ho (by omega) b ?_⟩
 split at hb
 · cases Ad
   · simp [Value.ownBlock] at hb
   · exact hb
 · rcases Ad with _ | a
   · simp [Value.ownBlock] at hb
   · simp only [Option.map_some, Value.ownBlock, Option.some.injEq] at hb ⊢
     rw [← hb]; unfold Addr.add; split <;> rfl
end
section
variable {D : Type} {e : Rep D} {T : TypeId} {base base' : Nat} {A B : Nat → Prop} {S : Nat → Prop} {w w' : World} {cs us news : List Value} {d : D} {ds ds2 : List D} {v v' : Value}
/-- a row of the call's own in a block from 'base' on; what its elements read lies in B, and not in the row -/
def OwnS (e : Rep D) (T : TypeId) (base : Nat) (B : Nat → Prop) (w : World) (v : Value) (ds : List D) : Prop :=
 ∃ us, w.ownsRow base T e.size v ds.length us ∧ RdE e (fun k => B k ∧ v.ownBlock ≠ some k) w us ds
theorem OwnS.shape (h : OwnS e T base B w v ds) : ∃ Ad c, v = .slice Ad ds.length c ∧ ds.length ≤ c ∧ c ≤ 9223372036854775807 := by
 obtain ⟨us, ho, _⟩ := h
 exact (RdN.of_own ho).shape
theorem OwnS.row (h : OwnS e T base B w v ds) : ∀ k, v.ownBlock = some k → base ≤ k ∧ k < w.heap.size := by
 obtain ⟨us, ho, _⟩ := h
 exact ho.lt
theorem OwnS.rd (h : OwnS e T base B w v ds) (hA : ∀ k, base ≤ k → A k) (hB : ∀ k, B k → A k) : RdS e A w v ds := by
 obtain ⟨us, ho, he⟩ := h
 exact ⟨⟨us, RdN.of_own ho, he.keep fun k _ hk => ⟨hB k hk.1, rfl⟩⟩, fun _ k hk => hA k (ho.lt k hk).1⟩
theorem OwnS.rdT (h : OwnS e T base B w v ds) : RdS e (fun _ => True) w v ds := h.rd (fun _ _ => trivial) (fun _ _ => trivial)
theorem OwnS.ext (h : OwnS e T base B w v ds) (hE : Ext w w') : OwnS e T base B w' v ds := by
 obtain ⟨us, ho, he⟩ := h
 exact ⟨us, own_ext ho hE, he.keep fun k hk ha => ⟨ha, hE.block k hk⟩⟩
theorem OwnS.y (h : OwnS e T base B w v ds) : RdY e (fun k => B k ∧ v.ownBlock ≠ some k) w v ds := by
 obtain ⟨us, ho, he⟩ := h
 exact ⟨us, RdN.of_own ho, he⟩
theorem OwnS.addr {Ad : Option Addr} {n c : Nat} (h : OwnS e T base B w (.slice Ad n c) ds) (hn : 0 < n) : ∃ g, Ad = some ⟨g, 0, none⟩ ∧ base ≤ g ∧ ∀ o, w.frozen? ⟨g, o, none⟩ = false := by
 obtain ⟨us, ho, _⟩ := h
 have hl := own_len ho
 obtain ⟨g, h1, h2, h3⟩ := own_addr ho (by omega)
 subst h1 h3
 exact ⟨g, rfl, h2, fun o => ho.frozenAt o⟩
/-- a store into a cell of an element -/
theorem OwnS.store {g n c i j : Nat} {x : Value} {d' : D} (h : OwnS e T base B w (.slice (some ⟨g, 0, none⟩) n c) ds) (hj : j < ds.length) (hi : i < e.size)
   (hr : ∀ cs d, ds[j]? = some d → e.rel (fun k => B k ∧ g ≠ k) w cs d → e.rel (fun k => B k ∧ g ≠ k) w (cs.set i x) d') :
   OwnS e T base B (w.setCell ⟨g, j * e.size + i, none⟩ x) (.slice (some ⟨g, 0, none⟩) n c) (ds.set j d') := by
 obtain ⟨us, ho, he⟩ := h
 obtain rfl := own_len ho
 have hg : ∀ k, (Value.slice (some ⟨g, 0, none⟩) ds.length c).ownBlock ≠ some k ↔ g ≠ k := fun k => by simp [Value.ownBlock]
 refine ⟨us.set (j * e.size + i) x, by rw [List.length_set]; exact (ho.stored _ x).1, ?_⟩
 have key : RdE e (fun k => B k ∧ g ≠ k) w (us.set (j * e.size + i) x) (ds.set j d') := by
   refine ⟨by rw [List.length_set, List.length_set]; exact he.1, fun m d hd => ?_⟩
   by_cases hm : j = m
   · subst hm
     rw [List.getElem?_set_self hj] at hd
     cases hd
     have e1 : ((us.set (j * e.size + i) x).drop (j * e.size)).take e.size = (((us.drop (j * e.size)).take e.size).set i x) := by
       rw [List.drop_set, if_neg (by omega), Nat.add_sub_cancel_left, List.take_set]
     rw [e1]
     exact hr _ _ (List.getElem?_eq_getElem hj) (e.keep (he.2 j _ (List.getElem?_eq_getElem hj)) fun k _ hk => ⟨⟨hk.1, (hg k).1 hk.2⟩, rfl⟩)
   · rw [List.getElem?_set_ne hm] at hd
     have e1 : ((us.set (j * e.size + i) x).drop (m * e.size)).take e.size = (us.drop (m * e.size)).take e.size := by
       rcases Nat.lt_or_gt_of_ne hm with h1 | h1
       · have : (j + 1) * e.size ≤ m * e.size := Nat.mul_le_mul_right _ h1
         rw [Nat.add_mul, Nat.one_mul] at this
         rw [List.drop_set, if_pos (by omega)]
       · have : (m + 1) * e.size ≤ j * e.size := Nat.mul_le_mul_right _ h1
         rw [Nat.add_mul, Nat.one_mul] at this
         rw [List.drop_set, if_neg (by omega), List.take_set_of_le (by omega)]
     rw [e1]
     exact e.keep (he.2 m d hd) fun k _ hk => ⟨⟨hk.1, (hg k).1 hk.2⟩, rfl⟩
 exact key.keep fun k _ hk => ⟨⟨hk.1, (hg k).2 hk.2⟩, Below.heap_setCell w ⟨g, j * e.size + i, none⟩ x k (Ne.symm hk.2)⟩
theorem OwnS.alloc (h : OwnS e T base B w v ds) (o : Obj) : OwnS e T base B (w.alloc o) v ds := h.ext ((Ext.refl w).alloc o)
theorem OwnS.mod (h : OwnS e T base B w v ds) (hM : Mod S w w') (h1 : ∀ k, v.ownBlock = some k → ¬ S k) (h2 : ∀ k, k < w.heap.size → B k → ¬ S k) : OwnS e T base B w' v ds := by
 obtain ⟨us, ho, he⟩ := h
 exact ⟨us, own_mod ho hM h1, he.keep fun k hk ha => ⟨ha, hM.block k hk (h2 k hk ha.1)⟩⟩
theorem OwnS.lower (h : OwnS e T base B w v ds) (hb : base' ≤ base) : OwnS e T base' B w v ds := by
 obtain ⟨us, ho, he⟩ := h
 exact ⟨us, own_base ho hb, he⟩
theorem OwnS.mono (h : OwnS e T base A w v ds) (hB : ∀ k, k < w.heap.size → A k → B k) : OwnS e T base B w v ds := by
 obtain ⟨us, ho, he⟩ := h
 exact ⟨us, ho, he.keep fun k hk ha => ⟨⟨hB k hk ha.1, ha.2⟩, rfl⟩⟩
theorem OwnS.nil (e : Rep D) (T : TypeId) (base : Nat) (B : Nat → Prop) (w : World) : OwnS e T base B w (.slice none 0 0) [] := ⟨[], World.ownsRow_nil _ _ _ _, RdE.nil _ _ _⟩
theorem OwnS.empty (e : Rep D) (T : TypeId) {base n : Nat} (B : Nat → Prop) (hn : w.heap.size = n) (hb : base ≤ n) : OwnS e T base B (w.alloc (.cells #[] T)) (.slice (some ⟨n, 0, none⟩) 0 0) [] :=
 ⟨[], own_empty hn base T e.size hb, RdE.nil _ _ _⟩
theorem OwnS.emptyB (e : Rep D) {n : Nat} (B : Nat → Prop) (h : Blk w n T #[]) (hb : base ≤ n) : OwnS e T base B w (.slice (some ⟨n, 0, none⟩) 0 0) [] :=
 ⟨[], ⟨by simp, .inr ⟨_, _, #[], rfl, hb, h, Nat.le_refl _, Nat.zero_le _, by simp, by simp⟩⟩, RdE.nil _ _ _⟩
theorem OwnS.litB {n m : Nat} (h : RdE e A w cs ds) (hb : Blk w n T cs.toArray) (hA : ∀ k, k < w.heap.size → A k → B k ∧ k ≠ n) (hbase : base ≤ n) (hm : ds.length = m) (hx : m ≤ 1000000) : OwnS e T base B w (.slice (some ⟨n, 0, none⟩) m m) ds := by
 subst hm
 refine ⟨cs, ⟨h.1, .inr ⟨n, ds.length, cs.toArray, rfl, hbase, hb, Nat.le_refl _, by unfold maxLen; omega, by simpa using h.1, ?_⟩⟩, h.keep fun k hk ha => ⟨⟨(hA k hk ha).1, fun h => ?_⟩, rfl⟩⟩
 · rw [List.take_of_length_le (by rw [h.1]; exact Nat.le_refl _)]
 · simp only [Value.ownBlock, Option.some.injEq] at h
   exact (hA k hk ha).2 h.symm
theorem OwnS.of_ints {k : IntKind} {l : List Int} (h : w.ownsRow base T 1 v l.length (l.map (Value.int k))) : OwnS (Rep.int k) T base B w v l := ⟨_, h, RdE.ints⟩
theorem OwnS.ints {k : IntKind} {l : List Int} (h : OwnS (Rep.int k) T base B w v l) : w.ownsRow base T 1 v l.length (l.map (Value.int k)) := by
 obtain ⟨us, ho, he⟩ := h
 rw [RdE.ints_eq he] at ho
 exact ho
/-- what more elements behind it make of it -/
theorem OwnS.app {us : List Value} (he : RdE e (fun k => B k ∧ v.ownBlock ≠ some k) w us ds) (h2 : RdE e A w news ds2) (hA : ∀ k, k < w.heap.size → A k → B k ∧ v.ownBlock ≠ some k) (ho : w'.ownsRow base T e.size v' (ds.length + ds2.length) (us ++ news))
   (hg : w.grownBy w' v.ownBlock) (hb : v'.ownBlock = v.ownBlock ∨ v'.ownBlock = some w.heap.size) : OwnS e T base B w' v' (ds ++ ds2) := by
 refine ⟨us ++ news, by rw [List.length_append]; exact ho, ?_⟩
 refine RdE.keep (he.append (h2.keep fun k hk ha => ⟨hA k hk ha, rfl⟩)) fun k hk ha => ⟨⟨ha.1, ?_⟩, hg.block k hk (Ne.symm ha.2)⟩
 rcases hb with hb | hb
 · rw [hb]; exact ha.2
 · rw [hb]; intro h; cases h; omega
theorem Blk.drew {g : Nat} {cs : Array Value} (h : Blk w g T cs) : Blk w.drew g T cs := h
theorem RdY.singleB (h : e.rel A w cs d) {n : Nat} {t : TypeId} (hn : Blk w n t cs.toArray) : RdY e A w (.slice (some ⟨n, 0, none⟩) 1 1) [d] := by
 refine ⟨cs, ?_, RdE.single h⟩
 refine ⟨by rw [e.len h]; simp, _, _, rfl, Nat.le_refl _, by simp [maxLen], .inr ⟨_, _, rfl, fun j u hu => ?_⟩⟩
 have := hn.cell (0 + j)
 rw [this, Nat.zero_add]
 simpa using hu
theorem grown_mod (hg : w.grownBy w' v.ownBlock) : Mod (fun k => v.ownBlock = some k) w w' :=
 ⟨hg.os, hg.tape, hg.output, hg.size, fun k hk hn => hg.block k hk fun h => hn h.symm⟩
variable {P : Program} {z : Value} {bytes : Nat} {t : TypeId}
/-- append, whatever is appended, onto a row of the call's own -/
theorem wp_app {o : Oper} {a : Act} {K : Act → World → Prop} {Q : Exit → Act → World → Prop} (s x : Operand)
   (ho : o.op = .call { callee := .builtin .append, args := #[s, x], argTypes := #[t, t] })
   (ht : P.underlying t = some (.slice T)) (hi : (P.info? T).map (fun i => (i.zero, i.size, i.bytes)) = some (some z, e.size, bytes)) (hz : z.cells.size = e.size)
   (hown : OwnS e T base B w v ds) (hs : a.eval s = v) {y : Value} (hr : RdY e A w y ds2) (hx : a.eval x = y) (hA : ∀ k, k < w.heap.size → A k → B k ∧ v.ownBlock ≠ some k)
   {N : Nat} (hN : ds.length + ds2.length = N) (h63 : N ≤ maxLen) (hbytes : N * bytes ≤ 140737488355328) (hbase : base ≤ w.heap.size)
   (h : ∀ Ad c w', OwnS e T base B w' (.slice Ad N c) (ds ++ ds2) → Mod (fun k => v.ownBlock = some k) w w' → Below base w w' → K (a.put o.dst (.slice Ad N c)) w') : o.wp P a w K Q := by
 subst hN
 obtain ⟨us, hus, he⟩ := hown
 obtain ⟨news, hn, hne⟩ := hr
 obtain ⟨i0, hi0, hz0, hz1, hz2⟩ := info_parts hi
 refine wp_append_rd w s x t ho base T i0 z e.size bytes ht hi0 hz0 hz1 hz2 hz e.pos v ds.length us hs hus y ds2.length news hx hn hne.one h63 hbytes hbase fun v' w' h1 h2 h3 => ?_
 obtain ⟨Ad, c, rfl⟩ := own_shape h1
 exact h Ad c w' (OwnS.app he hne hA h1 h2 h3) (grown_mod h2) ((Below.refl _ _).grown h2 hbase fun k hk => (hus.lt k hk).1)
theorem wpList_app {ops : Array Oper} {rest : List Oper} {o : Oper} {a : Act} {Q : Exit → Act → World → Prop} (hgd : o.guard = none) (s x : Operand)
   (ho : o.op = .call { callee := .builtin .append, args := #[s, x], argTypes := #[t, t] })
   (ht : P.underlying t = some (.slice T)) (hi : (P.info? T).map (fun i => (i.zero, i.size, i.bytes)) = some (some z, e.size, bytes)) (hz : z.cells.size = e.size)
   (hown : OwnS e T base B w v ds) (hs : a.eval s = v) {y : Value} (hr : RdY e A w y ds2) (hx : a.eval x = y) (hA : ∀ k, k < w.heap.size → A k → B k ∧ v.ownBlock ≠ some k)
   {N : Nat} (hN : ds.length + ds2.length = N) (h63 : N ≤ maxLen) (hbytes : N * bytes ≤ 140737488355328) (hbase : base ≤ w.heap.size)
   (h : ∀ Ad c w', OwnS e T base B w' (.slice Ad N c) (ds ++ ds2) → Mod (fun k => v.ownBlock = some k) w w' → Below base w w' → wpList P ops Q rest (a.put o.dst (.slice Ad N c)) w') : wpList P ops Q (o :: rest) a w :=
 wpList_plain hgd fun _ hK => wp_app s x ho ht hi hz hown hs hr hx hA hN h63 hbytes hbase fun Ad c w' h1 h2 h3 => hK _ _ (h Ad c w' h1 h2 h3)
theorem step_app {ops : Array Oper} {o : Oper} {a : Act} {K : Act → World → Prop} {Q : Exit → Act → World → Prop} {E : Prop} (hgd : o.guard = none) (s x : Operand)
   (ho : o.op = .call { callee := .builtin .append, args := #[s, x], argTypes := #[t, t] })
   (ht : P.underlying t = some (.slice T)) (hi : (P.info? T).map (fun i => (i.zero, i.size, i.bytes)) = some (some z, e.size, bytes)) (hz : z.cells.size = e.size)
   (hown : OwnS e T base B w v ds) (hs : a.eval s = v) {y : Value} (hr : RdY e A w y ds2) (hx : a.eval x = y) (hA : ∀ k, k < w.heap.size → A k → B k ∧ v.ownBlock ≠ some k)
   {N : Nat} (hN : ds.length + ds2.length = N) (h63 : N ≤ maxLen) (hbytes : N * bytes ≤ 140737488355328) (hbase : base ≤ w.heap.size)
   (h : ∀ Ad c w', OwnS e T base B w' (.slice Ad N c) (ds ++ ds2) → Mod (fun k => v.ownBlock = some k) w w' → Below base w w' → K (a.put o.dst (.slice Ad N c)) w') :
   if Region.wanted o (yielded ops a.tmps) = true then Oper.wp P o a w K Q else E := by
 have hw : Region.wanted o (yielded ops a.tmps) = true := by simp [Region.wanted, hgd]
 rw [if_pos hw]
 exact wp_app s x ho ht hi hz hown hs hr hx hA hN h63 hbytes hbase h
end
/-- a guarded operation that is wanted -/
theorem wpList_openG {P : Program} {ops : Array Oper} {Q : Exit → Act → World → Prop} {a : Act} {w : World} {rest : List Oper} {o : Oper} {j : Nat} {b : Bool} (hg : o.guard = some (j, b)) (hj : yielded ops a.tmps j = some b)
   (h : wpList P ops Q ({ o with guard := none } :: rest) a w) : wpList P ops Q (o :: rest) a w := by
 simp only [wpList, Region.wanted, hg, hj, beq_self_eq_true, if_true] at h ⊢
 exact h
/-- bytes as a text -/
theorem RI.str {P : Program} {src dst e : TypeId} {w : World} {A : Option Addr} {n c : Nat} {l : List Int} (hs : P.underlying src = some (.slice e)) (he : P.underlying e = some (.int .u8)) (hd : P.underlying dst = some .string)
   (h : RI .u8 w (.slice A n c) l) : (convert src dst (.slice A n c)).run P w = .ok (.string (strOfNums l)) w := by
 obtain ⟨_, A', c', hv, hnc, hm, hA⟩ := h
 simp only [Value.slice.injEq] at hv
 obtain ⟨rfl, rfl, rfl⟩ := hv
 rcases hA with rfl | ⟨b, off, rfl, hc⟩
 · obtain rfl : l = [] := List.eq_nil_of_length_eq_zero (by omega)
   rcases A with _ | a
   · rw [run_convert_bytes_nil w src e hs he _ _ dst hd]; rfl
   · rw [run_convert_bytes_string w src dst e _ _ _ hs he hd, run_bytesToString w a _ _ [] (by simp [loadCells, loadCellsFrom])]; rfl
 · refine run_convert_bytes_arg w src e hs he b off _ _ l rfl (fun i hi => ?_) dst hd
   rw [hc i (.int .u8 (l.getD i 0))]
   rw [List.getElem?_map, List.getElem?_eq_getElem hi, List.getD_eq_getElem?_getD, List.getElem?_eq_getElem hi]; rfl
/-- a literal slice -/
theorem RdS.litB {D : Type} {e : Rep D} {A : Nat → Prop} {w : World} {cs : List Value} {ds : List D} {n m : Nat} {t : TypeId} (h : RdE e A w cs ds) (hb : Blk w n t cs.toArray) (hm : ds.length = m) (hx : m ≤ 1000000) :
   RdS e (fun k => A k ∨ k = n) w (.slice (some ⟨n, 0, none⟩) m m) ds := by
 subst hm
 refine ⟨⟨cs, ⟨h.1, _, _, rfl, Nat.le_refl _, by unfold maxLen; omega, .inr ⟨_, _, rfl, fun j u hu => ?_⟩⟩, h.keep fun k _ hk => ⟨.inl hk, rfl⟩⟩, fun _ k hk => .inr (by simpa [Value.ownBlock, eq_comm] using hk)⟩
 rw [hb.cell (0 + j), Nat.zero_add]
 simpa using hu
end Go.Kb
namespace Go.Kb
open Go.RowKit
theorem below_setRow {B g : Nat} {a w : World} (h : Below B a w) (hp : B ≤ g) (cs : Array Value) : Below B a (w.setRow g cs) :=
 h.trans ⟨rfl, rfl, rfl, by simp, fun k hk => setRow_other w g k cs (by omega)⟩
theorem Blk.setRow {w : World} {g : Nat} {t : TypeId} {cs : Array Value} (h : Blk w g t cs) (cs' : Array Value) : Blk (w.setRow g cs') g t cs' := setRow_heap w g cs cs' t (0, 0) h
theorem wpList_store_A {P : Program} {ops : Array Oper} {rest : List Oper} {o : Oper} {a : Act} {w : World} {Q : Exit → Act → World → Prop} (hgd : o.guard = none) (ty : TypeId) (x y : Operand) (ho : o.op = .store ty x y)
   (g : Nat) (cells : Array Value) (hx : a.eval x = .pointer (some ⟨g, 0, none⟩)) (hy : a.eval y = .agg cells)
   (t : TypeId) (old : Array Value) (hg : Blk w g t old) (hi : (P.info? ty).map (·.size) = some cells.size)
   (hold : old.size = cells.size) (h1 : cells.all (·.oneCell') = true)
   (h : ∀ w', Blk w' g t cells → (∀ (B : Nat) (a : World), Below B a w → B ≤ g → Below B a w') → wpList P ops Q rest (a.put o.dst undef) w') : wpList P ops Q (o :: rest) a w :=
 wpList_store_row hgd ty x y ho g cells hx hy t old hg hi hold h1 (h _ (Blk.setRow hg _) fun _ _ hb hB => below_setRow hb hB _)
theorem yieldsIf_load_row {P : Program} {ops : Array Oper} {S : World → Prop} {op : Oper} {a : Act} (hw : Region.wanted op (yielded ops a.tmps) = true) (ty : TypeId) (x : Operand) (ho : op.op = .load ty x)
   (g : Nat) (hx : a.eval x = .pointer (some ⟨g, 0, none⟩)) (t : TypeId) (cs : Array Value) (fr : Nat × Nat) (d : TypeDesc) (hg : ∀ w, S w → w.heap[g]? = some (.cells cs t fr))
   (hu : P.underlying ty = some d) (hd : (match d with | .struct _ | .array _ _ => true | _ => false) = true) (hi : (P.info? ty).map (·.size) = some cs.size) : YieldsIf P ops S op (.agg cs) a :=
 .inl ⟨hw, fun w hw' => by
   unfold execOp
   simp only [ho, hx, Instr.loadAt, Instr.sureAddr, Sem.run_bind, Sem.run_pure, Result.andThen_ok, run_loadVar_row w g t ty cs fr d (hg w hw') hu hd hi]⟩
theorem yieldsIf_build {P : Program} {ops : Array Oper} {S : World → Prop} {op : Oper} {a : Act} (hw : Region.wanted op (yielded ops a.tmps) = true) (t : TypeId) (parts : Array (Nat × Operand)) (ho : op.op = .build t parts) {L : Array Value}
   (hf : P.built t (parts.map fun (i, x) => (i, a.eval x)).toList = some L) : YieldsIf P ops S op (.agg L) a :=
 .inl ⟨hw, fun w _ => by
   unfold execOp
   simp only [ho, Sem.run_bind, run_build w t _ L hf, Result.andThen_ok]
   rfl⟩
theorem wpList_build_eq {P : Program} {ops : Array Oper} {rest : List Oper} {o : Oper} {a : Act} {w : World} {Q : Exit → Act → World → Prop} (hg : o.guard = none) (t : TypeId) (parts : Array (Nat × Operand)) (ho : o.op = .build t parts) {L : Array Value}
   (hf : P.built t (parts.map fun (i, x) => (i, a.eval x)).toList = some L) (h : wpList P ops Q rest (a.put o.dst (.agg L)) w) : wpList P ops Q (o :: rest) a w := by
 refine wpList_build hg t parts ho (by rw [hf]; rfl) ?_
 rw [hf]
 exact h
theorem wp_store_B {P : Program} {o : Oper} {a : Act} {w : World} {K : Act → World → Prop} {Q : Exit → Act → World → Prop} (ty : TypeId) (x y : Operand) (ho : o.op = .store ty x y)
   (g k : Nat) (hx : a.eval x = .pointer (some ⟨g, k, none⟩)) (u : Value) (hy : a.eval y = u) (h1 : u.oneCell' = true) (hc : u.cells = #[u])
   (t : TypeId) (old : Array Value) (hg : Blk w g t old) (hk : k < old.size) (hi : (P.info? ty).map (·.size) = some 1)
   (h : ∀ w', Blk w' g t (old.setIfInBounds k u) → (∀ (g' : Nat) (t' : TypeId) (c' : Array Value), g' ≠ g → Blk w g' t' c' → Blk w' g' t' c') → (∀ (B : Nat) (a : World), Below B a w → B ≤ g → Below B a w') → K (a.put o.dst undef) w') : o.wp P a w K Q := by
 have hrun : (storeVar ty ⟨g, k, none⟩ u).run P w = .ok () (w.setCell ⟨g, k, none⟩ u) := by
   have hst := run_storeCells_cells (P := P) g k [u] 0 w (fun j hj => by
       have : j = 0 := by simpa using hj
       subst this
       rw [hg.cell, Array.getElem?_eq_getElem (by omega)]
       rfl) (fun j _ => hg.frozen _) (fun v hv => by rw [List.mem_singleton.1 hv]; exact h1)
   cases hq : P.info? ty with
   | none => simp [hq] at hi
   | some i =>
     have hs : i.size = 1 := by simpa [hq] using hi
     simp only [storeVar, sizeOf, typeInfo, hc]
     simp [hq, hs, hst]
     rfl
 unfold Oper.wp execOp
 simp only [ho, hx, hy, Instr.storeAt, Instr.sureAddr, Sem.run_bind, Sem.run_pure, Result.andThen_ok, hrun]
 exact h _ (hg.set_ k u) (fun g' t' c' hne hb => hb.far (p := ⟨g, k, none⟩) hne u) (fun B a hB hl => Below.setCell hB hl u)
theorem wpList_store_B {P : Program} {ops : Array Oper} {rest : List Oper} {o : Oper} {a : Act} {w : World} {Q : Exit → Act → World → Prop} (hgd : o.guard = none) (ty : TypeId) (x y : Operand) (ho : o.op = .store ty x y)
   (g k : Nat) (hx : a.eval x = .pointer (some ⟨g, k, none⟩)) (u : Value) (hy : a.eval y = u) (h1 : u.oneCell' = true) (hc : u.cells = #[u])
   (t : TypeId) (old : Array Value) (hg : Blk w g t old) (hk : k < old.size) (hi : (P.info? ty).map (·.size) = some 1)
   (h : ∀ w', Blk w' g t (old.setIfInBounds k u) → (∀ (g' : Nat) (t' : TypeId) (c' : Array Value), g' ≠ g → Blk w g' t' c' → Blk w' g' t' c') → (∀ (B : Nat) (a : World), Below B a w → B ≤ g → Below B a w') → wpList P ops Q rest (a.put o.dst undef) w') : wpList P ops Q (o :: rest) a w :=
 wpList_plain hgd fun _ hK => wp_store_B ty x y ho g k hx u hy h1 hc t old hg hk hi fun w' h1 h2 h3 => hK _ _ (h w' h1 h2 h3)
theorem results_cell_tmp {P : Program} {fn : Func} {p q : Tmp} {ty : TypeId} (h : fn.results = #[.cell p ty, .tmp q]) (tmps : Array Value) (w : World) (g : Nat) (t : TypeId) (cs : Array Value) (fr : Nat × Nat) (d : TypeDesc)
   (hp : tmps.getD p undef = .pointer (some ⟨g, 0, none⟩)) (v : Value) (hq : tmps.getD q undef = v) (hg : w.heap[g]? = some (.cells cs t fr))
   (hu : P.underlying ty = some d) (hd : (match d with | .struct _ | .array _ _ => true | _ => false) = true) (hi : (P.info? ty).map (·.size) = some cs.size) :
   (results fn tmps).run P w = .ok (.tuple #[.agg cs, v]) w := by
 have hp' : tmps[p]?.getD undef = .pointer (some ⟨g, 0, none⟩) := by simpa using hp
 have hq' : tmps[q]?.getD undef = v := by simpa using hq
 simp [results, h, hp', hq', asAddr, run_loadVar_row w g t ty cs fr d hg hu hd hi]
theorem OwnS.blk {D : Type} {e : Rep D} {T t : TypeId} {base : Nat} {B : Nat → Prop} {w w' : World} {v : Value} {ds : List D} {g : Nat} {cs : Array Value} (h : OwnS e T base B w v ds) (M : Mod (fun k => v.ownBlock = some k) w w') (hb : Blk w g t cs) (hne : T ≠ t) : Blk w' g t cs := by
 obtain ⟨us, ho, _⟩ := h
 exact hb.mod M (own_blk_ne ho hb hne)
end Go.Kb
namespace Go.Proofs.YtmmhcllibpmfnaaGreatDoor
open Go.RowKit Go.Kb
/-- a function value that asks something of an element of many cells -/
def AskG {D : Type} (k : Nat) (bs fs : Array Value) (e : Rep D) (f : D → Bool) (w : World) : Prop :=
 (∀ args w', (callFunc k args).run Tryz.prog w' = .ok (.enter k args) w') ∧ ∀ cs d w', Ext w w' → e.rel (fun _ => True) w' cs d → Calls Tryz.prog k (bs.push (.agg cs.toArray) ++ fs) w' fun e w'' => e = .returned (.bool (f d)) ∧ Ext w' w''
theorem AskG.ext {D : Type} {k : Nat} {bs fs : Array Value} {e : Rep D} {f : D → Bool} {w w' : World} (h : AskG k bs fs e f w) (hE : Ext w w') : AskG k bs fs e f w' := ⟨h.1, fun cs d w2 h2 hr => h.2 cs d w2 (hE.trans h2) hr⟩
def idxG {D : Type} (f : D → Bool) (l : List D) : Int := match l.findIdx? f with | some i => i | none => -1
theorem idxG_none {D : Type} {f : D → Bool} {l : List D} (h : ∀ p ∈ l, f p = false) : idxG f l = -1 := by
 unfold idxG
 rw [List.findIdx?_eq_none_iff.2 h]
theorem idxG_some {D : Type} {f : D → Bool} {l : List D} {m : Nat} {p : D} (hp : l[m]? = some p) (h : ∀ q ∈ l.take m, f q = false) (hf : f p = true) : idxG f l = m := by
 unfold idxG
 have : l.findIdx? f = some m := by
   rw [List.findIdx?_eq_some_iff_getElem]
   obtain ⟨hlt, rfl⟩ := List.getElem?_eq_some_iff.1 hp
   refine ⟨hlt, hf, fun j hj => ?_⟩
   have := h (l[j]'(by omega)) (by rw [List.mem_take_iff_getElem]; exact ⟨j, by omega, rfl⟩)
   simp [this]
 rw [this]
/-- pointers, by the blocks that they lead to -/
def PtrR : Rep Nat where
 size := 1
 pos := by decide
 rel := fun _ _ cs d => cs = [.pointer (some ⟨d, 0, none⟩)]
 len := fun h => by rw [h]; rfl
 one := fun h u hu => by
   rw [h] at hu
   simp at hu
   rw [hu]; rfl
 keep := fun h _ => h
end Go.Proofs.YtmmhcllibpmfnaaGreatDoor
namespace Go.Proofs.YtmmhcllibpmfnaaGreatDoor
open Go.RowKit Go.Kb
set_option maxRecDepth 100000
/-- a channel of which nothing was closed -/
structure Ch where
 (lo re oL oP iL ow : Int)
deriving DecidableEq
abbrev chL (c : Ch) : List Value := [.int .u32 c.lo, .int .u32 c.re, .int .u32 c.oL, .int .u32 c.oP, .int .u32 c.iL, .int .u32 4096, .bool false, .bool false, .bool false, .bool false, .int .i64 c.ow, .bool false]
def ChR : Rep Ch where
 size := 12
 pos := by decide
 rel := fun _ _ cs d => cs = chL d
 len := fun h => by rw [h]; rfl
 one := fun h u hu => by
   rw [h] at hu
   simp at hu
   rcases hu with rfl | rfl | rfl | rfl | rfl | rfl | rfl | rfl | rfl | rfl | rfl | rfl <;> rfl
 keep := fun h _ => h
abbrev ch0 : Array Value := #[.int .u32 0, .int .u32 0, .int .u32 0, .int .u32 0, .int .u32 0, .int .u32 0, .bool false, .bool false, .bool false, .bool false, .int .i64 0, .bool false]
/- slices.Clone at one slice type: slices.Clone[[]parlour/channel.Chan,parlour/channel.Chan] (ch), slice type []channel.Chan, element parlour/channel.Chan, rep ChR -/
theorem info_ch : (Tryz.prog.info? 156).map (fun i => (i.zero, i.size, i.bytes)) = some (some (.agg ch0), (ChR).size, 48) := by kernel_rfl
set_option maxHeartbeats 400000 in
theorem clone_ch {A : Nat → Prop} (v : Value) (ds : List _) (w : World) (h : RdY ChR A w v ds) (hn : ds.length * 48 ≤ 140737488355328) :
   Calls Tryz.prog 47 #[v] w fun e w' => ∃ Ad c, e = .returned (.slice Ad ds.length c) ∧ OwnS ChR 156 w.heap.size (fun k => A k ∧ k < w.heap.size) w' (.slice Ad ds.length c) ds ∧ Ext w w' := by
 obtain ⟨us, ⟨hl, Ad, c, rfl, hnc, hcm, hA⟩, he⟩ := id h
 have H := Lib.hid h
 have HL := Lib.hid hl
 clear h hl he
 have heq := fun u => Lib.run_eql_slice_nil (P := Tryz.prog) u 70 _ Ad ds.length c 0 0 Tryz.underlying70
 rcases Ad with _ | ad
 · have h0 : ds.length = 0 ∧ c = 0 := by
     rcases hA with rfl | ⟨b, off, h0, _⟩
     · omega
     · cases h0
   obtain ⟨h1, rfl⟩ := h0
   obtain rfl : ds = [] := List.eq_nil_of_length_eq_zero h1
   clear hA HL h1
   simp only [List.length_nil] at heq ⊢
   go_enter Tryz.func47, Tryz.ntmps47
   go_wp2
   go_ret
   exact ⟨_, _, rfl, OwnS.nil _ _ _ _ _, zX⟩
 · clear hA
   go_enter Tryz.func47, Tryz.ntmps47
   go_wp2_with ((at_builtin; refine wpList_app (e := ChR) (base := w.heap.size) (B := fun k => A k ∧ k < w.heap.size) (A := fun k => A k ∧ k < w.heap.size) rfl _ _ rfl Tryz.underlying70 info_ch rfl (OwnS.empty _ _ _ rfl (Nat.le_refl _)) rfl (RdY.alloc (RdY.lt H.out) _) rfl (fun k _ hk => ⟨hk, fun h => by have := hk.2; simp [Value.ownBlock] at h; omega⟩) (N := ds.length) (by simp) (by simp [maxLen]; omega) (by omega) (by simp) ?_; intro A1 c1 w1 hown hM hB; simp only [List.nil_append] at hown))
   go_ret
   exact ⟨_, _, rfl, hown, zX⟩
set_option maxRecDepth 100000 in
set_option maxHeartbeats 800000 in
theorem index_ch {A : Nat → Prop} (k : Nat) (bs fs : Array Value) (f : Ch → Bool) (v : Value) (l : List Ch) (w : World) (h : RdY ChR A w v l) (hf : AskG k bs fs ChR f w) :
   Calls Tryz.prog 267 #[v, .func (.func k) bs fs] w fun e w' => e = .returned (.int .i64 (idxG f l)) ∧ Ext w w' := by
 obtain ⟨Ad, c, rfl, hc1, hc2⟩ := h.shape
 have H := Lib.hid (h.mono (B := fun _ => True) fun _ _ _ => trivial)
 have HF := Lib.hid hf
 have hi : ∀ cs : List Value, cs.length = 12 → (Tryz.prog.info? 156).map (·.size) = some cs.length := fun cs hcs => by rw [hcs]; kernel_rfl
 have HI := Lib.hid hi
 obtain ⟨n, hn⟩ : ∃ n, l.length = n := ⟨_, rfl⟩
 rw [hn] at H hc1 ⊢
 have HN := Lib.hid hn
 clear h hf hn hi
 go_enter Tryz.func267, Tryz.ntmps267
 go_wp2
 go_loopw [8] (fun i wr => ∃ m : Nat, m ≤ n ∧ i = .int .i64 m ∧ Hid (∀ p ∈ l.take m, f p = false) ∧ Ext w wr) (fun i _ => n - (intOf i).toNat)
 case atStart => exact ⟨0, Nat.zero_le _, rfl, Lib.hid (by simp), zX⟩
 case round =>
   obtain ⟨m, hm, rfl, HD, hE⟩ := hrel
   by_cases hlt : m < n
   · obtain ⟨b, off, c2, d, cs, hv, hd, hrel2, hlen, hcell⟩ := (H.out.ext hE).cells (j := m) (by rw [HN.out]; exact hlt)
     simp only [Value.slice.injEq] at hv
     obtain ⟨rfl, -, rfl⟩ := hv
     have HCELL := Lib.hid (show wr.rangeAt b (off + m * 12) cs from hcell)
     have HLEN := Lib.hid (show cs.length = 12 from hlen)
     have HA := Lib.hid (HF.out.2 cs d wr hE hrel2.out)
     have HK := HF.out.1
     clear hlen hcell
     cases hp : f d
     · rw [hp] at HA
       have HP := Lib.hid hp
       clear hp
       go_wp2_with (first
         | (refine wpList_load_mid rfl 156 _ rfl b (off + m * 12) rfl cs _ HCELL.out Tryz.underlying156 rfl (HI.out _ HLEN.out) ?_)
         | (refine HA.out.mono ?_; rintro e w2 ⟨rfl, E2⟩))
       go_roundw
       case rel => exact ⟨m + 1, by omega, by go_num, Lib.hid (by
         rw [List.take_add_one, hd.out]
         intro q hq
         rcases List.mem_append.1 hq with h | h
         · exact HD.out q h
         · simp at h; rw [h]; exact HP.out), zX⟩
       case measure => simp [intOf]; omega
     · rw [hp] at HA
       have HP := Lib.hid hp
       clear hp
       go_wp2_with (first
         | (refine wpList_load_mid rfl 156 _ rfl b (off + m * 12) rfl cs _ HCELL.out Tryz.underlying156 rfl (HI.out _ HLEN.out) ?_)
         | (refine HA.out.mono ?_; rintro e w2 ⟨rfl, E2⟩))
       go_ret
       exact ⟨by rw [idxG_some hd.out HD.out HP.out]; rfl, zX⟩
   · go_wp2
     go_ret
     obtain rfl : m = l.length := by have := HN.out; omega
     have := HD.out
     rw [List.take_length] at this
     exact ⟨by rw [idxG_none this]; rfl, zX⟩
theorem enters_find1 (args : Array Value) (w : World) : (callFunc 337 args).run Tryz.prog w = .ok (.enter 337 args) w := by kernel_rfl
set_option maxHeartbeats 400000 in
theorem find1_any (n : Nat) (x : Int) (c : Ch) (w : World) (h : Blk w n 33 #[.int .u32 x]) :
   Calls Tryz.prog 337 #[.agg (chL c).toArray, .pointer (some ⟨n, 0, none⟩)] w fun e w' => e = .returned (.bool (c.lo == x)) ∧ Ext w w' := by
 have c1 := (h.alloc (.cells (chL c).toArray 156)).cell0
 clear h
 go_enter Tryz.func337, Tryz.ntmps337
 go_wp2
 go_ret
 exact ⟨rfl, zX⟩
theorem asks_find {x : Int} {n : Nat} {w : World} (h : Blk w n 33 #[.int .u32 x]) : AskG 337 #[] #[.pointer (some ⟨n, 0, none⟩)] ChR (fun c => c.lo == x) w :=
 ⟨enters_find1, fun cs d w' hE hr => by
   obtain rfl : cs = chL d := hr
   exact find1_any n x d w' (h.ext hE)⟩
/-- the place of a channel -/
def fndC (cs : List Ch) (x : Int) : Int := idxG (fun c => c.lo == x) cs
set_option maxHeartbeats 400000 in
theorem find_ch {A : Nat → Prop} (v : Value) (dd : Bool) (cs : List Ch) (x : Int) (w : World) (h : RdY ChR A w v cs) :
   Calls Tryz.prog 300 #[.agg #[v, .int .u32 4096, .bool dd], .int .u32 x] w fun e w' => e = .returned (.int .i64 (fndC cs x)) ∧ Ext w w' := by
 have H := Lib.hid h
 have B := Lib.hid (Blk.at_ (w := w.alloc (.cells #[v, .int .u32 4096, .bool dd] 72)) (B := w.heap.size + 1) 33 #[.int .u32 x] (by simp))
 have B0 := Lib.hid ((Blk.new w 72 #[v, .int .u32 4096, .bool dd]).alloc (.cells #[.int .u32 x] 33))
 have k0 := B0.out.cell 0
 unfold fndC
 obtain ⟨Ad, c, rfl, -, -⟩ := h.shape
 clear h
 go_enter Tryz.func300, Tryz.ntmps300
 go_wp2_with fail
 refine (index_ch _ _ _ _ _ cs _ (H.out.ext zX) (asks_find B.out)).mono ?_
 rintro e w1 ⟨rfl, E1⟩
 go_wp2
 go_ret
 exact ⟨rfl, zX⟩
end Go.Proofs.YtmmhcllibpmfnaaGreatDoor
namespace Go.Proofs.YtmmhcllibpmfnaaGreatDoor.Fr
open Go.RowKit Go.Kb
set_option maxRecDepth 100000
set_option maxHeartbeats 400000 in
theorem fits_any (n : Int) (w : World) :
   Calls Tryz.prog 51 #[.int .i64 n] w fun e w' => e = .returned (.bool (decide (1 ≤ n ∧ n ≤ 33792))) ∧ w = w' := by
 by_cases h : 1 ≤ n
 · go_enter Tryz.func51, Tryz.ntmps51
   go_wp2
   go_ret
   simp [h]
 · go_enter Tryz.func51, Tryz.ntmps51
   go_wp2
   go_ret
   simp; omega
theorem take_ne {xs ys : List Int} {k : Nat} {x y : Int} (h1 : xs[k]? = some x) (h2 : ys[k]? = some y) (hne : x ≠ y) : xs ≠ ys := by
 rintro rfl
 rw [h1] at h2
 exact hne (Option.some.inj h2)
theorem take_all {xs ys : List Int} {k : Nat} (hk : k ≤ xs.length) (hn : ¬ k < xs.length) (hl : xs.length = ys.length) (ht : xs.take k = ys.take k) : xs = ys := by
 have : k = xs.length := by omega
 subst this
 rw [List.take_of_length_le (Nat.le_refl _), List.take_of_length_le (by omega)] at ht
 exact ht
set_option maxHeartbeats 400000 in
theorem bytes_q (va vb : Value) (xs ys : List Int) (w : World) (ha : RI .u8 w va xs) (hb : RI .u8 w vb ys) :
   Calls Tryz.prog 25 #[va, vb] w fun e w' => e = .returned (.bool (decide (xs = ys))) ∧ Qt w w' := by
 have ha' := ha
 have hb' := hb
 obtain ⟨_, A, c, rfl, hnc, hcm, _⟩ := ha'
 obtain ⟨_, A2, c2, rfl, hnc2, hcm2, _⟩ := hb'
 have Ha := Lib.hid ha
 have Hb := Lib.hid hb
 clear ha hb
 unfold maxLen at hcm hcm2
 by_cases hl : xs.length = ys.length
 · have HL := Lib.hid hl
   have hl2 : ((xs.length : Int) == (ys.length : Int)) = true := by simp [hl]
   have hl3 : ((xs.length : Int) != (ys.length : Int)) = false := by simp [hl]
   clear hl
   go_enter Tryz.func25, Tryz.ntmps25
   go_wp2
   clear hl2 hl3
   go_loopw [13] (fun i wr => ∃ k : Nat, k ≤ xs.length ∧ i = .int .i64 k ∧ xs.take k = ys.take k ∧ Qt w wr) (fun i _ => xs.length - (intOf i).toNat)
   case atStart => exact ⟨0, Nat.zero_le _, rfl, by simp, Qt.refl _⟩
   case round =>
     obtain ⟨k, hk, rfl, htake, hq⟩ := hrel
     have HT := Lib.hid htake
     have Ha := Lib.hid (Ha.out.ext hq.ext)
     have Hb := Lib.hid (Hb.out.ext hq.ext)
     clear htake
     by_cases hlt : k < xs.length
     · have hlt2 : k < ys.length := by have := HL.out; omega
       obtain ⟨b, off, x, rfl, hc1, hx⟩ := Ha.out.icell hlt
       obtain ⟨b2, off2, y, rfl, hc2, hy⟩ := Hb.out.icell hlt2
       by_cases he : x = y
       · subst he
         go_wp2
         go_quiet (fail)
         go_wp2
         go_roundw
         case rel => exact ⟨k + 1, by omega, by go_num, by rw [take_succ_of hx.out, take_succ_of hy.out, HT.out], (by repeat (first | with_reducible exact Qt.refl _ | refine Qt.drewN ?_ _ | assumption | refine Qt.trans ?_ (by assumption)))⟩
         case measure => simp [intOf]; omega
       · have he2 : (x == y) = false := by simp [he]
         have he3 : (x != y) = true := by simp [he]
         go_wp2
         go_quiet (fail)
         go_wp2
         go_ret
         exact ⟨by simp [take_ne hx.out hy.out he], (by repeat (first | with_reducible exact Qt.refl _ | refine Qt.drewN ?_ _ | assumption | refine Qt.trans ?_ (by assumption)))⟩
     · go_wp2
       go_ret
       exact ⟨by simp [take_all hk hlt HL.out HT.out], (by repeat (first | with_reducible exact Qt.refl _ | refine Qt.drewN ?_ _ | assumption | refine Qt.trans ?_ (by assumption)))⟩
 · have hl2 : ((xs.length : Int) == (ys.length : Int)) = false := by simp; omega
   have hl3 : ((xs.length : Int) != (ys.length : Int)) = true := by simp; omega
   have hne : xs ≠ ys := fun h => hl (by rw [h])
   have HN := Lib.hid hne
   clear hne hl
   go_enter Tryz.func25, Tryz.ntmps25
   go_wp2
   go_ret
   exact ⟨by simp [HN.out], Qt.refl _⟩
theorem bytes_any (va vb : Value) (xs ys : List Int) (w : World) (ha : RI .u8 w va xs) (hb : RI .u8 w vb ys) :
   Calls Tryz.prog 25 #[va, vb] w fun e w' => e = .returned (.bool (decide (xs = ys))) ∧ Ext w w' :=
 (bytes_q va vb xs ys w ha hb).mono fun _ _ ⟨he, hq⟩ => ⟨he, hq.ext⟩
/-- four bytes of a number -/
def four (n : Int) : List Int := [n / 16777216, n / 65536 % 256, n / 256 % 256, n % 256]
theorem four_cells {w : World} {v : Value} {a b c d : Int} {r : List Int} (h : RI .u8 w v (a :: b :: c :: d :: r)) :
   ∃ B off n cap, v = .slice (some ⟨B, off, none⟩) n cap ∧ 4 ≤ n ∧ n ≤ maxLen ∧ w.cell? ⟨B, off, none⟩ = some (.int .u8 a) ∧ w.cell? ⟨B, off + 1, none⟩ = some (.int .u8 b) ∧ w.cell? ⟨B, off + 2, none⟩ = some (.int .u8 c) ∧ w.cell? ⟨B, off + 3, none⟩ = some (.int .u8 d) := by
 obtain ⟨B, off, cap, hv, h1, h2, hc⟩ := h.form (by simp)
 exact ⟨B, off, _, cap, hv, by simp, by simpa using Nat.le_trans h1 h2, hc 0 _ rfl, hc 1 _ rfl, hc 2 _ rfl, hc 3 _ rfl⟩
set_option maxHeartbeats 400000 in
theorem length_any (v : Value) (l : List Int) (w : World) (hl : RI .u8 w v l) (hb : Bs l) (h4 : 4 ≤ l.length) :
   Calls Tryz.prog 54 #[v] w fun e w' => e = .returned (.int .i64 (hd4 l)) ∧ Ext w w' := by
 obtain ⟨a, b, c, d, r, rfl⟩ := four_of h4
 have h := hl
 have hB := hb
 clear hl hb h4
 obtain ⟨B, off, n, cap, rfl, h4, hm, c0, c1, c2, c3⟩ := four_cells h
 unfold maxLen at hm
 have ba := hB a (by simp)
 have bb := hB b (by simp)
 have bc := hB c (by simp)
 have bd := hB d (by simp)
 have i0 : (0 : Int) < (n : Int) := by omega
 have i1 : (1 : Int) < (n : Int) := by omega
 have i2 : (2 : Int) < (n : Int) := by omega
 have i3 : (3 : Int) < (n : Int) := by omega
 clear h hB
 go_enter Tryz.func54, Tryz.ntmps54
 go_wp2
 go_quiet (fail)
 go_wp2
 go_ret
 exact ⟨ret_int (by rw [four_join a b c d ba bb bc bd]; simp [hd4]), zX⟩
/- append at one slice type -/
theorem info_u8 : (Tryz.prog.info? 5).map (fun i => (i.zero, i.size, i.bytes)) = some (some (.int .u8 0), 1, 1) := by kernel_rfl
theorem app_u8 (w : World) {ops : Array Oper} {rest : List Oper} {o : Oper} {a : Act} {Q : Exit → Act → World → Prop} (hgd : o.guard = none) (s x : Operand)
   (ho : o.op = .call { callee := .builtin .append, args := #[s, x], argTypes := #[43, 43] })
   (base : Nat) (v : Value) (n : Nat) (xs : List Value) (hs : a.eval s = v) (hown : w.ownsRow base 5 1 v n xs)
   (y : Value) (m : Nat) (news : List Value) (hx : a.eval x = y) (hr : RdN w 1 y m news) (h1 : ∀ u ∈ news, u.oneCell' = true)
   (hb : n + m ≤ 137438953472) (hbase : base ≤ w.heap.size)
   (h : ∀ v' w', w'.ownsRow base 5 1 v' (n + m) (xs ++ news) → Below base w w' → w.grownBy w' v.ownBlock → (v'.ownBlock = v.ownBlock ∨ v'.ownBlock = some w.heap.size) → wpList Tryz.prog ops Q rest (a.put o.dst v') w') : wpList Tryz.prog ops Q (o :: rest) a w := by
 obtain ⟨i0, hi0, hz0, hz1, hz2⟩ := info_parts info_u8
 exact wpList_append_rd w hgd s x _ ho base _ i0 _ 1 1 Tryz.underlying43 hi0 hz0 hz1 hz2 rfl (by omega) v n xs hs hown y m news hx hr h1 (by unfold maxLen; omega) (by omega) hbase
   fun v' w' a1 a2 a3 => h v' w' a1 ((Below.refl _ _).grown a2 hbase fun k hk => (hown.lt k hk).1) a2 a3
set_option maxHeartbeats 400000 in
theorem clone_u8 (v : Value) (n : Nat) (xs : List Value) (w : World) (h : RdN w 1 v n xs) (h1 : ∀ u ∈ xs, u.oneCell' = true) (hn : n ≤ 137438953472) :
   Calls Tryz.prog 55 #[v] w fun e w' => ∃ v', e = .returned v' ∧ w'.ownsRow w.heap.size 5 1 v' n xs ∧ Ext w w' := by
 obtain ⟨hl, A, c, rfl, hnc, hcm, hA⟩ := id h
 have HL := Lib.hid hl
 have H := Lib.hid h
 have H1 := Lib.hid h1
 clear h h1 hl
 have heq := fun u => Lib.run_eql_slice_nil (P := Tryz.prog) u 43 _ A n c 0 0 Tryz.underlying43
 rcases A with _ | ad
 · have h0 : n = 0 ∧ c = 0 := by
     rcases hA with rfl | ⟨b, off, h0, _⟩
     · omega
     · cases h0
   obtain ⟨rfl, rfl⟩ := h0
   obtain rfl : xs = [] := List.eq_nil_of_length_eq_zero (by simpa using HL.out)
   go_enter Tryz.func55, Tryz.ntmps55
   go_wp2
   go_ret
   exact ⟨_, rfl, World.ownsRow_nil _ _ _ _, zX⟩
 · clear hA
   go_enter Tryz.func55, Tryz.ntmps55
   go_wp2_with ((at_builtin; refine app_u8 _ rfl _ _ rfl w.heap.size _ 0 [] rfl (own_lit w w.heap.size _ #[] (Nat.le_refl _) (Nat.zero_le _)) _ n xs rfl (H.out.alloc _) H1.out (by omega) (by simp) ?_; intro v1 w1 hown hB hg hat))
   go_ret
   exact ⟨_, rfl, by simpa using hown, zX⟩
end Go.Proofs.YtmmhcllibpmfnaaGreatDoor.Fr
namespace Go.Kb.Frame
open Go.Kb
def num4 (a b c d : Int) : Int := a * 16777216 + b * 65536 + c * 256 + d
def feedGo : Nat → List Int → List (List Int) × Option (List Int)
 | f + 1, a :: b :: c :: d :: t =>
   if 1 ≤ num4 a b c d ∧ num4 a b c d ≤ 33792 then
     if (t.length : Int) < num4 a b c d then ([], some (a :: b :: c :: d :: t))
     else (t.take (num4 a b c d).toNat :: (feedGo f (t.drop (num4 a b c d).toNat)).1, (feedGo f (t.drop (num4 a b c d).toNat)).2)
   else ([], none)
 | _, r => ([], some r)
def feed (r : List Int) : List (List Int) × Option (List Int) := feedGo r.length r
theorem feedGo_fuel : ∀ (f g : Nat) (r : List Int), r.length ≤ f → r.length ≤ g → feedGo f r = feedGo g r := by
 intro f
 induction f with
 | zero =>
   intro g r h _
   have : r = [] := List.eq_nil_of_length_eq_zero (by omega)
   subst this
   cases g <;> rfl
 | succ f ih =>
   intro g r hf hg
   match r, g with
   | [], g => cases g <;> rfl
   | [_], g => cases g <;> rfl
   | [_, _], g => cases g <;> rfl
   | [_, _, _], g => cases g <;> rfl
   | a :: b :: c :: d :: t, 0 => simp at hg
   | a :: b :: c :: d :: t, g + 1 =>
     simp only [List.length_cons] at hf hg
     simp only [feedGo]
     rw [ih g (t.drop (num4 a b c d).toNat) (by rw [List.length_drop]; omega) (by rw [List.length_drop]; omega)]
theorem feed_short {r : List Int} (h : r.length < 4) : feed r = ([], some r) := by
 match r, h with
 | [], _ => rfl
 | [_], _ => rfl
 | [_, _], _ => rfl
 | [_, _, _], _ => rfl
 | _ :: _ :: _ :: _ :: _, h => simp at h; omega
theorem feed_bad {a b c d : Int} {t : List Int} (h : ¬ (1 ≤ num4 a b c d ∧ num4 a b c d ≤ 33792)) : feed (a :: b :: c :: d :: t) = ([], none) := by
 simp only [feed, List.length_cons, feedGo]
 rw [if_neg h]
theorem feed_wait {a b c d : Int} {t : List Int} (h : 1 ≤ num4 a b c d ∧ num4 a b c d ≤ 33792) (ht : (t.length : Int) < num4 a b c d) : feed (a :: b :: c :: d :: t) = ([], some (a :: b :: c :: d :: t)) := by
 simp only [feed, List.length_cons, feedGo]
 rw [if_pos h, if_pos ht]
theorem feed_more {a b c d : Int} {t : List Int} (h : 1 ≤ num4 a b c d ∧ num4 a b c d ≤ 33792) (ht : ¬ (t.length : Int) < num4 a b c d) :
   feed (a :: b :: c :: d :: t) = (t.take (num4 a b c d).toNat :: (feed (t.drop (num4 a b c d).toNat)).1, (feed (t.drop (num4 a b c d).toNat)).2) := by
 simp only [feed, List.length_cons, feedGo]
 rw [if_pos h, if_neg ht, feedGo_fuel _ (t.drop (num4 a b c d).toNat).length _ (by rw [List.length_drop]; omega) (Nat.le_refl _)]
theorem feed_bad4 {r : List Int} (h4 : 4 ≤ r.length) (h : ¬ (1 ≤ hd4 r ∧ hd4 r ≤ 33792)) : feed r = ([], none) := by
 obtain ⟨a, b, c, d, t, rfl⟩ := four_of h4
 exact feed_bad h
theorem feed_wait4 {r : List Int} (h4 : 4 ≤ r.length) (h : 1 ≤ hd4 r ∧ hd4 r ≤ 33792) (ht : (r.length : Int) < 4 + hd4 r) : feed r = ([], some r) := by
 obtain ⟨a, b, c, d, t, rfl⟩ := four_of h4
 have e : num4 a b c d = hd4 (a :: b :: c :: d :: t) := rfl
 refine feed_wait h ?_
 simp only [List.length_cons] at ht
 omega
theorem feed_more4 {r : List Int} {n : Nat} (h4 : 4 ≤ r.length) (h : 1 ≤ hd4 r ∧ hd4 r ≤ 33792) (hn : hd4 r = n) (ht : 4 + n ≤ r.length) :
   feed r = ((r.drop 4).take n :: (feed (r.drop (4 + n))).1, (feed (r.drop (4 + n))).2) := by
 obtain ⟨a, b, c, d, t, rfl⟩ := four_of h4
 have e : num4 a b c d = n := hn
 simp only [List.length_cons] at ht
 have h' : 1 ≤ num4 a b c d ∧ num4 a b c d ≤ 33792 := h
 rw [feed_more h' (by omega), e]
 have e2 : (a :: b :: c :: d :: t).drop (4 + n) = t.drop n := by rw [Nat.add_comm]; rfl
 rw [e2]
 rfl
/-- what a framer comes to: itself, the payloads, the error -/
def feedR (bad : Bool) (buf : List Int) : (List Int × Bool) × List (List Int) × Int :=
 if bad then (([], true), [], 9) else
   match (feed buf).2 with
   | none => (([], true), (feed buf).1, 5)
   | some r => ((r, false), (feed buf).1, 0)
theorem feedR_none {buf : List Int} {l : List (List Int)} (h : feed buf = (l, none)) : feedR false buf = (([], true), l, 5) := by simp [feedR, h]
theorem feedR_some {buf r : List Int} {l : List (List Int)} (h : feed buf = (l, some r)) : feedR false buf = ((r, false), l, 0) := by simp [feedR, h]
end Go.Kb.Frame
namespace Go.Proofs.YtmmhcllibpmfnaaGreatDoor.Fr
open Go.RowKit Go.Kb
set_option maxRecDepth 100000
/-- a row of bytes of the call's own -/
abbrev OwnB (w : World) (base : Nat) (v : Value) (l : List Int) : Prop := w.ownsRow base 5 1 v l.length (u8s l)
theorem OwnB.rd {w : World} {base : Nat} {v : Value} {l : List Int} (h : OwnB w base v l) : RI .u8 w v l := RdN.of_own h
def fput (xs : List Int) : List Int × Int := if 1 ≤ xs.length ∧ xs.length ≤ 33792 then (four xs.length ++ xs, 0) else ([], 5)
theorem fput_yes {xs : List Int} (h : 1 ≤ xs.length ∧ xs.length ≤ 33792) : fput xs = (four xs.length ++ xs, 0) := if_pos h
theorem fput_no {xs : List Int} (h : ¬ (1 ≤ xs.length ∧ xs.length ≤ 33792)) : fput xs = ([], 5) := if_neg h
set_option maxHeartbeats 400000 in
theorem put_any (v : Value) (xs : List Int) (w : World) (h : RI .u8 w v xs) (hn : xs.length ≤ 100000000) :
   Calls Tryz.prog 23 #[v] w fun e w' => ∃ v', e = .returned (.tuple #[v', .int .i64 (fput xs).2]) ∧ OwnB w' w.heap.size v' (fput xs).1 ∧ Ext w w' := by
 obtain ⟨hl, A, c, rfl, hnc, hcm, hA⟩ := id h
 have H := Lib.hid h
 clear h hl hA
 by_cases h1 : 1 ≤ xs.length ∧ xs.length ≤ 33792
 · have H1 := Lib.hid h1
   have hd : decide (1 ≤ (xs.length : Int) ∧ (xs.length : Int) ≤ 33792) = true := by simp; omega
   have HD := Lib.hid hd
   obtain ⟨h2, h3⟩ := h1
   clear hd
   go_enter Tryz.func23, Tryz.ntmps23
   go_wp2_with (first
     | (go_at_call 51; refine (fits_any _ _).mono ?_; rintro e w1 ⟨rfl, rfl⟩; rw [HD.out])
     | (at_builtin; refine app_u8 _ rfl _ _ rfl w.heap.size _ 4 _ rfl (own_lit w w.heap.size _ _ (Nat.le_refl _) (by simp [maxLen])) _ xs.length _ rfl (H.out.alloc _) (one_ints _ _) (by omega) (by simp) ?_; intro v2 w2 hown2 hB2 hg2 hat2))
   go_ret2
   refine ⟨v2, by rw [fput_yes H1.out]; rfl, ?_, zX⟩
   rw [fput_yes H1.out]
   have : (four (xs.length : Int) ++ xs).length = 4 + xs.length := by simp [four]; omega
   unfold OwnB
   rw [this]
   have e1 : (xs.length : Int) / 65536 % 256 = (xs.length : Int) / 65536 := by omega
   have e2 : (xs.length : Int) / 256 % 256 = (xs.length : Int) / 256 := by omega
   simpa [four, e1, e2] using hown2
 · have H1 := Lib.hid h1
   have hd : decide (1 ≤ (xs.length : Int) ∧ (xs.length : Int) ≤ 33792) = false := by simp; omega
   have HD := Lib.hid hd
   clear h1 hd
   go_enter Tryz.func23, Tryz.ntmps23
   go_wp2_with (go_at_call 51; refine (fits_any _ _).mono ?_; rintro e w1 ⟨rfl, rfl⟩; rw [HD.out])
   go_ret2
   rw [fput_no H1.out]
   exact ⟨_, rfl, World.ownsRow_nil _ _ _ _, zX⟩
/-! ## lists of rows of bytes -/
/- append at one slice type -/
theorem info_rows : (Tryz.prog.info? 43).map (fun i => (i.zero, i.size, i.bytes)) = some (some (.slice none 0 0), 1, 24) := by kernel_rfl
theorem app_rows (w : World) {ops : Array Oper} {rest : List Oper} {o : Oper} {a : Act} {Q : Exit → Act → World → Prop} (hgd : o.guard = none) (s x : Operand)
   (ho : o.op = .call { callee := .builtin .append, args := #[s, x], argTypes := #[91, 91] })
   (base : Nat) (v : Value) (n : Nat) (xs : List Value) (hs : a.eval s = v) (hown : w.ownsRow base 43 1 v n xs)
   (y : Value) (m : Nat) (news : List Value) (hx : a.eval x = y) (hr : RdN w 1 y m news) (h1 : ∀ u ∈ news, u.oneCell' = true)
   (hb : n + m ≤ 137438953472) (hbase : base ≤ w.heap.size)
   (h : ∀ v' w', w'.ownsRow base 43 1 v' (n + m) (xs ++ news) → Below base w w' → w.grownBy w' v.ownBlock → (v'.ownBlock = v.ownBlock ∨ v'.ownBlock = some w.heap.size) → wpList Tryz.prog ops Q rest (a.put o.dst v') w') : wpList Tryz.prog ops Q (o :: rest) a w := by
 obtain ⟨i0, hi0, hz0, hz1, hz2⟩ := info_parts info_rows
 exact wpList_append_rd w hgd s x _ ho base _ i0 _ 1 24 Tryz.underlying91 hi0 hz0 hz1 hz2 rfl (by omega) v n xs hs hown y m news hx hr h1 (by unfold maxLen; omega) (by omega) hbase
   fun v' w' a1 a2 a3 => h v' w' a1 ((Below.refl _ _).grown a2 hbase fun k hk => (hown.lt k hk).1) a2 a3
theorem sapp_rows (w : World) {ops : Array Oper} {o : Oper} {a : Act} {K : Act → World → Prop} {Q : Exit → Act → World → Prop} {E : Prop} (hgd : o.guard = none) (s x : Operand)
   (ho : o.op = .call { callee := .builtin .append, args := #[s, x], argTypes := #[91, 91] })
   (base : Nat) (v : Value) (n : Nat) (xs : List Value) (hs : a.eval s = v) (hown : w.ownsRow base 43 1 v n xs)
   (y : Value) (m : Nat) (news : List Value) (hx : a.eval x = y) (hr : RdN w 1 y m news) (h1 : ∀ u ∈ news, u.oneCell' = true)
   (hb : n + m ≤ 137438953472) (hbase : base ≤ w.heap.size)
   (h : ∀ v' w', w'.ownsRow base 43 1 v' (n + m) (xs ++ news) → Below base w w' → w.grownBy w' v.ownBlock → (v'.ownBlock = v.ownBlock ∨ v'.ownBlock = some w.heap.size) → K (a.put o.dst v') w') :
   if Region.wanted o (yielded ops a.tmps) = true then Oper.wp Tryz.prog o a w K Q else E := by
 obtain ⟨i0, hi0, hz0, hz1, hz2⟩ := info_parts info_rows
 exact step_append_rd w hgd s x _ ho base _ i0 _ 1 24 Tryz.underlying91 hi0 hz0 hz1 hz2 rfl (by omega) v n xs hs hown y m news hx hr h1 (by unfold maxLen; omega) (by omega) hbase
   fun v' w' a1 a2 a3 => h v' w' a1 ((Below.refl _ _).grown a2 hbase fun k hk => (hown.lt k hk).1) a2 a3
/-- a slice of slices of bytes -/
def RdLs (w : World) (v : Value) (ls : List (List Int)) : Prop :=
 ∃ vs : List Value, vs.length = ls.length ∧ RdN w 1 v ls.length vs ∧ ∀ (j : Nat) x l, vs[j]? = some x → ls[j]? = some l → RI .u8 w x l
/-- one of the call's own, all its rows too, from block 'base' on -/
def OwnVs (w : World) (base : Nat) (v : Value) (ls : List (List Int)) (vs : List Value) : Prop :=
 vs.length = ls.length ∧ w.ownsRow base 43 1 v ls.length vs ∧ ∀ (j : Nat) x l, vs[j]? = some x → ls[j]? = some l → OwnB w base x l
def OwnLs (w : World) (base : Nat) (v : Value) (ls : List (List Int)) : Prop := ∃ vs : List Value, OwnVs w base v ls vs
theorem OwnVs.mod {S : Nat → Prop} {w w' : World} {base : Nat} {v : Value} {ls : List (List Int)} {vs : List Value} (h : OwnVs w base v ls vs) (hM : Mod S w w') (hS : ∀ k, base ≤ k → ¬ S k) : OwnVs w' base v ls vs := by
 obtain ⟨h1, h2, h3⟩ := h
 exact ⟨h1, own_mod h2 hM fun k hk => hS k (h2.lt k hk).1, fun j x l hx hl => own_mod (h3 j x l hx hl) hM fun k hk => hS k ((h3 j x l hx hl).lt k hk).1⟩
theorem OwnVs.lower {w : World} {base base' : Nat} {v : Value} {ls : List (List Int)} {vs : List Value} (h : OwnVs w base v ls vs) (hb : base' ≤ base) : OwnVs w base' v ls vs := by
 obtain ⟨h1, h2, h3⟩ := h
 exact ⟨h1, own_base h2 hb, fun j x l hx hl => own_base (h3 j x l hx hl) hb⟩
theorem OwnVs.ext {w w' : World} {base : Nat} {v : Value} {ls : List (List Int)} {vs : List Value} (h : OwnVs w base v ls vs) (hE : Ext w w') : OwnVs w' base v ls vs := by
 obtain ⟨h1, h2, h3⟩ := h
 exact ⟨h1, own_ext h2 hE, fun j x l hx hl => own_ext (h3 j x l hx hl) hE⟩
theorem OwnVs.lt {w : World} {base : Nat} {v : Value} {ls : List (List Int)} {vs : List Value} (h : OwnVs w base v ls vs) : ∀ x ∈ vs, ∀ k, x.ownBlock = some k → k < w.heap.size := by
 intro x hx k hk
 obtain ⟨j, hj, rfl⟩ := List.getElem_of_mem hx
 have hl : j < ls.length := by have := h.1; omega
 exact ((h.2.2 j _ _ (List.getElem?_eq_getElem hj) (List.getElem?_eq_getElem hl)).lt k hk).2
theorem OwnVs.one {w : World} {base : Nat} {v : Value} {l : List Int} {vs : List Value} (h : OwnVs w base v [l] vs) :
   ∃ g c A c', v = .slice (some ⟨g, 0, none⟩) 1 c ∧ g < w.heap.size ∧ w.cell? ⟨g, 0, none⟩ = some (.slice A l.length c') ∧ RI .u8 w (.slice A l.length c') l := by
 obtain ⟨h1, h2, h3⟩ := h
 match vs, h1 with
 | [x], _ =>
   obtain ⟨g, c, rfl, _, hlt⟩ := h2.form (by simp)
   have hx := h3 0 x l rfl rfl
   obtain ⟨A, c', rfl⟩ := own_shape hx
   exact ⟨g, c, A, c', rfl, hlt, by rw [h2.cellAt 0 (by simp)]; rfl, hx.rd⟩
theorem OwnVs.nil (w : World) (base : Nat) : OwnVs w base (.slice none 0 0) [] [] := ⟨rfl, World.ownsRow_nil _ _ _ _, fun j x l hx => by simp at hx⟩
theorem OwnLs.rd {w : World} {base : Nat} {v : Value} {ls : List (List Int)} (h : OwnLs w base v ls) : RdLs w v ls := by
 obtain ⟨vs, h1, h2, h3⟩ := h
 exact ⟨vs, h1, RdN.of_own h2, fun j x l hx hl => (h3 j x l hx hl).rd⟩
theorem OwnLs.ext {w w' : World} {base : Nat} {v : Value} {ls : List (List Int)} (h : OwnLs w base v ls) (hE : Ext w w') : OwnLs w' base v ls := by
 obtain ⟨vs, h1, h2, h3⟩ := h
 exact ⟨vs, h1, own_ext h2 hE, fun j x l hx hl => own_ext (h3 j x l hx hl) hE⟩
theorem OwnLs.nil (w : World) (base : Nat) : OwnLs w base (.slice none 0 0) [] := ⟨[], rfl, World.ownsRow_nil _ _ _ _, fun j x l hx => by simp at hx⟩
end Go.Proofs.YtmmhcllibpmfnaaGreatDoor.Fr
namespace Go.Proofs.YtmmhcllibpmfnaaGreatDoor.Fr
open Go.RowKit Go.Kb
set_option maxRecDepth 100000
set_option maxHeartbeats 400000 in
theorem grow_u8 (n : Int) (w : World) (h0 : 0 ≤ n) (hn : n ≤ 137438953472) :
   Calls Tryz.prog 102 #[.slice none 0 0, .int .i64 n] w fun e w' => ∃ v', e = .returned v' ∧ w'.ownsRow w.heap.size 5 1 v' 0 [] ∧ Ext w w' := by
 obtain ⟨i0, hi0, hz0, hz1, hz2⟩ := info_parts info_u8
 by_cases h : n = 0
 · subst h
   go_enter Tryz.func102, Tryz.ntmps102
   go_wp2
   go_ret
   exact ⟨_, rfl, World.ownsRow_nil _ _ _ _, zX⟩
 · obtain ⟨m, rfl⟩ := Int.eq_ofNat_of_zero_le h0
   have hr := Lib.hid (Lib.run_append_nil_zeros (P := Tryz.prog) w 43 3 0 5 i0 _ .i64 .i64 Tryz.underlying43 Tryz.underlying3 hi0 hz0 m (by omega) (by omega) (by omega) (by rw [hz2]; omega))
   have hc1 := Lib.hid (grownCap_ge w m 0 5)
   have hc2 := Lib.hid (grownCap_le_maxLen w m 0 5 (by unfold maxLen; omega))
   go_enter Tryz.func102, Tryz.ntmps102
   go_wp2_with ((at_builtin; refine Lib.wpList_append_run _ rfl _ _ _ _ rfl _ _ rfl rfl _ _ hr.out ?_))
   go_ret
   refine ⟨_, rfl, World.ownsRow_made w.drew _ _ (Nat.le_refl _) hc2.out ?_, zX⟩
   have := hc1.out
   simp only [Array.size_append, size_zeroCells, List.size_toArray, List.length_cons, List.length_nil]
   omega
set_option maxHeartbeats 400000 in
theorem concat_u8 (v : Value) (ls : List (Nat × List Value)) (w : World) (h : RdLL w 1 v ls) (h1 : ∀ l ∈ ls, ∀ u ∈ l.2, u.oneCell' = true) (hn : tot ls ≤ 137438953472) :
   Calls Tryz.prog 53 #[v] w fun e w' => ∃ v', e = .returned v' ∧ w'.ownsRow w.heap.size 5 1 v' (tot ls) (cat ls) ∧ Ext w w' := by
 obtain ⟨vs, hl, hrd, hvs⟩ := h
 obtain ⟨_, A, c, rfl, hnc, hcm, hA⟩ := id hrd
 have HL := Lib.hid hl
 have HR := Lib.hid hrd
 have HV := Lib.hid hvs
 have H1 := Lib.hid h1
 clear hl hrd hvs hA h1
 unfold maxLen at hcm
 go_enter Tryz.func53, Tryz.ntmps53
 go_wp2
 go_loop [3, 11] (fun t i => ∃ k : Nat, k ≤ ls.length ∧ i = .int .i64 k ∧ t = .int .i64 (tot (ls.take k))) (fun _ i => ls.length - (intOf i).toNat)
 case atStart => exact ⟨0, Nat.zero_le _, rfl, by simp [tot]⟩
 case round =>
   obtain ⟨k, hk, rfl, rfl⟩ := hrel
   by_cases hlt : k < ls.length
   · obtain ⟨b, off, cc, hv, _, _, hc⟩ := HR.out.form (by omega)
     simp only [Value.slice.injEq] at hv
     obtain ⟨rfl, _, rfl⟩ := hv
     have hxl : k < vs.length := by have := HL.out; omega
     obtain ⟨x, hx⟩ : ∃ x, vs[k]? = some x := ⟨_, List.getElem?_eq_getElem hxl⟩
     obtain ⟨l, hl⟩ : ∃ l, ls[k]? = some l := ⟨_, List.getElem?_eq_getElem hlt⟩
     have hcx := hc k x hx
     obtain ⟨_, A2, c2, rfl, hnc2, hcm2, _⟩ := HV.out k x l hx hl
     have hts := Lib.hid (tot_succ hl)
     have hle := tot_take_le ls (k + 1)
     rw [hts.out] at hle
     unfold maxLen at hcm2
     clear hc hx hl
     go_wp2
     go_round
     case rel => exact ⟨k + 1, by omega, by go_num, by rw [hts.out]; go_num⟩
     case measure => simp [intOf]; omega
   · obtain rfl : k = ls.length := by omega
     have HT : Hid (ls.take ls.length = ls) := Lib.hid (List.take_length)
     rw [HT.out]
     go_wp2_with (go_at_call 102; refine (grow_u8 _ _ (by omega) (by omega)).mono ?_; rintro e w1 ⟨v1, rfl, hown1, hE1⟩)
     have HO := Lib.hid hown1
     clear hown1
     obtain ⟨hc1, hf1⟩ := And.intro hE1.cell hE1.frozen
     go_loopw [6, 27] (fun s i wr => ∃ k : Nat, k ≤ ls.length ∧ i = .int .i64 k ∧ wr.ownsRow w.heap.size 5 1 s (tot (ls.take k)) (cat (ls.take k)) ∧ Ext w wr) (fun _ i _ => ls.length - (intOf i).toNat)
     case atStart => exact ⟨0, Nat.zero_le _, rfl, HO.out, hE1⟩
     case round =>
       obtain ⟨k, hk, rfl, hown, hE⟩ := hrel
       have HO2 := Lib.hid hown
       clear hown hc1 hf1
       by_cases hlt : k < ls.length
       · obtain ⟨b, off, cc, hv, _, _, hc⟩ := (HR.out.ext hE).form (by omega)
         simp only [Value.slice.injEq] at hv
         obtain ⟨rfl, _, rfl⟩ := hv
         have hxl : k < vs.length := by have := HL.out; omega
         obtain ⟨x, hx⟩ : ∃ x, vs[k]? = some x := ⟨_, List.getElem?_eq_getElem hxl⟩
         obtain ⟨l, hl⟩ : ∃ l, ls[k]? = some l := ⟨_, List.getElem?_eq_getElem hlt⟩
         have hcx := hc k x hx
         have X := Lib.hid ((HV.out k x l hx hl).ext hE)
         have X1 := Lib.hid (H1.out l (List.mem_of_getElem? hl))
         have hts := Lib.hid (tot_succ hl)
         have hcs := Lib.hid (cat_succ hl)
         have hle := tot_take_le ls (k + 1)
         rw [hts.out] at hle
         clear hc hx hl
         go_wp2_with ((at_builtin; refine app_u8 _ rfl _ _ rfl w.heap.size _ _ _ rfl HO2.out _ l.1 l.2 rfl X.out X1.out (by omega) hE.size ?_; intro v2 w2 hown2 hB2 hg2 hat2))
         go_roundw
         case rel => exact ⟨k + 1, by omega, by go_num, by rw [hts.out, hcs.out]; exact hown2, zX⟩
         case measure => simp [intOf]; omega
       · obtain rfl : k = ls.length := by omega
         go_wp2
         go_ret
         have := HO2.out
         rw [HT.out] at this
         exact ⟨_, rfl, this, zX⟩
/-- what one more row does to a list of rows -/
theorem lput_post {g : Nat} {lv x v2 : Value} {ls : List (List Int)} {l : List Int} {base : Nat} {w w1 w2 : World} {vs : List Value} (hb : Blk w g 170 #[lv])
   (hl : vs.length = ls.length) (hw : w.ownsRow base 43 1 lv ls.length vs) (hr : ∀ (j : Nat) x l, vs[j]? = some x → ls[j]? = some l → OwnB w base x l) (hbase : base ≤ w.heap.size)
   (hE1 : Ext w w1) (hown1 : w1.ownsRow w.heap.size 5 1 x l.length (u8s l)) (hown2 : w2.ownsRow base 43 1 v2 (ls.length + 1) (vs ++ [x]))
   (hg2 : (w1.alloc (.cells #[x] 43)).grownBy w2 lv.ownBlock) :
   Blk (w2.setCell ⟨g, 0, none⟩ v2) g 170 #[v2] ∧ OwnLs (w2.setCell ⟨g, 0, none⟩ v2) base v2 (ls ++ [l]) ∧ Mod (fun k => k = g ∨ base ≤ k) w (w2.setCell ⟨g, 0, none⟩ v2) := by
 have e1 : Ext w (w1.alloc (.cells #[x] 43)) := hE1.alloc _
 have hb2 : Blk w2 g 170 #[lv] := (hb.ext e1).grown hg2 (Ne.symm (own_blk_ne hw hb (by decide)))
 have rows : ∀ {y : Value} {m : List Int}, (w1.alloc (.cells #[x] 43)).ownsRow base 5 1 y m.length (u8s m) → OwnB (w2.setCell ⟨g, 0, none⟩ v2) base y m := fun {y m} h =>
   ownsRow_setCell_other (h.kept hg2 (own_own_ne h (own_ext hw e1) (by decide))) (own_blk_ne (h.kept hg2 (own_own_ne h (own_ext hw e1) (by decide))) hb2 (by decide)) _
 refine ⟨by simpa using hb2.set_ 0 v2, ⟨vs ++ [x], by simp [hl], ?_, fun j y m hy hm => ?_⟩, ?_⟩
 · rw [List.length_append]
   exact ownsRow_setCell_other hown2 (own_blk_ne hown2 hb2 (by decide)) _
 · rcases Nat.lt_or_ge j vs.length with hj | hj
   · rw [List.getElem?_append_left hj] at hy
     rw [List.getElem?_append_left (by omega)] at hm
     exact rows (own_ext (hr j y m hy hm) e1)
   · rw [List.getElem?_append_right hj] at hy
     rw [List.getElem?_append_right (by omega)] at hm
     have : j - vs.length = 0 := by
       rcases Nat.eq_zero_or_pos (j - vs.length) with h | h
       · exact h
       · rw [List.getElem?_eq_none (by simp; omega)] at hy; cases hy
     rw [← hl, this] at hm
     rw [this] at hy
     simp at hy hm
     subst hy hm
     exact rows ((own_base hown1 hbase).alloc _)
 · exact ((Mod.of_ext e1).grown hg2 (fun k hk => .inr (.inr (hw.lt k hk).1))).set_ (.inr (.inl rfl)) _
set_option maxHeartbeats 800000 in
theorem lput_any (g : Nat) (lv v : Value) (ls : List (List Int)) (l : List Int) (base : Nat) (w : World) (hb : Blk w g 170 #[lv]) (ho : OwnLs w base lv ls) (hbase : base ≤ w.heap.size)
   (h : RI .u8 w v l) (hn : l.length ≤ 100000000) (hm : ls.length ≤ 100000000) :
   Calls Tryz.prog 52 #[.pointer (some ⟨g, 0, none⟩), v] w fun e w' => e = .returned (.tuple #[]) ∧
     ∃ lv', Blk w' g 170 #[lv'] ∧ OwnLs w' base lv' (ls ++ [l]) ∧ Mod (fun k => k = g ∨ base ≤ k) w w' := by
 have hcell := hb.cell 0
 simp only [List.getElem?_toArray, List.getElem?_cons_zero] at hcell
 have hfr := hb.frozen 0
 have HB := Lib.hid hb
 have H := Lib.hid h
 have HO := Lib.hid ho
 obtain ⟨vs, hl, how, hrows⟩ := ho
 have HL := Lib.hid hl
 have HW := Lib.hid how
 have HR := Lib.hid hrows
 clear hl how hrows h hb
 go_enter Tryz.func52, Tryz.ntmps52
 go_region_law (first | (refine sapp_rows _ rfl _ _ rfl base _ _ _ rfl (own_ext HW.out (((Ext.refl w).drew.trans hE1).alloc _)) _ 1 _ rfl (RdN.one_ _ _ _) (by simp [Value.oneCell']) (by omega) (Nat.le_trans hbase (Nat.le_trans hE1.size (by simp))) ?_; intro v2 w2 hown2 hB2 hg2 hat2; obtain ⟨A2, c2, rfl⟩ := own_shape hown2; have B2 := (HB.out.ext (((Ext.refl w).drew.trans hE1).alloc _)).grown hg2 (Ne.symm (own_blk_ne HW.out HB.out (by decide))); have hcell2 := B2.cell0; have hfr2 := B2.frozen 0) | (go_simp; go_at_call 55; refine (clone_u8 _ _ _ _ (H.out.ext (by repeat (first | exact Ext.refl _ | refine Ext.drew ?_))) (one_ints _ _) (by omega)).mono ?_; rintro e w1 ⟨v1, rfl, hown1, hE1⟩; obtain ⟨A1, c1, rfl⟩ := own_shape hown1; have hcell1 := (HB.out.ext ((Ext.refl w).drew.trans hE1)).cell0; have hcell1a := fun o => ((HB.out.ext ((Ext.refl w).drew.trans hE1)).alloc o).cell0))
 all_goals
   go_end0
   exact ⟨rfl, _, lput_post HB.out HL.out HW.out HR.out hbase (Below.trans (Ext.refl w).drew hE1) hown1 hown2 hg2⟩
end Go.Proofs.YtmmhcllibpmfnaaGreatDoor.Fr
namespace Go.Proofs.YtmmhcllibpmfnaaGreatDoor.Fr
open Go.RowKit Go.Kb Go.Kb.Frame
set_option maxRecDepth 100000
theorem Bs.sub {l m : List Int} (h : Bs l) (hm : ∀ x ∈ m, x ∈ l) : Bs m := fun x hx => h x (hm x hx)
/-- the relation of the program's loop -/
def FRel (g : Nat) (buf : List Int) (w3 : World) (s : Value) (wr : World) : Prop :=
 ∃ (done : List (List Int)) (r : List Int) (lv : Value), feed buf = (done ++ (feed r).1, (feed r).2) ∧ RI .u8 wr s r ∧ Bs r ∧ (∀ k, s.ownBlock = some k → k < w3.heap.size ∧ k ≠ g) ∧ done.length + r.length ≤ buf.length ∧
   Blk wr g 170 #[lv] ∧ OwnLs wr w3.heap.size lv done ∧ Mod (fun k => k = g ∨ w3.heap.size ≤ k) w3 wr
theorem FRel.step {g : Nat} {buf : List Int} {w3 wr w4 w6 : World} {done : List (List Int)} {r : List Int} {b off c m : Nat} {lv6 : Value}
   (hfeed : feed buf = (done ++ (feed r).1, (feed r).2)) (hr : RI .u8 wr (.slice (some ⟨b, off, none⟩) r.length c) r) (hbr : Bs r)
   (hblk : ∀ k, (Value.slice (some ⟨b, off, none⟩) r.length c).ownBlock = some k → k < w3.heap.size ∧ k ≠ g) (hlen : done.length + r.length ≤ buf.length) (hM : Mod (fun k => k = g ∨ w3.heap.size ≤ k) w3 wr)
   (h4 : 4 ≤ r.length) (hm : hd4 r = m) (hin : 1 ≤ (m : Int) ∧ (m : Int) ≤ 33792) (hw : ¬ (r.length : Int) < 4 + (m : Int)) (hE4 : Ext wr w4)
   (hL6 : Blk w6 g 170 #[lv6]) (hO6 : OwnLs w6 w3.heap.size lv6 (done ++ [(r.drop 4).take m])) (hM6 : Mod (fun k => k = g ∨ w3.heap.size ≤ k) w4 w6) :
   FRel g buf w3 (.slice (if c = 4 + m then some ⟨b, off, none⟩ else some ⟨b, off + (4 + m), none⟩) (r.length - (4 + m)) (c - (4 + m))) w6 := by
 have hb := hblk b rfl
 have hob : ∀ k, (Value.slice (if c = 4 + m then some ⟨b, off, none⟩ else some ⟨b, off + (4 + m), none⟩) (r.length - (4 + m)) (c - (4 + m))).ownBlock = some k → k = b := by
   intro k hk
   split at hk <;> simpa [Value.ownBlock, eq_comm] using hk
 refine ⟨done ++ [(r.drop 4).take m], r.drop (4 + m), lv6, ?_, ?_, Bs.sub hbr fun x hx => List.mem_of_mem_drop hx, ?_, ?_, hL6, hO6, (hM.ext hE4).trans hM6⟩
 · rw [hfeed, feed_more4 h4 (by rw [hm]; exact hin) hm (by omega)]
   simp
 · refine ((RI.from_ hr (by omega)).ext hE4).mod hM6 fun k hk => ?_
   rw [hob k hk]
   omega
 · intro k hk
   rw [hob k hk]
   exact hb
 · simp
   omega
/-- the end where what came can't be packets -/
theorem feed_end_bad {B : Nat} {buf : List Int} {w w3 wr w4 W : World} {done : List (List Int)} {r : List Int} {lv : Value} (E3 : Ext w w3) (hB : w.heap.size ≤ B) (hB3 : B + 1 < w3.heap.size)
   (hfeed : feed buf = (done ++ (feed r).1, (feed r).2)) (hO : OwnLs wr w3.heap.size lv done) (hM : Mod (fun k => k = B + 1 ∨ w3.heap.size ≤ k) w3 wr) (h4 : 4 ≤ r.length) (hin : ¬ (1 ≤ hd4 r ∧ hd4 r ≤ 33792))
   (hE4 : Ext wr w4) (hW : Mod (fun k => k = B) w4 W) :
   feedR false buf = (([], true), done, 5) ∧ (∃ vs mid, OwnVs W w.heap.size lv done vs ∧ (∀ x ∈ vs, ∀ k, x.ownBlock = some k → k < mid) ∧ OwnB W mid (.slice none 0 0) []) ∧ Ext w W := by
 refine ⟨feedR_none (by rw [hfeed, feed_bad4 h4 hin]; simp), ?_, ?_⟩
 · obtain ⟨vs, hv⟩ := hO
   have hv := ((hv.ext hE4).mod hW (by intro k hk; omega)).lower E3.size
   exact ⟨vs, _, hv, hv.lt, World.ownsRow_nil _ _ _ _⟩
 · exact Mod.toExt ((Mod.toExt E3 hM (by intro k hk; omega)).trans hE4) hW (by intro k hk; omega)
/-- the end where nothing is left to cut -/
theorem feed_end_ok {B : Nat} {buf : List Int} {w w3 wr w4 w5 W : World} {done : List (List Int)} {r : List Int} {lv rv : Value} (E3 : Ext w w3) (hB : w.heap.size ≤ B) (hB3 : B + 1 < w3.heap.size)
   (hfeed : feed buf = (done ++ (feed r).1, (feed r).2)) (hO : OwnLs wr w3.heap.size lv done) (hM : Mod (fun k => k = B + 1 ∨ w3.heap.size ≤ k) w3 wr) (hr : feed r = ([], some r))
   (hE4 : Ext wr w4) (hE5 : Ext w4 w5) (hown5 : w5.ownsRow w4.heap.size 5 1 rv r.length (u8s r)) (hW : Mod (fun k => k = B) w5 W) :
   feedR false buf = ((r, false), done, 0) ∧ (∃ vs mid, OwnVs W w.heap.size lv done vs ∧ (∀ x ∈ vs, ∀ k, x.ownBlock = some k → k < mid) ∧ OwnB W mid rv r) ∧ Ext w W := by
 have hs : w3.heap.size ≤ w4.heap.size := Nat.le_trans hM.size hE4.size
 refine ⟨feedR_some (by rw [hfeed, hr]; simp), ?_, ?_⟩
 · obtain ⟨vs, hv⟩ := hO
   have hv4 := hv.ext hE4
   exact ⟨vs, w4.heap.size, ((hv4.ext hE5).mod hW (by intro k hk; omega)).lower E3.size, hv4.lt, own_mod hown5 hW fun k hk => by have := (hown5.lt k hk).1; omega⟩
 · exact Mod.toExt (((Mod.toExt E3 hM (by intro k hk; omega)).trans hE4).trans hE5) hW (by intro k hk; omega)
set_option maxHeartbeats 800000 in
theorem feed_any (vb v : Value) (bad : Bool) (xs ys : List Int) (w : World) (hx : RI .u8 w vb xs) (hy : RI .u8 w v ys) (bx : Bs xs) (bY : Bs ys) (nx : xs.length ≤ 40000000) (ny : ys.length ≤ 40000000) :
   Calls Tryz.prog 24 #[.agg #[vb, .bool bad], v] w fun e w' => ∃ rv lv, e = .returned (.tuple #[.agg #[rv, .bool (feedR bad (xs ++ ys)).1.2], lv, .int .i64 (feedR bad (xs ++ ys)).2.2]) ∧
     (∃ vs mid, OwnVs w' w.heap.size lv (feedR bad (xs ++ ys)).2.1 vs ∧ (∀ x ∈ vs, ∀ k, x.ownBlock = some k → k < mid) ∧ OwnB w' mid rv (feedR bad (xs ++ ys)).1.1) ∧ Ext w w' := by
 have HX := Lib.hid hx
 have HY := Lib.hid hy
 have BX := Lib.hid bx
 have BY := Lib.hid bY
 obtain ⟨A, c, rfl, hxc, hxm⟩ := hx.shape
 obtain ⟨A2, c2, rfl, hyc, hym⟩ := hy.shape
 clear bx bY hx hy
 have K1 : Hid (∀ l ∈ [(xs.length, u8s xs), (ys.length, u8s ys)], ∀ u ∈ l.2, u.oneCell' = true) := Lib.hid (by
   intro l hl
   simp only [List.mem_cons, List.not_mem_nil, or_false] at hl
   rcases hl with rfl | rfl
   · exact one_ints _ _
   · exact one_ints _ _)
 have K2 : Hid (tot [(xs.length, u8s xs), (ys.length, u8s ys)] ≤ 137438953472) := Lib.hid (by simp [tot]; omega)
 cases bad
 · go_enter Tryz.func24, Tryz.ntmps24
   go_wp2
   go_step3
   go_wp2_with (go_at_call 53; refine (concat_u8 _ _ _ (RdLL.lit2 _ (by simp) ((((HX.out.alloc _).alloc _).alloc _)) (((HY.out.alloc _).alloc _).alloc _)) K1.out K2.out).mono ?_; rintro e w3 ⟨v3, rfl, hown3, hE3⟩)
   go_step3
   go_wp2
   have E3 : Ext w w3 := zX
   have HL3 : Hid (Blk w3 (w.heap.size + 1 + 1) 170 #[.slice none 0 0]) := Lib.hid (((Blk.at_ _ _ (by simp)).alloc _).ext hE3)
   have HF3 : Hid (Blk w3 (w.heap.size + 1) 90 #[.slice none 0 0, .bool false]) := Lib.hid ((((Blk.at_ _ _ (by simp)).alloc _).alloc _).ext hE3)
   have hsz : w.heap.size + 1 + 1 + 1 < w3.heap.size := by have := hE3.size; simp at this; omega
   have hr3 := RdN.of_own hown3
   have hlt3 := hown3.lt
   have ht : tot [(xs.length, u8s xs), (ys.length, u8s ys)] = (xs ++ ys).length := by simp [tot]
   have hc : cat [(xs.length, u8s xs), (ys.length, u8s ys)] = u8s (xs ++ ys) := by simp [cat]
   rw [ht, hc] at hr3
   have HR3 := Lib.hid hr3
   have HT3 := Lib.hid hlt3
   have HBs : Hid (Bs (xs ++ ys)) := Lib.hid (by
     intro x hx
     rcases List.mem_append.1 hx with hx | hx
     · exact BX.out x hx
     · exact BY.out x hx)
   have hlb : (xs ++ ys).length ≤ 80000000 := by simp; omega
   clear hr3 hlt3 ht hc hown3 K1 K2
   generalize hbuf : xs ++ ys = buf
   rw [hbuf] at HR3 HBs hlb
   have HBUF := Lib.hid hbuf
   clear hbuf BX BY
   have hE3' := Lib.hid hE3
   clear hE3
   go_loopw [9] (FRel (w.heap.size + 1 + 1) buf w3) (fun s _ => lenOfV s)
   case atStart => 
     refine ⟨[], buf, _, by simp, HR3.out, HBs.out, fun k hk => ?_, by simp, HL3.out, OwnLs.nil _ _, Mod.refl _ _⟩
     have := HT3.out k hk
     simp at this
     omega
   case round =>
     obtain ⟨done, r, lv, hfeed, hr, hbr, hblk, hlen, hL, hO, hM⟩ := hrel
     obtain ⟨A3, c3, rfl, hrc, hrm⟩ := hr.shape
     have HFeed := Lib.hid hfeed
     have HR := Lib.hid hr
     have HBR := Lib.hid hbr
     have HK := Lib.hid hblk
     have HL := Lib.hid hL
     have HO := Lib.hid hO
     have HM := Lib.hid hM
     have hbd := hd4_bd hbr
     clear hfeed hr hbr hblk hL hO hM
     by_cases h4 : 4 ≤ r.length
     · obtain ⟨b, off, rfl⟩ := HR.out.addr (by omega)
       obtain ⟨m, hm⟩ := Int.eq_ofNat_of_zero_le hbd.1
       rw [hm] at hbd
       have HMM := Lib.hid hm
       clear hm
       by_cases hin : 1 ≤ (m : Int) ∧ (m : Int) ≤ 33792
       · have HIN := Lib.hid hin
         have HD := Lib.hid (decide_eq_true hin)
         by_cases hw : (r.length : Int) < 4 + (m : Int)
         · have hsh : Hid (feed r = ([], some r)) := Lib.hid (feed_wait4 h4 (by rw [HMM.out]; exact HIN.out) (by rw [HMM.out]; exact hw))
           have HLW : Hid (∀ W, Ext wr W → Blk W (w.heap.size + 1 + 1) 170 #[lv]) := Lib.hid fun W hE => HL.out.ext hE
           have HFW : Hid (∀ W, Ext wr W → Blk W (w.heap.size + 1) 90 #[.slice none 0 0, .bool false]) := Lib.hid fun W hE => (HF3.out.mod HM.out (by omega)).ext hE
           go_wp2_with (first | (go_at_call 54; refine (length_any _ r _ HR.out HBR.out h4).mono ?_; rintro e w4 ⟨rfl, hE4⟩; rw [HMM.out]) | (go_at_call 51; refine (fits_any _ _).mono ?_; rintro e w5 ⟨rfl, rfl⟩; rw [HD.out]))
           have c0 := (HLW.out w4 hE4).cell0
           have c1 := (HFW.out w4 hE4).cell 0
           have c2 := (HFW.out w4 hE4).cell 1
           simp only [List.getElem?_toArray, List.getElem?_cons_zero, List.getElem?_cons_succ] at c1 c2
           have f1 := (HFW.out w4 hE4).frozen 0
           have f2 := (HFW.out w4 hE4).frozen 1
           go_region_law (go_simp; go_at_call 55; refine (clone_u8 _ _ _ _ ((HR.out.ext hE4).ext (by repeat (first | exact Ext.refl _ | refine Ext.drew ?_))) (one_ints _ _) (by omega)).mono ?_; rintro e w7 ⟨v7, rfl, hown7, hE7⟩; obtain ⟨A7, c7, rfl⟩ := own_shape hown7; have hE7' : Ext w4 w7 := (Ext.refl w4).drew.trans hE7; have d0 := (HLW.out w7 (hE4.trans hE7')).cell0; have d1 := (HFW.out w7 (hE4.trans hE7')).cell 0; have d2 := (HFW.out w7 (hE4.trans hE7')).cell 1; simp only [List.getElem?_toArray, List.getElem?_cons_zero, List.getElem?_cons_succ] at d1 d2; have g1 := (HFW.out w7 (hE4.trans hE7')).frozen 0; have g2 := (HFW.out w7 (hE4.trans hE7')).frozen 1)
           all_goals
             go_wp2
             rw [Exit.noGoto_ret]
           all_goals
             have hW : Mod (fun k => k = w.heap.size + 1) w7 ((w7.setCell ⟨w.heap.size + 1, 0, none⟩ (.slice A7 r.length c7)).setCell ⟨w.heap.size + 1, 1, none⟩ (.bool false)) :=
               (by repeat (first | with_reducible exact Mod.refl _ _ | refine Mod.drew ?_ | refine Mod.drewN ?_ _ | refine Mod.set1 ?_ _))
             obtain ⟨e1, e2, e3⟩ := feed_end_ok (B := w.heap.size + 1) E3 (Nat.le_succ _) (by omega) HFeed.out HO.out HM.out hsh.out hE4 hE7' hown7 hW
             have BW := ((HFW.out w7 (hE4.trans hE7')).set_ 0 (.slice A7 r.length c7)).set_ 1 (.bool false)
             have q0 := BW.cell 0
             have q1 := BW.cell 1
             simp only [List.getElem?_toArray, List.setIfInBounds_toArray, List.set_cons_zero, List.set_cons_succ, List.getElem?_cons_zero, List.getElem?_cons_succ] at q0 q1
             refine bodyPost_ret (v := .tuple #[.agg #[.slice A7 r.length c7, .bool false], lv, .int .i64 0]) (by simp [results, Act.put, Tryz.results24, go_sem, q0, q1]) rfl ?_
             rw [HBUF.out, e1]
             exact ⟨_, _, rfl, e2, e3⟩
         · go_wp2_with (first
             | (go_at_call 54; refine (length_any _ r _ HR.out HBR.out h4).mono ?_; rintro e w4 ⟨rfl, hE4⟩; rw [HMM.out])
             | (go_at_call 51; refine (fits_any _ _).mono ?_; rintro e w5 ⟨rfl, rfl⟩; rw [HD.out])
             | (go_at_call 52; refine (lput_any _ lv _ done ((r.drop 4).take m) w3.heap.size _ (HL.out.ext hE4) (HO.out.ext hE4) (Nat.le_trans HM.out.size hE4.size) ((RI.sub_ HR.out (by omega)).ext hE4) (by simp; omega) (by omega)).mono ?_; rintro e w6 ⟨rfl, lv6, hL6, hO6, hM6⟩))
           exact ⟨FRel.step HFeed.out HR.out HBR.out HK.out hlen HM.out h4 HMM.out HIN.out (by omega) hE4 hL6 hO6 hM6, by simp only [lenOfV]; omega⟩
       · have HIN := Lib.hid hin
         have HD := Lib.hid (decide_eq_false hin)
         clear hin
         have HLW : Hid (∀ W, Ext wr W → Blk W (w.heap.size + 1 + 1) 170 #[lv]) := Lib.hid fun W hE => HL.out.ext hE
         have HFW : Hid (∀ W, Ext wr W → Blk W (w.heap.size + 1) 90 #[.slice none 0 0, .bool false]) := Lib.hid fun W hE => (HF3.out.mod HM.out (by omega)).ext hE
         go_wp2_with (first
             | (go_at_call 54; refine (length_any _ r _ HR.out HBR.out h4).mono ?_; rintro e w4 ⟨rfl, hE4⟩; rw [HMM.out])
             | (go_at_call 51; refine (fits_any _ _).mono ?_; rintro e w5 ⟨rfl, rfl⟩; rw [HD.out]))
         have c0 := (HLW.out w4 hE4).cell0
         have c1 := (HFW.out w4 hE4).cell 0
         have c2 := (HFW.out w4 hE4).cell 1
         simp only [List.getElem?_toArray, List.getElem?_cons_zero, List.getElem?_cons_succ] at c1 c2
         have f1 := (HFW.out w4 hE4).frozen 0
         have f2 := (HFW.out w4 hE4).frozen 1
         go_region
         go_wp2
         rw [Exit.noGoto_ret]
         have hW : Mod (fun k => k = w.heap.size + 1) w4 ((w4.setCell ⟨w.heap.size + 1, 0, none⟩ (.slice none 0 0)).setCell ⟨w.heap.size + 1, 1, none⟩ (.bool true)).drew :=
           (by repeat (first | with_reducible exact Mod.refl _ _ | refine Mod.drew ?_ | refine Mod.drewN ?_ _ | refine Mod.set1 ?_ _))
         obtain ⟨e1, e2, e3⟩ := feed_end_bad (B := w.heap.size + 1) E3 (Nat.le_succ _) (by omega) HFeed.out HO.out HM.out h4 (by rw [HMM.out]; exact HIN.out) hE4 hW
         have BW := ((HFW.out w4 hE4).set_ 0 (.slice none 0 0)).set_ 1 (.bool true)
         have q0 := BW.cell 0
         have q1 := BW.cell 1
         simp only [List.getElem?_toArray, List.setIfInBounds_toArray, List.set_cons_zero, List.set_cons_succ, List.getElem?_cons_zero, List.getElem?_cons_succ] at q0 q1
         refine bodyPost_ret (v := .tuple #[.agg #[.slice none 0 0, .bool true], lv, .int .i64 5]) (by simp [results, Tryz.results24, go_sem, q0, q1]) rfl ?_
         rw [HBUF.out, e1]
         exact ⟨_, _, rfl, e2, e3⟩
     · have hsh : Hid (feed r = ([], some r)) := Lib.hid (feed_short (by omega))
       have HLW : Hid (∀ W, Ext wr W → Blk W (w.heap.size + 1 + 1) 170 #[lv]) := Lib.hid fun W hE => HL.out.ext hE
       have HFW : Hid (∀ W, Ext wr W → Blk W (w.heap.size + 1) 90 #[.slice none 0 0, .bool false]) := Lib.hid fun W hE => (HF3.out.mod HM.out (by omega)).ext hE
       have hE4 := Ext.refl wr
       go_wp2
       have c0 := (HLW.out wr hE4).cell0
       have c1 := (HFW.out wr hE4).cell 0
       have c2 := (HFW.out wr hE4).cell 1
       simp only [List.getElem?_toArray, List.getElem?_cons_zero, List.getElem?_cons_succ] at c1 c2
       have f1 := (HFW.out wr hE4).frozen 0
       have f2 := (HFW.out wr hE4).frozen 1
       go_region_law (go_simp; go_at_call 55; refine (clone_u8 _ _ _ _ ((HR.out.ext hE4).ext (by repeat (first | exact Ext.refl _ | refine Ext.drew ?_))) (one_ints _ _) (by omega)).mono ?_; rintro e w7 ⟨v7, rfl, hown7, hE7⟩; obtain ⟨A7, c7, rfl⟩ := own_shape hown7; have hE7' : Ext wr w7 := (Ext.refl wr).drew.trans hE7; have d0 := (HLW.out w7 (hE4.trans hE7')).cell0; have d1 := (HFW.out w7 (hE4.trans hE7')).cell 0; have d2 := (HFW.out w7 (hE4.trans hE7')).cell 1; simp only [List.getElem?_toArray, List.getElem?_cons_zero, List.getElem?_cons_succ] at d1 d2; have g1 := (HFW.out w7 (hE4.trans hE7')).frozen 0; have g2 := (HFW.out w7 (hE4.trans hE7')).frozen 1)
       all_goals
         go_wp2
         rw [Exit.noGoto_ret]
       all_goals
         have hW : Mod (fun k => k = w.heap.size + 1) w7 ((w7.setCell ⟨w.heap.size + 1, 0, none⟩ (.slice A7 r.length c7)).setCell ⟨w.heap.size + 1, 1, none⟩ (.bool false)) :=
           (by repeat (first | with_reducible exact Mod.refl _ _ | refine Mod.drew ?_ | refine Mod.drewN ?_ _ | refine Mod.set1 ?_ _))
         obtain ⟨e1, e2, e3⟩ := feed_end_ok (B := w.heap.size + 1) E3 (Nat.le_succ _) (by omega) HFeed.out HO.out HM.out hsh.out hE4 hE7' hown7 hW
         have BW := ((HFW.out w7 (hE4.trans hE7')).set_ 0 (.slice A7 r.length c7)).set_ 1 (.bool false)
         have q0 := BW.cell 0
         have q1 := BW.cell 1
         simp only [List.getElem?_toArray, List.setIfInBounds_toArray, List.set_cons_zero, List.set_cons_succ, List.getElem?_cons_zero, List.getElem?_cons_succ] at q0 q1
         refine bodyPost_ret (v := .tuple #[.agg #[.slice A7 r.length c7, .bool false], lv, .int .i64 0]) (by simp [results, Act.put, Tryz.results24, go_sem, q0, q1]) rfl ?_
         rw [HBUF.out, e1]
         exact ⟨_, _, rfl, e2, e3⟩
 · go_enter Tryz.func24, Tryz.ntmps24
   go_wp2
   go_step3
   go_wp2
   rw [Exit.noGoto_ret]
   refine bodyPost_ret (v := .tuple #[.agg #[.slice none 0 0, .bool true], .slice none 0 0, .int .i64 9]) (by simp [results, Tryz.results24, go_sem]) rfl ?_
   exact ⟨_, _, rfl, ⟨_, 0, OwnVs.nil _ _, by simp, World.ownsRow_nil _ _ _ _⟩, zX⟩
end Go.Proofs.YtmmhcllibpmfnaaGreatDoor.Fr
namespace Go.Proofs.YtmmhcllibpmfnaaGreatDoor
open Go.RowKit Go.Kb
set_option maxRecDepth 100000
def fld1 : Array Value := #[.int .i64 2, .int .u32 1, .slice none 0 0, .slice none 0 0]
set_option maxHeartbeats 400000 in
theorem known2 (w : World) : Calls Tryz.prog 84 #[.int .i64 2] w fun e w' => e = .returned (.bool true) ∧ Ext w w' := by
 go_enter Tryz.func84, Tryz.ntmps84
 go_wp2
 go_ret
 exact ⟨rfl, zX⟩
set_option maxHeartbeats 400000 in
theorem within1 (w : World) : Calls Tryz.prog 172 #[.int .u32 1, .int .u32 1] w fun e w' => e = .returned (.int .i64 0) ∧ Ext w w' := by
 go_enter Tryz.func172, Tryz.ntmps172
 go_wp2
 go_ret
 exact ⟨rfl, zX⟩
set_option maxHeartbeats 400000 in
theorem flagFault1 (w : World) : Calls Tryz.prog 88 #[.agg fld1] w fun e w' => e = .returned (.int .i64 0) ∧ Ext w w' := by
 unfold fld1
 go_enter Tryz.func88, Tryz.ntmps88
 go_wp2_with fail
 refine (within1 _).mono ?_
 rintro e w1 ⟨rfl, E1⟩
 go_wp2
 go_ret
 exact ⟨rfl, zX⟩
set_option maxHeartbeats 400000 in
theorem row2 (g : Nat) (w : World) (h : Blk w g 3 #[.int .i64 2]) : Calls Tryz.prog 49 #[.slice (some ⟨g, 0, none⟩) 1 1] w fun e w' => e = .returned (.bool true) ∧ Ext w w' := by
 have H := Lib.hid h
 clear h
 go_enter Tryz.func49, Tryz.ntmps49
 go_wp2
 go_loopw [7] (fun i wr => ∃ m : Nat, m ≤ 1 ∧ i = .int .i64 m ∧ Hid (Ext w wr)) (fun i _ => 1 - (intOf i).toNat)
 case atStart => exact ⟨0, Nat.zero_le _, rfl, Lib.hid (Ext.refl _)⟩
 case round =>
   obtain ⟨m, hm, rfl, hE⟩ := hrel
   by_cases hmn : m < 1
   · obtain rfl : m = 0 := by omega
     have kc := (H.out.ext hE.out).cell0
     go_wp2_with fail
     refine (known2 _).mono ?_
     rintro e w1 ⟨rfl, E1⟩
     have hE1 := Lib.hid (hE.out.trans E1)
     go_wp2
     go_roundw
     case rel => exact ⟨1, by omega, by go_num, hE1⟩
     case measure => simp [intOf]
   · obtain rfl : m = 1 := by omega
     go_wp2
     go_ret
     exact ⟨rfl, hE.out⟩
/-- the table of kinds -/
def fnV (a b c : Nat) : List Value := [.func (.func a) #[] #[], .func (.func b) #[] #[], .func (.func c) #[] #[]]
def sortsV : Array Value := ([Value.nilFunc, Value.nilFunc, Value.nilFunc] ++ fnV 85 86 87 ++ fnV 88 86 89 ++
 fnV 90 91 92 ++ fnV 93 94 95 ++
 fnV 96 97 98 ++ fnV 99 100 101).toArray
set_option maxHeartbeats 800000 in
theorem sorts_any (w : World) : Calls Tryz.prog 50 #[] w fun e w' => e = .returned (.agg sortsV) ∧ Ext w w' := by
 have hi : (Tryz.prog.info? 163).map (·.size) = some 21 := by kernel_rfl
 go_enter Tryz.func50, Tryz.ntmps50
 go_wp2_with (refine wpList_store_A rfl 163 _ _ rfl w.heap.size _ rfl rfl 163 _ (show Blk _ _ _ _ from Blk.at_ _ _ (by simp)) hi rfl (by simp [Value.oneCell']) ?_; intro w2 HB E2; have E2 := E2 w.heap.size w zX (Nat.le_refl _))
 refine bodyPost_ret_by (results_cell_row Tryz.results50 _ _ w.heap.size 163 _ _ _ rfl HB Tryz.underlying163 rfl hi) rfl ?_
 exact ⟨rfl, E2⟩
end Go.Proofs.YtmmhcllibpmfnaaGreatDoor
namespace Go.Proofs.YtmmhcllibpmfnaaGreatDoor
open Go.RowKit Go.Kb
set_option maxRecDepth 100000
abbrev Ub8 : Rep Int := Rep.int .u8
theorem info_ub8 : (Tryz.prog.info? 5).map (fun i => (i.zero, i.size, i.bytes)) = some (some (.int .u8 0), Ub8.size, 1) := by kernel_rfl
set_option maxHeartbeats 800000 in
theorem woct1 (g : Nat) (w : World) (h : Blk w g 167 #[.slice none 0 0]) :
   Calls Tryz.prog 86 #[.pointer (some ⟨g, 0, none⟩), .agg fld1] w fun e w' => e = .returned (.tuple #[]) ∧ ∃ A c, Blk w' g 167 #[.slice A 1 c] ∧ OwnS Ub8 5 w.heap.size (fun _ => False) w' (.slice A 1 c) [1] ∧ Mod (fun k => k = g) w w' := by
 have HG := Lib.hid h
 have hlt := h.lt
 unfold fld1
 obtain ⟨W, hW⟩ : ∃ W, W = w.alloc (.cells #[.int .i64 2, .int .u32 1, .slice none 0 0, .slice none 0 0] 86) := ⟨_, rfl⟩
 have B3 := Lib.hid (show Blk W w.heap.size 86 #[.int .i64 2, .int .u32 1, .slice none 0 0, .slice none 0 0] by rw [hW]; exact Blk.new w _ _)
 have E0 : Ext w W := by rw [hW]; exact (Ext.refl _).alloc _
 have HW := Lib.hid hW
 have hgn : g ≠ w.heap.size := by omega
 clear h hW
 go_enter Tryz.func86, Tryz.ntmps86
 go_upto_region 1 with fail
 rw [← HW.out]
 clear HW
 refine wp_region_held_drew (S := fun w' => Mod (fun k => k = g) W w') (by kernel_rfl) (Mod.of_ext (Ext.drew (Ext.refl _))) (fun hHeld => ?_)
 obtain ⟨D, hD⟩ : ∃ D, D = W.drew := ⟨_, rfl⟩
 have ED : Ext W D := by rw [hD]; exact (Ext.refl _).drew
 rw [← hD] at hHeld ⊢
 clear hD
 (refine zR 0 rfl ?_; (try simp only [zP]))
 (refine zR 1 rfl ?_; (try simp only [zP]))
 (refine zR 2 rfl ?_; (try simp only [zP]))
 (refine zR 3 rfl ?_; (try simp only [zP]))
 (refine zR 5 rfl ?_; (try simp only [zP]))
 (refine zT 6 (v := ?_) rfl (Or.inl ⟨by rfl, ?_⟩) ?_; rotate_left; (focus (intro w' hSw; have kc := (B3.out.mod hSw (by omega)).cell 1; go_simp; try with_reducible rfl)); (try simp only [zP]))
 (refine zR 7 rfl ?_; (try simp only [zP]))
 have BD := HG.out.ext (E0.trans ED)
 have kd := BD.cell 0
 refine wpAnyH_ready (rs := [4, 8]) (by kernel_rfl) (by simp) ?_
 refine AllReadyH.cons rfl (fun K hK => ?_) (AllReadyH.cons rfl (fun K hK => ?_) AllReadyH.nil)
 · go_simp
   refine hK.out _ _ (Mod.of_ext ED) (fun hHeld => ?_)
   clear hK K
   (try simp only [zP])
   (refine wpAnyH_ready (rs := [8]) (by kernel_rfl) (by simp) ?_; refine AllReadyH.cons rfl (fun K hK => ?_) AllReadyH.nil; go_simp; refine hK.out _ _ (Mod.of_ext (ED.alloc _)) (fun hHeld => ?_); clear hK K; (try simp only [zP]))
   refine wpAnyH_ready (rs := [9]) (by kernel_rfl) (by simp) ?_
   refine AllReadyH.cons rfl (fun K hK => ?_) AllReadyH.nil
   refine step_app (e := Ub8) (base := D.heap.size) (B := fun _ => False) (A := fun _ => False) rfl (.tmp 8) (.tmp 12) rfl Tryz.underlying43 info_ub8 rfl (OwnS.nil _ _ _ _ _) rfl (RdY.singleB (e := Ub8) (cs := [.int .u8 1]) (d := 1) rfl (Blk.new D _ _)) rfl (fun _ _ h => h.elim) (N := 1) rfl (by simp [maxLen]) (by omega) (by simp) ?_
   intro A9 c9 x9 o9 M9 D9
   have E9 : Ext W x9 := Below.trans (ED.alloc _) (D9.mono ED.size)
   refine hK.out _ _ (Mod.of_ext E9) (fun hHeld => ?_)
   clear hK K
   (try simp only [zP])
   (refine zR 10 rfl ?_; (try simp only [zP]))
   (refine zR 11 rfl ?_; (try simp only [zP]))
   have B9 := HG.out.ext (E0.trans E9)
   have kd9 := B9.cell 0
   have fd9 := B9.frozen 0
   have M12 : Mod (fun k => k = g) x9 _ := (Mod.refl _ x9).set1 (.slice A9 1 c9) (o := 0)
   have BF := Lib.hid (B9.set_ 0 (.slice A9 1 c9))
   have OF := Lib.hid ((o9.lower (base' := w.heap.size) (Nat.le_trans E0.size ED.size)).mod M12 (fun k hk he => by have := (o9.row k hk).1; have := Nat.le_trans E0.size ED.size; omega) (fun _ _ hk _ => hk))
   have MF := Lib.hid ((Mod.of_ext (S := fun k => k = g) (E0.trans E9)).trans M12)
   (refine wpAnyH_ready (rs := [12]) (by kernel_rfl) (by simp) ?_; refine AllReadyH.cons rfl (fun K hK => ?_) AllReadyH.nil; go_simp; refine hK.out _ _ ((Mod.of_ext E9).trans M12) (fun hHeld => ?_); clear hK K; (try simp only [zP]))
   refine wpAnyH_done (by kernel_rfl) ?_ _
   go_end0
   exact ⟨rfl, A9, c9, BF.out, OF.out, MF.out⟩
 · go_simp
   refine hK.out _ _ (Mod.of_ext (ED.alloc _)) (fun hHeld => ?_)
   clear hK K
   (try simp only [zP])
   have kd := (BD.ext ((Ext.refl D).alloc (.cells #[.int .u8 (IntKind.u8.wrap 1)] 5))).cell 0
   (refine wpAnyH_ready (rs := [4]) (by kernel_rfl) (by simp) ?_; refine AllReadyH.cons rfl (fun K hK => ?_) AllReadyH.nil; go_simp; refine hK.out _ _ (Mod.of_ext (ED.alloc _)) (fun hHeld => ?_); clear hK K; (try simp only [zP]))
   refine wpAnyH_ready (rs := [9]) (by kernel_rfl) (by simp) ?_
   refine AllReadyH.cons rfl (fun K hK => ?_) AllReadyH.nil
   refine step_app (e := Ub8) (base := D.heap.size) (B := fun _ => False) (A := fun _ => False) rfl (.tmp 8) (.tmp 12) rfl Tryz.underlying43 info_ub8 rfl (OwnS.nil _ _ _ _ _) rfl (RdY.singleB (e := Ub8) (cs := [.int .u8 1]) (d := 1) rfl (Blk.new D _ _)) rfl (fun _ _ h => h.elim) (N := 1) rfl (by simp [maxLen]) (by omega) (by simp) ?_
   intro A9 c9 x9 o9 M9 D9
   have E9 : Ext W x9 := Below.trans (ED.alloc _) (D9.mono ED.size)
   refine hK.out _ _ (Mod.of_ext E9) (fun hHeld => ?_)
   clear hK K
   (try simp only [zP])
   (refine zR 10 rfl ?_; (try simp only [zP]))
   (refine zR 11 rfl ?_; (try simp only [zP]))
   have B9 := HG.out.ext (E0.trans E9)
   have kd9 := B9.cell 0
   have fd9 := B9.frozen 0
   have M12 : Mod (fun k => k = g) x9 _ := (Mod.refl _ x9).set1 (.slice A9 1 c9) (o := 0)
   have BF := Lib.hid (B9.set_ 0 (.slice A9 1 c9))
   have OF := Lib.hid ((o9.lower (base' := w.heap.size) (Nat.le_trans E0.size ED.size)).mod M12 (fun k hk he => by have := (o9.row k hk).1; have := Nat.le_trans E0.size ED.size; omega) (fun _ _ hk _ => hk))
   have MF := Lib.hid ((Mod.of_ext (S := fun k => k = g) (E0.trans E9)).trans M12)
   (refine wpAnyH_ready (rs := [12]) (by kernel_rfl) (by simp) ?_; refine AllReadyH.cons rfl (fun K hK => ?_) AllReadyH.nil; go_simp; refine hK.out _ _ ((Mod.of_ext E9).trans M12) (fun hHeld => ?_); clear hK K; (try simp only [zP]))
   refine wpAnyH_done (by kernel_rfl) ?_ _
   go_end0
   exact ⟨rfl, A9, c9, BF.out, OF.out, MF.out⟩
end Go.Proofs.YtmmhcllibpmfnaaGreatDoor
namespace Go.Proofs.YtmmhcllibpmfnaaGreatDoor
open Go.RowKit Go.Kb
set_option maxRecDepth 100000
/-- append onto a row of the call's own within a drawn region; whose block it is then -/
theorem step_appX {D : Type} {e : Rep D} {T : TypeId} {base : Nat} {A B : Nat → Prop} {w : World} {ds ds2 : List D} {v : Value} {P : Program} {z : Value} {bytes : Nat} {t : TypeId}
   {ops : Array Oper} {o : Oper} {a : Act} {K : Act → World → Prop} {Q : Exit → Act → World → Prop} {E : Prop} (hgd : o.guard = none) (s x : Operand)
   (ho : o.op = .call { callee := .builtin .append, args := #[s, x], argTypes := #[t, t] })
   (ht : P.underlying t = some (.slice T)) (hi : (P.info? T).map (fun i => (i.zero, i.size, i.bytes)) = some (some z, e.size, bytes)) (hz : z.cells.size = e.size)
   (hown : OwnS e T base B w v ds) (hs : a.eval s = v) {y : Value} (hr : RdY e A w y ds2) (hx : a.eval x = y) (hA : ∀ k, k < w.heap.size → A k → B k ∧ v.ownBlock ≠ some k)
   {N : Nat} (hN : ds.length + ds2.length = N) (h63 : N ≤ maxLen) (hbytes : N * bytes ≤ 140737488355328) (hbase : base ≤ w.heap.size)
   (h : ∀ Ad c w', OwnS e T base B w' (.slice Ad N c) (ds ++ ds2) → Mod (fun k => v.ownBlock = some k) w w' → ((Value.slice Ad N c).ownBlock = v.ownBlock ∨ (Value.slice Ad N c).ownBlock = some w.heap.size) → K (a.put o.dst (.slice Ad N c)) w') :
   if Region.wanted o (yielded ops a.tmps) = true then Oper.wp P o a w K Q else E := by
 have hw : Region.wanted o (yielded ops a.tmps) = true := by simp [Region.wanted, hgd]
 rw [if_pos hw]
 subst hN
 obtain ⟨us, hus, he⟩ := hown
 obtain ⟨news, hn, hne⟩ := hr
 obtain ⟨i0, hi0, hz0, hz1, hz2⟩ := info_parts hi
 refine wp_append_rd w s x t ho base T i0 z e.size bytes ht hi0 hz0 hz1 hz2 hz e.pos v ds.length us hs hus y ds2.length news hx hn hne.one h63 hbytes hbase fun v' w' h1 h2 h3 => ?_
 obtain ⟨Ad, c, rfl⟩ := own_shape h1
 exact h Ad c w' (OwnS.app he hne hA h1 h2 h3) (grown_mod h2) h3
/-- the blocks that a writer's methods may turn -/
abbrev wS (g : Nat) (v : Value) : Nat → Prop := fun k => k = g ∨ v.ownBlock = some k
/-- a writer in block g, its bytes a row of its own from block base on -/
structure Wr (base g : Nat) (w : World) (v : Value) (out : List Int) : Prop where
 blk : Blk w g 167 #[v]
 own : OwnS Ub8 5 base (fun _ => False) w v out
theorem Wr.ext {base g : Nat} {w w' : World} {v : Value} {out : List Int} (h : Wr base g w v out) (E : Ext w w') : Wr base g w' v out := ⟨h.blk.ext E, h.own.ext E⟩
theorem Wr.ne {base g : Nat} {w : World} {v : Value} {out : List Int} (h : Wr base g w v out) : v.ownBlock ≠ some g := by
 obtain ⟨us, ho, _⟩ := h.own
 exact own_blk_ne ho h.blk (by decide)
theorem Wr.lt {base g : Nat} {w : World} {v : Value} {out : List Int} (h : Wr base g w v out) : ∀ k, wS g v k → k < w.heap.size := by
 rintro k (rfl | hk)
 · exact h.blk.lt
 · exact (h.own.row k hk).2
/-- what a method leaves -/
def WPost (base g : Nat) (v : Value) (out add : List Int) (w : World) (e : Ending) (w' : World) : Prop :=
 e = .returned (.tuple #[]) ∧ ∃ v2, Wr base g w' v2 (out ++ add) ∧ Mod (wS g v) w w' ∧ (∀ k, v2.ownBlock = some k → v.ownBlock = some k ∨ w.heap.size ≤ k)
theorem WPost.trans {base g : Nat} {v v2 : Value} {out a b : List Int} {w w1 w2 : World} {e : Ending} (h2 : Mod (wS g v) w w1) (h3 : ∀ k, v2.ownBlock = some k → v.ownBlock = some k ∨ w.heap.size ≤ k) (h : WPost base g v2 (out ++ a) b w1 e w2) : WPost base g v out (a ++ b) w e w2 := by
 obtain ⟨he, v4, h5, h6, h7⟩ := h
 refine ⟨he, v4, by rw [← List.append_assoc]; exact h5, ?_, fun k hk => ?_⟩
 · refine ⟨h6.os.trans h2.os, h6.tape.trans h2.tape, h6.output.trans h2.output, Nat.le_trans h2.size h6.size, fun k hk hn => ?_⟩
   refine (h6.block k (Nat.lt_of_lt_of_le hk h2.size) ?_).trans (h2.block k hk hn)
   rintro (rfl | h8)
   · exact hn (.inl rfl)
   · rcases h3 k h8 with h9 | h9
     · exact hn (.inr h9)
     · omega
 · rcases h7 k hk with h8 | h8
   · exact h3 k h8
   · exact .inr (Nat.le_trans h2.size h8)
theorem wstore {base g : Nat} {w x : World} {v : Value} {out add : List Int} {A : Option Addr} {N c : Nat} {wm : World} (h : Wr base g w v out) (E : Ext w wm) (o9 : OwnS Ub8 5 base (fun _ => False) x (.slice A N c) (out ++ add)) (M9 : Mod (fun k => v.ownBlock = some k) wm x) (X9 : (Value.slice A N c).ownBlock = v.ownBlock ∨ (Value.slice A N c).ownBlock = some wm.heap.size) :
   Blk x g 167 #[v] ∧ Mod (wS g v) wm x ∧ Mod (wS g v) x (x.setCell ⟨g, 0, none⟩ (.slice A N c)) ∧ WPost base g v out add w (.returned (.tuple #[])) (x.setCell ⟨g, 0, none⟩ (.slice A N c)) := by
 have B9 : Blk x g 167 #[v] := (h.blk.ext E).mod M9 h.ne
 have hne : (Value.slice A N c).ownBlock ≠ some g := by
   obtain ⟨us, ho, _⟩ := o9
   exact own_blk_ne ho B9 (by decide)
 have MW : Mod (wS g v) wm x := M9.mono fun _ _ hk => .inr hk
 have MS : Mod (wS g v) x (x.setCell ⟨g, 0, none⟩ (.slice A N c)) := (Mod.refl _ _).set_ (.inr (.inl rfl)) _
 refine ⟨B9, MW, MS, rfl, .slice A N c, ⟨?_, ?_⟩, ((Mod.of_ext E).trans MW).trans MS, fun k hk => ?_⟩
 · exact B9.set_ 0 _
 · exact o9.mod ((Mod.refl (fun k => k = g) _).set1 _) (fun k hk he => hne (by rw [hk, he])) (fun _ _ hk => hk.elim)
 · rcases X9 with h6 | h6
   · rw [h6] at hk; exact .inl hk
   · rw [h6, Option.some.injEq] at hk; right; rw [← hk]; exact E.size
set_option maxHeartbeats 800000 in
theorem woct_any (base g : Nat) (v : Value) (out : List Int) (k n : Int) (vt vl : Value) (w : World) (h : Wr base g w v out) (hb : base ≤ w.heap.size) (hn : 0 ≤ n ∧ n ≤ 255) (hl : out.length ≤ 100000) :
   Calls Tryz.prog 86 #[.pointer (some ⟨g, 0, none⟩), .agg #[.int .i64 k, .int .u32 n, vt, vl]] w (WPost base g v out [n] w) := by
 have hwr : IntKind.u8.wrap n = n := by unfold IntKind.wrap; simp [IntKind.bits, IntKind.signed]; omega
 have HWR := Lib.hid hwr
 have HTOT := Lib.hid (show out.length + 1 ≤ 1000000 by omega)
 obtain ⟨A0, c0, rfl, hc1, hc2⟩ := h.own.shape
 have H := Lib.hid h
 have HBASE := Lib.hid hb
 obtain ⟨W, hW⟩ : ∃ W, W = w.alloc (.cells #[.int .i64 k, .int .u32 n, vt, vl] 86) := ⟨_, rfl⟩
 have B3 := Lib.hid (show Blk W w.heap.size 86 #[.int .i64 k, .int .u32 n, vt, vl] by rw [hW]; exact Blk.new w _ _)
 have E0 : Ext w W := by rw [hW]; exact (Ext.refl _).alloc _
 have HW := Lib.hid hW
 have HNB := Lib.hid (show ¬ wS g (.slice A0 out.length c0) w.heap.size from fun hh => Nat.lt_irrefl _ (h.lt _ hh))
 clear h hW hl hb hc1 hc2
 clear hwr
 go_enter Tryz.func86, Tryz.ntmps86
 go_upto_region 1 with fail
 rw [← HW.out]
 clear HW
 refine wp_region_held_drew (S := fun w' => Mod (wS g (.slice A0 out.length c0)) W w') (by kernel_rfl) (Mod.of_ext (Ext.drew (Ext.refl _))) (fun hHeld => ?_)
 obtain ⟨D, hD⟩ : ∃ D, D = W.drew := ⟨_, rfl⟩
 have ED : Ext W D := by rw [hD]; exact (Ext.refl _).drew
 rw [← hD] at hHeld ⊢
 clear hD
 have BD := H.out.blk.ext (E0.trans ED)
 have kd := BD.cell 0
 (refine zR 0 rfl ?_; (try simp only [zP]))
 (refine zR 1 rfl ?_; (try simp only [zP]))
 (refine zR 2 rfl ?_; (try simp only [zP]))
 (refine zR 3 rfl ?_; (try simp only [zP]))
 (refine zR 5 rfl ?_; (try simp only [zP]))
 (refine zT 6 (v := ?_) rfl (Or.inl ⟨by rfl, ?_⟩) ?_; rotate_left; (focus (intro w' hSw; have kc := (B3.out.mod hSw HNB.out).cell 1; go_simp; try with_reducible rfl)); (try simp only [zP]))
 (refine zR 7 rfl ?_; (try simp only [zP]))
 refine wpAnyH_ready (rs := [4, 8]) (by kernel_rfl) (by simp) ?_
 refine AllReadyH.cons rfl (fun K hK => ?_) (AllReadyH.cons rfl (fun K hK => ?_) AllReadyH.nil)
 · go_simp
   refine hK.out _ _ (Mod.of_ext ED) (fun hHeld => ?_)
   clear hK K
   (try simp only [zP])
   (refine wpAnyH_ready (rs := [8]) (by kernel_rfl) (by simp) ?_; refine AllReadyH.cons rfl (fun K hK => ?_) AllReadyH.nil; go_simp; refine hK.out _ _ (Mod.of_ext (ED.alloc _)) (fun hHeld => ?_); clear hK K; (try simp only [zP]))
   refine wpAnyH_ready (rs := [9]) (by kernel_rfl) (by simp) ?_
   refine AllReadyH.cons rfl (fun K hK => ?_) AllReadyH.nil
   have EM := (Ext.refl D).alloc (.cells #[.int .u8 (IntKind.u8.wrap n)] 5)
   refine step_appX (e := Ub8) (base := base) (B := fun _ => False) (A := fun _ => False) rfl (.tmp 8) (.tmp 12) rfl Tryz.underlying43 info_ub8 rfl (H.out.own.ext (E0.trans (ED.trans EM))) rfl (RdY.singleB (e := Ub8) (cs := [.int .u8 (IntKind.u8.wrap n)]) (d := IntKind.u8.wrap n) rfl (Blk.new D _ _)) rfl (fun _ _ h => h.elim) (N := out.length + 1) rfl (by have := HTOT.out; unfold maxLen; omega) (by have := HTOT.out; omega) (by have := HBASE.out; have := (E0.trans (ED.trans EM)).size; omega) ?_
   intro A9 c9 x9 o9 M9 X9
   obtain ⟨B9, M10, M11, Z9⟩ := wstore H.out (E0.trans (ED.trans EM)) o9 M9 X9
   have HZ := Lib.hid Z9
   have ME := (Mod.of_ext (S := wS g (.slice A0 out.length c0)) (ED.trans EM)).trans M10
   refine hK.out _ _ ME (fun hHeld => ?_)
   clear hK K
   (try simp only [zP])
   (refine zR 10 rfl ?_; (try simp only [zP]))
   (refine zR 11 rfl ?_; (try simp only [zP]))
   have kd9 := B9.cell 0
   have fd9 := B9.frozen 0
   clear Z9 B9 M10 M9 X9 o9
   (refine wpAnyH_ready (rs := [12]) (by kernel_rfl) (by simp) ?_; refine AllReadyH.cons rfl (fun K hK => ?_) AllReadyH.nil; go_simp; refine hK.out _ _ (ME.trans M11) (fun hHeld => ?_); clear hK K; (try simp only [zP]))
   refine wpAnyH_done (by kernel_rfl) ?_ _
   go_end0
   rw [HWR.out] at HZ
   exact HZ.out
 · go_simp
   refine hK.out _ _ (Mod.of_ext (ED.alloc _)) (fun hHeld => ?_)
   clear hK K
   (try simp only [zP])
   have kd := (BD.ext ((Ext.refl D).alloc (.cells #[.int .u8 (IntKind.u8.wrap n)] 5))).cell 0
   (refine wpAnyH_ready (rs := [4]) (by kernel_rfl) (by simp) ?_; refine AllReadyH.cons rfl (fun K hK => ?_) AllReadyH.nil; go_simp; refine hK.out _ _ (Mod.of_ext (ED.alloc _)) (fun hHeld => ?_); clear hK K; (try simp only [zP]))
   refine wpAnyH_ready (rs := [9]) (by kernel_rfl) (by simp) ?_
   refine AllReadyH.cons rfl (fun K hK => ?_) AllReadyH.nil
   have EM := (Ext.refl D).alloc (.cells #[.int .u8 (IntKind.u8.wrap n)] 5)
   refine step_appX (e := Ub8) (base := base) (B := fun _ => False) (A := fun _ => False) rfl (.tmp 8) (.tmp 12) rfl Tryz.underlying43 info_ub8 rfl (H.out.own.ext (E0.trans (ED.trans EM))) rfl (RdY.singleB (e := Ub8) (cs := [.int .u8 (IntKind.u8.wrap n)]) (d := IntKind.u8.wrap n) rfl (Blk.new D _ _)) rfl (fun _ _ h => h.elim) (N := out.length + 1) rfl (by have := HTOT.out; unfold maxLen; omega) (by have := HTOT.out; omega) (by have := HBASE.out; have := (E0.trans (ED.trans EM)).size; omega) ?_
   intro A9 c9 x9 o9 M9 X9
   obtain ⟨B9, M10, M11, Z9⟩ := wstore H.out (E0.trans (ED.trans EM)) o9 M9 X9
   have HZ := Lib.hid Z9
   have ME := (Mod.of_ext (S := wS g (.slice A0 out.length c0)) (ED.trans EM)).trans M10
   refine hK.out _ _ ME (fun hHeld => ?_)
   clear hK K
   (try simp only [zP])
   (refine zR 10 rfl ?_; (try simp only [zP]))
   (refine zR 11 rfl ?_; (try simp only [zP]))
   have kd9 := B9.cell 0
   have fd9 := B9.frozen 0
   clear Z9 B9 M10 M9 X9 o9
   (refine wpAnyH_ready (rs := [12]) (by kernel_rfl) (by simp) ?_; refine AllReadyH.cons rfl (fun K hK => ?_) AllReadyH.nil; go_simp; refine hK.out _ _ (ME.trans M11) (fun hHeld => ?_); clear hK K; (try simp only [zP]))
   refine wpAnyH_done (by kernel_rfl) ?_ _
   go_end0
   rw [HWR.out] at HZ
   exact HZ.out
set_option maxHeartbeats 800000 in
theorem wrest_any (base g : Nat) (v : Value) (out : List Int) (k n : Int) (vt vl : Value) (text : List Int) (w : World) (h : Wr base g w v out) (hb : base ≤ w.heap.size) (ht : RI .u8 w vt text) (hl : out.length ≤ 100000) (htl : text.length ≤ 100000) :
   Calls Tryz.prog 100 #[.pointer (some ⟨g, 0, none⟩), .agg #[.int .i64 k, .int .u32 n, vt, vl]] w (WPost base g v out text w) := by
 have HT := Lib.hid ht
 have HTOT := Lib.hid (show out.length + text.length ≤ 1000000 by omega)
 clear ht htl
 obtain ⟨A0, c0, rfl, hc1, hc2⟩ := h.own.shape
 have H := Lib.hid h
 have HBASE := Lib.hid hb
 obtain ⟨W, hW⟩ : ∃ W, W = w.alloc (.cells #[.int .i64 k, .int .u32 n, vt, vl] 86) := ⟨_, rfl⟩
 have B3 := Lib.hid (show Blk W w.heap.size 86 #[.int .i64 k, .int .u32 n, vt, vl] by rw [hW]; exact Blk.new w _ _)
 have E0 : Ext w W := by rw [hW]; exact (Ext.refl _).alloc _
 have HW := Lib.hid hW
 have HNB := Lib.hid (show ¬ wS g (.slice A0 out.length c0) w.heap.size from fun hh => Nat.lt_irrefl _ (h.lt _ hh))
 clear h hW hl hb hc1 hc2
 go_enter Tryz.func100, Tryz.ntmps100
 go_upto_region 1 with fail
 rw [← HW.out]
 clear HW
 refine wp_region_held_drew (S := fun w' => Mod (wS g (.slice A0 out.length c0)) W w') (by kernel_rfl) (Mod.of_ext (Ext.drew (Ext.refl _))) (fun hHeld => ?_)
 obtain ⟨D, hD⟩ : ∃ D, D = W.drew := ⟨_, rfl⟩
 have ED : Ext W D := by rw [hD]; exact (Ext.refl _).drew
 rw [← hD] at hHeld ⊢
 clear hD
 have BD := H.out.blk.ext (E0.trans ED)
 have kd := BD.cell 0
 (refine zR 0 rfl ?_; (try simp only [zP]))
 (refine zR 1 rfl ?_; (try simp only [zP]))
 (refine zR 2 rfl ?_; (try simp only [zP]))
 (refine zR 3 rfl ?_; (try simp only [zP]))
 (refine zR 5 rfl ?_; (try simp only [zP]))
 (refine zT 6 (v := ?_) rfl (Or.inl ⟨by rfl, ?_⟩) ?_; rotate_left; (focus (intro w' hSw; have kc := (B3.out.mod hSw HNB.out).cell 2; go_simp; try with_reducible rfl)); (try simp only [zP]))
 (refine wpAnyH_ready (rs := [4]) (by kernel_rfl) (by simp) ?_; refine AllReadyH.cons rfl (fun K hK => ?_) AllReadyH.nil; go_simp; refine hK.out _ _ (Mod.of_ext ED) (fun hHeld => ?_); clear hK K; (try simp only [zP]))
 refine wpAnyH_ready (rs := [7]) (by kernel_rfl) (by simp) ?_
 refine AllReadyH.cons rfl (fun K hK => ?_) AllReadyH.nil
 have EM := Ext.refl D
 refine step_appX (e := Ub8) (base := base) (B := fun _ => False) (A := fun _ => False) rfl (.tmp 8) (.tmp 10) rfl Tryz.underlying43 info_ub8 rfl (H.out.own.ext (E0.trans (ED.trans EM))) rfl (RI.y (RdN.ext HT.out (E0.trans ED))) rfl (fun _ _ h => h.elim) (N := out.length + text.length) rfl (by have := HTOT.out; unfold maxLen; omega) (by have := HTOT.out; omega) (by have := HBASE.out; have := (E0.trans (ED.trans EM)).size; omega) ?_
 intro A9 c9 x9 o9 M9 X9
 obtain ⟨B9, M10, M11, Z9⟩ := wstore H.out (E0.trans (ED.trans EM)) o9 M9 X9
 have HZ := Lib.hid Z9
 have ME := (Mod.of_ext (S := wS g (.slice A0 out.length c0)) (ED.trans EM)).trans M10
 refine hK.out _ _ ME (fun hHeld => ?_)
 clear hK K
 (try simp only [zP])
 (refine zR 8 rfl ?_; (try simp only [zP]))
 (refine zR 9 rfl ?_; (try simp only [zP]))
 have kd9 := B9.cell 0
 have fd9 := B9.frozen 0
 clear Z9 B9 M10 M9 X9 o9
 (refine wpAnyH_ready (rs := [10]) (by kernel_rfl) (by simp) ?_; refine AllReadyH.cons rfl (fun K hK => ?_) AllReadyH.nil; go_simp; refine hK.out _ _ (ME.trans M11) (fun hHeld => ?_); clear hK K; (try simp only [zP]))
 refine wpAnyH_done (by kernel_rfl) ?_ _
 go_end0
 exact HZ.out
set_option maxHeartbeats 800000 in
theorem wnum_any (base g : Nat) (v : Value) (out : List Int) (k n : Int) (vt vl : Value) (w : World) (h : Wr base g w v out) (hb : base ≤ w.heap.size) (hn : 0 ≤ n ∧ n ≤ 4294967295) (hl : out.length ≤ 100000) :
   Calls Tryz.prog 91 #[.pointer (some ⟨g, 0, none⟩), .agg #[.int .i64 k, .int .u32 n, vt, vl]] w (WPost base g v out (Fr.four n) w) := by
 have hf : [IntKind.u8.wrap (n / 16777216), IntKind.u8.wrap (n / 65536), IntKind.u8.wrap (n / 256), IntKind.u8.wrap n] = Fr.four n := by
   have hw : ∀ m : Int, IntKind.u8.wrap m = m % 256 := fun m => by unfold IntKind.wrap; simp [IntKind.bits, IntKind.signed]
   unfold Fr.four
   rw [hw, hw, hw, hw, show n / 16777216 % 256 = n / 16777216 by omega]
 have HF := Lib.hid hf
 have HTOT := Lib.hid (show out.length + 4 ≤ 1000000 by omega)
 clear hf hn
 obtain ⟨A0, c0, rfl, hc1, hc2⟩ := h.own.shape
 have H := Lib.hid h
 have HBASE := Lib.hid hb
 obtain ⟨W, hW⟩ : ∃ W, W = w.alloc (.cells #[.int .i64 k, .int .u32 n, vt, vl] 86) := ⟨_, rfl⟩
 have B3 := Lib.hid (show Blk W w.heap.size 86 #[.int .i64 k, .int .u32 n, vt, vl] by rw [hW]; exact Blk.new w _ _)
 have E0 : Ext w W := by rw [hW]; exact (Ext.refl _).alloc _
 have HW := Lib.hid hW
 have HNB := Lib.hid (show ¬ wS g (.slice A0 out.length c0) w.heap.size from fun hh => Nat.lt_irrefl _ (h.lt _ hh))
 clear h hW hl hb hc1 hc2
 go_enter Tryz.func91, Tryz.ntmps91
 go_upto_region 1 with fail
 rw [← HW.out]
 clear HW
 refine wp_region_held_drew (S := fun w' => Mod (wS g (.slice A0 out.length c0)) W w') (by kernel_rfl) (Mod.of_ext (Ext.drew (Ext.refl _))) (fun hHeld => ?_)
 obtain ⟨D, hD⟩ : ∃ D, D = W.drew := ⟨_, rfl⟩
 have ED : Ext W D := by rw [hD]; exact (Ext.refl _).drew
 rw [← hD] at hHeld ⊢
 clear hD
 have BD := H.out.blk.ext (E0.trans ED)
 have kd := BD.cell 0
 (refine zR 0 rfl ?_; (try simp only [zP]))
 (refine zR 1 rfl ?_; (try simp only [zP]))
 (refine zR 2 rfl ?_; (try simp only [zP]))
 (refine zR 3 rfl ?_; (try simp only [zP]))
 (refine zR 5 rfl ?_; (try simp only [zP]))
 (refine zT 6 (v := ?_) rfl (Or.inl ⟨by rfl, ?_⟩) ?_; rotate_left; (focus (intro w' hSw; have kc := (B3.out.mod hSw HNB.out).cell 1; go_simp; try with_reducible rfl)); (try simp only [zP]))
 (refine zR 7 rfl ?_; (try simp only [zP]))
 (refine zR 8 rfl ?_; (try simp only [zP]))
 (refine zR 9 rfl ?_; (try simp only [zP]))
 (refine zT 10 (v := ?_) rfl (Or.inl ⟨by rfl, ?_⟩) ?_; rotate_left; (focus (intro w' hSw; have kc := (B3.out.mod hSw HNB.out).cell 1; go_simp; try with_reducible rfl)); (try simp only [zP]))
 (refine zR 11 rfl ?_; (try simp only [zP]))
 (refine zR 12 rfl ?_; (try simp only [zP]))
 (refine zR 13 rfl ?_; (try simp only [zP]))
 (refine zT 14 (v := ?_) rfl (Or.inl ⟨by rfl, ?_⟩) ?_; rotate_left; (focus (intro w' hSw; have kc := (B3.out.mod hSw HNB.out).cell 1; go_simp; try with_reducible rfl)); (try simp only [zP]))
 (refine zR 15 rfl ?_; (try simp only [zP]))
 (refine zR 16 rfl ?_; (try simp only [zP]))
 (refine zR 17 rfl ?_; (try simp only [zP]))
 (refine zT 18 (v := ?_) rfl (Or.inl ⟨by rfl, ?_⟩) ?_; rotate_left; (focus (intro w' hSw; have kc := (B3.out.mod hSw HNB.out).cell 1; go_simp; try with_reducible rfl)); (try simp only [zP]))
 (refine zR 19 rfl ?_; (try simp only [zP]))
 refine wpAnyH_ready (rs := [4, 20]) (by kernel_rfl) (by simp) ?_
 refine AllReadyH.cons rfl (fun K hK => ?_) (AllReadyH.cons rfl (fun K hK => ?_) AllReadyH.nil)
 · go_simp
   refine hK.out _ _ (Mod.of_ext ED) (fun hHeld => ?_)
   clear hK K
   (try simp only [zP])
   (refine wpAnyH_ready (rs := [20]) (by kernel_rfl) (by simp) ?_; refine AllReadyH.cons rfl (fun K hK => ?_) AllReadyH.nil; go_simp; refine hK.out _ _ (Mod.of_ext (ED.alloc _)) (fun hHeld => ?_); clear hK K; (try simp only [zP]))
   refine wpAnyH_ready (rs := [21]) (by kernel_rfl) (by simp) ?_
   refine AllReadyH.cons rfl (fun K hK => ?_) AllReadyH.nil
   have EM := (Ext.refl D).alloc (.cells #[.int .u8 (IntKind.u8.wrap (n / 16777216)), .int .u8 (IntKind.u8.wrap (n / 65536)), .int .u8 (IntKind.u8.wrap (n / 256)), .int .u8 (IntKind.u8.wrap n)] 5)
   refine step_appX (e := Ub8) (base := base) (B := fun _ => False) (A := fun _ => False) rfl (.tmp 8) (.tmp 24) rfl Tryz.underlying43 info_ub8 rfl (H.out.own.ext (E0.trans (ED.trans EM))) rfl (RI.y (RI.lit .u8 [IntKind.u8.wrap (n / 16777216), IntKind.u8.wrap (n / 65536), IntKind.u8.wrap (n / 256), IntKind.u8.wrap n] 5 rfl (by simp))) rfl (fun _ _ h => h.elim) (N := out.length + 4) rfl (by have := HTOT.out; unfold maxLen; omega) (by have := HTOT.out; omega) (by have := HBASE.out; have := (E0.trans (ED.trans EM)).size; omega) ?_
   intro A9 c9 x9 o9 M9 X9
   obtain ⟨B9, M10, M11, Z9⟩ := wstore H.out (E0.trans (ED.trans EM)) o9 M9 X9
   have HZ := Lib.hid Z9
   have ME := (Mod.of_ext (S := wS g (.slice A0 out.length c0)) (ED.trans EM)).trans M10
   refine hK.out _ _ ME (fun hHeld => ?_)
   clear hK K
   (try simp only [zP])
   (refine zR 22 rfl ?_; (try simp only [zP]))
   (refine zR 23 rfl ?_; (try simp only [zP]))
   have kd9 := B9.cell 0
   have fd9 := B9.frozen 0
   clear Z9 B9 M10 M9 X9 o9
   (refine wpAnyH_ready (rs := [24]) (by kernel_rfl) (by simp) ?_; refine AllReadyH.cons rfl (fun K hK => ?_) AllReadyH.nil; go_simp; refine hK.out _ _ (ME.trans M11) (fun hHeld => ?_); clear hK K; (try simp only [zP]))
   refine wpAnyH_done (by kernel_rfl) ?_ _
   go_end0
   rw [HF.out] at HZ
   exact HZ.out
 · go_simp
   refine hK.out _ _ (Mod.of_ext (ED.alloc _)) (fun hHeld => ?_)
   clear hK K
   (try simp only [zP])
   have kd := (BD.ext ((Ext.refl D).alloc (.cells #[.int .u8 (IntKind.u8.wrap (n / 16777216)), .int .u8 (IntKind.u8.wrap (n / 65536)), .int .u8 (IntKind.u8.wrap (n / 256)), .int .u8 (IntKind.u8.wrap n)] 5))).cell 0
   (refine wpAnyH_ready (rs := [4]) (by kernel_rfl) (by simp) ?_; refine AllReadyH.cons rfl (fun K hK => ?_) AllReadyH.nil; go_simp; refine hK.out _ _ (Mod.of_ext (ED.alloc _)) (fun hHeld => ?_); clear hK K; (try simp only [zP]))
   refine wpAnyH_ready (rs := [21]) (by kernel_rfl) (by simp) ?_
   refine AllReadyH.cons rfl (fun K hK => ?_) AllReadyH.nil
   have EM := (Ext.refl D).alloc (.cells #[.int .u8 (IntKind.u8.wrap (n / 16777216)), .int .u8 (IntKind.u8.wrap (n / 65536)), .int .u8 (IntKind.u8.wrap (n / 256)), .int .u8 (IntKind.u8.wrap n)] 5)
   refine step_appX (e := Ub8) (base := base) (B := fun _ => False) (A := fun _ => False) rfl (.tmp 8) (.tmp 24) rfl Tryz.underlying43 info_ub8 rfl (H.out.own.ext (E0.trans (ED.trans EM))) rfl (RI.y (RI.lit .u8 [IntKind.u8.wrap (n / 16777216), IntKind.u8.wrap (n / 65536), IntKind.u8.wrap (n / 256), IntKind.u8.wrap n] 5 rfl (by simp))) rfl (fun _ _ h => h.elim) (N := out.length + 4) rfl (by have := HTOT.out; unfold maxLen; omega) (by have := HTOT.out; omega) (by have := HBASE.out; have := (E0.trans (ED.trans EM)).size; omega) ?_
   intro A9 c9 x9 o9 M9 X9
   obtain ⟨B9, M10, M11, Z9⟩ := wstore H.out (E0.trans (ED.trans EM)) o9 M9 X9
   have HZ := Lib.hid Z9
   have ME := (Mod.of_ext (S := wS g (.slice A0 out.length c0)) (ED.trans EM)).trans M10
   refine hK.out _ _ ME (fun hHeld => ?_)
   clear hK K
   (try simp only [zP])
   (refine zR 22 rfl ?_; (try simp only [zP]))
   (refine zR 23 rfl ?_; (try simp only [zP]))
   have kd9 := B9.cell 0
   have fd9 := B9.frozen 0
   clear Z9 B9 M10 M9 X9 o9
   (refine wpAnyH_ready (rs := [24]) (by kernel_rfl) (by simp) ?_; refine AllReadyH.cons rfl (fun K hK => ?_) AllReadyH.nil; go_simp; refine hK.out _ _ (ME.trans M11) (fun hHeld => ?_); clear hK K; (try simp only [zP]))
   refine wpAnyH_done (by kernel_rfl) ?_ _
   go_end0
   rw [HF.out] at HZ
   exact HZ.out
end Go.Proofs.YtmmhcllibpmfnaaGreatDoor
namespace Go.Proofs.YtmmhcllibpmfnaaGreatDoor
open Go.RowKit Go.Kb
set_option maxRecDepth 100000
/-- what is wrong with a field of a kind -/
def fltF (k n : Int) (t : List Int) : Int := if k = 1 then (if 255 < n then 5 else 0) else if k = 2 then (if 1 < n then 5 else 0) else if k = 3 then 0 else if k = 4 then (if 32768 < t.length then 6 else 0) else (if 33792 < t.length then 6 else 0)
/-- a field in bytes -/
def encF (k n : Int) (t : List Int) : List Int := if k = 1 ∨ k = 2 then [n] else if k = 3 then Fr.four n else if k = 4 then Fr.four t.length ++ t else t
set_option maxHeartbeats 800000 in
theorem wtext_any (base g : Nat) (v : Value) (out : List Int) (k n : Int) (vt vl : Value) (text : List Int) (w : World) (h : Wr base g w v out) (hb : base ≤ w.heap.size) (ht : RI .u8 w vt text) (hl : out.length ≤ 90000) (htl : text.length ≤ 100000) (hw : 0 < text.length → ∀ j, vt.ownBlock = some j → ¬ wS g v j) :
   Calls Tryz.prog 94 #[.pointer (some ⟨g, 0, none⟩), .agg #[.int .i64 k, .int .u32 n, vt, vl]] w (WPost base g v out (Fr.four text.length ++ text) w) := by
 have HNB := Lib.hid (show ¬ wS g v w.heap.size from fun hh => Nat.lt_irrefl _ (h.lt _ hh))
 obtain ⟨At, ct, rfl, hc1, hc2⟩ := ht.shape
 have H := Lib.hid h
 have HT := Lib.hid ht
 obtain ⟨L, hL⟩ : ∃ L, text.length = L := ⟨_, rfl⟩
 have HTX := Lib.hid hL
 have HTW := Lib.hid hw
 have HBS := Lib.hid hb
 have hwr : IntKind.u32.wrap (L : Int) = (L : Int) := by unfold IntKind.wrap; simp [IntKind.bits, IntKind.signed]; omega
 have B3 := Lib.hid (Blk.new w 86 #[.int .i64 k, .int .u32 n, .slice At L ct, vl])
 have HN := Lib.hid (fun w1 (h1 : Wr base g w1 v out) (hb1 : base ≤ w1.heap.size) => wnum_any base g v out 0 L (.slice none 0 0) (.slice none 0 0) w1 h1 hb1 (by omega) (by omega))
 rw [hL] at hc1 ⊢
 clear h ht hL hw hb
 go_enter Tryz.func94, Tryz.ntmps94
 go_wp2_with fail
 refine (HN.out _ (H.out.ext zX) (by have := HBS.out; simp; omega)).mono ?_
 rintro e w1 ⟨rfl, v1, R1, M1, X1⟩
 have B4 := B3.out.mod M1 HNB.out
 have k0 := B4.cell 0
 have k1 := B4.cell 1
 have k2 := B4.cell 2
 have k3 := B4.cell 3
 have HR1 := Lib.hid R1
 have E0 : Ext w (w.alloc (.cells #[.int .i64 k, .int .u32 n, .slice At L ct, vl] 86)) := (Ext.refl _).alloc _
 have HM1 := Lib.hid ((Mod.of_ext E0).trans M1)
 have HX1 := Lib.hid (show ∀ j, v1.ownBlock = some j → v.ownBlock = some j ∨ w.heap.size ≤ j from fun j hj => (X1 j hj).imp id (fun h9 => Nat.le_trans E0.size h9))
 have HT1 := Lib.hid (show RI .u8 w1 (.slice At L ct) text by
   have h9 := HT.out.keepB (fun j hj h0 hs => HM1.out.block j hj (HTW.out h0 j hs))
   unfold RI at h9 ⊢
   rw [HTX.out] at h9 ⊢
   exact h9)
 have HZ1 := Lib.hid (show base ≤ w1.heap.size from Nat.le_trans HBS.out (Nat.le_trans E0.size M1.size))
 clear R1 M1 X1 B4 E0
 go_wp2_with fail
 refine (wrest_any base g v1 (out ++ Fr.four L) k n (.slice At L ct) vl text _ HR1.out HZ1.out (HT1.out) (by simp [Fr.four]; omega) htl).mono ?_
 rintro e w2 ⟨rfl, v2, R2, M2, X2⟩
 have HZ := Lib.hid (WPost.trans HM1.out HX1.out (show WPost base g v1 (out ++ Fr.four L) text w1 (.returned (.tuple #[])) w2 from ⟨rfl, v2, R2, M2, X2⟩))
 clear R2 M2 X2
 go_wp2
 go_end0
 exact HZ.out
set_option maxHeartbeats 400000 in
theorem within_o (n m : Int) (w : World) : Calls Tryz.prog 172 #[.int .u32 n, .int .u32 m] w fun e w' => e = .returned (.int .i64 (if m < n then 5 else 0)) ∧ Ext w w' := by
 by_cases h : m < n
 · rw [if_pos h]
   go_enter Tryz.func172, Tryz.ntmps172
   go_wp2
   go_ret
   exact ⟨rfl, zX⟩
 · rw [if_neg h]
   go_enter Tryz.func172, Tryz.ntmps172
   go_wp2
   go_ret
   exact ⟨rfl, zX⟩
set_option maxHeartbeats 400000 in
theorem room_o (n m : Int) (w : World) : Calls Tryz.prog 174 #[.int .i64 n, .int .i64 m] w fun e w' => e = .returned (.int .i64 (if m < n then 6 else 0)) ∧ Ext w w' := by
 by_cases h : m < n
 · rw [if_pos h]
   go_enter Tryz.func174, Tryz.ntmps174
   go_wp2
   go_ret
   exact ⟨rfl, zX⟩
 · rw [if_neg h]
   go_enter Tryz.func174, Tryz.ntmps174
   go_wp2
   go_ret
   exact ⟨rfl, zX⟩
set_option maxHeartbeats 400000 in
theorem foctet_any (k n : Int) (vt vl : Value) (w : World) : Calls Tryz.prog 85 #[.agg #[.int .i64 k, .int .u32 n, vt, vl]] w fun e w' => e = .returned (.int .i64 (if 255 < n then 5 else 0)) ∧ Ext w w' := by
 have HW := Lib.hid (fun w' => within_o n 255 w')
 obtain ⟨z, hz⟩ : ∃ z : Int, (if 255 < n then 5 else 0) = z := ⟨_, rfl⟩
 rw [hz] at HW ⊢
 clear hz
 go_enter Tryz.func85, Tryz.ntmps85
 go_wp2_with fail
 refine (HW.out _).mono ?_
 rintro e w1 ⟨rfl, E1⟩
 go_wp2
 go_ret
 exact ⟨rfl, zX⟩
set_option maxHeartbeats 400000 in
theorem fflag_any (k n : Int) (vt vl : Value) (w : World) : Calls Tryz.prog 88 #[.agg #[.int .i64 k, .int .u32 n, vt, vl]] w fun e w' => e = .returned (.int .i64 (if 1 < n then 5 else 0)) ∧ Ext w w' := by
 have HW := Lib.hid (fun w' => within_o n 1 w')
 obtain ⟨z, hz⟩ : ∃ z : Int, (if 1 < n then 5 else 0) = z := ⟨_, rfl⟩
 rw [hz] at HW ⊢
 clear hz
 go_enter Tryz.func88, Tryz.ntmps88
 go_wp2_with fail
 refine (HW.out _).mono ?_
 rintro e w1 ⟨rfl, E1⟩
 go_wp2
 go_ret
 exact ⟨rfl, zX⟩
set_option maxHeartbeats 400000 in
theorem fno_any (k n : Int) (vt vl : Value) (w : World) : Calls Tryz.prog 90 #[.agg #[.int .i64 k, .int .u32 n, vt, vl]] w fun e w' => e = .returned (.int .i64 0) ∧ Ext w w' := by
 go_enter Tryz.func90, Tryz.ntmps90
 go_wp2
 go_ret
 exact ⟨rfl, zX⟩
set_option maxHeartbeats 400000 in
theorem ftext_any (k n : Int) (A : Option Addr) (L c : Nat) (vl : Value) (w : World) : Calls Tryz.prog 93 #[.agg #[.int .i64 k, .int .u32 n, .slice A L c, vl]] w fun e w' => e = .returned (.int .i64 (if 32768 < L then 6 else 0)) ∧ Ext w w' := by
 have HW := Lib.hid (fun w' => room_o L 32768 w')
 obtain ⟨z, hz⟩ : ∃ z : Int, (if (32768 : Int) < (L : Int) then (6 : Int) else 0) = z := ⟨_, rfl⟩
 have hz2 : (if 32768 < L then (6 : Int) else 0) = z := by
   rw [← hz]
   by_cases h : 32768 < L
   · rw [if_pos h, if_pos (by omega)]
   · rw [if_neg h, if_neg (by omega)]
 rw [hz] at HW
 rw [hz2]
 clear hz hz2
 go_enter Tryz.func93, Tryz.ntmps93
 go_wp2_with fail
 refine (HW.out _).mono ?_
 rintro e w1 ⟨rfl, E1⟩
 go_wp2
 go_ret
 exact ⟨rfl, zX⟩
set_option maxHeartbeats 400000 in
theorem frest_any (k n : Int) (A : Option Addr) (L c : Nat) (vl : Value) (w : World) : Calls Tryz.prog 99 #[.agg #[.int .i64 k, .int .u32 n, .slice A L c, vl]] w fun e w' => e = .returned (.int .i64 (if 33792 < L then 6 else 0)) ∧ Ext w w' := by
 have HW := Lib.hid (fun w' => room_o L 33792 w')
 obtain ⟨z, hz⟩ : ∃ z : Int, (if (33792 : Int) < (L : Int) then (6 : Int) else 0) = z := ⟨_, rfl⟩
 have hz2 : (if 33792 < L then (6 : Int) else 0) = z := by
   rw [← hz]
   by_cases h : 33792 < L
   · rw [if_pos h, if_pos (by omega)]
   · rw [if_neg h, if_neg (by omega)]
 rw [hz] at HW
 rw [hz2]
 clear hz hz2
 go_enter Tryz.func99, Tryz.ntmps99
 go_wp2_with fail
 refine (HW.out _).mono ?_
 rintro e w1 ⟨rfl, E1⟩
 go_wp2
 go_ret
 exact ⟨rfl, zX⟩
end Go.Proofs.YtmmhcllibpmfnaaGreatDoor
namespace Go.Proofs.YtmmhcllibpmfnaaGreatDoor
open Go.RowKit Go.Kb
set_option maxRecDepth 100000
structure Fd where
 k : Int
 n : Int
 t : List Int
/-- how a field lies in four cells: it has no list -/
def FdR : Rep Fd where
 size := 4
 pos := by decide
 rel := fun A w cs f => ∃ vt, cs = [.int .i64 f.k, .int .u32 f.n, vt, .slice none 0 0] ∧ RdS Ub8 A w vt f.t
 len := fun ⟨vt, h, _⟩ => by rw [h]; rfl
 one := fun ⟨vt, h, h2⟩ u hu => by
   obtain ⟨Ad, c, rfl, _⟩ := h2.shape
   rw [h] at hu
   simp at hu
   rcases hu with rfl | rfl | rfl | rfl <;> rfl
 keep := fun ⟨vt, h, h2⟩ hk => ⟨vt, h, h2.keep hk⟩
theorem fd_at {A : Nat → Prop} {w : World} {Ad : Option Addr} {n c j : Nat} {fs : List Fd} (h : RdY FdR A w (.slice Ad n c) fs) (hj : j < n) :
   ∃ b off At ct f, Ad = some ⟨b, off, none⟩ ∧ w.cell? ⟨b, off + j * 4, none⟩ = some (.int .i64 f.k) ∧ w.cell? ⟨b, off + j * 4 + 1, none⟩ = some (.int .u32 f.n) ∧ w.cell? ⟨b, off + j * 4 + 2, none⟩ = some (.slice At f.t.length ct) ∧
     w.cell? ⟨b, off + j * 4 + 3, none⟩ = some (.slice none 0 0) ∧ Hid (fs[j]? = some f) ∧ Hid (RdS Ub8 A w (.slice At f.t.length ct) f.t) := by
 obtain ⟨Ad', c', hv, _⟩ := h.shape
 simp only [Value.slice.injEq] at hv
 obtain ⟨rfl, rfl, rfl⟩ := hv
 obtain ⟨b, off, c, d, cs, hv, hd, ⟨vt, rfl, hr⟩, hl, hc⟩ := h.cells hj
 simp only [Value.slice.injEq] at hv
 obtain ⟨At, ct, rfl, -, -⟩ := hr.shape
 exact ⟨b, off, At, ct, d, hv.1, hc 0 _ rfl, hc 1 _ rfl, hc 2 _ rfl, hc 3 _ rfl, hd, Lib.hid hr⟩
/-- kinds that may stand in a row -/
def RowOk (ks : List Int) : Prop := ∀ i x, ks[i]? = some x → (1 ≤ x ∧ x ≤ 6) ∧ (x = 6 → i + 1 = ks.length)
set_option maxHeartbeats 400000 in
theorem known_any (k : Int) (w : World) (h : 1 ≤ k ∧ k ≤ 6) : Calls Tryz.prog 84 #[.int .i64 k] w fun e w' => e = .returned (.bool true) ∧ Ext w w' := by
 obtain ⟨h1, h2⟩ := h
 go_enter Tryz.func84, Tryz.ntmps84
 go_wp2
 go_ret
 exact ⟨rfl, zX⟩
set_option maxHeartbeats 800000 in
theorem row_any (v : Value) (ks : List Int) (w : World) (h : RI .i64 w v ks) (hr : RowOk ks) : Calls Tryz.prog 49 #[v] w fun e w' => e = .returned (.bool true) ∧ Ext w w' := by
 obtain ⟨A, c, rfl, hc1, hc2⟩ := h.shape
 obtain ⟨N, hN⟩ : ∃ N, ks.length = N := ⟨_, rfl⟩
 have HN := Lib.hid hN
 have H := Lib.hid (show RdN w 1 (.slice A N c) ks.length (ks.map (Value.int .i64)) by rw [← hN]; exact h)
 have HR := Lib.hid hr
 rw [hN] at hc1 ⊢
 clear h hr hN
 go_enter Tryz.func49, Tryz.ntmps49
 go_wp2
 go_loopw [7] (fun i wr => ∃ m : Nat, m ≤ N ∧ i = .int .i64 m ∧ Hid (Ext w wr)) (fun i _ => N - (intOf i).toNat)
 case atStart => exact ⟨0, Nat.zero_le _, rfl, Lib.hid (Ext.refl _)⟩
 case round =>
   obtain ⟨m, hm, rfl, hE⟩ := hrel
   obtain ⟨wq, hwq⟩ : ∃ wq, wq = wr := ⟨_, rfl⟩
   rw [← hwq] at hE ⊢
   clear hwq
   by_cases hmn : m < N
   · obtain ⟨b, off, x, rfl, hx, hd⟩ := (RdN.ext H.out hE.out).icell hmn
     obtain ⟨hk, h6⟩ := HR.out m x hd.out
     have HK := Lib.hid (fun w' => known_any x w' hk)
     go_wp2_with fail
     refine (HK.out _).mono ?_
     rintro e w1 ⟨rfl, E1⟩
     have hE1 := Lib.hid (hE.out.trans E1)
     by_cases hx6 : x = 6
     · subst hx6
       have h7 := h6 rfl
       rw [HN.out] at h7
       have h8 : ¬ ((m : Int) < (N : Int) - 1) := by omega
       clear h6
       go_wp2
       go_roundw
       case rel => exact ⟨m + 1, by omega, by go_num, hE1⟩
       case measure => simp [intOf]; omega
     · have hx1 : (x == 6) = false := by simpa using hx6
       clear h6
       go_wp2
       go_roundw
       case rel => exact ⟨m + 1, by omega, by go_num, hE1⟩
       case measure => simp [intOf]; omega
   · obtain rfl : m = N := by omega
     go_wp2
     go_ret
     exact ⟨rfl, hE.out⟩
end Go.Proofs.YtmmhcllibpmfnaaGreatDoor
namespace Go.Proofs.YtmmhcllibpmfnaaGreatDoor
open Go.RowKit Go.Kb
set_option maxRecDepth 100000
/-- fields in bytes -/
def encL (fs : List Fd) : List Int := (fs.map (fun f => encF f.k f.n f.t)).flatten
theorem encL_snoc (fs : List Fd) (f : Fd) : encL (fs ++ [f]) = encL fs ++ encF f.k f.n f.t := by simp [encL]
theorem encL_take {fs : List Fd} {m : Nat} {f : Fd} (h : fs[m]? = some f) : encL (fs.take (m + 1)) = encL (fs.take m) ++ encF f.k f.n f.t := by
 rw [List.take_add_one, h]
 exact encL_snoc _ _
/-- a field that is none of Names -/
structure FdOk (f : Fd) : Prop where
 k : f.k = 1 ∨ f.k = 2 ∨ f.k = 3 ∨ f.k = 4 ∨ f.k = 6
 n : 0 ≤ f.n ∧ f.n ≤ 4294967295
theorem mk_ints (n : Nat) (h : n ≤ 8) (w : World) : (Instr.makeSlice 109 (.int .i64 n) (.int .i64 n)).run Tryz.prog w = .ok (.slice (some ⟨w.heap.size, 0, none⟩) n n) (w.alloc (.cells (Array.replicate n (.int .i64 0)) 3)) :=
 match n, h with
 | 0, _ => show (Instr.makeSlice 109 (.int .i64 0) (.int .i64 0)).run Tryz.prog w = .ok (.slice (some ⟨w.heap.size, 0, none⟩) 0 0) (w.alloc (.cells (Array.replicate 0 (.int .i64 0)) 3)) by kernel_rfl
 | 1, _ => show (Instr.makeSlice 109 (.int .i64 1) (.int .i64 1)).run Tryz.prog w = .ok (.slice (some ⟨w.heap.size, 0, none⟩) 1 1) (w.alloc (.cells (Array.replicate 1 (.int .i64 0)) 3)) by kernel_rfl
 | 2, _ => show (Instr.makeSlice 109 (.int .i64 2) (.int .i64 2)).run Tryz.prog w = .ok (.slice (some ⟨w.heap.size, 0, none⟩) 2 2) (w.alloc (.cells (Array.replicate 2 (.int .i64 0)) 3)) by kernel_rfl
 | 3, _ => show (Instr.makeSlice 109 (.int .i64 3) (.int .i64 3)).run Tryz.prog w = .ok (.slice (some ⟨w.heap.size, 0, none⟩) 3 3) (w.alloc (.cells (Array.replicate 3 (.int .i64 0)) 3)) by kernel_rfl
 | 4, _ => show (Instr.makeSlice 109 (.int .i64 4) (.int .i64 4)).run Tryz.prog w = .ok (.slice (some ⟨w.heap.size, 0, none⟩) 4 4) (w.alloc (.cells (Array.replicate 4 (.int .i64 0)) 3)) by kernel_rfl
 | 5, _ => show (Instr.makeSlice 109 (.int .i64 5) (.int .i64 5)).run Tryz.prog w = .ok (.slice (some ⟨w.heap.size, 0, none⟩) 5 5) (w.alloc (.cells (Array.replicate 5 (.int .i64 0)) 3)) by kernel_rfl
 | 6, _ => show (Instr.makeSlice 109 (.int .i64 6) (.int .i64 6)).run Tryz.prog w = .ok (.slice (some ⟨w.heap.size, 0, none⟩) 6 6) (w.alloc (.cells (Array.replicate 6 (.int .i64 0)) 3)) by kernel_rfl
 | 7, _ => show (Instr.makeSlice 109 (.int .i64 7) (.int .i64 7)).run Tryz.prog w = .ok (.slice (some ⟨w.heap.size, 0, none⟩) 7 7) (w.alloc (.cells (Array.replicate 7 (.int .i64 0)) 3)) by kernel_rfl
 | 8, _ => show (Instr.makeSlice 109 (.int .i64 8) (.int .i64 8)).run Tryz.prog w = .ok (.slice (some ⟨w.heap.size, 0, none⟩) 8 8) (w.alloc (.cells (Array.replicate 8 (.int .i64 0)) 3)) by kernel_rfl
 | n + 9, h => by omega
/-- the kinds' row behind some rounds -/
def kA (fs : List Fd) (m : Nat) : List Int := (fs.map (·.k)).take m ++ List.replicate (fs.length - m) 0
theorem kA_len (fs : List Fd) (m : Nat) (h : m ≤ fs.length) : (kA fs m).length = fs.length := by simp [kA]; omega
theorem kA_set {fs : List Fd} {m : Nat} {f : Fd} (h : fs[m]? = some f) : (kA fs m).set m f.k = kA fs (m + 1) := by
 have hm := (List.getElem?_eq_some_iff.1 h).1
 have hl : ((fs.map (·.k)).take m).length = m := by simp; omega
 unfold kA
 rw [List.set_append_right _ _ (by omega), hl, Nat.sub_self, show fs.length - m = (fs.length - (m + 1)) + 1 by omega, List.replicate_succ, List.set_cons_zero, List.take_add_one]
 simp [h]
theorem kA_end (fs : List Fd) : kA fs fs.length = fs.map (·.k) := by
 unfold kA
 rw [Nat.sub_self, List.replicate_zero, List.append_nil, List.take_of_length_le (by simp)]
theorem kA_setB {fs : List Fd} {m : Nat} {f : Fd} {w : World} {g : Nat} (h : fs[m]? = some f) (hb : Blk w g 3 ((kA fs m).map (Value.int .i64)).toArray) : Blk (w.setCell ⟨g, m, none⟩ (.int .i64 f.k)) g 3 ((kA fs (m + 1)).map (Value.int .i64)).toArray := by
 have e : ((kA fs m).map (Value.int .i64)).toArray.setIfInBounds m (.int .i64 f.k) = ((kA fs (m + 1)).map (Value.int .i64)).toArray := by
   rw [← kA_set h]
   simp [List.map_set]
 rw [← e]
 exact hb.set_ m (.int .i64 f.k)
theorem blk_ri {w : World} {g : Nat} {ks : List Int} {t : TypeId} (h : Blk w g t (ks.map (Value.int .i64)).toArray) (hl : ks.length ≤ 1000000) : RI .i64 w (.slice (some ⟨g, 0, none⟩) ks.length ks.length) ks := by
 refine ⟨by simp, _, _, rfl, Nat.le_refl _, by unfold maxLen; omega, .inr ⟨g, 0, rfl, fun j u hu => ?_⟩⟩
 rw [h.cell (0 + j), Nat.zero_add]
 simpa using hu
theorem encL_take_le (fs : List Fd) (j : Nat) : (encL (fs.take j)).length ≤ (encL fs).length := by
 have h : encL fs = encL (fs.take j) ++ encL (fs.drop j) := by
   unfold encL
   rw [← List.flatten_append, ← List.map_append, List.take_append_drop]
 rw [h, List.length_append]
 exact Nat.le_add_right _ _
/-- what octet.Write answers -/
def WrP (fs : List Fd) (w : World) (e : Ending) (w' : World) : Prop :=
 ∃ (v : Value) (q : Int), e = .returned (.tuple #[v, .int .i64 q]) ∧ Ext w w' ∧ (q = 0 → (∀ f ∈ fs, fltF f.k f.n f.t = 0) ∧ (encL fs).length ≤ 33792 ∧ OwnS Ub8 5 w.heap.size (fun _ => False) w' v (encL fs)) ∧ (q ≠ 0 → v = .slice none 0 0) ∧ ((∀ f ∈ fs, fltF f.k f.n f.t = 0) → (encL fs).length ≤ 33792 → q = 0)
set_option maxHeartbeats 3000000 in
theorem owrite_any (v : Value) (fs : List Fd) (w : World) (h : RdY FdR (fun _ => True) w v fs) (hN : fs.length ≤ 8) (hr : RowOk (fs.map (·.k))) (hf : ∀ f ∈ fs, FdOk f) : Calls Tryz.prog 22 #[v] w (WrP fs w) := by
 obtain ⟨A, c, rfl, hc1, hc2⟩ := h.shape
 have H := Lib.hid h.lt
 have HR := Lib.hid hr
 have HF := Lib.hid hf
 have mk := mk_ints fs.length hN
 have hi21 : (Tryz.prog.info? 163).map (·.size) = some 21 := by kernel_rfl
 have hone : sortsV.all (·.oneCell') = true := by simp [sortsV, fnV, Value.oneCell']
 have HK0 := Lib.hid (show ((kA fs 0).map (Value.int .i64)).toArray = Array.replicate fs.length (Value.int .i64 0) by simp [kA])
 obtain ⟨N, hNN⟩ : ∃ N, fs.length = N := ⟨_, rfl⟩
 have HN := Lib.hid hNN
 have H := Lib.hid (show RdY FdR (fun k => True ∧ k < w.heap.size) w (.slice A N c) fs by rw [← hNN]; exact H.out)
 rw [hNN] at mk hN HK0 hc1 ⊢
 clear h hr hf hNN
 go_enter Tryz.func22, Tryz.ntmps22
 go_upto_region 2 with fail
 obtain ⟨W1, hW1⟩ : ∃ W1, W1 = w.alloc (.cells (Array.replicate N (.int .i64 0)) 3) := ⟨_, rfl⟩
 have B1 := Lib.hid (show Blk W1 w.heap.size 3 ((kA fs 0).map (Value.int .i64)).toArray by rw [hW1, HK0.out]; exact Blk.new w _ _)
 have E01 : Ext w W1 := by rw [hW1]; exact (Ext.refl _).alloc _
 rw [← hW1]
 clear hW1 mk
 go_wp2
 go_loopw [17] (fun i wr => ∃ m : Nat, m ≤ N ∧ i = .int .i64 m ∧ Hid (Blk wr w.heap.size 3 ((kA fs m).map (Value.int .i64)).toArray) ∧ Hid (Ext w wr)) (fun i _ => N - (intOf i).toNat)
 case atStart => exact ⟨0, Nat.zero_le _, rfl, B1, Lib.hid E01⟩
 case round =>
   clear B1 E01
   obtain ⟨m, hm, rfl, BK, hE⟩ := hrel
   by_cases hmn : m < N
   · obtain ⟨b, off, At, ct, f, rfl, k0, k1, k2, k3, hd, ht⟩ := fd_at (H.out.ext hE.out) hmn
     clear ht
     go_upto_region 5 with fail
     obtain ⟨W5, hW5⟩ : ∃ W5, W5 = wr.alloc (.cells #[.int .i64 f.k, .int .u32 f.n, .slice At f.t.length ct, .slice none 0 0] 86) := ⟨_, rfl⟩
     have E5 : Ext wr W5 := by rw [hW5]; exact (Ext.refl _).alloc _
     have P5 : Blk W5 wr.heap.size 86 #[.int .i64 f.k, .int .u32 f.n, .slice At f.t.length ct, .slice none 0 0] := by rw [hW5]; exact Blk.new wr _ _
     rw [← hW5]
     clear hW5
     have kp0 := P5.cell 0
     have BK5 := BK.out.ext E5
     have fb := BK5.frozen m
     have kb : ∃ u, W5.cell? ⟨w.heap.size, m, none⟩ = some u := by
       rw [BK5.cell]
       exact ⟨_, Array.getElem?_eq_getElem (by simp; rw [kA_len fs m (by rw [HN.out]; omega), HN.out]; omega)⟩
     obtain ⟨u0, kb⟩ := kb
     have BK2 := Lib.hid (kA_setB hd.out BK5)
     have M2 : Mod (fun k => k = w.heap.size) W5 _ := (Mod.refl _ _).set1 (.int .i64 f.k) (o := m)
     have hE2 := Lib.hid (Mod.toExt (hE.out.trans E5) M2 (by intro k hk he; omega))
     clear M2 k0 k1 k2 k3 BK hE E5 P5 BK5
     go_wp2
     go_roundw
     case rel => exact ⟨m + 1, by omega, by go_num, BK2, hE2⟩
     case measure => simp [intOf]; omega
   · obtain rfl : m = N := by omega
     have HKK := Lib.hid (show RI .i64 wr (.slice (some ⟨w.heap.size, 0, none⟩) m m) (fs.map (·.k)) by
       have h9 := BK.out
       rw [show kA fs m = fs.map (·.k) by rw [← HN.out]; exact kA_end fs] at h9
       have h8 := blk_ri h9 (by rw [List.length_map, HN.out]; omega)
       rw [List.length_map, HN.out] at h8
       exact h8)
     clear BK
     go_wp2_with fail
     refine (row_any _ _ _ HKK.out HR.out).mono ?_
     rintro e w2 ⟨rfl, E2⟩
     have E02 := hE.out.trans E2
     go_wp2_with fail
     refine (sorts_any _).mono ?_
     rintro e w3 ⟨rfl, E3⟩
     have E03 := Lib.hid (E02.trans E3)
     clear E02 E2 E3 hE HKK
     go_upto_region 10 with (refine wpList_store_A rfl 163 _ _ rfl w3.heap.size sortsV rfl rfl 163 _ (show Blk _ _ _ _ from Blk.at_ _ _ rfl) hi21 rfl hone ?_; intro w4 HB4 E4; have E4 : Ext w3 w4 := E4 w3.heap.size w3 ((Ext.refl w3).alloc _) (by omega))
     have E04 := Lib.hid (E03.out.trans E4)
     have B7 := Lib.hid HB4
     obtain ⟨n7, hn7⟩ : ∃ n7, w3.heap.size = n7 := ⟨_, rfl⟩
     rw [hn7] at B7 ⊢
     have HN7 := Lib.hid (show w.heap.size ≤ n7 by rw [← hn7]; exact E03.out.size)
     clear E4 E03 HB4 hn7
     go_upto_region 11 with fail
     obtain ⟨W8, hW8⟩ : ∃ W8, W8 = w4.alloc (.cells #[.slice none 0 0] 167) := ⟨_, rfl⟩
     have E48 : Ext w4 W8 := by rw [hW8]; exact (Ext.refl _).alloc _
     have B8 := Lib.hid (show Blk W8 w4.heap.size 167 #[.slice none 0 0] by rw [hW8]; exact Blk.new w4 _ _)
     obtain ⟨n8, hn8⟩ : ∃ n8, w4.heap.size = n8 := ⟨_, rfl⟩
     have HN8 := Lib.hid (show n7 < n8 by rw [← hn8]; exact B7.out.lt)
     rw [← hW8]
     rw [hn8] at B8 ⊢
     have E08 := Lib.hid (E04.out.trans E48)
     have B7 := Lib.hid (B7.out.ext E48)
     have HW8 := Lib.hid (show Wr w.heap.size n8 W8 (.slice none 0 0) (encL (fs.take 0)) from ⟨B8.out, OwnS.nil _ _ _ _ _⟩)
     clear hW8 E04 E48 hn8 B8
     go_wp2
     go_loopw [36] (fun i wr => ∃ (q : Nat) (u : Value), q ≤ m ∧ i = .int .i64 q ∧ Hid (Wr w.heap.size n8 wr u (encL (fs.take q))) ∧ Hid (∀ f ∈ fs.take q, fltF f.k f.n f.t = 0) ∧ Hid ((encL (fs.take q)).length ≤ 33792) ∧ Hid (Blk wr n7 163 sortsV) ∧ Hid (Ext w wr)) (fun i _ => m - (intOf i).toNat)
     case atStart => exact ⟨0, _, Nat.zero_le _, rfl, HW8, Lib.hid (by simp), Lib.hid (by simp [encL]), B7, E08⟩
     case round =>
       clear B7 E08 HW8
       obtain ⟨q, u, hq, rfl, HW, HFT, HLE, B7, hE⟩ := hrel
       by_cases hqn : q < m
       · obtain ⟨b, off, At, ct, f, rfl, k0, k1, k2, k3, hd, ht⟩ := fd_at H.out hqn
         have k0 := cell_ext hE.out k0
         have k1 := cell_ext hE.out k1
         have k2 := cell_ext hE.out k2
         have k3 := cell_ext hE.out k3
         obtain ⟨hk, hn0, hn1⟩ := HF.out f (List.mem_of_getElem? hd.out)
         obtain ⟨k, n, t⟩ := f
         dsimp only at hk hn0 hn1 k0 k1 k2 k3 ht
         go_upto_region 14 with fail
         obtain ⟨W10, hW10⟩ : ∃ W10, W10 = wr.alloc (.cells #[.int .i64 k, .int .u32 n, .slice At t.length ct, .slice none 0 0] 86) := ⟨_, rfl⟩
         have E10 : Ext wr W10 := by rw [hW10]; exact (Ext.refl _).alloc _
         have P10 := Lib.hid (show Blk W10 wr.heap.size 86 #[.int .i64 k, .int .u32 n, .slice At t.length ct, .slice none 0 0] by rw [hW10]; exact Blk.new wr _ _)
         rw [← hW10]
         clear hW10
         have HNB := Lib.hid (show ¬ wS n8 u wr.heap.size from fun hh => Nat.lt_irrefl _ (HW.out.lt _ hh))
         obtain ⟨n10, hn10⟩ : ∃ n10, wr.heap.size = n10 := ⟨_, rfl⟩
         rw [hn10] at P10 HNB ⊢
         have HTO := Lib.hid (show 0 < t.length → ∀ j, (Value.slice At t.length ct).ownBlock = some j → ¬ wS n8 u j from fun h0 j hj => by
           have h9 := (ht.out.2 h0 j hj).2
           rintro (h8 | h8)
           · have := HN7.out; have := HN8.out; omega
           · have := (HW.out.own.row j h8).1; omega)
         have HTX := Lib.hid (show RI .u8 w (.slice At t.length ct) t from RdS.ri ht.out)
         clear k0 k1 k2 k3 ht hn10
         rcases hk with rfl | rfl | rfl | rfl | rfl
         · skip
           have hs6 : sortsV[3]? = some (.func (.func 85) #[] #[]) := by rfl
           have hs7 : sortsV[4]? = some (.func (.func 86) #[] #[]) := by rfl
           have S6 := Lib.hid (show W10.cell? ⟨n7, 3, none⟩ = some (.func (.func 85) #[] #[]) by rw [(B7.out.ext E10).cell, hs6])
           have HS7 := Lib.hid hs7
           have B7 := Lib.hid (B7.out.ext E10)
           have HW := Lib.hid (HW.out.ext E10)
           have E010 := Lib.hid (hE.out.trans E10)
           obtain ⟨z, hz⟩ : ∃ z : Int, (if 255 < n then (5 : Int) else 0) = z := ⟨_, rfl⟩
           have HFC := Lib.hid (fun w' => foctet_any 1 n (.slice At t.length ct) (.slice none 0 0) w')
           rw [hz] at HFC
           have HZV := Lib.hid hz
           have HFZ := Lib.hid (show fltF 1 n t = z by rw [← hz]; simp [fltF])
           have HEN := Lib.hid (show encF 1 n t = [n] by simp [encF])
           clear hs6 hs7 E10 hE hz
           refine wp_region_held_drew (S := fun w' => Ext W10 w') (by kernel_rfl) (Ext.drew (Ext.refl _)) (fun hHeld => ?_)
           (refine zT 0 (v := ?_) rfl (Or.inl ⟨by rfl, ?_⟩) ?_; rotate_left; (focus (intro w' hSw; skip; go_simp; try with_reducible rfl)); (try simp only [zP]))
           (refine zT 1 (v := ?_) rfl (Or.inl ⟨by rfl, ?_⟩) ?_; rotate_left; (focus (intro w' hSw; have kc := (P10.out.ext hSw).cell 0; go_simp; try with_reducible rfl)); (try simp only [zP]))
           (refine zR 2 rfl ?_; (try simp only [zP]))
           (refine zR 3 rfl ?_; (try simp only [zP]))
           (refine zT 4 (v := ?_) rfl (Or.inl ⟨by rfl, ?_⟩) ?_; rotate_left; (focus (intro w' hSw; have kc := cell_ext hSw S6.out; go_simp; try with_reducible rfl)); (try simp only [zP]))
           (refine zT 5 (v := ?_) rfl (Or.inl ⟨by rfl, ?_⟩) ?_; rotate_left; (focus (intro w' hSw; have c0 := (P10.out.ext hSw).cell 0; have c1 := (P10.out.ext hSw).cell 1; have c2 := (P10.out.ext hSw).cell 2; have c3 := (P10.out.ext hSw).cell 3; go_simp; try with_reducible rfl)); (try simp only [zP]))
           (refine wpAnyH_ready (rs := [6]) (by kernel_rfl) (by simp) ?_; refine AllReadyH.cons rfl (fun K hK => ?_) AllReadyH.nil; go_simp; go_at_call 85; refine (HFC.out _).mono ?_; rintro e w11 ⟨rfl, E11⟩; (try dsimp only); refine hK.out _ _ zX (fun hHeld => ?_); clear hK K; (try simp only [zP]))
           (refine zR 7 rfl ?_; (try simp only [zP]))
           refine wpAnyH_done (by kernel_rfl) ?_ _
           have B7 := Lib.hid (B7.out.ext hHeld)
           have HW := Lib.hid (HW.out.ext hHeld)
           have P10 := Lib.hid (P10.out.ext hHeld)
           have E011 := Lib.hid (E010.out.trans hHeld)
           clear hHeld E11 E010 S6 HFC
           by_cases hz0 : z = 0
           · subst hz0
             go_upto_region 17 with fail
             have hbs : w.heap.size ≤ w11.heap.size := E011.out.size
             have HN7B := Lib.hid (show ¬ wS n8 u n7 from by
               rintro (h9 | h9)
               · have := HN8.out; omega
               · obtain ⟨us, ho, _⟩ := HW.out.own
                 exact own_blk_ne ho B7.out (by decide) h9)
             have hle := HLE.out
             refine wp_region_held_drew (S := fun w' => Mod (wS n8 u) w11 w') (by kernel_rfl) (Mod.of_ext (Ext.drew (Ext.refl _))) (fun hHeld => ?_)
             obtain ⟨D, hD⟩ : ∃ D, D = w11.drew := ⟨_, rfl⟩
             have ED : Ext w11 D := by rw [hD]; exact (Ext.refl _).drew
             rw [← hD] at hHeld ⊢
             clear hD
             (refine zR 0 rfl ?_; (try simp only [zP]))
             (refine zT 1 (v := ?_) rfl (Or.inl ⟨by rfl, ?_⟩) ?_; rotate_left; (focus (intro w' hSw; have kc := (P10.out.mod hSw HNB.out).cell 0; go_simp; try with_reducible rfl)); (try simp only [zP]))
             (refine zR 2 rfl ?_; (try simp only [zP]))
             (refine zR 3 rfl ?_; (try simp only [zP]))
             (refine zT 4 (v := ?_) rfl (Or.inl ⟨by rfl, ?_⟩) ?_; rotate_left; (focus (intro w' hSw; have kc := (B7.out.mod hSw HN7B.out).cell 4; rw [HS7.out] at kc; go_simp; try with_reducible rfl)); (try simp only [zP]))
             (refine zR 5 rfl ?_; (try simp only [zP]))
             (refine zT 6 (v := ?_) rfl (Or.inl ⟨by rfl, ?_⟩) ?_; rotate_left; (focus (intro w' hSw; have c0 := (P10.out.mod hSw HNB.out).cell 0; have c1 := (P10.out.mod hSw HNB.out).cell 1; have c2 := (P10.out.mod hSw HNB.out).cell 2; have c3 := (P10.out.mod hSw HNB.out).cell 3; go_simp; try with_reducible rfl)); (try simp only [zP]))
             (refine wpAnyH_ready (rs := [7]) (by kernel_rfl) (by simp) ?_; refine AllReadyH.cons rfl (fun K hK => ?_) AllReadyH.nil; go_simp; go_at_call 86; refine (woct_any w.heap.size n8 u _ 1 n (.slice At t.length ct) (.slice none 0 0) _ (HW.out.ext ED) (Nat.le_trans hbs ED.size) (by have h9 := HZV.out; split at h9 <;> omega) (by omega)).mono ?_; rintro e w12 ⟨rfl, v12, R12, M12, X12⟩; (try dsimp only); refine hK.out _ _ ((Mod.of_ext ED).trans M12) (fun hHeld => ?_); clear hK K; (try simp only [zP]))
             refine wpAnyH_done (by kernel_rfl) ?_ _
             have B7 := Lib.hid (B7.out.mod hHeld HN7B.out)
             have hE12 := Lib.hid (Mod.toExt E011.out hHeld (by
               rintro k hk (h9 | h9)
               · have := HN7.out; have := HN8.out; omega
               · have := (HW.out.own.row k h9).1; omega))
             have R12 : Wr w.heap.size n8 w12 v12 (encL (fs.take (q + 1))) := by rw [encL_take hd.out, HEN.out]; exact R12
             have HFT := Lib.hid (show ∀ f ∈ fs.take (q + 1), fltF f.k f.n f.t = 0 by
               rw [List.take_add_one, hd.out]
               intro f hf
               rcases List.mem_append.1 hf with h | h
               · exact HFT.out f h
               · simp at h; rw [h]; exact HFZ.out)
             obtain ⟨A12, c12, rfl, -, -⟩ := R12.own.shape
             have kb := R12.blk.cell 0
             have HR12 := Lib.hid R12
             obtain ⟨L12, hL12⟩ : ∃ L, (encL (fs.take (q + 1))).length = L := ⟨_, rfl⟩
             have HL12 := Lib.hid hL12
             rw [hL12] at kb
             clear hHeld R12 M12 X12 ED hL12 hle
             by_cases hbig : 33792 < L12
             · go_wp2
               go_ret2
               exact ⟨_, 6, rfl, hE12.out, fun h => absurd h (by decide), fun _ => rfl, fun _ hl9 => by have := encL_take_le fs (q + 1); have := HL12.out; omega⟩
             · have hbig2 : ¬ (33792 < (L12 : Int)) := by omega
               go_wp2
               go_roundw
               case rel => exact ⟨q + 1, _, by omega, by go_num, HR12, HFT, Lib.hid (by rw [HL12.out]; omega), B7, hE12⟩
               case measure => simp [intOf]; omega
           · have hz1 : (z == 0) = false := by simpa using hz0
             go_wp2
             go_ret2
             exact ⟨_, z, rfl, E011.out, fun h => absurd h hz0, fun _ => rfl, fun ha9 _ => absurd (HFZ.out.symm.trans (ha9 _ (List.mem_of_getElem? hd.out))) hz0⟩
         · skip
           have hs6 : sortsV[6]? = some (.func (.func 88) #[] #[]) := by rfl
           have hs7 : sortsV[7]? = some (.func (.func 86) #[] #[]) := by rfl
           have S6 := Lib.hid (show W10.cell? ⟨n7, 6, none⟩ = some (.func (.func 88) #[] #[]) by rw [(B7.out.ext E10).cell, hs6])
           have HS7 := Lib.hid hs7
           have B7 := Lib.hid (B7.out.ext E10)
           have HW := Lib.hid (HW.out.ext E10)
           have E010 := Lib.hid (hE.out.trans E10)
           obtain ⟨z, hz⟩ : ∃ z : Int, (if 1 < n then (5 : Int) else 0) = z := ⟨_, rfl⟩
           have HFC := Lib.hid (fun w' => fflag_any 2 n (.slice At t.length ct) (.slice none 0 0) w')
           rw [hz] at HFC
           have HZV := Lib.hid hz
           have HFZ := Lib.hid (show fltF 2 n t = z by rw [← hz]; simp [fltF])
           have HEN := Lib.hid (show encF 2 n t = [n] by simp [encF])
           clear hs6 hs7 E10 hE hz
           refine wp_region_held_drew (S := fun w' => Ext W10 w') (by kernel_rfl) (Ext.drew (Ext.refl _)) (fun hHeld => ?_)
           (refine zT 0 (v := ?_) rfl (Or.inl ⟨by rfl, ?_⟩) ?_; rotate_left; (focus (intro w' hSw; skip; go_simp; try with_reducible rfl)); (try simp only [zP]))
           (refine zT 1 (v := ?_) rfl (Or.inl ⟨by rfl, ?_⟩) ?_; rotate_left; (focus (intro w' hSw; have kc := (P10.out.ext hSw).cell 0; go_simp; try with_reducible rfl)); (try simp only [zP]))
           (refine zR 2 rfl ?_; (try simp only [zP]))
           (refine zR 3 rfl ?_; (try simp only [zP]))
           (refine zT 4 (v := ?_) rfl (Or.inl ⟨by rfl, ?_⟩) ?_; rotate_left; (focus (intro w' hSw; have kc := cell_ext hSw S6.out; go_simp; try with_reducible rfl)); (try simp only [zP]))
           (refine zT 5 (v := ?_) rfl (Or.inl ⟨by rfl, ?_⟩) ?_; rotate_left; (focus (intro w' hSw; have c0 := (P10.out.ext hSw).cell 0; have c1 := (P10.out.ext hSw).cell 1; have c2 := (P10.out.ext hSw).cell 2; have c3 := (P10.out.ext hSw).cell 3; go_simp; try with_reducible rfl)); (try simp only [zP]))
           (refine wpAnyH_ready (rs := [6]) (by kernel_rfl) (by simp) ?_; refine AllReadyH.cons rfl (fun K hK => ?_) AllReadyH.nil; go_simp; go_at_call 88; refine (HFC.out _).mono ?_; rintro e w11 ⟨rfl, E11⟩; (try dsimp only); refine hK.out _ _ zX (fun hHeld => ?_); clear hK K; (try simp only [zP]))
           (refine zR 7 rfl ?_; (try simp only [zP]))
           refine wpAnyH_done (by kernel_rfl) ?_ _
           have B7 := Lib.hid (B7.out.ext hHeld)
           have HW := Lib.hid (HW.out.ext hHeld)
           have P10 := Lib.hid (P10.out.ext hHeld)
           have E011 := Lib.hid (E010.out.trans hHeld)
           clear hHeld E11 E010 S6 HFC
           by_cases hz0 : z = 0
           · subst hz0
             go_upto_region 17 with fail
             have hbs : w.heap.size ≤ w11.heap.size := E011.out.size
             have HN7B := Lib.hid (show ¬ wS n8 u n7 from by
               rintro (h9 | h9)
               · have := HN8.out; omega
               · obtain ⟨us, ho, _⟩ := HW.out.own
                 exact own_blk_ne ho B7.out (by decide) h9)
             have hle := HLE.out
             refine wp_region_held_drew (S := fun w' => Mod (wS n8 u) w11 w') (by kernel_rfl) (Mod.of_ext (Ext.drew (Ext.refl _))) (fun hHeld => ?_)
             obtain ⟨D, hD⟩ : ∃ D, D = w11.drew := ⟨_, rfl⟩
             have ED : Ext w11 D := by rw [hD]; exact (Ext.refl _).drew
             rw [← hD] at hHeld ⊢
             clear hD
             (refine zR 0 rfl ?_; (try simp only [zP]))
             (refine zT 1 (v := ?_) rfl (Or.inl ⟨by rfl, ?_⟩) ?_; rotate_left; (focus (intro w' hSw; have kc := (P10.out.mod hSw HNB.out).cell 0; go_simp; try with_reducible rfl)); (try simp only [zP]))
             (refine zR 2 rfl ?_; (try simp only [zP]))
             (refine zR 3 rfl ?_; (try simp only [zP]))
             (refine zT 4 (v := ?_) rfl (Or.inl ⟨by rfl, ?_⟩) ?_; rotate_left; (focus (intro w' hSw; have kc := (B7.out.mod hSw HN7B.out).cell 7; rw [HS7.out] at kc; go_simp; try with_reducible rfl)); (try simp only [zP]))
             (refine zR 5 rfl ?_; (try simp only [zP]))
             (refine zT 6 (v := ?_) rfl (Or.inl ⟨by rfl, ?_⟩) ?_; rotate_left; (focus (intro w' hSw; have c0 := (P10.out.mod hSw HNB.out).cell 0; have c1 := (P10.out.mod hSw HNB.out).cell 1; have c2 := (P10.out.mod hSw HNB.out).cell 2; have c3 := (P10.out.mod hSw HNB.out).cell 3; go_simp; try with_reducible rfl)); (try simp only [zP]))
             (refine wpAnyH_ready (rs := [7]) (by kernel_rfl) (by simp) ?_; refine AllReadyH.cons rfl (fun K hK => ?_) AllReadyH.nil; go_simp; go_at_call 86; refine (woct_any w.heap.size n8 u _ 2 n (.slice At t.length ct) (.slice none 0 0) _ (HW.out.ext ED) (Nat.le_trans hbs ED.size) (by have h9 := HZV.out; split at h9 <;> omega) (by omega)).mono ?_; rintro e w12 ⟨rfl, v12, R12, M12, X12⟩; (try dsimp only); refine hK.out _ _ ((Mod.of_ext ED).trans M12) (fun hHeld => ?_); clear hK K; (try simp only [zP]))
             refine wpAnyH_done (by kernel_rfl) ?_ _
             have B7 := Lib.hid (B7.out.mod hHeld HN7B.out)
             have hE12 := Lib.hid (Mod.toExt E011.out hHeld (by
               rintro k hk (h9 | h9)
               · have := HN7.out; have := HN8.out; omega
               · have := (HW.out.own.row k h9).1; omega))
             have R12 : Wr w.heap.size n8 w12 v12 (encL (fs.take (q + 1))) := by rw [encL_take hd.out, HEN.out]; exact R12
             have HFT := Lib.hid (show ∀ f ∈ fs.take (q + 1), fltF f.k f.n f.t = 0 by
               rw [List.take_add_one, hd.out]
               intro f hf
               rcases List.mem_append.1 hf with h | h
               · exact HFT.out f h
               · simp at h; rw [h]; exact HFZ.out)
             obtain ⟨A12, c12, rfl, -, -⟩ := R12.own.shape
             have kb := R12.blk.cell 0
             have HR12 := Lib.hid R12
             obtain ⟨L12, hL12⟩ : ∃ L, (encL (fs.take (q + 1))).length = L := ⟨_, rfl⟩
             have HL12 := Lib.hid hL12
             rw [hL12] at kb
             clear hHeld R12 M12 X12 ED hL12 hle
             by_cases hbig : 33792 < L12
             · go_wp2
               go_ret2
               exact ⟨_, 6, rfl, hE12.out, fun h => absurd h (by decide), fun _ => rfl, fun _ hl9 => by have := encL_take_le fs (q + 1); have := HL12.out; omega⟩
             · have hbig2 : ¬ (33792 < (L12 : Int)) := by omega
               go_wp2
               go_roundw
               case rel => exact ⟨q + 1, _, by omega, by go_num, HR12, HFT, Lib.hid (by rw [HL12.out]; omega), B7, hE12⟩
               case measure => simp [intOf]; omega
           · have hz1 : (z == 0) = false := by simpa using hz0
             go_wp2
             go_ret2
             exact ⟨_, z, rfl, E011.out, fun h => absurd h hz0, fun _ => rfl, fun ha9 _ => absurd (HFZ.out.symm.trans (ha9 _ (List.mem_of_getElem? hd.out))) hz0⟩
         · skip
           have hs6 : sortsV[9]? = some (.func (.func 90) #[] #[]) := by rfl
           have hs7 : sortsV[10]? = some (.func (.func 91) #[] #[]) := by rfl
           have S6 := Lib.hid (show W10.cell? ⟨n7, 9, none⟩ = some (.func (.func 90) #[] #[]) by rw [(B7.out.ext E10).cell, hs6])
           have HS7 := Lib.hid hs7
           have B7 := Lib.hid (B7.out.ext E10)
           have HW := Lib.hid (HW.out.ext E10)
           have E010 := Lib.hid (hE.out.trans E10)
           obtain ⟨z, hz⟩ : ∃ z : Int, ((0 : Int)) = z := ⟨_, rfl⟩
           have HFC := Lib.hid (fun w' => fno_any 3 n (.slice At t.length ct) (.slice none 0 0) w')
           rw [hz] at HFC
           have HZV := Lib.hid hz
           have HFZ := Lib.hid (show fltF 3 n t = z by rw [← hz]; simp [fltF])
           have HEN := Lib.hid (show encF 3 n t = Fr.four n by simp [encF])
           clear hs6 hs7 E10 hE hz
           refine wp_region_held_drew (S := fun w' => Ext W10 w') (by kernel_rfl) (Ext.drew (Ext.refl _)) (fun hHeld => ?_)
           (refine zT 0 (v := ?_) rfl (Or.inl ⟨by rfl, ?_⟩) ?_; rotate_left; (focus (intro w' hSw; skip; go_simp; try with_reducible rfl)); (try simp only [zP]))
           (refine zT 1 (v := ?_) rfl (Or.inl ⟨by rfl, ?_⟩) ?_; rotate_left; (focus (intro w' hSw; have kc := (P10.out.ext hSw).cell 0; go_simp; try with_reducible rfl)); (try simp only [zP]))
           (refine zR 2 rfl ?_; (try simp only [zP]))
           (refine zR 3 rfl ?_; (try simp only [zP]))
           (refine zT 4 (v := ?_) rfl (Or.inl ⟨by rfl, ?_⟩) ?_; rotate_left; (focus (intro w' hSw; have kc := cell_ext hSw S6.out; go_simp; try with_reducible rfl)); (try simp only [zP]))
           (refine zT 5 (v := ?_) rfl (Or.inl ⟨by rfl, ?_⟩) ?_; rotate_left; (focus (intro w' hSw; have c0 := (P10.out.ext hSw).cell 0; have c1 := (P10.out.ext hSw).cell 1; have c2 := (P10.out.ext hSw).cell 2; have c3 := (P10.out.ext hSw).cell 3; go_simp; try with_reducible rfl)); (try simp only [zP]))
           (refine wpAnyH_ready (rs := [6]) (by kernel_rfl) (by simp) ?_; refine AllReadyH.cons rfl (fun K hK => ?_) AllReadyH.nil; go_simp; go_at_call 90; refine (HFC.out _).mono ?_; rintro e w11 ⟨rfl, E11⟩; (try dsimp only); refine hK.out _ _ zX (fun hHeld => ?_); clear hK K; (try simp only [zP]))
           (refine zR 7 rfl ?_; (try simp only [zP]))
           refine wpAnyH_done (by kernel_rfl) ?_ _
           have B7 := Lib.hid (B7.out.ext hHeld)
           have HW := Lib.hid (HW.out.ext hHeld)
           have P10 := Lib.hid (P10.out.ext hHeld)
           have E011 := Lib.hid (E010.out.trans hHeld)
           clear hHeld E11 E010 S6 HFC
           by_cases hz0 : z = 0
           · subst hz0
             go_upto_region 17 with fail
             have hbs : w.heap.size ≤ w11.heap.size := E011.out.size
             have HN7B := Lib.hid (show ¬ wS n8 u n7 from by
               rintro (h9 | h9)
               · have := HN8.out; omega
               · obtain ⟨us, ho, _⟩ := HW.out.own
                 exact own_blk_ne ho B7.out (by decide) h9)
             have hle := HLE.out
             refine wp_region_held_drew (S := fun w' => Mod (wS n8 u) w11 w') (by kernel_rfl) (Mod.of_ext (Ext.drew (Ext.refl _))) (fun hHeld => ?_)
             obtain ⟨D, hD⟩ : ∃ D, D = w11.drew := ⟨_, rfl⟩
             have ED : Ext w11 D := by rw [hD]; exact (Ext.refl _).drew
             rw [← hD] at hHeld ⊢
             clear hD
             (refine zR 0 rfl ?_; (try simp only [zP]))
             (refine zT 1 (v := ?_) rfl (Or.inl ⟨by rfl, ?_⟩) ?_; rotate_left; (focus (intro w' hSw; have kc := (P10.out.mod hSw HNB.out).cell 0; go_simp; try with_reducible rfl)); (try simp only [zP]))
             (refine zR 2 rfl ?_; (try simp only [zP]))
             (refine zR 3 rfl ?_; (try simp only [zP]))
             (refine zT 4 (v := ?_) rfl (Or.inl ⟨by rfl, ?_⟩) ?_; rotate_left; (focus (intro w' hSw; have kc := (B7.out.mod hSw HN7B.out).cell 10; rw [HS7.out] at kc; go_simp; try with_reducible rfl)); (try simp only [zP]))
             (refine zR 5 rfl ?_; (try simp only [zP]))
             (refine zT 6 (v := ?_) rfl (Or.inl ⟨by rfl, ?_⟩) ?_; rotate_left; (focus (intro w' hSw; have c0 := (P10.out.mod hSw HNB.out).cell 0; have c1 := (P10.out.mod hSw HNB.out).cell 1; have c2 := (P10.out.mod hSw HNB.out).cell 2; have c3 := (P10.out.mod hSw HNB.out).cell 3; go_simp; try with_reducible rfl)); (try simp only [zP]))
             (refine wpAnyH_ready (rs := [7]) (by kernel_rfl) (by simp) ?_; refine AllReadyH.cons rfl (fun K hK => ?_) AllReadyH.nil; go_simp; go_at_call 91; refine (wnum_any w.heap.size n8 u _ 3 n (.slice At t.length ct) (.slice none 0 0) _ (HW.out.ext ED) (Nat.le_trans hbs ED.size) (by omega) (by omega)).mono ?_; rintro e w12 ⟨rfl, v12, R12, M12, X12⟩; (try dsimp only); refine hK.out _ _ ((Mod.of_ext ED).trans M12) (fun hHeld => ?_); clear hK K; (try simp only [zP]))
             refine wpAnyH_done (by kernel_rfl) ?_ _
             have B7 := Lib.hid (B7.out.mod hHeld HN7B.out)
             have hE12 := Lib.hid (Mod.toExt E011.out hHeld (by
               rintro k hk (h9 | h9)
               · have := HN7.out; have := HN8.out; omega
               · have := (HW.out.own.row k h9).1; omega))
             have R12 : Wr w.heap.size n8 w12 v12 (encL (fs.take (q + 1))) := by rw [encL_take hd.out, HEN.out]; exact R12
             have HFT := Lib.hid (show ∀ f ∈ fs.take (q + 1), fltF f.k f.n f.t = 0 by
               rw [List.take_add_one, hd.out]
               intro f hf
               rcases List.mem_append.1 hf with h | h
               · exact HFT.out f h
               · simp at h; rw [h]; exact HFZ.out)
             obtain ⟨A12, c12, rfl, -, -⟩ := R12.own.shape
             have kb := R12.blk.cell 0
             have HR12 := Lib.hid R12
             obtain ⟨L12, hL12⟩ : ∃ L, (encL (fs.take (q + 1))).length = L := ⟨_, rfl⟩
             have HL12 := Lib.hid hL12
             rw [hL12] at kb
             clear hHeld R12 M12 X12 ED hL12 hle
             by_cases hbig : 33792 < L12
             · go_wp2
               go_ret2
               exact ⟨_, 6, rfl, hE12.out, fun h => absurd h (by decide), fun _ => rfl, fun _ hl9 => by have := encL_take_le fs (q + 1); have := HL12.out; omega⟩
             · have hbig2 : ¬ (33792 < (L12 : Int)) := by omega
               go_wp2
               go_roundw
               case rel => exact ⟨q + 1, _, by omega, by go_num, HR12, HFT, Lib.hid (by rw [HL12.out]; omega), B7, hE12⟩
               case measure => simp [intOf]; omega
           · have hz1 : (z == 0) = false := by simpa using hz0
             go_wp2
             go_ret2
             exact ⟨_, z, rfl, E011.out, fun h => absurd h hz0, fun _ => rfl, fun ha9 _ => absurd (HFZ.out.symm.trans (ha9 _ (List.mem_of_getElem? hd.out))) hz0⟩
         · skip
           have hs6 : sortsV[12]? = some (.func (.func 93) #[] #[]) := by rfl
           have hs7 : sortsV[13]? = some (.func (.func 94) #[] #[]) := by rfl
           have S6 := Lib.hid (show W10.cell? ⟨n7, 12, none⟩ = some (.func (.func 93) #[] #[]) by rw [(B7.out.ext E10).cell, hs6])
           have HS7 := Lib.hid hs7
           have B7 := Lib.hid (B7.out.ext E10)
           have HW := Lib.hid (HW.out.ext E10)
           have E010 := Lib.hid (hE.out.trans E10)
           obtain ⟨z, hz⟩ : ∃ z : Int, (if 32768 < t.length then (6 : Int) else 0) = z := ⟨_, rfl⟩
           have HFC := Lib.hid (fun w' => ftext_any 4 n At t.length ct (.slice none 0 0) w')
           rw [hz] at HFC
           have HZV := Lib.hid hz
           have HFZ := Lib.hid (show fltF 4 n t = z by rw [← hz]; simp [fltF])
           have HEN := Lib.hid (show encF 4 n t = Fr.four t.length ++ t by simp [encF])
           clear hs6 hs7 E10 hE hz
           refine wp_region_held_drew (S := fun w' => Ext W10 w') (by kernel_rfl) (Ext.drew (Ext.refl _)) (fun hHeld => ?_)
           (refine zT 0 (v := ?_) rfl (Or.inl ⟨by rfl, ?_⟩) ?_; rotate_left; (focus (intro w' hSw; skip; go_simp; try with_reducible rfl)); (try simp only [zP]))
           (refine zT 1 (v := ?_) rfl (Or.inl ⟨by rfl, ?_⟩) ?_; rotate_left; (focus (intro w' hSw; have kc := (P10.out.ext hSw).cell 0; go_simp; try with_reducible rfl)); (try simp only [zP]))
           (refine zR 2 rfl ?_; (try simp only [zP]))
           (refine zR 3 rfl ?_; (try simp only [zP]))
           (refine zT 4 (v := ?_) rfl (Or.inl ⟨by rfl, ?_⟩) ?_; rotate_left; (focus (intro w' hSw; have kc := cell_ext hSw S6.out; go_simp; try with_reducible rfl)); (try simp only [zP]))
           (refine zT 5 (v := ?_) rfl (Or.inl ⟨by rfl, ?_⟩) ?_; rotate_left; (focus (intro w' hSw; have c0 := (P10.out.ext hSw).cell 0; have c1 := (P10.out.ext hSw).cell 1; have c2 := (P10.out.ext hSw).cell 2; have c3 := (P10.out.ext hSw).cell 3; go_simp; try with_reducible rfl)); (try simp only [zP]))
           (refine wpAnyH_ready (rs := [6]) (by kernel_rfl) (by simp) ?_; refine AllReadyH.cons rfl (fun K hK => ?_) AllReadyH.nil; go_simp; go_at_call 93; refine (HFC.out _).mono ?_; rintro e w11 ⟨rfl, E11⟩; (try dsimp only); refine hK.out _ _ zX (fun hHeld => ?_); clear hK K; (try simp only [zP]))
           (refine zR 7 rfl ?_; (try simp only [zP]))
           refine wpAnyH_done (by kernel_rfl) ?_ _
           have B7 := Lib.hid (B7.out.ext hHeld)
           have HW := Lib.hid (HW.out.ext hHeld)
           have P10 := Lib.hid (P10.out.ext hHeld)
           have E011 := Lib.hid (E010.out.trans hHeld)
           clear hHeld E11 E010 S6 HFC
           by_cases hz0 : z = 0
           · subst hz0
             go_upto_region 17 with fail
             have hbs : w.heap.size ≤ w11.heap.size := E011.out.size
             have HN7B := Lib.hid (show ¬ wS n8 u n7 from by
               rintro (h9 | h9)
               · have := HN8.out; omega
               · obtain ⟨us, ho, _⟩ := HW.out.own
                 exact own_blk_ne ho B7.out (by decide) h9)
             have hle := HLE.out
             refine wp_region_held_drew (S := fun w' => Mod (wS n8 u) w11 w') (by kernel_rfl) (Mod.of_ext (Ext.drew (Ext.refl _))) (fun hHeld => ?_)
             obtain ⟨D, hD⟩ : ∃ D, D = w11.drew := ⟨_, rfl⟩
             have ED : Ext w11 D := by rw [hD]; exact (Ext.refl _).drew
             rw [← hD] at hHeld ⊢
             clear hD
             (refine zR 0 rfl ?_; (try simp only [zP]))
             (refine zT 1 (v := ?_) rfl (Or.inl ⟨by rfl, ?_⟩) ?_; rotate_left; (focus (intro w' hSw; have kc := (P10.out.mod hSw HNB.out).cell 0; go_simp; try with_reducible rfl)); (try simp only [zP]))
             (refine zR 2 rfl ?_; (try simp only [zP]))
             (refine zR 3 rfl ?_; (try simp only [zP]))
             (refine zT 4 (v := ?_) rfl (Or.inl ⟨by rfl, ?_⟩) ?_; rotate_left; (focus (intro w' hSw; have kc := (B7.out.mod hSw HN7B.out).cell 13; rw [HS7.out] at kc; go_simp; try with_reducible rfl)); (try simp only [zP]))
             (refine zR 5 rfl ?_; (try simp only [zP]))
             (refine zT 6 (v := ?_) rfl (Or.inl ⟨by rfl, ?_⟩) ?_; rotate_left; (focus (intro w' hSw; have c0 := (P10.out.mod hSw HNB.out).cell 0; have c1 := (P10.out.mod hSw HNB.out).cell 1; have c2 := (P10.out.mod hSw HNB.out).cell 2; have c3 := (P10.out.mod hSw HNB.out).cell 3; go_simp; try with_reducible rfl)); (try simp only [zP]))
             (refine wpAnyH_ready (rs := [7]) (by kernel_rfl) (by simp) ?_; refine AllReadyH.cons rfl (fun K hK => ?_) AllReadyH.nil; go_simp; go_at_call 94; refine (wtext_any w.heap.size n8 u _ 4 n (.slice At t.length ct) (.slice none 0 0) t _ (HW.out.ext ED) (Nat.le_trans hbs ED.size) (RdN.ext HTX.out (E011.out.trans ED)) (by omega) (by have h9 := HZV.out; split at h9 <;> omega) (HTO.out)).mono ?_; rintro e w12 ⟨rfl, v12, R12, M12, X12⟩; (try dsimp only); refine hK.out _ _ ((Mod.of_ext ED).trans M12) (fun hHeld => ?_); clear hK K; (try simp only [zP]))
             refine wpAnyH_done (by kernel_rfl) ?_ _
             have B7 := Lib.hid (B7.out.mod hHeld HN7B.out)
             have hE12 := Lib.hid (Mod.toExt E011.out hHeld (by
               rintro k hk (h9 | h9)
               · have := HN7.out; have := HN8.out; omega
               · have := (HW.out.own.row k h9).1; omega))
             have R12 : Wr w.heap.size n8 w12 v12 (encL (fs.take (q + 1))) := by rw [encL_take hd.out, HEN.out]; exact R12
             have HFT := Lib.hid (show ∀ f ∈ fs.take (q + 1), fltF f.k f.n f.t = 0 by
               rw [List.take_add_one, hd.out]
               intro f hf
               rcases List.mem_append.1 hf with h | h
               · exact HFT.out f h
               · simp at h; rw [h]; exact HFZ.out)
             obtain ⟨A12, c12, rfl, -, -⟩ := R12.own.shape
             have kb := R12.blk.cell 0
             have HR12 := Lib.hid R12
             obtain ⟨L12, hL12⟩ : ∃ L, (encL (fs.take (q + 1))).length = L := ⟨_, rfl⟩
             have HL12 := Lib.hid hL12
             rw [hL12] at kb
             clear hHeld R12 M12 X12 ED hL12 hle
             by_cases hbig : 33792 < L12
             · go_wp2
               go_ret2
               exact ⟨_, 6, rfl, hE12.out, fun h => absurd h (by decide), fun _ => rfl, fun _ hl9 => by have := encL_take_le fs (q + 1); have := HL12.out; omega⟩
             · have hbig2 : ¬ (33792 < (L12 : Int)) := by omega
               go_wp2
               go_roundw
               case rel => exact ⟨q + 1, _, by omega, by go_num, HR12, HFT, Lib.hid (by rw [HL12.out]; omega), B7, hE12⟩
               case measure => simp [intOf]; omega
           · have hz1 : (z == 0) = false := by simpa using hz0
             go_wp2
             go_ret2
             exact ⟨_, z, rfl, E011.out, fun h => absurd h hz0, fun _ => rfl, fun ha9 _ => absurd (HFZ.out.symm.trans (ha9 _ (List.mem_of_getElem? hd.out))) hz0⟩
         · skip
           have hs6 : sortsV[18]? = some (.func (.func 99) #[] #[]) := by rfl
           have hs7 : sortsV[19]? = some (.func (.func 100) #[] #[]) := by rfl
           have S6 := Lib.hid (show W10.cell? ⟨n7, 18, none⟩ = some (.func (.func 99) #[] #[]) by rw [(B7.out.ext E10).cell, hs6])
           have HS7 := Lib.hid hs7
           have B7 := Lib.hid (B7.out.ext E10)
           have HW := Lib.hid (HW.out.ext E10)
           have E010 := Lib.hid (hE.out.trans E10)
           obtain ⟨z, hz⟩ : ∃ z : Int, (if 33792 < t.length then (6 : Int) else 0) = z := ⟨_, rfl⟩
           have HFC := Lib.hid (fun w' => frest_any 6 n At t.length ct (.slice none 0 0) w')
           rw [hz] at HFC
           have HZV := Lib.hid hz
           have HFZ := Lib.hid (show fltF 6 n t = z by rw [← hz]; simp [fltF])
           have HEN := Lib.hid (show encF 6 n t = t by simp [encF])
           clear hs6 hs7 E10 hE hz
           refine wp_region_held_drew (S := fun w' => Ext W10 w') (by kernel_rfl) (Ext.drew (Ext.refl _)) (fun hHeld => ?_)
           (refine zT 0 (v := ?_) rfl (Or.inl ⟨by rfl, ?_⟩) ?_; rotate_left; (focus (intro w' hSw; skip; go_simp; try with_reducible rfl)); (try simp only [zP]))
           (refine zT 1 (v := ?_) rfl (Or.inl ⟨by rfl, ?_⟩) ?_; rotate_left; (focus (intro w' hSw; have kc := (P10.out.ext hSw).cell 0; go_simp; try with_reducible rfl)); (try simp only [zP]))
           (refine zR 2 rfl ?_; (try simp only [zP]))
           (refine zR 3 rfl ?_; (try simp only [zP]))
           (refine zT 4 (v := ?_) rfl (Or.inl ⟨by rfl, ?_⟩) ?_; rotate_left; (focus (intro w' hSw; have kc := cell_ext hSw S6.out; go_simp; try with_reducible rfl)); (try simp only [zP]))
           (refine zT 5 (v := ?_) rfl (Or.inl ⟨by rfl, ?_⟩) ?_; rotate_left; (focus (intro w' hSw; have c0 := (P10.out.ext hSw).cell 0; have c1 := (P10.out.ext hSw).cell 1; have c2 := (P10.out.ext hSw).cell 2; have c3 := (P10.out.ext hSw).cell 3; go_simp; try with_reducible rfl)); (try simp only [zP]))
           (refine wpAnyH_ready (rs := [6]) (by kernel_rfl) (by simp) ?_; refine AllReadyH.cons rfl (fun K hK => ?_) AllReadyH.nil; go_simp; go_at_call 99; refine (HFC.out _).mono ?_; rintro e w11 ⟨rfl, E11⟩; (try dsimp only); refine hK.out _ _ zX (fun hHeld => ?_); clear hK K; (try simp only [zP]))
           (refine zR 7 rfl ?_; (try simp only [zP]))
           refine wpAnyH_done (by kernel_rfl) ?_ _
           have B7 := Lib.hid (B7.out.ext hHeld)
           have HW := Lib.hid (HW.out.ext hHeld)
           have P10 := Lib.hid (P10.out.ext hHeld)
           have E011 := Lib.hid (E010.out.trans hHeld)
           clear hHeld E11 E010 S6 HFC
           by_cases hz0 : z = 0
           · subst hz0
             go_upto_region 17 with fail
             have hbs : w.heap.size ≤ w11.heap.size := E011.out.size
             have HN7B := Lib.hid (show ¬ wS n8 u n7 from by
               rintro (h9 | h9)
               · have := HN8.out; omega
               · obtain ⟨us, ho, _⟩ := HW.out.own
                 exact own_blk_ne ho B7.out (by decide) h9)
             have hle := HLE.out
             refine wp_region_held_drew (S := fun w' => Mod (wS n8 u) w11 w') (by kernel_rfl) (Mod.of_ext (Ext.drew (Ext.refl _))) (fun hHeld => ?_)
             obtain ⟨D, hD⟩ : ∃ D, D = w11.drew := ⟨_, rfl⟩
             have ED : Ext w11 D := by rw [hD]; exact (Ext.refl _).drew
             rw [← hD] at hHeld ⊢
             clear hD
             (refine zR 0 rfl ?_; (try simp only [zP]))
             (refine zT 1 (v := ?_) rfl (Or.inl ⟨by rfl, ?_⟩) ?_; rotate_left; (focus (intro w' hSw; have kc := (P10.out.mod hSw HNB.out).cell 0; go_simp; try with_reducible rfl)); (try simp only [zP]))
             (refine zR 2 rfl ?_; (try simp only [zP]))
             (refine zR 3 rfl ?_; (try simp only [zP]))
             (refine zT 4 (v := ?_) rfl (Or.inl ⟨by rfl, ?_⟩) ?_; rotate_left; (focus (intro w' hSw; have kc := (B7.out.mod hSw HN7B.out).cell 19; rw [HS7.out] at kc; go_simp; try with_reducible rfl)); (try simp only [zP]))
             (refine zR 5 rfl ?_; (try simp only [zP]))
             (refine zT 6 (v := ?_) rfl (Or.inl ⟨by rfl, ?_⟩) ?_; rotate_left; (focus (intro w' hSw; have c0 := (P10.out.mod hSw HNB.out).cell 0; have c1 := (P10.out.mod hSw HNB.out).cell 1; have c2 := (P10.out.mod hSw HNB.out).cell 2; have c3 := (P10.out.mod hSw HNB.out).cell 3; go_simp; try with_reducible rfl)); (try simp only [zP]))
             (refine wpAnyH_ready (rs := [7]) (by kernel_rfl) (by simp) ?_; refine AllReadyH.cons rfl (fun K hK => ?_) AllReadyH.nil; go_simp; go_at_call 100; refine (wrest_any w.heap.size n8 u _ 6 n (.slice At t.length ct) (.slice none 0 0) t _ (HW.out.ext ED) (Nat.le_trans hbs ED.size) (RdN.ext HTX.out (E011.out.trans ED)) (by omega) (by have h9 := HZV.out; split at h9 <;> omega)).mono ?_; rintro e w12 ⟨rfl, v12, R12, M12, X12⟩; (try dsimp only); refine hK.out _ _ ((Mod.of_ext ED).trans M12) (fun hHeld => ?_); clear hK K; (try simp only [zP]))
             refine wpAnyH_done (by kernel_rfl) ?_ _
             have B7 := Lib.hid (B7.out.mod hHeld HN7B.out)
             have hE12 := Lib.hid (Mod.toExt E011.out hHeld (by
               rintro k hk (h9 | h9)
               · have := HN7.out; have := HN8.out; omega
               · have := (HW.out.own.row k h9).1; omega))
             have R12 : Wr w.heap.size n8 w12 v12 (encL (fs.take (q + 1))) := by rw [encL_take hd.out, HEN.out]; exact R12
             have HFT := Lib.hid (show ∀ f ∈ fs.take (q + 1), fltF f.k f.n f.t = 0 by
               rw [List.take_add_one, hd.out]
               intro f hf
               rcases List.mem_append.1 hf with h | h
               · exact HFT.out f h
               · simp at h; rw [h]; exact HFZ.out)
             obtain ⟨A12, c12, rfl, -, -⟩ := R12.own.shape
             have kb := R12.blk.cell 0
             have HR12 := Lib.hid R12
             obtain ⟨L12, hL12⟩ : ∃ L, (encL (fs.take (q + 1))).length = L := ⟨_, rfl⟩
             have HL12 := Lib.hid hL12
             rw [hL12] at kb
             clear hHeld R12 M12 X12 ED hL12 hle
             by_cases hbig : 33792 < L12
             · go_wp2
               go_ret2
               exact ⟨_, 6, rfl, hE12.out, fun h => absurd h (by decide), fun _ => rfl, fun _ hl9 => by have := encL_take_le fs (q + 1); have := HL12.out; omega⟩
             · have hbig2 : ¬ (33792 < (L12 : Int)) := by omega
               go_wp2
               go_roundw
               case rel => exact ⟨q + 1, _, by omega, by go_num, HR12, HFT, Lib.hid (by rw [HL12.out]; omega), B7, hE12⟩
               case measure => simp [intOf]; omega
           · have hz1 : (z == 0) = false := by simpa using hz0
             go_wp2
             go_ret2
             exact ⟨_, z, rfl, E011.out, fun h => absurd h hz0, fun _ => rfl, fun ha9 _ => absurd (HFZ.out.symm.trans (ha9 _ (List.mem_of_getElem? hd.out))) hz0⟩
       · obtain rfl : q = m := by omega
         have kb := HW.out.blk.cell 0
         have hta : fs.take q = fs := by rw [← HN.out, List.take_length]
         have HTA := Lib.hid hta
         clear hta
         go_wp2
         go_ret2
         refine ⟨u, 0, rfl, hE.out, fun _ => ?_, fun h => absurd rfl h, fun _ _ => rfl⟩
         have h1 := HFT.out
         have h2 := HLE.out
         have h3 := HW.out.own
         rw [HTA.out] at h1 h2 h3
         exact ⟨h1, h2, h3⟩
end Go.Proofs.YtmmhcllibpmfnaaGreatDoor
namespace Go.Proofs.YtmmhcllibpmfnaaGreatDoor
open Go.RowKit Go.Kb
set_option maxRecDepth 100000
/-- a part: its kind, what gets it, what puts it -/
structure Pa where
 k : Int
 g : Nat
 p : Nat
abbrev paA (q : Pa) : Array Value := #[.int .i64 q.k, .func (.func q.g) #[] #[], .func (.func q.p) #[] #[]]
def paCode : Pa := ⟨3, 230, 231⟩
def paWords : Pa := ⟨4, 232, 233⟩
def paLang : Pa := ⟨4, 234, 235⟩
def paName : Pa := ⟨4, 236, 237⟩
def paWant : Pa := ⟨2, 238, 239⟩
def paRest : Pa := ⟨6, 232, 233⟩
def paSender : Pa := ⟨3, 240, 241⟩
def paWindow : Pa := ⟨3, 242, 243⟩
def paPacket : Pa := ⟨3, 244, 245⟩
def paChan : Pa := ⟨3, 246, 247⟩
theorem code_part (w : World) : Calls Tryz.prog 161 #[] w fun e w' => e = .returned (.agg (paA paCode)) ∧ Ext w w' := by
 have hi : (Tryz.prog.info? 228).map (·.size) = some 3 := by kernel_rfl
 go_enter Tryz.func161, Tryz.ntmps161
 go_wp2_with (refine wpList_store_A rfl 228 _ _ rfl w.heap.size _ rfl rfl 228 _ (show Blk _ _ _ _ from Blk.at_ _ _ (by simp)) hi rfl (by simp [Value.oneCell']) ?_; intro w2 HB E2; have E2 := E2 w.heap.size w zX (Nat.le_refl _))
 refine bodyPost_ret_by (results_cell_row Tryz.results161 _ _ w.heap.size 228 _ _ _ rfl HB Tryz.underlying228 rfl hi) rfl ?_
 exact ⟨rfl, E2⟩
theorem words_part (w : World) : Calls Tryz.prog 162 #[] w fun e w' => e = .returned (.agg (paA paWords)) ∧ Ext w w' := by
 have hi : (Tryz.prog.info? 228).map (·.size) = some 3 := by kernel_rfl
 go_enter Tryz.func162, Tryz.ntmps162
 go_wp2_with (refine wpList_store_A rfl 228 _ _ rfl w.heap.size _ rfl rfl 228 _ (show Blk _ _ _ _ from Blk.at_ _ _ (by simp)) hi rfl (by simp [Value.oneCell']) ?_; intro w2 HB E2; have E2 := E2 w.heap.size w zX (Nat.le_refl _))
 refine bodyPost_ret_by (results_cell_row Tryz.results162 _ _ w.heap.size 228 _ _ _ rfl HB Tryz.underlying228 rfl hi) rfl ?_
 exact ⟨rfl, E2⟩
theorem lang_part (w : World) : Calls Tryz.prog 163 #[] w fun e w' => e = .returned (.agg (paA paLang)) ∧ Ext w w' := by
 have hi : (Tryz.prog.info? 228).map (·.size) = some 3 := by kernel_rfl
 go_enter Tryz.func163, Tryz.ntmps163
 go_wp2_with (refine wpList_store_A rfl 228 _ _ rfl w.heap.size _ rfl rfl 228 _ (show Blk _ _ _ _ from Blk.at_ _ _ (by simp)) hi rfl (by simp [Value.oneCell']) ?_; intro w2 HB E2; have E2 := E2 w.heap.size w zX (Nat.le_refl _))
 refine bodyPost_ret_by (results_cell_row Tryz.results163 _ _ w.heap.size 228 _ _ _ rfl HB Tryz.underlying228 rfl hi) rfl ?_
 exact ⟨rfl, E2⟩
theorem name_part (w : World) : Calls Tryz.prog 164 #[] w fun e w' => e = .returned (.agg (paA paName)) ∧ Ext w w' := by
 have hi : (Tryz.prog.info? 228).map (·.size) = some 3 := by kernel_rfl
 go_enter Tryz.func164, Tryz.ntmps164
 go_wp2_with (refine wpList_store_A rfl 228 _ _ rfl w.heap.size _ rfl rfl 228 _ (show Blk _ _ _ _ from Blk.at_ _ _ (by simp)) hi rfl (by simp [Value.oneCell']) ?_; intro w2 HB E2; have E2 := E2 w.heap.size w zX (Nat.le_refl _))
 refine bodyPost_ret_by (results_cell_row Tryz.results164 _ _ w.heap.size 228 _ _ _ rfl HB Tryz.underlying228 rfl hi) rfl ?_
 exact ⟨rfl, E2⟩
theorem want_part (w : World) : Calls Tryz.prog 165 #[] w fun e w' => e = .returned (.agg (paA paWant)) ∧ Ext w w' := by
 have hi : (Tryz.prog.info? 228).map (·.size) = some 3 := by kernel_rfl
 go_enter Tryz.func165, Tryz.ntmps165
 go_wp2_with (refine wpList_store_A rfl 228 _ _ rfl w.heap.size _ rfl rfl 228 _ (show Blk _ _ _ _ from Blk.at_ _ _ (by simp)) hi rfl (by simp [Value.oneCell']) ?_; intro w2 HB E2; have E2 := E2 w.heap.size w zX (Nat.le_refl _))
 refine bodyPost_ret_by (results_cell_row Tryz.results165 _ _ w.heap.size 228 _ _ _ rfl HB Tryz.underlying228 rfl hi) rfl ?_
 exact ⟨rfl, E2⟩
theorem rest_part (w : World) : Calls Tryz.prog 166 #[] w fun e w' => e = .returned (.agg (paA paRest)) ∧ Ext w w' := by
 have hi : (Tryz.prog.info? 228).map (·.size) = some 3 := by kernel_rfl
 go_enter Tryz.func166, Tryz.ntmps166
 go_wp2_with (refine wpList_store_A rfl 228 _ _ rfl w.heap.size _ rfl rfl 228 _ (show Blk _ _ _ _ from Blk.at_ _ _ (by simp)) hi rfl (by simp [Value.oneCell']) ?_; intro w2 HB E2; have E2 := E2 w.heap.size w zX (Nat.le_refl _))
 refine bodyPost_ret_by (results_cell_row Tryz.results166 _ _ w.heap.size 228 _ _ _ rfl HB Tryz.underlying228 rfl hi) rfl ?_
 exact ⟨rfl, E2⟩
theorem sender_part (w : World) : Calls Tryz.prog 167 #[] w fun e w' => e = .returned (.agg (paA paSender)) ∧ Ext w w' := by
 have hi : (Tryz.prog.info? 228).map (·.size) = some 3 := by kernel_rfl
 go_enter Tryz.func167, Tryz.ntmps167
 go_wp2_with (refine wpList_store_A rfl 228 _ _ rfl w.heap.size _ rfl rfl 228 _ (show Blk _ _ _ _ from Blk.at_ _ _ (by simp)) hi rfl (by simp [Value.oneCell']) ?_; intro w2 HB E2; have E2 := E2 w.heap.size w zX (Nat.le_refl _))
 refine bodyPost_ret_by (results_cell_row Tryz.results167 _ _ w.heap.size 228 _ _ _ rfl HB Tryz.underlying228 rfl hi) rfl ?_
 exact ⟨rfl, E2⟩
theorem window_part (w : World) : Calls Tryz.prog 168 #[] w fun e w' => e = .returned (.agg (paA paWindow)) ∧ Ext w w' := by
 have hi : (Tryz.prog.info? 228).map (·.size) = some 3 := by kernel_rfl
 go_enter Tryz.func168, Tryz.ntmps168
 go_wp2_with (refine wpList_store_A rfl 228 _ _ rfl w.heap.size _ rfl rfl 228 _ (show Blk _ _ _ _ from Blk.at_ _ _ (by simp)) hi rfl (by simp [Value.oneCell']) ?_; intro w2 HB E2; have E2 := E2 w.heap.size w zX (Nat.le_refl _))
 refine bodyPost_ret_by (results_cell_row Tryz.results168 _ _ w.heap.size 228 _ _ _ rfl HB Tryz.underlying228 rfl hi) rfl ?_
 exact ⟨rfl, E2⟩
theorem packet_part (w : World) : Calls Tryz.prog 169 #[] w fun e w' => e = .returned (.agg (paA paPacket)) ∧ Ext w w' := by
 have hi : (Tryz.prog.info? 228).map (·.size) = some 3 := by kernel_rfl
 go_enter Tryz.func169, Tryz.ntmps169
 go_wp2_with (refine wpList_store_A rfl 228 _ _ rfl w.heap.size _ rfl rfl 228 _ (show Blk _ _ _ _ from Blk.at_ _ _ (by simp)) hi rfl (by simp [Value.oneCell']) ?_; intro w2 HB E2; have E2 := E2 w.heap.size w zX (Nat.le_refl _))
 refine bodyPost_ret_by (results_cell_row Tryz.results169 _ _ w.heap.size 228 _ _ _ rfl HB Tryz.underlying228 rfl hi) rfl ?_
 exact ⟨rfl, E2⟩
theorem channel_part (w : World) : Calls Tryz.prog 170 #[] w fun e w' => e = .returned (.agg (paA paChan)) ∧ Ext w w' := by
 have hi : (Tryz.prog.info? 228).map (·.size) = some 3 := by kernel_rfl
 go_enter Tryz.func170, Tryz.ntmps170
 go_wp2_with (refine wpList_store_A rfl 228 _ _ rfl w.heap.size _ rfl rfl 228 _ (show Blk _ _ _ _ from Blk.at_ _ _ (by simp)) hi rfl (by simp [Value.oneCell']) ?_; intro w2 HB E2; have E2 := E2 w.heap.size w zX (Nat.le_refl _))
 refine bodyPost_ret_by (results_cell_row Tryz.results170 _ _ w.heap.size 228 _ _ _ rfl HB Tryz.underlying228 rfl hi) rfl ?_
 exact ⟨rfl, E2⟩
/-- a kind's parts -/
def rowL (k : Int) : Option (List Pa) :=
 if k = 1 then some [paCode, paWords, paLang] else if k = 80 then some [paName, paWant, paRest] else if k = 81 then some [paRest] else if k = 82 then some [] else if k = 90 then some [paName, paSender, paWindow, paPacket, paRest] else if k = 91 then some [paChan, paSender, paWindow, paPacket, paRest] else if k = 92 then some [paChan, paCode, paWords, paLang] else if k = 93 then some [paChan, paWindow] else if k = 94 then some [paChan, paWords] else if k = 95 then some [paChan, paCode, paWords] else if k = 96 ∨ k = 97 ∨ k = 99 ∨ k = 100 then some [paChan] else if k = 98 then some [paChan, paName, paWant, paRest] else none
/-- what row answers: new memory, or nothing -/
def RowP (k : Int) (w : World) (e : Ending) (w' : World) : Prop :=
 Ext w w' ∧ match rowL k with
 | none => e = .returned (.tuple #[.slice none 0 0, .bool false])
 | some ps => ∃ A, e = .returned (.tuple #[.slice A ps.length ps.length, .bool true]) ∧ (ps = [] ∨ ∃ g, A = some ⟨g, 0, none⟩ ∧ w.heap.size ≤ g ∧ Blk w' g 228 (ps.flatMap (fun q => (paA q).toList)).toArray)
end Go.Proofs.YtmmhcllibpmfnaaGreatDoor
namespace Go.Proofs.YtmmhcllibpmfnaaGreatDoor
open Go.RowKit Go.Kb
set_option maxRecDepth 100000
set_option maxHeartbeats 800000 in
theorem mrow_1 (w : World) : Calls Tryz.prog 81 #[.int .i64 1] w (RowP 1 w) := by
 unfold RowP
 rw [show rowL 1 = some [paCode, paWords, paLang] from by simp [rowL]]
 go_enter Tryz.func81, Tryz.ntmps81
 go_wp2_with fail
 refine (code_part _).mono ?_
 rintro e w1 ⟨rfl, E1⟩
 have E01 : Ext w w1 := zX
 go_wp2_with fail
 refine (words_part _).mono ?_
 rintro e w2 ⟨rfl, E2⟩
 have E02 : Ext w w2 := zX
 go_wp2_with fail
 refine (lang_part _).mono ?_
 rintro e w3 ⟨rfl, E3⟩
 have E03 : Ext w w3 := zX
 have HB := Lib.hid (Blk.new w3 228 (([paCode, paWords, paLang] : List Pa).flatMap (fun q => (paA q).toList)).toArray)
 have EE := Lib.hid E03
 go_wp2
 go_ret2
 exact ⟨EE.out.alloc _, _, rfl, .inr ⟨_, rfl, EE.out.size, HB.out⟩⟩
set_option maxHeartbeats 800000 in
theorem mrow_80 (w : World) : Calls Tryz.prog 81 #[.int .i64 80] w (RowP 80 w) := by
 unfold RowP
 rw [show rowL 80 = some [paName, paWant, paRest] from by simp [rowL]]
 go_enter Tryz.func81, Tryz.ntmps81
 go_wp2_with fail
 refine (name_part _).mono ?_
 rintro e w1 ⟨rfl, E1⟩
 have E01 : Ext w w1 := zX
 go_wp2_with fail
 refine (want_part _).mono ?_
 rintro e w2 ⟨rfl, E2⟩
 have E02 : Ext w w2 := zX
 go_wp2_with fail
 refine (rest_part _).mono ?_
 rintro e w3 ⟨rfl, E3⟩
 have E03 : Ext w w3 := zX
 have HB := Lib.hid (Blk.new w3 228 (([paName, paWant, paRest] : List Pa).flatMap (fun q => (paA q).toList)).toArray)
 have EE := Lib.hid E03
 go_wp2
 go_ret2
 exact ⟨EE.out.alloc _, _, rfl, .inr ⟨_, rfl, EE.out.size, HB.out⟩⟩
set_option maxHeartbeats 800000 in
theorem mrow_81 (w : World) : Calls Tryz.prog 81 #[.int .i64 81] w (RowP 81 w) := by
 unfold RowP
 rw [show rowL 81 = some [paRest] from by simp [rowL]]
 go_enter Tryz.func81, Tryz.ntmps81
 go_wp2_with fail
 refine (rest_part _).mono ?_
 rintro e w1 ⟨rfl, E1⟩
 have E01 : Ext w w1 := zX
 have HB := Lib.hid (Blk.new w1 228 (([paRest] : List Pa).flatMap (fun q => (paA q).toList)).toArray)
 have EE := Lib.hid E01
 go_wp2
 go_ret2
 exact ⟨EE.out.alloc _, _, rfl, .inr ⟨_, rfl, EE.out.size, HB.out⟩⟩
set_option maxHeartbeats 800000 in
theorem mrow_82 (w : World) : Calls Tryz.prog 81 #[.int .i64 82] w (RowP 82 w) := by
 unfold RowP
 rw [show rowL 82 = some [] from by simp [rowL]]
 go_enter Tryz.func81, Tryz.ntmps81
 go_wp2
 go_ret2
 exact ⟨zX, _, rfl, .inl (by trivial)⟩
set_option maxHeartbeats 800000 in
theorem mrow_90 (w : World) : Calls Tryz.prog 81 #[.int .i64 90] w (RowP 90 w) := by
 unfold RowP
 rw [show rowL 90 = some [paName, paSender, paWindow, paPacket, paRest] from by simp [rowL]]
 go_enter Tryz.func81, Tryz.ntmps81
 go_wp2_with fail
 refine (name_part _).mono ?_
 rintro e w1 ⟨rfl, E1⟩
 have E01 : Ext w w1 := zX
 go_wp2_with fail
 refine (sender_part _).mono ?_
 rintro e w2 ⟨rfl, E2⟩
 have E02 : Ext w w2 := zX
 go_wp2_with fail
 refine (window_part _).mono ?_
 rintro e w3 ⟨rfl, E3⟩
 have E03 : Ext w w3 := zX
 go_wp2_with fail
 refine (packet_part _).mono ?_
 rintro e w4 ⟨rfl, E4⟩
 have E04 : Ext w w4 := zX
 go_wp2_with fail
 refine (rest_part _).mono ?_
 rintro e w5 ⟨rfl, E5⟩
 have E05 : Ext w w5 := zX
 have HB := Lib.hid (Blk.new w5 228 (([paName, paSender, paWindow, paPacket, paRest] : List Pa).flatMap (fun q => (paA q).toList)).toArray)
 have EE := Lib.hid E05
 go_wp2
 go_ret2
 exact ⟨EE.out.alloc _, _, rfl, .inr ⟨_, rfl, EE.out.size, HB.out⟩⟩
set_option maxHeartbeats 800000 in
theorem mrow_91 (w : World) : Calls Tryz.prog 81 #[.int .i64 91] w (RowP 91 w) := by
 unfold RowP
 rw [show rowL 91 = some [paChan, paSender, paWindow, paPacket, paRest] from by simp [rowL]]
 go_enter Tryz.func81, Tryz.ntmps81
 go_wp2_with fail
 refine (channel_part _).mono ?_
 rintro e w1 ⟨rfl, E1⟩
 have E01 : Ext w w1 := zX
 go_wp2_with fail
 refine (sender_part _).mono ?_
 rintro e w2 ⟨rfl, E2⟩
 have E02 : Ext w w2 := zX
 go_wp2_with fail
 refine (window_part _).mono ?_
 rintro e w3 ⟨rfl, E3⟩
 have E03 : Ext w w3 := zX
 go_wp2_with fail
 refine (packet_part _).mono ?_
 rintro e w4 ⟨rfl, E4⟩
 have E04 : Ext w w4 := zX
 go_wp2_with fail
 refine (rest_part _).mono ?_
 rintro e w5 ⟨rfl, E5⟩
 have E05 : Ext w w5 := zX
 have HB := Lib.hid (Blk.new w5 228 (([paChan, paSender, paWindow, paPacket, paRest] : List Pa).flatMap (fun q => (paA q).toList)).toArray)
 have EE := Lib.hid E05
 go_wp2
 go_ret2
 exact ⟨EE.out.alloc _, _, rfl, .inr ⟨_, rfl, EE.out.size, HB.out⟩⟩
set_option maxHeartbeats 800000 in
theorem mrow_92 (w : World) : Calls Tryz.prog 81 #[.int .i64 92] w (RowP 92 w) := by
 unfold RowP
 rw [show rowL 92 = some [paChan, paCode, paWords, paLang] from by simp [rowL]]
 go_enter Tryz.func81, Tryz.ntmps81
 go_wp2_with fail
 refine (channel_part _).mono ?_
 rintro e w1 ⟨rfl, E1⟩
 have E01 : Ext w w1 := zX
 go_wp2_with fail
 refine (code_part _).mono ?_
 rintro e w2 ⟨rfl, E2⟩
 have E02 : Ext w w2 := zX
 go_wp2_with fail
 refine (words_part _).mono ?_
 rintro e w3 ⟨rfl, E3⟩
 have E03 : Ext w w3 := zX
 go_wp2_with fail
 refine (lang_part _).mono ?_
 rintro e w4 ⟨rfl, E4⟩
 have E04 : Ext w w4 := zX
 have HB := Lib.hid (Blk.new w4 228 (([paChan, paCode, paWords, paLang] : List Pa).flatMap (fun q => (paA q).toList)).toArray)
 have EE := Lib.hid E04
 go_wp2
 go_ret2
 exact ⟨EE.out.alloc _, _, rfl, .inr ⟨_, rfl, EE.out.size, HB.out⟩⟩
set_option maxHeartbeats 800000 in
theorem mrow_93 (w : World) : Calls Tryz.prog 81 #[.int .i64 93] w (RowP 93 w) := by
 unfold RowP
 rw [show rowL 93 = some [paChan, paWindow] from by simp [rowL]]
 go_enter Tryz.func81, Tryz.ntmps81
 go_wp2_with fail
 refine (channel_part _).mono ?_
 rintro e w1 ⟨rfl, E1⟩
 have E01 : Ext w w1 := zX
 go_wp2_with fail
 refine (window_part _).mono ?_
 rintro e w2 ⟨rfl, E2⟩
 have E02 : Ext w w2 := zX
 have HB := Lib.hid (Blk.new w2 228 (([paChan, paWindow] : List Pa).flatMap (fun q => (paA q).toList)).toArray)
 have EE := Lib.hid E02
 go_wp2
 go_ret2
 exact ⟨EE.out.alloc _, _, rfl, .inr ⟨_, rfl, EE.out.size, HB.out⟩⟩
set_option maxHeartbeats 800000 in
theorem mrow_94 (w : World) : Calls Tryz.prog 81 #[.int .i64 94] w (RowP 94 w) := by
 unfold RowP
 rw [show rowL 94 = some [paChan, paWords] from by simp [rowL]]
 go_enter Tryz.func81, Tryz.ntmps81
 go_wp2_with fail
 refine (channel_part _).mono ?_
 rintro e w1 ⟨rfl, E1⟩
 have E01 : Ext w w1 := zX
 go_wp2_with fail
 refine (words_part _).mono ?_
 rintro e w2 ⟨rfl, E2⟩
 have E02 : Ext w w2 := zX
 have HB := Lib.hid (Blk.new w2 228 (([paChan, paWords] : List Pa).flatMap (fun q => (paA q).toList)).toArray)
 have EE := Lib.hid E02
 go_wp2
 go_ret2
 exact ⟨EE.out.alloc _, _, rfl, .inr ⟨_, rfl, EE.out.size, HB.out⟩⟩
set_option maxHeartbeats 800000 in
theorem mrow_95 (w : World) : Calls Tryz.prog 81 #[.int .i64 95] w (RowP 95 w) := by
 unfold RowP
 rw [show rowL 95 = some [paChan, paCode, paWords] from by simp [rowL]]
 go_enter Tryz.func81, Tryz.ntmps81
 go_wp2_with fail
 refine (channel_part _).mono ?_
 rintro e w1 ⟨rfl, E1⟩
 have E01 : Ext w w1 := zX
 go_wp2_with fail
 refine (code_part _).mono ?_
 rintro e w2 ⟨rfl, E2⟩
 have E02 : Ext w w2 := zX
 go_wp2_with fail
 refine (words_part _).mono ?_
 rintro e w3 ⟨rfl, E3⟩
 have E03 : Ext w w3 := zX
 have HB := Lib.hid (Blk.new w3 228 (([paChan, paCode, paWords] : List Pa).flatMap (fun q => (paA q).toList)).toArray)
 have EE := Lib.hid E03
 go_wp2
 go_ret2
 exact ⟨EE.out.alloc _, _, rfl, .inr ⟨_, rfl, EE.out.size, HB.out⟩⟩
set_option maxHeartbeats 800000 in
theorem mrow_96 (w : World) : Calls Tryz.prog 81 #[.int .i64 96] w (RowP 96 w) := by
 unfold RowP
 rw [show rowL 96 = some [paChan] from by simp [rowL]]
 go_enter Tryz.func81, Tryz.ntmps81
 go_wp2_with fail
 refine (channel_part _).mono ?_
 rintro e w1 ⟨rfl, E1⟩
 have E01 : Ext w w1 := zX
 have HB := Lib.hid (Blk.new w1 228 (([paChan] : List Pa).flatMap (fun q => (paA q).toList)).toArray)
 have EE := Lib.hid E01
 go_wp2
 go_ret2
 exact ⟨EE.out.alloc _, _, rfl, .inr ⟨_, rfl, EE.out.size, HB.out⟩⟩
set_option maxHeartbeats 800000 in
theorem mrow_97 (w : World) : Calls Tryz.prog 81 #[.int .i64 97] w (RowP 97 w) := by
 unfold RowP
 rw [show rowL 97 = some [paChan] from by simp [rowL]]
 go_enter Tryz.func81, Tryz.ntmps81
 go_wp2_with fail
 refine (channel_part _).mono ?_
 rintro e w1 ⟨rfl, E1⟩
 have E01 : Ext w w1 := zX
 have HB := Lib.hid (Blk.new w1 228 (([paChan] : List Pa).flatMap (fun q => (paA q).toList)).toArray)
 have EE := Lib.hid E01
 go_wp2
 go_ret2
 exact ⟨EE.out.alloc _, _, rfl, .inr ⟨_, rfl, EE.out.size, HB.out⟩⟩
set_option maxHeartbeats 800000 in
theorem mrow_99 (w : World) : Calls Tryz.prog 81 #[.int .i64 99] w (RowP 99 w) := by
 unfold RowP
 rw [show rowL 99 = some [paChan] from by simp [rowL]]
 go_enter Tryz.func81, Tryz.ntmps81
 go_wp2_with fail
 refine (channel_part _).mono ?_
 rintro e w1 ⟨rfl, E1⟩
 have E01 : Ext w w1 := zX
 have HB := Lib.hid (Blk.new w1 228 (([paChan] : List Pa).flatMap (fun q => (paA q).toList)).toArray)
 have EE := Lib.hid E01
 go_wp2
 go_ret2
 exact ⟨EE.out.alloc _, _, rfl, .inr ⟨_, rfl, EE.out.size, HB.out⟩⟩
set_option maxHeartbeats 800000 in
theorem mrow_100 (w : World) : Calls Tryz.prog 81 #[.int .i64 100] w (RowP 100 w) := by
 unfold RowP
 rw [show rowL 100 = some [paChan] from by simp [rowL]]
 go_enter Tryz.func81, Tryz.ntmps81
 go_wp2_with fail
 refine (channel_part _).mono ?_
 rintro e w1 ⟨rfl, E1⟩
 have E01 : Ext w w1 := zX
 have HB := Lib.hid (Blk.new w1 228 (([paChan] : List Pa).flatMap (fun q => (paA q).toList)).toArray)
 have EE := Lib.hid E01
 go_wp2
 go_ret2
 exact ⟨EE.out.alloc _, _, rfl, .inr ⟨_, rfl, EE.out.size, HB.out⟩⟩
set_option maxHeartbeats 800000 in
theorem mrow_98 (w : World) : Calls Tryz.prog 81 #[.int .i64 98] w (RowP 98 w) := by
 unfold RowP
 rw [show rowL 98 = some [paChan, paName, paWant, paRest] from by simp [rowL]]
 go_enter Tryz.func81, Tryz.ntmps81
 go_wp2_with fail
 refine (channel_part _).mono ?_
 rintro e w1 ⟨rfl, E1⟩
 have E01 : Ext w w1 := zX
 go_wp2_with fail
 refine (name_part _).mono ?_
 rintro e w2 ⟨rfl, E2⟩
 have E02 : Ext w w2 := zX
 go_wp2_with fail
 refine (want_part _).mono ?_
 rintro e w3 ⟨rfl, E3⟩
 have E03 : Ext w w3 := zX
 go_wp2_with fail
 refine (rest_part _).mono ?_
 rintro e w4 ⟨rfl, E4⟩
 have E04 : Ext w w4 := zX
 have HB := Lib.hid (Blk.new w4 228 (([paChan, paName, paWant, paRest] : List Pa).flatMap (fun q => (paA q).toList)).toArray)
 have EE := Lib.hid E04
 go_wp2
 go_ret2
 exact ⟨EE.out.alloc _, _, rfl, .inr ⟨_, rfl, EE.out.size, HB.out⟩⟩
set_option maxHeartbeats 800000 in
theorem mrow_any (k : Int) (w : World) : Calls Tryz.prog 81 #[.int .i64 k] w (RowP k w) := by
 by_cases h : k = 1 ∨ k = 80 ∨ k = 81 ∨ k = 82 ∨ k = 90 ∨ k = 91 ∨ k = 92 ∨ k = 93 ∨ k = 94 ∨ k = 95 ∨ k = 96 ∨ k = 97 ∨ k = 99 ∨ k = 100 ∨ k = 98
 · rcases h with rfl | rfl | rfl | rfl | rfl | rfl | rfl | rfl | rfl | rfl | rfl | rfl | rfl | rfl | rfl
   · exact mrow_1 w
   · exact mrow_80 w
   · exact mrow_81 w
   · exact mrow_82 w
   · exact mrow_90 w
   · exact mrow_91 w
   · exact mrow_92 w
   · exact mrow_93 w
   · exact mrow_94 w
   · exact mrow_95 w
   · exact mrow_96 w
   · exact mrow_97 w
   · exact mrow_99 w
   · exact mrow_100 w
   · exact mrow_98 w
 · unfold RowP
   simp only [not_or] at h
   obtain ⟨h1, h80, h81, h82, h90, h91, h92, h93, h94, h95, h96, h97, h99, h100, h98⟩ := h
   rw [show rowL k = none from by simp [rowL, h1, h80, h81, h82, h90, h91, h92, h93, h94, h95, h96, h97, h99, h100, h98]]
   have i1 : (k == 1) = false := by simpa using h1
   have i80 : (k == 80) = false := by simpa using h80
   have i81 : (k == 81) = false := by simpa using h81
   have i82 : (k == 82) = false := by simpa using h82
   have i90 : (k == 90) = false := by simpa using h90
   have i91 : (k == 91) = false := by simpa using h91
   have i92 : (k == 92) = false := by simpa using h92
   have i93 : (k == 93) = false := by simpa using h93
   have i94 : (k == 94) = false := by simpa using h94
   have i95 : (k == 95) = false := by simpa using h95
   have i96 : (k == 96) = false := by simpa using h96
   have i97 : (k == 97) = false := by simpa using h97
   have i99 : (k == 99) = false := by simpa using h99
   have i100 : (k == 100) = false := by simpa using h100
   have i98 : (k == 98) = false := by simpa using h98
   go_enter Tryz.func81, Tryz.ntmps81
   go_wp2
   go_ret2
   exact ⟨zX, rfl⟩
end Go.Proofs.YtmmhcllibpmfnaaGreatDoor
namespace Go.Proofs.YtmmhcllibpmfnaaGreatDoor
open Go.RowKit Go.Kb
set_option maxRecDepth 100000
/-- a message -/
structure Mg where
 k : Int
 ch : Int
 se : Int
 wi : Int
 pk : Int
 co : Int
 nm : ByteArray
 la : ByteArray
 wa : Bool
 da : List Int
/-- its cells; where its data lies -/
abbrev mgA (m : Mg) (v : Value) : Array Value := #[.int .i64 m.k, .int .u32 m.ch, .int .u32 m.se, .int .u32 m.wi, .int .u32 m.pk, .int .u32 m.co, .string m.nm, .string m.la, .bool m.wa, v]
/-- a text's bytes -/
def bsL (s : ByteArray) : List Int := s.data.toList.map fun x => (x.toNat : Int)
/-- what a getter leaves: a field without its kind -/
def GetP (A : Nat → Prop) (n : Int) (t : List Int) (w : World) (e : Ending) (w' : World) : Prop :=
 ∃ vt, e = .returned (.agg #[.int .i64 0, .int .u32 n, vt, .slice none 0 0]) ∧ RdS Ub8 (fun k => A k ∨ w.heap.size ≤ k) w' vt t ∧ Ext w w'
structure MgC (w : World) (g : Nat) (m : Mg) (v : Value) : Prop where
 k0 : w.cell? ⟨g, 0, none⟩ = some (.int .i64 m.k)
 k1 : w.cell? ⟨g, 1, none⟩ = some (.int .u32 m.ch)
 k2 : w.cell? ⟨g, 2, none⟩ = some (.int .u32 m.se)
 k3 : w.cell? ⟨g, 3, none⟩ = some (.int .u32 m.wi)
 k4 : w.cell? ⟨g, 4, none⟩ = some (.int .u32 m.pk)
 k5 : w.cell? ⟨g, 5, none⟩ = some (.int .u32 m.co)
 k6 : w.cell? ⟨g, 6, none⟩ = some (.string m.nm)
 k7 : w.cell? ⟨g, 7, none⟩ = some (.string m.la)
 k8 : w.cell? ⟨g, 8, none⟩ = some (.bool m.wa)
 k9 : w.cell? ⟨g, 9, none⟩ = some v
theorem mgC {w : World} {g : Nat} {t : TypeId} {m : Mg} {v : Value} (h : Blk w g t (mgA m v)) : MgC w g m v :=
 ⟨by simpa using h.cell 0, by simpa using h.cell 1, by simpa using h.cell 2, by simpa using h.cell 3, by simpa using h.cell 4, by simpa using h.cell 5, by simpa using h.cell 6, by simpa using h.cell 7, by simpa using h.cell 8, by simpa using h.cell 9⟩
set_option maxHeartbeats 800000 in
theorem mgetCode (g : Nat) (m : Mg) (v : Value) (A : Nat → Prop) (w : World) (h : Blk w g 224 (mgA m v)) : Calls Tryz.prog 230 #[.pointer (some ⟨g, 0, none⟩)] w (GetP A m.co [] w) := by
 have hi : (Tryz.prog.info? 86).map (·.size) = some 4 := by kernel_rfl
 have kc := (mgC (h.ext ((Ext.refl w).alloc (.cells #[.int .i64 0, .int .u32 0, .slice none 0 0, .slice none 0 0] 86)))).k5
 clear h
 go_enter Tryz.func230, Tryz.ntmps230
 go_wp2_with (refine wpList_store_A rfl 86 _ _ rfl w.heap.size _ rfl rfl 86 _ (show Blk _ _ _ _ from Blk.at_ _ _ (by simp)) hi rfl (by simp [Value.oneCell']) ?_; intro w2 HB E2; have E2 := E2 w.heap.size w zX (Nat.le_refl _))
 refine bodyPost_ret_by (results_cell_row Tryz.results230 _ _ w.heap.size 86 _ _ _ rfl HB Tryz.underlying86 rfl hi) rfl ?_
 exact ⟨_, rfl, RdS.nil _ _ _, E2⟩
set_option maxHeartbeats 800000 in
theorem mgetSender (g : Nat) (m : Mg) (v : Value) (A : Nat → Prop) (w : World) (h : Blk w g 224 (mgA m v)) : Calls Tryz.prog 240 #[.pointer (some ⟨g, 0, none⟩)] w (GetP A m.se [] w) := by
 have hi : (Tryz.prog.info? 86).map (·.size) = some 4 := by kernel_rfl
 have kc := (mgC (h.ext ((Ext.refl w).alloc (.cells #[.int .i64 0, .int .u32 0, .slice none 0 0, .slice none 0 0] 86)))).k2
 clear h
 go_enter Tryz.func240, Tryz.ntmps240
 go_wp2_with (refine wpList_store_A rfl 86 _ _ rfl w.heap.size _ rfl rfl 86 _ (show Blk _ _ _ _ from Blk.at_ _ _ (by simp)) hi rfl (by simp [Value.oneCell']) ?_; intro w2 HB E2; have E2 := E2 w.heap.size w zX (Nat.le_refl _))
 refine bodyPost_ret_by (results_cell_row Tryz.results240 _ _ w.heap.size 86 _ _ _ rfl HB Tryz.underlying86 rfl hi) rfl ?_
 exact ⟨_, rfl, RdS.nil _ _ _, E2⟩
set_option maxHeartbeats 800000 in
theorem mgetWindow (g : Nat) (m : Mg) (v : Value) (A : Nat → Prop) (w : World) (h : Blk w g 224 (mgA m v)) : Calls Tryz.prog 242 #[.pointer (some ⟨g, 0, none⟩)] w (GetP A m.wi [] w) := by
 have hi : (Tryz.prog.info? 86).map (·.size) = some 4 := by kernel_rfl
 have kc := (mgC (h.ext ((Ext.refl w).alloc (.cells #[.int .i64 0, .int .u32 0, .slice none 0 0, .slice none 0 0] 86)))).k3
 clear h
 go_enter Tryz.func242, Tryz.ntmps242
 go_wp2_with (refine wpList_store_A rfl 86 _ _ rfl w.heap.size _ rfl rfl 86 _ (show Blk _ _ _ _ from Blk.at_ _ _ (by simp)) hi rfl (by simp [Value.oneCell']) ?_; intro w2 HB E2; have E2 := E2 w.heap.size w zX (Nat.le_refl _))
 refine bodyPost_ret_by (results_cell_row Tryz.results242 _ _ w.heap.size 86 _ _ _ rfl HB Tryz.underlying86 rfl hi) rfl ?_
 exact ⟨_, rfl, RdS.nil _ _ _, E2⟩
set_option maxHeartbeats 800000 in
theorem mgetPacket (g : Nat) (m : Mg) (v : Value) (A : Nat → Prop) (w : World) (h : Blk w g 224 (mgA m v)) : Calls Tryz.prog 244 #[.pointer (some ⟨g, 0, none⟩)] w (GetP A m.pk [] w) := by
 have hi : (Tryz.prog.info? 86).map (·.size) = some 4 := by kernel_rfl
 have kc := (mgC (h.ext ((Ext.refl w).alloc (.cells #[.int .i64 0, .int .u32 0, .slice none 0 0, .slice none 0 0] 86)))).k4
 clear h
 go_enter Tryz.func244, Tryz.ntmps244
 go_wp2_with (refine wpList_store_A rfl 86 _ _ rfl w.heap.size _ rfl rfl 86 _ (show Blk _ _ _ _ from Blk.at_ _ _ (by simp)) hi rfl (by simp [Value.oneCell']) ?_; intro w2 HB E2; have E2 := E2 w.heap.size w zX (Nat.le_refl _))
 refine bodyPost_ret_by (results_cell_row Tryz.results244 _ _ w.heap.size 86 _ _ _ rfl HB Tryz.underlying86 rfl hi) rfl ?_
 exact ⟨_, rfl, RdS.nil _ _ _, E2⟩
set_option maxHeartbeats 800000 in
theorem mgetChan (g : Nat) (m : Mg) (v : Value) (A : Nat → Prop) (w : World) (h : Blk w g 224 (mgA m v)) : Calls Tryz.prog 246 #[.pointer (some ⟨g, 0, none⟩)] w (GetP A m.ch [] w) := by
 have hi : (Tryz.prog.info? 86).map (·.size) = some 4 := by kernel_rfl
 have kc := (mgC (h.ext ((Ext.refl w).alloc (.cells #[.int .i64 0, .int .u32 0, .slice none 0 0, .slice none 0 0] 86)))).k1
 clear h
 go_enter Tryz.func246, Tryz.ntmps246
 go_wp2_with (refine wpList_store_A rfl 86 _ _ rfl w.heap.size _ rfl rfl 86 _ (show Blk _ _ _ _ from Blk.at_ _ _ (by simp)) hi rfl (by simp [Value.oneCell']) ?_; intro w2 HB E2; have E2 := E2 w.heap.size w zX (Nat.le_refl _))
 refine bodyPost_ret_by (results_cell_row Tryz.results246 _ _ w.heap.size 86 _ _ _ rfl HB Tryz.underlying86 rfl hi) rfl ?_
 exact ⟨_, rfl, RdS.nil _ _ _, E2⟩
set_option maxHeartbeats 800000 in
theorem mgetWant (g : Nat) (m : Mg) (v : Value) (A : Nat → Prop) (w : World) (h : Blk w g 224 (mgA m v)) : Calls Tryz.prog 238 #[.pointer (some ⟨g, 0, none⟩)] w (GetP A (if m.wa = true then 1 else 0) [] w) := by
 have hi : (Tryz.prog.info? 86).map (·.size) = some 4 := by kernel_rfl
 have kc := (mgC (h.ext ((Ext.refl w).alloc (.cells #[.int .i64 0, .int .u32 0, .slice none 0 0, .slice none 0 0] 86)))).k8
 obtain ⟨x, hx⟩ : ∃ x, m.wa = x := ⟨_, rfl⟩
 rw [hx] at kc ⊢
 clear h hx
 cases x with
 | true =>
   go_enter Tryz.func238, Tryz.ntmps238
   go_wp2_with (refine wpList_store_A rfl 86 _ _ rfl w.heap.size _ rfl rfl 86 _ (show Blk _ _ _ _ from Blk.at_ _ _ (by simp)) hi rfl (by simp [Value.oneCell']) ?_; intro w2 HB E2; have E2 := E2 w.heap.size w zX (Nat.le_refl _))
   refine bodyPost_ret_by (results_cell_row Tryz.results238 _ _ w.heap.size 86 _ _ _ rfl HB Tryz.underlying86 rfl hi) rfl ?_
   exact ⟨_, rfl, RdS.nil _ _ _, E2⟩
 | false =>
   go_enter Tryz.func238, Tryz.ntmps238
   go_wp2_with (refine wpList_store_A rfl 86 _ _ rfl w.heap.size _ rfl rfl 86 _ (show Blk _ _ _ _ from Blk.at_ _ _ (by simp)) hi rfl (by simp [Value.oneCell']) ?_; intro w2 HB E2; have E2 := E2 w.heap.size w zX (Nat.le_refl _))
   refine bodyPost_ret_by (results_cell_row Tryz.results238 _ _ w.heap.size 86 _ _ _ rfl HB Tryz.underlying86 rfl hi) rfl ?_
   exact ⟨_, rfl, RdS.nil _ _ _, E2⟩
set_option maxHeartbeats 800000 in
theorem mgetData (g : Nat) (m : Mg) (v : Value) (A : Nat → Prop) (w : World) (h : Blk w g 224 (mgA m v)) (hv : RdS Ub8 A w v m.da) : Calls Tryz.prog 232 #[.pointer (some ⟨g, 0, none⟩)] w (GetP A 0 m.da w) := by
 have hi : (Tryz.prog.info? 86).map (·.size) = some 4 := by kernel_rfl
 obtain ⟨Ad, c, rfl, -, -⟩ := hv.shape
 have HV := Lib.hid hv
 have kc := (mgC (h.ext ((Ext.refl w).alloc (.cells #[.int .i64 0, .int .u32 0, .slice none 0 0, .slice none 0 0] 86)))).k9
 clear h hv
 go_enter Tryz.func232, Tryz.ntmps232
 go_wp2_with (refine wpList_store_A rfl 86 _ _ rfl w.heap.size _ rfl rfl 86 _ (show Blk _ _ _ _ from Blk.at_ _ _ (by simp)) hi rfl (by simp [Value.oneCell']) ?_; intro w2 HB E2; have E2 := E2 w.heap.size w zX (Nat.le_refl _))
 refine bodyPost_ret_by (results_cell_row Tryz.results232 _ _ w.heap.size 86 _ _ _ rfl HB Tryz.underlying86 rfl hi) rfl ?_
 exact ⟨_, rfl, (HV.out.ext E2).mono (fun _ _ hk => .inl hk), E2⟩
end Go.Proofs.YtmmhcllibpmfnaaGreatDoor
namespace Go.Proofs.YtmmhcllibpmfnaaGreatDoor
open Go.RowKit Go.Kb
set_option maxRecDepth 100000
theorem bsL_len (s : ByteArray) : (bsL s).length = s.size := by simp [bsL]
theorem txt_ri {w : World} {n : Nat} (s : ByteArray) (cap : Nat) (e : TypeId) (fr : Nat × Nat) (hn : w.heap.size = n) (h1 : s.size ≤ cap) (h2 : cap ≤ maxLen) : RI .u8 (w.alloc (.cells (bytesRow s cap) e fr)) (.slice (some ⟨n, 0, none⟩) s.size cap) (bsL s) := by
 subst hn
 refine ⟨by simp, _, cap, by rw [bsL_len], by rw [bsL_len]; exact h1, h2, .inr ⟨_, _, rfl, fun j u hu => ?_⟩⟩
 have h : (w.alloc (.cells (bytesRow s cap) e fr)).cell? ⟨w.heap.size, 0 + j, none⟩ = (bytesRow s cap)[0 + j]? := cell_of_row _ _ _ _ e fr (heap_alloc_new w _)
 rw [h, Nat.zero_add]
 simp only [bsL, List.map_map, List.getElem?_map] at hu
 cases hj : s.data.toList[j]? with
 | none => rw [hj] at hu; cases hu
 | some b =>
   rw [hj] at hu
   rw [Array.getElem?_toList] at hj
   obtain ⟨hlt, hb⟩ := Array.getElem?_eq_some_iff.1 hj
   rw [bytesRow_at s cap j hlt, hb]
   simpa using hu
theorem txt_rds {w : World} {n : Nat} (s : ByteArray) (cap : Nat) (e : TypeId) (fr : Nat × Nat) (hn : w.heap.size = n) (h1 : s.size ≤ cap) (h2 : cap ≤ maxLen) : RdS Ub8 (fun k => k = n) (w.alloc (.cells (bytesRow s cap) e fr)) (.slice (some ⟨n, 0, none⟩) s.size cap) (bsL s) :=
 ⟨RI.y (txt_ri s cap e fr hn h1 h2), fun _ k hk => by simp only [Value.ownBlock, Option.some.injEq] at hk; exact hk.symm⟩
theorem mod_setRow {w : World} {g : Nat} (cs : Array Value) : Mod (fun k => k = g) w (w.setRow g cs) := by
 have h := below_setRow (Below.refl 0 w) (Nat.zero_le g) cs
 exact ⟨h.os, h.tape, h.output, h.size, fun k _ hn => setRow_other w g k cs hn⟩
set_option maxHeartbeats 800000 in
theorem mgetName (g : Nat) (m : Mg) (v : Value) (A : Nat → Prop) (w : World) (h : Blk w g 224 (mgA m v)) (hs : m.nm.size ≤ 1000000) : Calls Tryz.prog 236 #[.pointer (some ⟨g, 0, none⟩)] w (GetP A 0 (bsL m.nm) w) := by
 have hi : (Tryz.prog.info? 86).map (·.size) = some 4 := by kernel_rfl
 have HCV : ∀ (b : ByteArray) w', (convert 9 43 (.string b)).run Tryz.prog w' = _ := fun b w' => run_bytes_of_string w' 9 43 5 b Tryz.underlying9 Tryz.underlying43 Tryz.underlying5
 have kc := (mgC (h.ext ((Ext.refl w).alloc (.cells #[.int .i64 0, .int .u32 0, .slice none 0 0, .slice none 0 0] 86)))).k6
 obtain ⟨s, hs9⟩ : ∃ s, m.nm = s := ⟨_, rfl⟩
 rw [hs9] at kc hs ⊢
 have B0 := Lib.hid (Blk.new w 86 #[.int .i64 0, .int .u32 0, .slice none 0 0, .slice none 0 0])
 clear h hs9
 go_enter Tryz.func236, Tryz.ntmps236
 go_wp2_with (refine wpList_store_row rfl 86 _ _ rfl w.heap.size _ rfl rfl 86 _ (B0.out.ext zX) hi rfl (by simp [Value.oneCell']) ?_)
 refine bodyPost_ret_by (results_cell_row Tryz.results236 _ _ w.heap.size 86 _ _ _ rfl (Blk.setRow (B0.out.ext zX) _) Tryz.underlying86 rfl hi) rfl ?_
 refine ⟨_, rfl, RdS.mono (RdS.mod (RdS.ext (txt_rds s _ _ _ (n := w.heap.size + 1) (by simp) (grownCap_ge _ _ _ _) (grownCap_le_maxLen _ _ _ _ (by simp [maxLen]; omega))) (Ext.drew (Ext.refl _))) (mod_setRow _) (fun k _ hk => by omega)) (fun k _ hk => .inr (by omega)), below_setRow (show Below w.heap.size w _ from zX) (Nat.le_refl _) _⟩
set_option maxHeartbeats 800000 in
theorem mgetLang (g : Nat) (m : Mg) (v : Value) (A : Nat → Prop) (w : World) (h : Blk w g 224 (mgA m v)) (hs : m.la.size ≤ 1000000) : Calls Tryz.prog 234 #[.pointer (some ⟨g, 0, none⟩)] w (GetP A 0 (bsL m.la) w) := by
 have hi : (Tryz.prog.info? 86).map (·.size) = some 4 := by kernel_rfl
 have HCV : ∀ (b : ByteArray) w', (convert 9 43 (.string b)).run Tryz.prog w' = _ := fun b w' => run_bytes_of_string w' 9 43 5 b Tryz.underlying9 Tryz.underlying43 Tryz.underlying5
 have kc := (mgC (h.ext ((Ext.refl w).alloc (.cells #[.int .i64 0, .int .u32 0, .slice none 0 0, .slice none 0 0] 86)))).k7
 obtain ⟨s, hs9⟩ : ∃ s, m.la = s := ⟨_, rfl⟩
 rw [hs9] at kc hs ⊢
 have B0 := Lib.hid (Blk.new w 86 #[.int .i64 0, .int .u32 0, .slice none 0 0, .slice none 0 0])
 clear h hs9
 go_enter Tryz.func234, Tryz.ntmps234
 go_wp2_with (refine wpList_store_row rfl 86 _ _ rfl w.heap.size _ rfl rfl 86 _ (B0.out.ext zX) hi rfl (by simp [Value.oneCell']) ?_)
 refine bodyPost_ret_by (results_cell_row Tryz.results234 _ _ w.heap.size 86 _ _ _ rfl (Blk.setRow (B0.out.ext zX) _) Tryz.underlying86 rfl hi) rfl ?_
 refine ⟨_, rfl, RdS.mono (RdS.mod (RdS.ext (txt_rds s _ _ _ (n := w.heap.size + 1) (by simp) (grownCap_ge _ _ _ _) (grownCap_le_maxLen _ _ _ _ (by simp [maxLen]; omega))) (Ext.drew (Ext.refl _))) (mod_setRow _) (fun k _ hk => by omega)) (fun k _ hk => .inr (by omega)), below_setRow (show Below w.heap.size w _ from zX) (Nat.le_refl _) _⟩
end Go.Proofs.YtmmhcllibpmfnaaGreatDoor
namespace Go.Proofs.YtmmhcllibpmfnaaGreatDoor
open Go.RowKit Go.Kb
set_option maxRecDepth 100000
theorem str_ix (s : ByteArray) (j : Nat) (h : j < s.size) : ∃ c : Int, Hid ((bsL s)[j]? = some c) ∧ ∀ w, (Instr.index 9 (.string s) (.int .i64 j)).run Tryz.prog w = .ok (.int .u8 c) w := by
 refine ⟨((s[j]).toNat : Int), Lib.hid ?_, fun w => ?_⟩
 · have h1 : s.data.toList[j]? = some s[j] := by
     rw [Array.getElem?_toList]
     exact Array.getElem?_eq_getElem h
   simp [bsL, h1]
 · rw [run_index_string w _ s .i64 j Tryz.underlying9, dif_pos ⟨by omega, by omega⟩]
   simp
/-- a word of so many signs at least -/
def WordP (s : ByteArray) (least : Int) : Prop := least ≤ s.size ∧ s.size ≤ 64 ∧ ∀ c ∈ bsL s, 33 ≤ c ∧ c ≤ 126
def PrP (s : ByteArray) (least : Int) (w : World) (e : Ending) (w' : World) : Prop := ∃ q : Bool, e = .returned (.bool q) ∧ (q = true ↔ WordP s least) ∧ Ext w w'
set_option maxHeartbeats 800000 in
theorem printable_any (s : ByteArray) (least : Int) (w : World) (hs : s.size ≤ 1000000) : Calls Tryz.prog 171 #[.string s, .int .i64 least] w (PrP s least w) := by
 have HL := Lib.hid (bsL_len s)
 have HIX := Lib.hid (str_ix s)
 obtain ⟨N, hN⟩ : ∃ N, s.size = N := ⟨_, rfl⟩
 have HN := Lib.hid hN
 have hg : goInt (s.size : Int) = .int .i64 (N : Int) := by rw [hN]; rfl
 by_cases h1 : (N : Int) < least
 · go_enter Tryz.func171, Tryz.ntmps171
   go_wp2
   go_ret
   exact ⟨false, rfl, by simp [WordP, hN]; omega, zX⟩
 · by_cases h2 : 64 < N
   · have h3 : (64 : Int) < N := by omega
     go_enter Tryz.func171, Tryz.ntmps171
     go_wp2
     go_ret
     exact ⟨false, rfl, by simp [WordP, hN]; omega, zX⟩
   · have h3 : ¬ (64 : Int) < N := by omega
     go_enter Tryz.func171, Tryz.ntmps171
     go_wp2
     go_loopw [17] (fun i wr => ∃ m : Nat, m ≤ N ∧ i = .int .i64 m ∧ Hid (∀ c ∈ (bsL s).take m, 33 ≤ c ∧ c ≤ 126) ∧ Hid (Ext w wr)) (fun i _ => N - (intOf i).toNat)
     case atStart => exact ⟨0, Nat.zero_le _, rfl, Lib.hid (by simp), Lib.hid (Ext.refl _)⟩
     case round =>
       obtain ⟨m, hm, rfl, HC, hE⟩ := hrel
       by_cases hmn : m < N
       · obtain ⟨c, hc, hix⟩ := HIX.out m (by rw [hN]; exact hmn)
         by_cases c1 : c < 33
         · go_wp2
           go_ret
           refine ⟨false, rfl, ?_, hE.out⟩
           simp only [Bool.false_eq_true, false_iff]
           intro hh
           have := (hh.2.2 c (List.mem_of_getElem? hc.out)).1
           omega
         · by_cases c2 : 126 < c
           · go_wp2
             go_ret
             refine ⟨false, rfl, ?_, hE.out⟩
             simp only [Bool.false_eq_true, false_iff]
             intro hh
             have := (hh.2.2 c (List.mem_of_getElem? hc.out)).2
             omega
           · go_wp2
             go_roundw
             case rel => exact ⟨m + 1, by omega, by go_num, Lib.hid (by
               rw [List.take_add_one, hc.out]
               intro x hx
               rcases List.mem_append.1 hx with h | h
               · exact HC.out x h
               · simp at h; rw [h]; omega), hE⟩
             case measure => simp [intOf]; omega
       · obtain rfl : m = N := by omega
         go_wp2
         go_ret
         refine ⟨true, rfl, ?_, hE.out⟩
         simp only [true_iff]
         refine ⟨by rw [hN]; omega, by rw [hN]; omega, ?_⟩
         have h9 := HC.out
         rw [← HN.out, ← HL.out, List.take_length] at h9
         exact h9
end Go.Proofs.YtmmhcllibpmfnaaGreatDoor
namespace Go.Proofs.YtmmhcllibpmfnaaGreatDoor
open Go.RowKit Go.Kb
set_option maxRecDepth 100000
/-- the name and the language that a kind has may be -/
def FitP (m : Mg) : Prop := if m.k = 80 ∨ m.k = 90 ∨ m.k = 98 then WordP m.nm 1 else if m.k = 1 ∨ m.k = 92 then WordP m.la 0 else True
def FitPost (m : Mg) (w : World) (e : Ending) (w' : World) : Prop := ∃ q : Bool, e = .returned (.bool q) ∧ (q = true ↔ FitP m) ∧ Ext w w'
set_option maxHeartbeats 800000 in
theorem fitsm_any (m : Mg) (v : Value) (w : World) (h1 : m.nm.size ≤ 1000000) (h2 : m.la.size ≤ 1000000) : Calls Tryz.prog 82 #[.agg (mgA m v)] w (FitPost m w) := by
 have HN := Lib.hid (fun w' => printable_any m.nm 1 w' h1)
 have HL := Lib.hid (fun w' => printable_any m.la 0 w' h2)
 obtain ⟨k, ch, se, wi, pk, co, nm, la, wa, da⟩ := m
 dsimp only at HN HL h1 h2
 by_cases hk : k = 80 ∨ k = 90 ∨ k = 98 ∨ k = 1 ∨ k = 92
 · rcases hk with rfl | rfl | rfl | rfl | rfl
   · go_enter Tryz.func82, Tryz.ntmps82
     go_wp2_with fail
     refine (HN.out _).mono ?_
     rintro e w1 ⟨q, rfl, hq, E1⟩
     have HQ := Lib.hid hq
     have E01 : Ext w w1 := zX
     clear hq
     go_wp2
     go_ret
     exact ⟨q, rfl, by rw [HQ.out]; simp [FitP], E01⟩
   · go_enter Tryz.func82, Tryz.ntmps82
     go_wp2_with fail
     refine (HN.out _).mono ?_
     rintro e w1 ⟨q, rfl, hq, E1⟩
     have HQ := Lib.hid hq
     have E01 : Ext w w1 := zX
     clear hq
     go_wp2
     go_ret
     exact ⟨q, rfl, by rw [HQ.out]; simp [FitP], E01⟩
   · go_enter Tryz.func82, Tryz.ntmps82
     go_wp2_with fail
     refine (HN.out _).mono ?_
     rintro e w1 ⟨q, rfl, hq, E1⟩
     have HQ := Lib.hid hq
     have E01 : Ext w w1 := zX
     clear hq
     go_wp2
     go_ret
     exact ⟨q, rfl, by rw [HQ.out]; simp [FitP], E01⟩
   · go_enter Tryz.func82, Tryz.ntmps82
     go_wp2_with fail
     refine (HL.out _).mono ?_
     rintro e w1 ⟨q, rfl, hq, E1⟩
     have HQ := Lib.hid hq
     have E01 : Ext w w1 := zX
     clear hq
     go_wp2
     go_ret
     exact ⟨q, rfl, by rw [HQ.out]; simp [FitP], E01⟩
   · go_enter Tryz.func82, Tryz.ntmps82
     go_wp2_with fail
     refine (HL.out _).mono ?_
     rintro e w1 ⟨q, rfl, hq, E1⟩
     have HQ := Lib.hid hq
     have E01 : Ext w w1 := zX
     clear hq
     go_wp2
     go_ret
     exact ⟨q, rfl, by rw [HQ.out]; simp [FitP], E01⟩
 · simp only [not_or] at hk
   obtain ⟨h80, h90, h98, h01, h92⟩ := hk
   have i80 : (k == 80) = false := by simpa using h80
   have i90 : (k == 90) = false := by simpa using h90
   have i98 : (k == 98) = false := by simpa using h98
   have i1 : (k == 1) = false := by simpa using h01
   have i92 : (k == 92) = false := by simpa using h92
   go_enter Tryz.func82, Tryz.ntmps82
   go_wp2
   go_ret
   exact ⟨true, rfl, by simp [FitP, h80, h90, h98, h01, h92], zX⟩
end Go.Proofs.YtmmhcllibpmfnaaGreatDoor
namespace Go.Proofs.YtmmhcllibpmfnaaGreatDoor
open Go.RowKit Go.Kb
set_option maxRecDepth 100000
theorem Mod.setRow {S : Nat → Prop} {a w : World} (h : Mod S a w) {g : Nat} (hg : a.heap.size ≤ g ∨ S g) (cs : Array Value) : Mod S a (w.setRow g cs) := by
 have h9 := mod_setRow (w := w) (g := g) cs
 refine ⟨h9.os.trans h.os, h9.tape.trans h.tape, h9.output.trans h.output, Nat.le_trans h.size h9.size, fun k hk hn => (h9.block k (Nat.lt_of_lt_of_le hk h.size) ?_).trans (h.block k hk hn)⟩
 rintro rfl
 rcases hg with h1 | h1
 · omega
 · exact hn h1
theorem Mod.transN {S T : Nat → Prop} {a b c : World} (h : Mod S a b) (k : Mod T b c) (hT : ∀ i, i < a.heap.size → T i → S i) : Mod S a c :=
 ⟨k.os.trans h.os, k.tape.trans h.tape, k.output.trans h.output, Nat.le_trans h.size k.size, fun i hi hn => (k.block i (Nat.lt_of_lt_of_le hi h.size) (fun ht => hn (hT i hi ht))).trans (h.block i hi hn)⟩
/-- a whole store; what it leaves of all else -/
theorem wpList_store_M {P : Program} {ops : Array Oper} {rest : List Oper} {o : Oper} {a : Act} {w : World} {Q : Exit → Act → World → Prop} (hgd : o.guard = none) (ty : TypeId) (x y : Operand) (ho : o.op = .store ty x y)
   (g : Nat) (cells : Array Value) (hx : a.eval x = .pointer (some ⟨g, 0, none⟩)) (hy : a.eval y = .agg cells)
   (t : TypeId) (old : Array Value) (hg : Blk w g t old) (hi : (P.info? ty).map (·.size) = some cells.size)
   (hold : old.size = cells.size) (h1 : cells.all (·.oneCell') = true)
   (h : ∀ w', Blk w' g t cells → Mod (fun k => k = g) w w' → wpList P ops Q rest (a.put o.dst undef) w') : wpList P ops Q (o :: rest) a w :=
 wpList_store_row hgd ty x y ho g cells hx hy t old hg hi hold h1 (h _ (Blk.setRow hg _) (Mod.setRow (S := fun k => k = g) (Mod.refl _ _) (.inr rfl) _))
theorem wp_store_M {P : Program} {o : Oper} {a : Act} {w : World} {K : Act → World → Prop} {Q : Exit → Act → World → Prop} (ty : TypeId) (x y : Operand) (ho : o.op = .store ty x y)
   (g : Nat) (cells : Array Value) (hx : a.eval x = .pointer (some ⟨g, 0, none⟩)) (hy : a.eval y = .agg cells)
   (t : TypeId) (old : Array Value) (hg : Blk w g t old) (hi : (P.info? ty).map (·.size) = some cells.size)
   (hold : old.size = cells.size) (h1 : cells.all (·.oneCell') = true)
   (h : ∀ w', Blk w' g t cells → Mod (fun k => k = g) w w' → K (a.put o.dst undef) w') : o.wp P a w K Q :=
 wp_store_row ty x y ho g cells hx hy t old hg hi hold h1 (h _ (Blk.setRow hg _) (Mod.setRow (S := fun k => k = g) (Mod.refl _ _) (.inr rfl) _))
/-- a reader in block g; what is left of its bytes, which lie in blocks of A -/
structure Re (g : Nat) (A : Nat → Prop) (w : World) (v : Value) (l : List Int) : Prop where
 blk : Blk w g 290 #[v, .int .i64 0]
 rd : RdS Ub8 A w v l
theorem Re.ext {g : Nat} {A : Nat → Prop} {w w' : World} {v : Value} {l : List Int} (h : Re g A w v l) (E : Ext w w') : Re g A w' v l := ⟨h.blk.ext E, h.rd.ext E⟩
theorem Re.mod {S : Nat → Prop} {g : Nat} {A : Nat → Prop} {w w' : World} {v : Value} {l : List Int} (h : Re g A w v l) (M : Mod S w w') (h1 : ¬ S g) (h2 : ∀ k, k < w.heap.size → A k → ¬ S k) : Re g A w' v l := ⟨h.blk.mod M h1, h.rd.mod M h2⟩
theorem rds_from {A : Nat → Prop} {w : World} {Ad : Option Addr} {n c k : Nat} {l : List Int} (h : RdS Ub8 A w (.slice Ad n c) l) (hk : k ≤ n) : RdS Ub8 A w (.slice (if c = k then Ad else Ad.map (fun x => x.add k)) (n - k) (c - k)) (l.drop k) := by
 have h2 := RdS.from_ h hk
 have e : k * Ub8.size = k := by show k * 1 = k; omega
 rw [e] at h2
 exact h2
theorem rds_none {D : Type} {e : Rep D} {A B : Nat → Prop} {w w' : World} {v : Value} (h : RdS e A w v []) : RdS e B w' v [] := by
 obtain ⟨⟨us, ⟨hl, Ad, c, hv, h1, h2, h3⟩, he⟩, ho⟩ := h
 have hu : us = [] := List.eq_nil_of_length_eq_zero (by simpa using hl)
 subst hu
 refine ⟨⟨[], ⟨by simp, Ad, c, hv, h1, h2, ?_⟩, RdE.nil _ _ _⟩, fun hn => absurd hn (by simp)⟩
 rcases h3 with h3 | ⟨b, off, hA, -⟩
 · exact .inl h3
 · exact .inr ⟨b, off, hA, fun j u hu => by simp at hu⟩
/-- a field read: the fields but the kind -/
def RdP (g : Nat) (A : Nat → Prop) (n : Int) (t r : List Int) (w : World) (e : Ending) (w' : World) : Prop :=
 ∃ vt v2, e = .returned (.agg #[.int .i64 0, .int .u32 n, vt, .slice none 0 0]) ∧ RdS Ub8 (fun k => w.heap.size ≤ k) w' vt t ∧ Re g A w' v2 r ∧ Mod (fun k => k = g) w w'
def TkP (g : Nat) (A : Nat → Prop) (t r : List Int) (w : World) (e : Ending) (w' : World) : Prop := ∃ v1 v2, e = .returned v1 ∧ RdS Ub8 A w' v1 t ∧ Re g A w' v2 r ∧ Mod (fun k => k = g) w w'
set_option maxHeartbeats 800000 in
theorem take_any (g : Nat) (A : Nat → Prop) (v : Value) (l : List Int) (n : Nat) (w : World) (h : Re g A w v l) (hA : ∀ k, A k → k ≠ g ∧ k < w.heap.size) (hn : n ≤ l.length) :
   Calls Tryz.prog 173 #[.pointer (some ⟨g, 0, none⟩), .int .i64 n] w (TkP g A (l.take n) (l.drop n) w) := by
 obtain ⟨Ad, c, rfl, hc1, hc2⟩ := h.rd.shape
 obtain ⟨k0, k1, f0, f1⟩ := h.blk.two
 have H1 := Lib.hid (RdS.to_ h.rd hn)
 have H2 := Lib.hid (rds_from h.rd hn)
 have HB := Lib.hid h.blk
 obtain ⟨N, hN⟩ : ∃ N, l.length = N := ⟨_, rfl⟩
 rw [hN] at hn hc1 k0 H2 HB
 obtain ⟨A5, hA5⟩ : ∃ A5, (if c = n then Ad else Ad.map (fun x => x.add n)) = A5 := ⟨_, rfl⟩
 rw [hA5] at H2
 have i1 : (0 : Int) ≤ (n : Int) := by omega
 have i2 : (n : Int) ≤ (N : Int) := by omega
 have i3 : (N : Int) ≤ (c : Int) := by omega
 have i4 : (n : Int) ≤ (c : Int) := by omega
 have i5 : ¬ ((N : Int) < (n : Int)) := by omega
 clear h hN
 go_enter Tryz.func173, Tryz.ntmps173
 go_wp2
 go_ret
 have M : Mod (fun k => k = g) w (w.setCell ⟨g, 0, none⟩ (.slice A5 (N - n) (c - n))) := (Mod.refl _ _).set1 _
 exact ⟨_, _, rfl, H1.out.mod M (fun k _ ha he => (hA k ha).1 he), ⟨by simpa using HB.out.set_ 0 (.slice A5 (N - n) (c - n)), H2.out.mod M (fun k _ ha he => (hA k ha).1 he)⟩, M⟩
set_option maxHeartbeats 800000 in
theorem roct_any (g : Nat) (A : Nat → Prop) (v : Value) (x : Int) (r : List Int) (w : World) (h : Re g A w v (x :: r)) (hA : ∀ k, A k → k ≠ g ∧ k < w.heap.size) (hx : 0 ≤ x ∧ x ≤ 255) :
   Calls Tryz.prog 87 #[.pointer (some ⟨g, 0, none⟩)] w (RdP g A x [] r w) := by
 have hi : (Tryz.prog.info? 86).map (·.size) = some 4 := by kernel_rfl
 have hgn : ¬ w.heap.size = g := by have := h.blk.lt; omega
 have hwr : IntKind.u32.wrap x = x := by unfold IntKind.wrap; simp [IntKind.bits, IntKind.signed]; omega
 have HT := Lib.hid (fun w' (h' : Re g A w' v (x :: r)) => (fun (h2 : w.heap.size ≤ w'.heap.size) => take_any g A v (x :: r) 1 w' h' (fun k hk => ⟨(hA k hk).1, Nat.lt_of_lt_of_le (hA k hk).2 h2⟩) (by simp)))
 have H := Lib.hid h
 have B0 := Lib.hid (Blk.new w 86 #[.int .i64 0, .int .u32 0, .slice none 0 0, .slice none 0 0])
 have E0 : Ext w (w.alloc (.cells #[.int .i64 0, .int .u32 0, .slice none 0 0, .slice none 0 0] 86)) := (Ext.refl w).alloc _
 clear h
 go_enter Tryz.func87, Tryz.ntmps87
 go_wp2_with fail
 refine (HT.out _ (H.out.ext E0) E0.size).mono ?_
 rintro e w1 ⟨v1, v2, rfl, R1, R2, M1⟩
 have R3 := RdS.ri R1
 obtain ⟨A1, c1, rfl, hc1, hc2⟩ := RdN.shape R3
 obtain ⟨b, off, y, rfl, ky, hd⟩ := RdN.icell R3 (j := 0) (by simp)
 have hy : x = y := by simpa using hd.out
 subst hy
 have B1 := Lib.hid (B0.out.mod M1 hgn)
 have R2 := Lib.hid R2
 have M1 := Lib.hid ((Mod.of_ext E0).trans M1)
 clear R1 R3 hd
 simp only [List.take_succ_cons, List.take_zero, List.length_singleton, Nat.add_zero] at ky hc1 ⊢
 have hnil : (binOp .eql 43 (.slice (some ⟨b, off, none⟩) 1 c1) (.slice none 0 0)).run Tryz.prog w1 = _ := Go.Lib.run_eql_slice_nil w1 43 5 (some ⟨b, off, none⟩) 1 c1 0 0 Tryz.underlying43
 go_wp2_with (refine wpList_store_M rfl 86 _ _ rfl w.heap.size _ rfl rfl 86 _ B1.out hi rfl (by simp [Value.oneCell']) ?_; intro w2 HB M2)
 skip
 refine bodyPost_ret_by (results_cell_row Tryz.results87 _ _ w.heap.size 86 _ _ _ rfl HB Tryz.underlying86 rfl hi) rfl ?_
 exact ⟨_, v2, rfl, RdS.nil _ _ _, R2.out.mod M2 (fun he => hgn he.symm) (fun k hk ha he => by have := (hA k ha).2; omega), Mod.transN M1.out M2 (fun i hi he => by omega)⟩
set_option maxHeartbeats 800000 in
theorem rflag_any (g : Nat) (A : Nat → Prop) (v : Value) (x : Int) (r : List Int) (w : World) (h : Re g A w v (x :: r)) (hA : ∀ k, A k → k ≠ g ∧ k < w.heap.size) (hx : 0 ≤ x ∧ x ≤ 1) :
   Calls Tryz.prog 89 #[.pointer (some ⟨g, 0, none⟩)] w (RdP g A x [] r w) := by
 have hi : (Tryz.prog.info? 86).map (·.size) = some 4 := by kernel_rfl
 have hgn : ¬ w.heap.size = g := by have := h.blk.lt; omega
 have HT := Lib.hid (fun w' (h' : Re g A w' v (x :: r)) (h2 : w.heap.size ≤ w'.heap.size) => roct_any g A v x r w' h' (fun k hk => ⟨(hA k hk).1, Nat.lt_of_lt_of_le (hA k hk).2 h2⟩) ⟨hx.1, by omega⟩)
 have H := Lib.hid h
 have B0 := Lib.hid (Blk.new w 86 #[.int .i64 0, .int .u32 0, .slice none 0 0, .slice none 0 0])
 have E0 : Ext w (w.alloc (.cells #[.int .i64 0, .int .u32 0, .slice none 0 0, .slice none 0 0] 86)) := (Ext.refl w).alloc _
 have hmin : (if x ≤ 1 then x else 1) = x := if_pos hx.2
 clear h
 go_enter Tryz.func89, Tryz.ntmps89
 go_wp2_with fail
 refine (HT.out _ (H.out.ext E0) E0.size).mono ?_
 rintro e w1 ⟨v1, v2, rfl, R1, R2, M1⟩
 obtain ⟨A1, c1, rfl, -, -⟩ := R1.shape
 have B1 := Lib.hid (B0.out.mod M1 hgn)
 have R2 := Lib.hid R2
 have R1 := Lib.hid R1
 have M1 := Lib.hid ((Mod.of_ext E0).trans M1)
 go_upto_region 2 with fail
 obtain ⟨W5, hW5⟩ : ∃ W5, W5 = w1.alloc (.cells #[.int .i64 0, .int .u32 x, .slice A1 0 c1, .slice none 0 0] 86) := ⟨_, rfl⟩
 have E5 : Ext w1 W5 := by rw [hW5]; exact (Ext.refl _).alloc _
 have P5 : Blk W5 w1.heap.size 86 #[.int .i64 0, .int .u32 x, .slice A1 0 c1, .slice none 0 0] := by rw [hW5]; exact Blk.new w1 _ _
 rw [← hW5]
 clear hW5
 obtain ⟨n5, hn5⟩ : ∃ n5, w1.heap.size = n5 := ⟨_, rfl⟩
 have hs5 := E5.size
 have hs1 := M1.out.size
 have hbl := B1.out.lt
 have hgl := R2.out.blk.lt
 rw [hn5] at P5 hs5 hs1 hbl hgl ⊢
 have kp := P5.cell 1
 have fp := P5.frozen 1
 have P6 := Lib.hid (show Blk (W5.setCell ⟨n5, 1, none⟩ (.int .u32 x)) n5 86 #[.int .i64 0, .int .u32 x, .slice A1 0 c1, .slice none 0 0] by simpa using P5.set_ 1 (.int .u32 x))
 have B6 := Lib.hid ((B1.out.ext E5).far (p := ⟨n5, 1, none⟩) (by show w.heap.size ≠ n5; omega) (.int .u32 x))
 have MX : Mod (fun k => k = n5) w1 (W5.setCell ⟨n5, 1, none⟩ (.int .u32 x)) := (Mod.of_ext E5).set1 _
 have M6 := Lib.hid (Mod.transN M1.out MX (fun k hk he => by omega))
 have R6 := Lib.hid (R2.out.mod MX (by omega) (fun k hk ha he => by have := (hA k ha).2; omega))
 have T6 := Lib.hid (R1.out.ext (Ext.refl _))
 clear E5 P5 B1 M1 R2 MX
 go_wp2_with (first | (refine wpList_load_row rfl 86 _ rfl _ rfl 86 _ _ _ P6.out Tryz.underlying86 rfl hi ?_) | (refine wpList_store_M rfl 86 _ _ rfl w.heap.size _ rfl rfl 86 _ B6.out hi rfl (by simp [Value.oneCell']) ?_; intro w2 HB M2))
 refine bodyPost_ret_by (results_cell_row Tryz.results89 _ _ w.heap.size 86 _ _ _ rfl HB Tryz.underlying86 rfl hi) rfl ?_
 exact ⟨_, v2, rfl, rds_none T6.out, R6.out.mod M2 (by omega) (fun k hk ha he => by have := (hA k ha).2; omega), Mod.transN M6.out M2 (fun k hk he => by omega)⟩
theorem u32_or_nat (a b : Nat) (ha : a < 4294967296) (hb : b < 4294967296) : bits .or .u32 (a : Int) (b : Int) = ((a ||| b : Nat) : Int) := by
 have hx : a ||| b < 2 ^ 32 := Nat.or_lt_two_pow (by omega) (by omega)
 have e1 : (BitVec.ofInt 32 (a : Int)).toNat = a := by rw [BitVec.ofInt_natCast, BitVec.toNat_ofNat]; exact Nat.mod_eq_of_lt (by omega)
 have e2 : (BitVec.ofInt 32 (b : Int)).toNat = b := by rw [BitVec.ofInt_natCast, BitVec.toNat_ofNat]; exact Nat.mod_eq_of_lt (by omega)
 show IntKind.u32.wrap ((BitVec.ofInt 32 (a : Int) ||| BitVec.ofInt 32 (b : Int)).toNat : Int) = _
 rw [BitVec.toNat_or, e1, e2]
 unfold IntKind.wrap
 simp [IntKind.bits, IntKind.signed]
 omega
theorem u32_join (x y : Int) (i : Nat) (hx0 : 0 ≤ x) (hx1 : x < 4294967296) (hy0 : 0 ≤ y) (hy1 : y < 4294967296) (hx : x.toNat % 2 ^ i = 0) (hy : y.toNat < 2 ^ i) : bits .or .u32 x y = x + y := by
 obtain ⟨a, rfl⟩ := Int.eq_ofNat_of_zero_le hx0
 obtain ⟨b, rfl⟩ := Int.eq_ofNat_of_zero_le hy0
 rw [u32_or_nat a b (by omega) (by omega), nat_join i a b (by simpa using hx) (by simpa using hy)]
 simp
theorem u32_four (a b c d : Int) (ba : 0 ≤ a ∧ a ≤ 255) (bb : 0 ≤ b ∧ b ≤ 255) (bc : 0 ≤ c ∧ c ≤ 255) (bd : 0 ≤ d ∧ d ≤ 255) :
   bits .or .u32 (bits .or .u32 (bits .or .u32 (a * 16777216) (b * 65536)) (c * 256)) d = a * 16777216 + b * 65536 + c * 256 + d := by
 rw [u32_join (a * 16777216) (b * 65536) 24 (by omega) (by omega) (by omega) (by omega) (by omega) (by omega)]
 rw [u32_join _ (c * 256) 16 (by omega) (by omega) (by omega) (by omega) (by omega) (by omega)]
 rw [u32_join _ d 8 (by omega) (by omega) (by omega) (by omega) (by omega) (by omega)]
set_option maxHeartbeats 800000 in
theorem rnum_any (g : Nat) (A : Nat → Prop) (v : Value) (n : Int) (r : List Int) (w : World) (h : Re g A w v (Fr.four n ++ r)) (hA : ∀ k, A k → k ≠ g ∧ k < w.heap.size) (hn : 0 ≤ n ∧ n ≤ 4294967295) :
   Calls Tryz.prog 92 #[.pointer (some ⟨g, 0, none⟩)] w (RdP g A n [] r w) := by
 have hi : (Tryz.prog.info? 86).map (·.size) = some 4 := by kernel_rfl
 have hgn : ¬ w.heap.size = g := by have := h.blk.lt; omega
 obtain ⟨a, b, c, d, hf, ha, hb, hc, hd, hsum⟩ : ∃ a b c d : Int, Fr.four n = [a, b, c, d] ∧ (0 ≤ a ∧ a ≤ 255) ∧ (0 ≤ b ∧ b ≤ 255) ∧ (0 ≤ c ∧ c ≤ 255) ∧ (0 ≤ d ∧ d ≤ 255) ∧ a * 16777216 + b * 65536 + c * 256 + d = n :=
   ⟨n / 16777216, n / 65536 % 256, n / 256 % 256, n % 256, rfl, by omega, by omega, by omega, by omega, by omega⟩
 rw [hf] at h
 have HS := Lib.hid (show bits .or .u32 (bits .or .u32 (bits .or .u32 (a * 16777216) (b * 65536)) (c * 256)) d = n by rw [u32_four a b c d ha hb hc hd]; exact hsum)
 have hw : ∀ x : Int, 0 ≤ x → x ≤ 4294967295 → IntKind.u32.wrap x = x := fun x h1 h2 => by unfold IntKind.wrap; simp [IntKind.bits, IntKind.signed]; omega
 have w1 := hw a (by omega) (by omega)
 have w2 := hw b (by omega) (by omega)
 have w3 := hw c (by omega) (by omega)
 have w4 := hw d (by omega) (by omega)
 have s1 := hw (a * 16777216) (by omega) (by omega)
 have s2 := hw (b * 65536) (by omega) (by omega)
 have s3 := hw (c * 256) (by omega) (by omega)
 have HT := Lib.hid (fun w' (h' : Re g A w' v ([a, b, c, d] ++ r)) (h2 : w.heap.size ≤ w'.heap.size) => take_any g A v ([a, b, c, d] ++ r) 4 w' h' (fun k hk => ⟨(hA k hk).1, Nat.lt_of_lt_of_le (hA k hk).2 h2⟩) (by simp))
 have H := Lib.hid h
 have B0 := Lib.hid (Blk.new w 86 #[.int .i64 0, .int .u32 0, .slice none 0 0, .slice none 0 0])
 have E0 : Ext w (w.alloc (.cells #[.int .i64 0, .int .u32 0, .slice none 0 0, .slice none 0 0] 86)) := (Ext.refl w).alloc _
 clear h hf hw ha hb hc hd hsum
 go_enter Tryz.func92, Tryz.ntmps92
 go_wp2_with fail
 refine (HT.out _ (H.out.ext E0) E0.size).mono ?_
 rintro e w5 ⟨v1, v2, rfl, R1, R2, M1⟩
 have R3 := RdS.ri R1
 have R1b := Lib.hid R1.2
 have hl4 : List.take 4 ([a, b, c, d] ++ r) = [a, b, c, d] := by simp
 rw [hl4] at R3
 obtain ⟨bb, off, n4, c1, rfl, h4, hm4, k0, k1, k2, k3⟩ := Fr.four_cells (r := []) R3
 unfold maxLen at hm4
 have B1 := Lib.hid (B0.out.mod M1 hgn)
 have R2 := Lib.hid (show Re g A w5 v2 r from R2)
 have M1 := Lib.hid ((Mod.of_ext E0).trans M1)
 clear R1 R3
 have hbA : bb < w.heap.size := (hA bb (R1b.out (by rw [hl4]; simp) bb rfl)).2
 have h0 : (0 : Int) < (n4 : Int) := by omega
 have j0 : 0 < n4 := by omega
 have j1 : 1 < n4 := by omega
 have j2 : 2 < n4 := by omega
 have j3 : 3 < n4 := by omega
 have h1 : (1 : Int) < (n4 : Int) := by omega
 have h2 : (2 : Int) < (n4 : Int) := by omega
 have h3 : (3 : Int) < (n4 : Int) := by omega
 have hb5 : bb < w5.heap.size := by have := M1.out.size; omega
 have hbn : ¬ bb = w.heap.size := by omega
 have hnil : (binOp .eql 43 (.slice (some ⟨bb, off, none⟩) n4 c1) (.slice none 0 0)).run Tryz.prog w5 = _ := Go.Lib.run_eql_slice_nil w5 43 5 (some ⟨bb, off, none⟩) n4 c1 0 0 Tryz.underlying43
 go_wp2
 refine wp_region_held_drew (S := fun w' => Mod (fun k => k = w.heap.size) w5 w') (by kernel_rfl) (Mod.of_ext (Ext.drew (Ext.refl _))) (fun hHeld => ?_)
 (refine zR 0 rfl ?_; (try simp only [zP]))
 (refine zR 1 rfl ?_; (try simp only [zP]))
 (refine zT 2 (v := ?_) rfl (Or.inl ⟨by rfl, ?_⟩) ?_; rotate_left; (focus (intro w' hSw; have kc := (hSw.cell bb off hb5 hbn).trans k0; go_simp; try with_reducible rfl)); (try simp only [zP]))
 (refine zR 3 rfl ?_; (try simp only [zP]))
 (refine zR 4 rfl ?_; (try simp only [zP]))
 (refine zR 5 rfl ?_; (try simp only [zP]))
 (refine zR 6 rfl ?_; (try simp only [zP]))
 (refine zT 7 (v := ?_) rfl (Or.inl ⟨by rfl, ?_⟩) ?_; rotate_left; (focus (intro w' hSw; have kc := (hSw.cell bb (off + 1) hb5 hbn).trans k1; go_simp; try with_reducible rfl)); (try simp only [zP]))
 (refine zR 8 rfl ?_; (try simp only [zP]))
 (refine zR 9 rfl ?_; (try simp only [zP]))
 (refine zR 10 rfl ?_; (try simp only [zP]))
 (refine zR 11 rfl ?_; (try simp only [zP]))
 (refine zR 12 rfl ?_; (try simp only [zP]))
 (refine zT 13 (v := ?_) rfl (Or.inl ⟨by rfl, ?_⟩) ?_; rotate_left; (focus (intro w' hSw; have kc := (hSw.cell bb (off + 2) hb5 hbn).trans k2; go_simp; try with_reducible rfl)); (try simp only [zP]))
 (refine zR 14 rfl ?_; (try simp only [zP]))
 (refine zR 15 rfl ?_; (try simp only [zP]))
 (refine zR 16 rfl ?_; (try simp only [zP]))
 (refine zR 17 rfl ?_; (try simp only [zP]))
 (refine zR 18 rfl ?_; (try simp only [zP]))
 (refine zT 19 (v := ?_) rfl (Or.inl ⟨by rfl, ?_⟩) ?_; rotate_left; (focus (intro w' hSw; have kc := (hSw.cell bb (off + 3) hb5 hbn).trans k3; go_simp; try with_reducible rfl)); (try simp only [zP]))
 (refine zR 20 rfl ?_; (try simp only [zP]))
 (refine zR 21 rfl ?_; (try simp only [zP]))
 (refine wpAnyH_take (i := 22) (v := .agg #[.int .i64 0, .int .u32 n, .slice none 0 0, .slice none 0 0]) rfl (by kernel_rfl) (by kernel_rfl) (by kernel_rfl) (fun _ _ _ h => h) (yieldsIf_build (by rfl) 86 _ rfl (by simp [go_sem]; exact (by rw [HS.out]; kernel_rfl))) (by assumption) ?_; (try simp only [zP]))
 (refine wpAnyH_ready (rs := [23]) (by kernel_rfl) (by simp) ?_; refine AllReadyH.cons rfl (fun K hK => ?_) AllReadyH.nil; rw [if_pos (by rfl)]; refine wp_store_M 86 _ _ rfl (w.heap.size) _ rfl rfl 86 _ (B1.out.drew) hi (by rfl) (by simp [Value.oneCell']) ?_; intro w6 HB M2; refine hK.out _ _ ((Mod.of_ext (Ext.drew (Ext.refl _))).trans M2) (fun hHeld => ?_); clear hK K; (try simp only [zP]))
 refine wpAnyH_done (by kernel_rfl) ?_ _
 go_wp2
 refine bodyPost_ret_by (results_cell_row Tryz.results92 _ _ (w.heap.size) 86 _ _ _ rfl HB Tryz.underlying86 rfl hi) rfl ?_
 exact ⟨_, v2, rfl, RdS.nil _ _ _, R2.out.mod hHeld (fun he => hgn he.symm) (fun k hk ha he => by have := (hA k ha).2; omega), Mod.transN M1.out hHeld (fun i hi he => by omega)⟩
end Go.Proofs.YtmmhcllibpmfnaaGreatDoor
namespace Go.Proofs.YtmmhcllibpmfnaaGreatDoor
open Go.RowKit Go.Kb
set_option maxRecDepth 100000
theorem ub_one {l : List Int} : ∀ u ∈ l.map (Value.int .u8), u.oneCell' = true := by
 intro u hu
 obtain ⟨x, _, rfl⟩ := List.mem_map.1 hu
 rfl
set_option maxHeartbeats 800000 in
theorem rtext_any (g : Nat) (A : Nat → Prop) (v : Value) (t r : List Int) (w : World) (h : Re g A w v (Fr.four t.length ++ (t ++ r))) (hA : ∀ k, A k → k ≠ g ∧ k < w.heap.size) (hn : t.length ≤ 32768) :
   Calls Tryz.prog 95 #[.pointer (some ⟨g, 0, none⟩)] w (RdP g A 0 t r w) := by
 have hi : (Tryz.prog.info? 86).map (·.size) = some 4 := by kernel_rfl
 have hgn : ¬ w.heap.size = g := by have := h.blk.lt; omega
 obtain ⟨N, hN⟩ : ∃ N, t.length = N := ⟨_, rfl⟩
 have HN := Lib.hid hN
 rw [hN] at h hn
 have HT := Lib.hid (fun w' (h' : Re g A w' v (Fr.four (N : Nat) ++ (t ++ r))) (h2 : w.heap.size ≤ w'.heap.size) => rnum_any g A v N (t ++ r) w' h' (fun k hk => ⟨(hA k hk).1, Nat.lt_of_lt_of_le (hA k hk).2 h2⟩) ⟨by omega, by omega⟩)
 have HK := Lib.hid (fun w' v' (h' : Re g A w' v' (t ++ r)) (h2 : w.heap.size ≤ w'.heap.size) => take_any g A v' (t ++ r) N w' h' (fun k hk => ⟨(hA k hk).1, Nat.lt_of_lt_of_le (hA k hk).2 h2⟩) (by rw [← hN]; simp))
 have H := Lib.hid h
 have hwr : IntKind.i64.wrap (N : Int) = (N : Int) := by unfold IntKind.wrap; simp [IntKind.bits, IntKind.signed]; omega
 have B0 := Lib.hid (Blk.new w 86 #[.int .i64 0, .int .u32 0, .slice none 0 0, .slice none 0 0])
 have E0 : Ext w (w.alloc (.cells #[.int .i64 0, .int .u32 0, .slice none 0 0, .slice none 0 0] 86)) := (Ext.refl w).alloc _
 have hle : ¬ (32768 : Int) < (N : Int) := by omega
 clear h hN
 go_enter Tryz.func95, Tryz.ntmps95
 go_wp2_with fail
 refine (HT.out _ (H.out.ext E0) E0.size).mono ?_
 rintro e w1 ⟨v1, v2, rfl, R1, R2, M1⟩
 obtain ⟨A1, c1, rfl, -, -⟩ := R1.shape
 have hs1 := Nat.le_trans E0.size M1.size
 have hs9 : w.heap.size < w1.heap.size := by have h9 := M1.size; simp at h9; omega
 have B1 := Lib.hid (B0.out.mod M1 hgn)
 obtain ⟨k0, k1, -, -⟩ := R2.blk.two
 have R2 := Lib.hid R2
 have M1 := Lib.hid ((Mod.of_ext E0).trans M1)
 clear R1
 have hfd : ∀ w, (Instr.field 86 (.agg #[.int .i64 0, .int .u32 N, .slice A1 0 c1, .slice none 0 0]) 1).run Tryz.prog w = .ok (.int .u32 N) w := fun _ => by kernel_rfl
 go_wp2_with fail
 refine (HK.out _ _ R2.out hs1).mono ?_
 rintro e w2 ⟨v3, v4, rfl, R3, R4, M2⟩
 have R3 := Lib.hid (show RI .u8 w2 v3 t by
   have h9 := RdS.ri R3
   rw [← HN.out, List.take_left' rfl] at h9
   exact h9)
 have R4 := Lib.hid (show Re g A w2 v4 r by
   have h9 := R4
   rw [← HN.out, List.drop_left' rfl] at h9
   exact h9)
 have B2 := Lib.hid (B1.out.mod M2 hgn)
 have hs2 := M2.size
 have M2 := Lib.hid (M1.out.trans M2)
 clear B1 R2 M1 k0 k1
 go_wp2_with fail
 refine (Fr.clone_u8 _ _ _ _ R3.out ub_one (by rw [HN.out]; omega)).mono ?_
 rintro e w3 ⟨v5, rfl, o5, E3⟩
 have HO := Lib.hid ((OwnS.of_ints (B := fun _ => False) o5).rd (A := fun k => w2.heap.size ≤ k) (fun k hk => hk) (fun _ h => h.elim))
 have B3 := Lib.hid (B2.out.ext E3)
 obtain ⟨A5, c5, rfl⟩ := own_shape o5
 clear o5
 go_wp2_with ((refine wpList_store_M rfl 86 _ _ rfl (w.heap.size) _ rfl rfl 86 _ B3.out hi rfl (by simp [Value.oneCell']) ?_; intro w4 HB M4))
 refine bodyPost_ret_by (results_cell_row Tryz.results95 _ _ (w.heap.size) 86 _ _ _ rfl HB Tryz.underlying86 rfl hi) rfl ?_
 exact ⟨_, v4, rfl, (HO.out.mod M4 (fun k _ hk he => by omega)).mono (fun k _ hk => by omega), (R4.out.ext E3).mod M4 (fun he => hgn he.symm) (fun k hk ha he => by have := (hA k ha).2; omega), Mod.transN (M2.out.ext E3) M4 (fun k hk he => by omega)⟩
set_option maxHeartbeats 800000 in
theorem rrest_any (g : Nat) (A : Nat → Prop) (v : Value) (t : List Int) (w : World) (h : Re g A w v t) (hn : t.length ≤ 33792) :
   Calls Tryz.prog 101 #[.pointer (some ⟨g, 0, none⟩)] w (RdP g A 0 t [] w) := by
 have hi : (Tryz.prog.info? 86).map (·.size) = some 4 := by kernel_rfl
 have hgn : ¬ w.heap.size = g := by have := h.blk.lt; omega
 obtain ⟨N, hN⟩ : ∃ N, t.length = N := ⟨_, rfl⟩
 have HN := Lib.hid hN
 have H := Lib.hid h
 have B0 := Lib.hid (Blk.new w 86 #[.int .i64 0, .int .u32 0, .slice none 0 0, .slice none 0 0])
 have E0 : Ext w (w.alloc (.cells #[.int .i64 0, .int .u32 0, .slice none 0 0, .slice none 0 0] 86)) := (Ext.refl w).alloc _
 obtain ⟨k0, k1, -, -⟩ := (H.out.blk.ext E0).two
 clear h hN
 go_enter Tryz.func101, Tryz.ntmps101
 go_wp2_with fail
 refine (Fr.clone_u8 _ _ _ _ (RdS.ri (H.out.rd.ext E0)) ub_one (by omega)).mono ?_
 rintro e w1 ⟨v1, rfl, o1, E1⟩
 have HO := Lib.hid ((OwnS.of_ints (B := fun _ => False) o1).rd (A := fun k => w.heap.size + 1 ≤ k) (fun k hk => by simp at hk; exact hk) (fun _ h => h.elim))
 rw [HN.out] at o1
 obtain ⟨A1, c1, rfl⟩ := own_shape o1
 clear o1 k0 k1
 have B1 := Lib.hid (B0.out.ext E1)
 have E01 : Ext w w1 := E0.trans E1
 clear E1 E0
 have hs1 : w.heap.size < w1.heap.size := B1.out.lt
 have hz : (if 33792 < N then (6 : Int) else 0) = 0 := if_neg (by rw [← HN.out]; omega)
 have HR := Lib.hid (fun w' => frest_any 0 0 A1 N c1 (.slice none 0 0) w')
 rw [hz] at HR
 clear hz
 go_upto_region 2 with fail
 obtain ⟨W5, hW5⟩ : ∃ W5, W5 = w1.alloc (.cells #[.int .i64 0, .int .u32 0, .slice A1 N c1, .slice none 0 0] 86) := ⟨_, rfl⟩
 have E5 : Ext w1 W5 := by rw [hW5]; exact (Ext.refl _).alloc _
 have P5 := Lib.hid (show Blk W5 w1.heap.size 86 #[.int .i64 0, .int .u32 0, .slice A1 N c1, .slice none 0 0] by rw [hW5]; exact Blk.new w1 _ _)
 rw [← hW5]
 clear hW5
 obtain ⟨n5, hn5⟩ : ∃ n5, w1.heap.size = n5 := ⟨_, rfl⟩
 rw [hn5] at P5 hs1 ⊢
 have E05 : Ext w W5 := E01.trans E5
 go_wp2_with (first | (refine wpList_load_row rfl 86 _ rfl _ rfl 86 _ _ _ P5.out Tryz.underlying86 rfl hi ?_) | fail)
 refine (HR.out _).mono ?_
 rintro e w6 ⟨rfl, E6⟩
 have E06 := E05.trans E6
 have G6 := H.out.blk.ext E06
 obtain ⟨k0, k1, f0, f1⟩ := G6.two
 have hgl := H.out.blk.lt
 have M6 : Mod (fun k => k = g) w6 ((w6.setCell ⟨g, 1, none⟩ (.int .i64 0)).setCell ⟨g, 0, none⟩ (.slice none 0 0)) := ((Mod.refl _ _).set1 _).set1 _
 have P6 := Lib.hid ((P5.out.ext E6).mod M6 (by omega))
 have B6 := Lib.hid (((B1.out.ext E5).ext E6).mod M6 hgn)
 have G7 := Lib.hid (show Blk ((w6.setCell ⟨g, 1, none⟩ (.int .i64 0)).setCell ⟨g, 0, none⟩ (.slice none 0 0)) g 290 #[.slice none 0 0, .int .i64 0] by simpa using (G6.set_ 1 (.int .i64 0)).set_ 0 (.slice none 0 0))
 have MM := Lib.hid ((Mod.of_ext E06).trans M6)
 have HV := Lib.hid (((HO.out.ext (E5.trans E6)).mod (S := fun k => k = g) M6 (fun k _ hk he => by omega)))
 clear E01 E5 E05 E6 E06 G6 M6 B0 B1
 go_wp2_with (first | (refine wpList_load_row rfl 86 _ rfl _ rfl 86 _ _ _ P6.out Tryz.underlying86 rfl hi ?_) | (refine wpList_store_M rfl 86 _ _ rfl (w.heap.size) _ rfl rfl 86 _ B6.out hi rfl (by simp [Value.oneCell']) ?_; intro w7 HB M7))
 refine bodyPost_ret_by (results_cell_row Tryz.results101 _ _ (w.heap.size) 86 _ _ _ rfl HB Tryz.underlying86 rfl hi) rfl ?_
 exact ⟨_, _, rfl, (HV.out.mod M7 (fun k _ hk he => by omega)).mono (fun k _ hk => by omega), ⟨G7.out.mod M7 (fun he => hgn he.symm), RdS.nil _ _ _⟩, Mod.transN MM.out M7 (fun k hk he => by omega)⟩
end Go.Proofs.YtmmhcllibpmfnaaGreatDoor
