/- octet's reader: what takes bytes, an octet, a flag and a number off, by contract, where there are bytes enough. Conditions: the bytes begin with the field's. -/
import Derived.Test.YtldijmappinngaaGreatDoorOJ04
namespace Go.Proofs.YtldijmappinngaaGreatDoor
open Go.RowKit Go.Kb
set_option maxRecDepth 100000

theorem Mod.setRow {S : Nat → Prop} {a w : World} (h : Mod S a w) {g : Nat} (hg : a.heap.size ≤ g ∨ S g) (cs : Array Value) : Mod S a (w.setRow g cs) := by
  have h9 := mod_setRow (w := w) (g := g) cs
  refine ⟨h9.os.trans h.os, h9.tape.trans h.tape, h9.output.trans h.output, Nat.le_trans h.size h9.size, fun k hk hn => (h9.block k (Nat.lt_of_lt_of_le hk h.size) ?_).trans (h.block k hk hn)⟩
  rintro rfl
  rcases hg with h1 | h1
  · omega
  · exact hn h1
theorem Mod.transN {S T : Nat → Prop} {a b c : World} (h : Mod S a b) (k : Mod T b c) (hT : ∀ i, i < a.heap.size → T i → S i) : Mod S a c :=
  ⟨k.os.trans h.os, k.tape.trans h.tape, k.output.trans h.output, Nat.le_trans h.size k.size, fun i hi hn => (k.block i (Nat.lt_of_lt_of_le hi h.size) (fun ht => hn (hT i hi ht))).trans (h.block i hi hn)⟩
/-- a whole store; what it leaves of all else -/
theorem wpList_store_M {P : Program} {ops : Array Oper} {rest : List Oper} {o : Oper} {a : Act} {w : World} {Q : Exit → Act → World → Prop} (hgd : o.guard = none) (ty : TypeId) (x y : Operand) (ho : o.op = .store ty x y)
    (g : Nat) (cells : Array Value) (hx : a.eval x = .pointer (some ⟨g, 0, none⟩)) (hy : a.eval y = .agg cells)
    (t : TypeId) (old : Array Value) (hg : Blk w g t old) (hi : (P.info? ty).map (·.size) = some cells.size)
    (hold : old.size = cells.size) (h1 : cells.all (·.oneCell') = true)
    (h : ∀ w', Blk w' g t cells → Mod (fun k => k = g) w w' → wpList P ops Q rest (a.put o.dst undef) w') : wpList P ops Q (o :: rest) a w :=
  wpList_store_row hgd ty x y ho g cells hx hy t old hg hi hold h1 (h _ (Blk.setRow hg _) (Mod.setRow (S := fun k => k = g) (Mod.refl _ _) (.inr rfl) _))
theorem wp_store_M {P : Program} {o : Oper} {a : Act} {w : World} {K : Act → World → Prop} {Q : Exit → Act → World → Prop} (ty : TypeId) (x y : Operand) (ho : o.op = .store ty x y)
    (g : Nat) (cells : Array Value) (hx : a.eval x = .pointer (some ⟨g, 0, none⟩)) (hy : a.eval y = .agg cells)
    (t : TypeId) (old : Array Value) (hg : Blk w g t old) (hi : (P.info? ty).map (·.size) = some cells.size)
    (hold : old.size = cells.size) (h1 : cells.all (·.oneCell') = true)
    (h : ∀ w', Blk w' g t cells → Mod (fun k => k = g) w w' → K (a.put o.dst undef) w') : o.wp P a w K Q :=
  wp_store_row ty x y ho g cells hx hy t old hg hi hold h1 (h _ (Blk.setRow hg _) (Mod.setRow (S := fun k => k = g) (Mod.refl _ _) (.inr rfl) _))
/-- a reader in block g; what is left of its bytes, which lie in blocks of A -/
structure Re (g : Nat) (A : Nat → Prop) (w : World) (v : Value) (l : List Int) : Prop where
  blk : Blk w g 112 #[v, .int .i64 0]
  rd : RdS Ub8 A w v l
theorem Re.ext {g : Nat} {A : Nat → Prop} {w w' : World} {v : Value} {l : List Int} (h : Re g A w v l) (E : Ext w w') : Re g A w' v l := ⟨h.blk.ext E, h.rd.ext E⟩
theorem Re.mod {S : Nat → Prop} {g : Nat} {A : Nat → Prop} {w w' : World} {v : Value} {l : List Int} (h : Re g A w v l) (M : Mod S w w') (h1 : ¬ S g) (h2 : ∀ k, k < w.heap.size → A k → ¬ S k) : Re g A w' v l := ⟨h.blk.mod M h1, h.rd.mod M h2⟩
theorem rds_from {A : Nat → Prop} {w : World} {Ad : Option Addr} {n c k : Nat} {l : List Int} (h : RdS Ub8 A w (.slice Ad n c) l) (hk : k ≤ n) : RdS Ub8 A w (.slice (if c = k then Ad else Ad.map (fun x => x.add k)) (n - k) (c - k)) (l.drop k) := by
  have h2 := RdS.from_ h hk
  have e : k * Ub8.size = k := by show k * 1 = k; omega
  rw [e] at h2
  exact h2
theorem rds_none {D : Type} {e : Rep D} {A B : Nat → Prop} {w w' : World} {v : Value} (h : RdS e A w v []) : RdS e B w' v [] := by
  obtain ⟨⟨us, ⟨hl, Ad, c, hv, h1, h2, h3⟩, he⟩, ho⟩ := h
  have hu : us = [] := List.eq_nil_of_length_eq_zero (by simpa using hl)
  subst hu
  refine ⟨⟨[], ⟨by simp, Ad, c, hv, h1, h2, ?_⟩, RdE.nil _ _ _⟩, fun hn => absurd hn (by simp)⟩
  rcases h3 with h3 | ⟨b, off, hA, -⟩
  · exact .inl h3
  · exact .inr ⟨b, off, hA, fun j u hu => by simp at hu⟩
/-- a field read: the fields but the kind -/
def RdP (g : Nat) (A : Nat → Prop) (n : Int) (t r : List Int) (w : World) (e : Ending) (w' : World) : Prop :=
  ∃ vt v2, e = .returned (.agg #[.int .i64 0, .int .u32 n, vt, .slice none 0 0]) ∧ RdS Ub8 (fun k => w.heap.size ≤ k) w' vt t ∧ Re g A w' v2 r ∧ Mod (fun k => k = g) w w'
def TkP (g : Nat) (A : Nat → Prop) (t r : List Int) (w : World) (e : Ending) (w' : World) : Prop := ∃ v1 v2, e = .returned v1 ∧ RdS Ub8 A w' v1 t ∧ Re g A w' v2 r ∧ Mod (fun k => k = g) w w'
set_option maxHeartbeats 800000 in
theorem take_any (g : Nat) (A : Nat → Prop) (v : Value) (l : List Int) (n : Nat) (w : World) (h : Re g A w v l) (hA : ∀ k, A k → k ≠ g ∧ k < w.heap.size) (hn : n ≤ l.length) :
    Calls Tryz.prog 109 #[.pointer (some ⟨g, 0, none⟩), .int .i64 n] w (TkP g A (l.take n) (l.drop n) w) := by
  obtain ⟨Ad, c, rfl, hc1, hc2⟩ := h.rd.shape
  obtain ⟨k0, k1, f0, f1⟩ := h.blk.two
  have H1 := Lib.hid (RdS.to_ h.rd hn)
  have H2 := Lib.hid (rds_from h.rd hn)
  have HB := Lib.hid h.blk
  obtain ⟨N, hN⟩ : ∃ N, l.length = N := ⟨_, rfl⟩
  rw [hN] at hn hc1 k0 H2 HB
  obtain ⟨A5, hA5⟩ : ∃ A5, (if c = n then Ad else Ad.map (fun x => x.add n)) = A5 := ⟨_, rfl⟩
  rw [hA5] at H2
  have i1 : (0 : Int) ≤ (n : Int) := by omega
  have i2 : (n : Int) ≤ (N : Int) := by omega
  have i3 : (N : Int) ≤ (c : Int) := by omega
  have i4 : (n : Int) ≤ (c : Int) := by omega
  have i5 : ¬ ((N : Int) < (n : Int)) := by omega
  clear h hN
  go_enter Tryz.func109, Tryz.ntmps109
  go_wp2
  go_ret
  have M : Mod (fun k => k = g) w (w.setCell ⟨g, 0, none⟩ (.slice A5 (N - n) (c - n))) := (Mod.refl _ _).set1 _
  exact ⟨_, _, rfl, H1.out.mod M (fun k _ ha he => (hA k ha).1 he), ⟨by simpa using HB.out.set_ 0 (.slice A5 (N - n) (c - n)), H2.out.mod M (fun k _ ha he => (hA k ha).1 he)⟩, M⟩
set_option maxHeartbeats 800000 in
theorem roct_any (g : Nat) (A : Nat → Prop) (v : Value) (x : Int) (r : List Int) (w : World) (h : Re g A w v (x :: r)) (hA : ∀ k, A k → k ≠ g ∧ k < w.heap.size) (hx : 0 ≤ x ∧ x ≤ 255) :
    Calls Tryz.prog 69 #[.pointer (some ⟨g, 0, none⟩)] w (RdP g A x [] r w) := by
  have hi : (Tryz.prog.info? 59).map (·.size) = some 4 := by kernel_rfl
  have hgn : ¬ w.heap.size = g := by have := h.blk.lt; omega
  have hwr : IntKind.u32.wrap x = x := by unfold IntKind.wrap; simp [IntKind.bits, IntKind.signed]; omega
  have HT := Lib.hid (fun w' (h' : Re g A w' v (x :: r)) => (fun (h2 : w.heap.size ≤ w'.heap.size) => take_any g A v (x :: r) 1 w' h' (fun k hk => ⟨(hA k hk).1, Nat.lt_of_lt_of_le (hA k hk).2 h2⟩) (by simp)))
  have H := Lib.hid h
  have B0 := Lib.hid (Blk.new w 59 #[.int .i64 0, .int .u32 0, .slice none 0 0, .slice none 0 0])
  have E0 : Ext w (w.alloc (.cells #[.int .i64 0, .int .u32 0, .slice none 0 0, .slice none 0 0] 59)) := (Ext.refl w).alloc _
  clear h
  go_enter Tryz.func69, Tryz.ntmps69
  go_wp2_with fail
  refine (HT.out _ (H.out.ext E0) E0.size).mono ?_
  rintro e w1 ⟨v1, v2, rfl, R1, R2, M1⟩
  have R3 := RdS.ri R1
  obtain ⟨A1, c1, rfl, hc1, hc2⟩ := RdN.shape R3
  obtain ⟨b, off, y, rfl, ky, hd⟩ := RdN.icell R3 (j := 0) (by simp)
  have hy : x = y := by simpa using hd.out
  subst hy
  have B1 := Lib.hid (B0.out.mod M1 hgn)
  have R2 := Lib.hid R2
  have M1 := Lib.hid ((Mod.of_ext E0).trans M1)
  clear R1 R3 hd
  simp only [List.take_succ_cons, List.take_zero, List.length_singleton, Nat.add_zero] at ky hc1 ⊢
  have hnil : (binOp .eql 25 (.slice (some ⟨b, off, none⟩) 1 c1) (.slice none 0 0)).run Tryz.prog w1 = _ := Go.Lib.run_eql_slice_nil w1 25 5 (some ⟨b, off, none⟩) 1 c1 0 0 Tryz.underlying25
  go_wp2_with (refine wpList_store_M rfl 59 _ _ rfl w.heap.size _ rfl rfl 59 _ B1.out hi rfl (by simp [Value.oneCell']) ?_; intro w2 HB M2)
  skip
  refine bodyPost_ret_by (results_cell_row Tryz.results69 _ _ w.heap.size 59 _ _ _ rfl HB Tryz.underlying59 rfl hi) rfl ?_
  exact ⟨_, v2, rfl, RdS.nil _ _ _, R2.out.mod M2 (fun he => hgn he.symm) (fun k hk ha he => by have := (hA k ha).2; omega), Mod.transN M1.out M2 (fun i hi he => by omega)⟩
set_option maxHeartbeats 800000 in
theorem rflag_any (g : Nat) (A : Nat → Prop) (v : Value) (x : Int) (r : List Int) (w : World) (h : Re g A w v (x :: r)) (hA : ∀ k, A k → k ≠ g ∧ k < w.heap.size) (hx : 0 ≤ x ∧ x ≤ 1) :
    Calls Tryz.prog 71 #[.pointer (some ⟨g, 0, none⟩)] w (RdP g A x [] r w) := by
  have hi : (Tryz.prog.info? 59).map (·.size) = some 4 := by kernel_rfl
  have hgn : ¬ w.heap.size = g := by have := h.blk.lt; omega
  have HT := Lib.hid (fun w' (h' : Re g A w' v (x :: r)) (h2 : w.heap.size ≤ w'.heap.size) => roct_any g A v x r w' h' (fun k hk => ⟨(hA k hk).1, Nat.lt_of_lt_of_le (hA k hk).2 h2⟩) ⟨hx.1, by omega⟩)
  have H := Lib.hid h
  have B0 := Lib.hid (Blk.new w 59 #[.int .i64 0, .int .u32 0, .slice none 0 0, .slice none 0 0])
  have E0 : Ext w (w.alloc (.cells #[.int .i64 0, .int .u32 0, .slice none 0 0, .slice none 0 0] 59)) := (Ext.refl w).alloc _
  have hmin : (if x ≤ 1 then x else 1) = x := if_pos hx.2
  clear h
  go_enter Tryz.func71, Tryz.ntmps71
  go_wp2_with fail
  refine (HT.out _ (H.out.ext E0) E0.size).mono ?_
  rintro e w1 ⟨v1, v2, rfl, R1, R2, M1⟩
  obtain ⟨A1, c1, rfl, -, -⟩ := R1.shape
  have B1 := Lib.hid (B0.out.mod M1 hgn)
  have R2 := Lib.hid R2
  have R1 := Lib.hid R1
  have M1 := Lib.hid ((Mod.of_ext E0).trans M1)
  go_upto_region 2 with fail
  obtain ⟨W5, hW5⟩ : ∃ W5, W5 = w1.alloc (.cells #[.int .i64 0, .int .u32 x, .slice A1 0 c1, .slice none 0 0] 59) := ⟨_, rfl⟩
  have E5 : Ext w1 W5 := by rw [hW5]; exact (Ext.refl _).alloc _
  have P5 : Blk W5 w1.heap.size 59 #[.int .i64 0, .int .u32 x, .slice A1 0 c1, .slice none 0 0] := by rw [hW5]; exact Blk.new w1 _ _
  rw [← hW5]
  clear hW5
  obtain ⟨n5, hn5⟩ : ∃ n5, w1.heap.size = n5 := ⟨_, rfl⟩
  have hs5 := E5.size
  have hs1 := M1.out.size
  have hbl := B1.out.lt
  have hgl := R2.out.blk.lt
  rw [hn5] at P5 hs5 hs1 hbl hgl ⊢
  have kp := P5.cell 1
  have fp := P5.frozen 1
  have P6 := Lib.hid (show Blk (W5.setCell ⟨n5, 1, none⟩ (.int .u32 x)) n5 59 #[.int .i64 0, .int .u32 x, .slice A1 0 c1, .slice none 0 0] by simpa using P5.set_ 1 (.int .u32 x))
  have B6 := Lib.hid ((B1.out.ext E5).far (p := ⟨n5, 1, none⟩) (by show w.heap.size ≠ n5; omega) (.int .u32 x))
  have MX : Mod (fun k => k = n5) w1 (W5.setCell ⟨n5, 1, none⟩ (.int .u32 x)) := (Mod.of_ext E5).set1 _
  have M6 := Lib.hid (Mod.transN M1.out MX (fun k hk he => by omega))
  have R6 := Lib.hid (R2.out.mod MX (by omega) (fun k hk ha he => by have := (hA k ha).2; omega))
  have T6 := Lib.hid (R1.out.ext (Ext.refl _))
  clear E5 P5 B1 M1 R2 MX
  go_wp2_with (first | (refine wpList_load_row rfl 59 _ rfl _ rfl 59 _ _ _ P6.out Tryz.underlying59 rfl hi ?_) | (refine wpList_store_M rfl 59 _ _ rfl w.heap.size _ rfl rfl 59 _ B6.out hi rfl (by simp [Value.oneCell']) ?_; intro w2 HB M2))
  refine bodyPost_ret_by (results_cell_row Tryz.results71 _ _ w.heap.size 59 _ _ _ rfl HB Tryz.underlying59 rfl hi) rfl ?_
  exact ⟨_, v2, rfl, rds_none T6.out, R6.out.mod M2 (by omega) (fun k hk ha he => by have := (hA k ha).2; omega), Mod.transN M6.out M2 (fun k hk he => by omega)⟩
theorem u32_or_nat (a b : Nat) (ha : a < 4294967296) (hb : b < 4294967296) : bits .or .u32 (a : Int) (b : Int) = ((a ||| b : Nat) : Int) := by
  have hx : a ||| b < 2 ^ 32 := Nat.or_lt_two_pow (by omega) (by omega)
  have e1 : (BitVec.ofInt 32 (a : Int)).toNat = a := by rw [BitVec.ofInt_natCast, BitVec.toNat_ofNat]; exact Nat.mod_eq_of_lt (by omega)
  have e2 : (BitVec.ofInt 32 (b : Int)).toNat = b := by rw [BitVec.ofInt_natCast, BitVec.toNat_ofNat]; exact Nat.mod_eq_of_lt (by omega)
  show IntKind.u32.wrap ((BitVec.ofInt 32 (a : Int) ||| BitVec.ofInt 32 (b : Int)).toNat : Int) = _
  rw [BitVec.toNat_or, e1, e2]
  unfold IntKind.wrap
  simp [IntKind.bits, IntKind.signed]
  omega
theorem u32_join (x y : Int) (i : Nat) (hx0 : 0 ≤ x) (hx1 : x < 4294967296) (hy0 : 0 ≤ y) (hy1 : y < 4294967296) (hx : x.toNat % 2 ^ i = 0) (hy : y.toNat < 2 ^ i) : bits .or .u32 x y = x + y := by
  obtain ⟨a, rfl⟩ := Int.eq_ofNat_of_zero_le hx0
  obtain ⟨b, rfl⟩ := Int.eq_ofNat_of_zero_le hy0
  rw [u32_or_nat a b (by omega) (by omega), nat_join i a b (by simpa using hx) (by simpa using hy)]
  simp
theorem u32_four (a b c d : Int) (ba : 0 ≤ a ∧ a ≤ 255) (bb : 0 ≤ b ∧ b ≤ 255) (bc : 0 ≤ c ∧ c ≤ 255) (bd : 0 ≤ d ∧ d ≤ 255) :
    bits .or .u32 (bits .or .u32 (bits .or .u32 (a * 16777216) (b * 65536)) (c * 256)) d = a * 16777216 + b * 65536 + c * 256 + d := by
  rw [u32_join (a * 16777216) (b * 65536) 24 (by omega) (by omega) (by omega) (by omega) (by omega) (by omega)]
  rw [u32_join _ (c * 256) 16 (by omega) (by omega) (by omega) (by omega) (by omega) (by omega)]
  rw [u32_join _ d 8 (by omega) (by omega) (by omega) (by omega) (by omega) (by omega)]
set_option maxHeartbeats 800000 in
theorem rnum_any (g : Nat) (A : Nat → Prop) (v : Value) (n : Int) (r : List Int) (w : World) (h : Re g A w v (Fr.four n ++ r)) (hA : ∀ k, A k → k ≠ g ∧ k < w.heap.size) (hn : 0 ≤ n ∧ n ≤ 4294967295) :
    Calls Tryz.prog 74 #[.pointer (some ⟨g, 0, none⟩)] w (RdP g A n [] r w) := by
  have hi : (Tryz.prog.info? 59).map (·.size) = some 4 := by kernel_rfl
  have hgn : ¬ w.heap.size = g := by have := h.blk.lt; omega
  obtain ⟨a, b, c, d, hf, ha, hb, hc, hd, hsum⟩ : ∃ a b c d : Int, Fr.four n = [a, b, c, d] ∧ (0 ≤ a ∧ a ≤ 255) ∧ (0 ≤ b ∧ b ≤ 255) ∧ (0 ≤ c ∧ c ≤ 255) ∧ (0 ≤ d ∧ d ≤ 255) ∧ a * 16777216 + b * 65536 + c * 256 + d = n :=
    ⟨n / 16777216, n / 65536 % 256, n / 256 % 256, n % 256, rfl, by omega, by omega, by omega, by omega, by omega⟩
  rw [hf] at h
  have HS := Lib.hid (show bits .or .u32 (bits .or .u32 (bits .or .u32 (a * 16777216) (b * 65536)) (c * 256)) d = n by rw [u32_four a b c d ha hb hc hd]; exact hsum)
  have hw : ∀ x : Int, 0 ≤ x → x ≤ 4294967295 → IntKind.u32.wrap x = x := fun x h1 h2 => by unfold IntKind.wrap; simp [IntKind.bits, IntKind.signed]; omega
  have w1 := hw a (by omega) (by omega)
  have w2 := hw b (by omega) (by omega)
  have w3 := hw c (by omega) (by omega)
  have w4 := hw d (by omega) (by omega)
  have s1 := hw (a * 16777216) (by omega) (by omega)
  have s2 := hw (b * 65536) (by omega) (by omega)
  have s3 := hw (c * 256) (by omega) (by omega)
  have HT := Lib.hid (fun w' (h' : Re g A w' v ([a, b, c, d] ++ r)) (h2 : w.heap.size ≤ w'.heap.size) => take_any g A v ([a, b, c, d] ++ r) 4 w' h' (fun k hk => ⟨(hA k hk).1, Nat.lt_of_lt_of_le (hA k hk).2 h2⟩) (by simp))
  have H := Lib.hid h
  have B0 := Lib.hid (Blk.new w 59 #[.int .i64 0, .int .u32 0, .slice none 0 0, .slice none 0 0])
  have E0 : Ext w (w.alloc (.cells #[.int .i64 0, .int .u32 0, .slice none 0 0, .slice none 0 0] 59)) := (Ext.refl w).alloc _
  clear h hf hw ha hb hc hd hsum
  go_enter Tryz.func74, Tryz.ntmps74
  go_wp2_with fail
  refine (HT.out _ (H.out.ext E0) E0.size).mono ?_
  rintro e w5 ⟨v1, v2, rfl, R1, R2, M1⟩
  have R3 := RdS.ri R1
  have R1b := Lib.hid R1.2
  have hl4 : List.take 4 ([a, b, c, d] ++ r) = [a, b, c, d] := by simp
  rw [hl4] at R3
  obtain ⟨bb, off, n4, c1, rfl, h4, hm4, k0, k1, k2, k3⟩ := Fr.four_cells (r := []) R3
  unfold maxLen at hm4
  have B1 := Lib.hid (B0.out.mod M1 hgn)
  have R2 := Lib.hid (show Re g A w5 v2 r from R2)
  have M1 := Lib.hid ((Mod.of_ext E0).trans M1)
  clear R1 R3
  have hbA : bb < w.heap.size := (hA bb (R1b.out (by rw [hl4]; simp) bb rfl)).2
  have h0 : (0 : Int) < (n4 : Int) := by omega
  have j0 : 0 < n4 := by omega
  have j1 : 1 < n4 := by omega
  have j2 : 2 < n4 := by omega
  have j3 : 3 < n4 := by omega
  have h1 : (1 : Int) < (n4 : Int) := by omega
  have h2 : (2 : Int) < (n4 : Int) := by omega
  have h3 : (3 : Int) < (n4 : Int) := by omega
  have hb5 : bb < w5.heap.size := by have := M1.out.size; omega
  have hbn : ¬ bb = w.heap.size := by omega
  have hnil : (binOp .eql 25 (.slice (some ⟨bb, off, none⟩) n4 c1) (.slice none 0 0)).run Tryz.prog w5 = _ := Go.Lib.run_eql_slice_nil w5 25 5 (some ⟨bb, off, none⟩) n4 c1 0 0 Tryz.underlying25
  go_wp2
  refine wp_region_held_drew (S := fun w' => Mod (fun k => k = w.heap.size) w5 w') (by kernel_rfl) (Mod.of_ext (Ext.drew (Ext.refl _))) (fun hHeld => ?_)
  (refine wpAnyH_take (i := 0) (v := ?_) rfl (by kernel_rfl) (by kernel_rfl) (by kernel_rfl) (fun _ _ _ h => h) (Or.inl ⟨by rfl, ?_⟩) (by assumption) ?_; rotate_left; (focus (intro w' hSw; go_simp; try with_reducible rfl)); (try simp only [List.getElem_toArray]); (try simp only [List.getElem_cons_succ]); (try simp only [List.getElem_cons_zero]); (try simp only [Act.put]); (try simp only [List.setIfInBounds_toArray]); (try simp only [List.set_cons_succ]); (try simp only [List.set_cons_zero]))
  (refine wpAnyH_take (i := 1) (v := ?_) rfl (by kernel_rfl) (by kernel_rfl) (by kernel_rfl) (fun _ _ _ h => h) (Or.inl ⟨by rfl, ?_⟩) (by assumption) ?_; rotate_left; (focus (intro w' hSw; go_simp; try with_reducible rfl)); (try simp only [List.getElem_toArray]); (try simp only [List.getElem_cons_succ]); (try simp only [List.getElem_cons_zero]); (try simp only [Act.put]); (try simp only [List.setIfInBounds_toArray]); (try simp only [List.set_cons_succ]); (try simp only [List.set_cons_zero]))
  (refine wpAnyH_take (i := 2) (v := ?_) rfl (by kernel_rfl) (by kernel_rfl) (by kernel_rfl) (fun _ _ _ h => h) (Or.inl ⟨by rfl, ?_⟩) (by assumption) ?_; rotate_left; (focus (intro w' hSw; have kc := (hSw.cell bb off hb5 hbn).trans k0; go_simp; try with_reducible rfl)); (try simp only [List.getElem_toArray]); (try simp only [List.getElem_cons_succ]); (try simp only [List.getElem_cons_zero]); (try simp only [Act.put]); (try simp only [List.setIfInBounds_toArray]); (try simp only [List.set_cons_succ]); (try simp only [List.set_cons_zero]))
  (refine wpAnyH_take (i := 3) (v := ?_) rfl (by kernel_rfl) (by kernel_rfl) (by kernel_rfl) (fun _ _ _ h => h) (Or.inl ⟨by rfl, ?_⟩) (by assumption) ?_; rotate_left; (focus (intro w' hSw; go_simp; try with_reducible rfl)); (try simp only [List.getElem_toArray]); (try simp only [List.getElem_cons_succ]); (try simp only [List.getElem_cons_zero]); (try simp only [Act.put]); (try simp only [List.setIfInBounds_toArray]); (try simp only [List.set_cons_succ]); (try simp only [List.set_cons_zero]))
  (refine wpAnyH_take (i := 4) (v := ?_) rfl (by kernel_rfl) (by kernel_rfl) (by kernel_rfl) (fun _ _ _ h => h) (Or.inl ⟨by rfl, ?_⟩) (by assumption) ?_; rotate_left; (focus (intro w' hSw; go_simp; try with_reducible rfl)); (try simp only [List.getElem_toArray]); (try simp only [List.getElem_cons_succ]); (try simp only [List.getElem_cons_zero]); (try simp only [Act.put]); (try simp only [List.setIfInBounds_toArray]); (try simp only [List.set_cons_succ]); (try simp only [List.set_cons_zero]))
  (refine wpAnyH_take (i := 5) (v := ?_) rfl (by kernel_rfl) (by kernel_rfl) (by kernel_rfl) (fun _ _ _ h => h) (Or.inl ⟨by rfl, ?_⟩) (by assumption) ?_; rotate_left; (focus (intro w' hSw; go_simp; try with_reducible rfl)); (try simp only [List.getElem_toArray]); (try simp only [List.getElem_cons_succ]); (try simp only [List.getElem_cons_zero]); (try simp only [Act.put]); (try simp only [List.setIfInBounds_toArray]); (try simp only [List.set_cons_succ]); (try simp only [List.set_cons_zero]))
  (refine wpAnyH_take (i := 6) (v := ?_) rfl (by kernel_rfl) (by kernel_rfl) (by kernel_rfl) (fun _ _ _ h => h) (Or.inl ⟨by rfl, ?_⟩) (by assumption) ?_; rotate_left; (focus (intro w' hSw; go_simp; try with_reducible rfl)); (try simp only [List.getElem_toArray]); (try simp only [List.getElem_cons_succ]); (try simp only [List.getElem_cons_zero]); (try simp only [Act.put]); (try simp only [List.setIfInBounds_toArray]); (try simp only [List.set_cons_succ]); (try simp only [List.set_cons_zero]))
  (refine wpAnyH_take (i := 7) (v := ?_) rfl (by kernel_rfl) (by kernel_rfl) (by kernel_rfl) (fun _ _ _ h => h) (Or.inl ⟨by rfl, ?_⟩) (by assumption) ?_; rotate_left; (focus (intro w' hSw; have kc := (hSw.cell bb (off + 1) hb5 hbn).trans k1; go_simp; try with_reducible rfl)); (try simp only [List.getElem_toArray]); (try simp only [List.getElem_cons_succ]); (try simp only [List.getElem_cons_zero]); (try simp only [Act.put]); (try simp only [List.setIfInBounds_toArray]); (try simp only [List.set_cons_succ]); (try simp only [List.set_cons_zero]))
  (refine wpAnyH_take (i := 8) (v := ?_) rfl (by kernel_rfl) (by kernel_rfl) (by kernel_rfl) (fun _ _ _ h => h) (Or.inl ⟨by rfl, ?_⟩) (by assumption) ?_; rotate_left; (focus (intro w' hSw; go_simp; try with_reducible rfl)); (try simp only [List.getElem_toArray]); (try simp only [List.getElem_cons_succ]); (try simp only [List.getElem_cons_zero]); (try simp only [Act.put]); (try simp only [List.setIfInBounds_toArray]); (try simp only [List.set_cons_succ]); (try simp only [List.set_cons_zero]))
  (refine wpAnyH_take (i := 9) (v := ?_) rfl (by kernel_rfl) (by kernel_rfl) (by kernel_rfl) (fun _ _ _ h => h) (Or.inl ⟨by rfl, ?_⟩) (by assumption) ?_; rotate_left; (focus (intro w' hSw; go_simp; try with_reducible rfl)); (try simp only [List.getElem_toArray]); (try simp only [List.getElem_cons_succ]); (try simp only [List.getElem_cons_zero]); (try simp only [Act.put]); (try simp only [List.setIfInBounds_toArray]); (try simp only [List.set_cons_succ]); (try simp only [List.set_cons_zero]))
  (refine wpAnyH_take (i := 10) (v := ?_) rfl (by kernel_rfl) (by kernel_rfl) (by kernel_rfl) (fun _ _ _ h => h) (Or.inl ⟨by rfl, ?_⟩) (by assumption) ?_; rotate_left; (focus (intro w' hSw; go_simp; try with_reducible rfl)); (try simp only [List.getElem_toArray]); (try simp only [List.getElem_cons_succ]); (try simp only [List.getElem_cons_zero]); (try simp only [Act.put]); (try simp only [List.setIfInBounds_toArray]); (try simp only [List.set_cons_succ]); (try simp only [List.set_cons_zero]))
  (refine wpAnyH_take (i := 11) (v := ?_) rfl (by kernel_rfl) (by kernel_rfl) (by kernel_rfl) (fun _ _ _ h => h) (Or.inl ⟨by rfl, ?_⟩) (by assumption) ?_; rotate_left; (focus (intro w' hSw; go_simp; try with_reducible rfl)); (try simp only [List.getElem_toArray]); (try simp only [List.getElem_cons_succ]); (try simp only [List.getElem_cons_zero]); (try simp only [Act.put]); (try simp only [List.setIfInBounds_toArray]); (try simp only [List.set_cons_succ]); (try simp only [List.set_cons_zero]))
  (refine wpAnyH_take (i := 12) (v := ?_) rfl (by kernel_rfl) (by kernel_rfl) (by kernel_rfl) (fun _ _ _ h => h) (Or.inl ⟨by rfl, ?_⟩) (by assumption) ?_; rotate_left; (focus (intro w' hSw; go_simp; try with_reducible rfl)); (try simp only [List.getElem_toArray]); (try simp only [List.getElem_cons_succ]); (try simp only [List.getElem_cons_zero]); (try simp only [Act.put]); (try simp only [List.setIfInBounds_toArray]); (try simp only [List.set_cons_succ]); (try simp only [List.set_cons_zero]))
  (refine wpAnyH_take (i := 13) (v := ?_) rfl (by kernel_rfl) (by kernel_rfl) (by kernel_rfl) (fun _ _ _ h => h) (Or.inl ⟨by rfl, ?_⟩) (by assumption) ?_; rotate_left; (focus (intro w' hSw; have kc := (hSw.cell bb (off + 2) hb5 hbn).trans k2; go_simp; try with_reducible rfl)); (try simp only [List.getElem_toArray]); (try simp only [List.getElem_cons_succ]); (try simp only [List.getElem_cons_zero]); (try simp only [Act.put]); (try simp only [List.setIfInBounds_toArray]); (try simp only [List.set_cons_succ]); (try simp only [List.set_cons_zero]))
  (refine wpAnyH_take (i := 14) (v := ?_) rfl (by kernel_rfl) (by kernel_rfl) (by kernel_rfl) (fun _ _ _ h => h) (Or.inl ⟨by rfl, ?_⟩) (by assumption) ?_; rotate_left; (focus (intro w' hSw; go_simp; try with_reducible rfl)); (try simp only [List.getElem_toArray]); (try simp only [List.getElem_cons_succ]); (try simp only [List.getElem_cons_zero]); (try simp only [Act.put]); (try simp only [List.setIfInBounds_toArray]); (try simp only [List.set_cons_succ]); (try simp only [List.set_cons_zero]))
  (refine wpAnyH_take (i := 15) (v := ?_) rfl (by kernel_rfl) (by kernel_rfl) (by kernel_rfl) (fun _ _ _ h => h) (Or.inl ⟨by rfl, ?_⟩) (by assumption) ?_; rotate_left; (focus (intro w' hSw; go_simp; try with_reducible rfl)); (try simp only [List.getElem_toArray]); (try simp only [List.getElem_cons_succ]); (try simp only [List.getElem_cons_zero]); (try simp only [Act.put]); (try simp only [List.setIfInBounds_toArray]); (try simp only [List.set_cons_succ]); (try simp only [List.set_cons_zero]))
  (refine wpAnyH_take (i := 16) (v := ?_) rfl (by kernel_rfl) (by kernel_rfl) (by kernel_rfl) (fun _ _ _ h => h) (Or.inl ⟨by rfl, ?_⟩) (by assumption) ?_; rotate_left; (focus (intro w' hSw; go_simp; try with_reducible rfl)); (try simp only [List.getElem_toArray]); (try simp only [List.getElem_cons_succ]); (try simp only [List.getElem_cons_zero]); (try simp only [Act.put]); (try simp only [List.setIfInBounds_toArray]); (try simp only [List.set_cons_succ]); (try simp only [List.set_cons_zero]))
  (refine wpAnyH_take (i := 17) (v := ?_) rfl (by kernel_rfl) (by kernel_rfl) (by kernel_rfl) (fun _ _ _ h => h) (Or.inl ⟨by rfl, ?_⟩) (by assumption) ?_; rotate_left; (focus (intro w' hSw; go_simp; try with_reducible rfl)); (try simp only [List.getElem_toArray]); (try simp only [List.getElem_cons_succ]); (try simp only [List.getElem_cons_zero]); (try simp only [Act.put]); (try simp only [List.setIfInBounds_toArray]); (try simp only [List.set_cons_succ]); (try simp only [List.set_cons_zero]))
  (refine wpAnyH_take (i := 18) (v := ?_) rfl (by kernel_rfl) (by kernel_rfl) (by kernel_rfl) (fun _ _ _ h => h) (Or.inl ⟨by rfl, ?_⟩) (by assumption) ?_; rotate_left; (focus (intro w' hSw; go_simp; try with_reducible rfl)); (try simp only [List.getElem_toArray]); (try simp only [List.getElem_cons_succ]); (try simp only [List.getElem_cons_zero]); (try simp only [Act.put]); (try simp only [List.setIfInBounds_toArray]); (try simp only [List.set_cons_succ]); (try simp only [List.set_cons_zero]))
  (refine wpAnyH_take (i := 19) (v := ?_) rfl (by kernel_rfl) (by kernel_rfl) (by kernel_rfl) (fun _ _ _ h => h) (Or.inl ⟨by rfl, ?_⟩) (by assumption) ?_; rotate_left; (focus (intro w' hSw; have kc := (hSw.cell bb (off + 3) hb5 hbn).trans k3; go_simp; try with_reducible rfl)); (try simp only [List.getElem_toArray]); (try simp only [List.getElem_cons_succ]); (try simp only [List.getElem_cons_zero]); (try simp only [Act.put]); (try simp only [List.setIfInBounds_toArray]); (try simp only [List.set_cons_succ]); (try simp only [List.set_cons_zero]))
  (refine wpAnyH_take (i := 20) (v := ?_) rfl (by kernel_rfl) (by kernel_rfl) (by kernel_rfl) (fun _ _ _ h => h) (Or.inl ⟨by rfl, ?_⟩) (by assumption) ?_; rotate_left; (focus (intro w' hSw; go_simp; try with_reducible rfl)); (try simp only [List.getElem_toArray]); (try simp only [List.getElem_cons_succ]); (try simp only [List.getElem_cons_zero]); (try simp only [Act.put]); (try simp only [List.setIfInBounds_toArray]); (try simp only [List.set_cons_succ]); (try simp only [List.set_cons_zero]))
  (refine wpAnyH_take (i := 21) (v := ?_) rfl (by kernel_rfl) (by kernel_rfl) (by kernel_rfl) (fun _ _ _ h => h) (Or.inl ⟨by rfl, ?_⟩) (by assumption) ?_; rotate_left; (focus (intro w' hSw; go_simp; try with_reducible rfl)); (try simp only [List.getElem_toArray]); (try simp only [List.getElem_cons_succ]); (try simp only [List.getElem_cons_zero]); (try simp only [Act.put]); (try simp only [List.setIfInBounds_toArray]); (try simp only [List.set_cons_succ]); (try simp only [List.set_cons_zero]))
  (refine wpAnyH_take (i := 22) (v := .agg #[.int .i64 0, .int .u32 n, .slice none 0 0, .slice none 0 0]) rfl (by kernel_rfl) (by kernel_rfl) (by kernel_rfl) (fun _ _ _ h => h) (yieldsIf_build (by rfl) 59 _ rfl (by simp [go_sem]; exact (by rw [HS.out]; kernel_rfl))) (by assumption) ?_; (try simp only [List.getElem_toArray]); (try simp only [List.getElem_cons_succ]); (try simp only [List.getElem_cons_zero]); (try simp only [Act.put]); (try simp only [List.setIfInBounds_toArray]); (try simp only [List.set_cons_succ]); (try simp only [List.set_cons_zero]))
  (refine wpAnyH_ready (rs := [23]) (by kernel_rfl) (by simp) ?_; refine AllReadyH.cons rfl (fun K hK => ?_) AllReadyH.nil; rw [if_pos (by rfl)]; refine wp_store_M 59 _ _ rfl (w.heap.size) _ rfl rfl 59 _ (B1.out.drew) hi (by rfl) (by simp [Value.oneCell']) ?_; intro w6 HB M2; refine hK.out _ _ ((Mod.of_ext (Ext.drew (Ext.refl _))).trans M2) (fun hHeld => ?_); clear hK K; (try simp only [Act.put]); (try simp only [List.getElem_toArray]); (try simp only [List.getElem_cons_succ]); (try simp only [List.getElem_cons_zero]); (try simp only [List.setIfInBounds_toArray]); (try simp only [List.set_cons_succ]); (try simp only [List.set_cons_zero]))
  refine wpAnyH_done (by kernel_rfl) ?_ _
  go_wp2
  refine bodyPost_ret_by (results_cell_row Tryz.results74 _ _ (w.heap.size) 59 _ _ _ rfl HB Tryz.underlying59 rfl hi) rfl ?_
  exact ⟨_, v2, rfl, RdS.nil _ _ _, R2.out.mod hHeld (fun he => hgn he.symm) (fun k hk ha he => by have := (hA k ha).2; omega), Mod.transN M1.out hHeld (fun i hi he => by omega)⟩
end Go.Proofs.YtldijmappinngaaGreatDoor
