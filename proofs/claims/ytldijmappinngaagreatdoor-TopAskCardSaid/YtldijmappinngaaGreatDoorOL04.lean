/- octet's reader: what takes a text, and the rest, by contract, where there are bytes enough. Conditions: the bytes begin with the field's. -/
import Derived.Test.YtldijmappinngaaGreatDoorOK04
namespace Go.Proofs.YtldijmappinngaaGreatDoor
open Go.RowKit Go.Kb
set_option maxRecDepth 100000

theorem ub_one {l : List Int} : ∀ u ∈ l.map (Value.int .u8), u.oneCell' = true := by
  intro u hu
  obtain ⟨x, _, rfl⟩ := List.mem_map.1 hu
  rfl
set_option maxHeartbeats 800000 in
theorem rtext_any (g : Nat) (A : Nat → Prop) (v : Value) (t r : List Int) (w : World) (h : Re g A w v (Fr.four t.length ++ (t ++ r))) (hA : ∀ k, A k → k ≠ g ∧ k < w.heap.size) (hn : t.length ≤ 32768) :
    Calls Tryz.prog 77 #[.pointer (some ⟨g, 0, none⟩)] w (RdP g A 0 t r w) := by
  have hi : (Tryz.prog.info? 59).map (·.size) = some 4 := by kernel_rfl
  have hgn : ¬ w.heap.size = g := by have := h.blk.lt; omega
  obtain ⟨N, hN⟩ : ∃ N, t.length = N := ⟨_, rfl⟩
  have HN := Lib.hid hN
  rw [hN] at h hn
  have HT := Lib.hid (fun w' (h' : Re g A w' v (Fr.four (N : Nat) ++ (t ++ r))) (h2 : w.heap.size ≤ w'.heap.size) => rnum_any g A v N (t ++ r) w' h' (fun k hk => ⟨(hA k hk).1, Nat.lt_of_lt_of_le (hA k hk).2 h2⟩) ⟨by omega, by omega⟩)
  have HK := Lib.hid (fun w' v' (h' : Re g A w' v' (t ++ r)) (h2 : w.heap.size ≤ w'.heap.size) => take_any g A v' (t ++ r) N w' h' (fun k hk => ⟨(hA k hk).1, Nat.lt_of_lt_of_le (hA k hk).2 h2⟩) (by rw [← hN]; simp))
  have H := Lib.hid h
  have hwr : IntKind.i64.wrap (N : Int) = (N : Int) := by unfold IntKind.wrap; simp [IntKind.bits, IntKind.signed]; omega
  have B0 := Lib.hid (Blk.new w 59 #[.int .i64 0, .int .u32 0, .slice none 0 0, .slice none 0 0])
  have E0 : Ext w (w.alloc (.cells #[.int .i64 0, .int .u32 0, .slice none 0 0, .slice none 0 0] 59)) := (Ext.refl w).alloc _
  have hle : ¬ (32768 : Int) < (N : Int) := by omega
  clear h hN
  go_enter Tryz.func77, Tryz.ntmps77
  go_wp2_with fail
  refine (HT.out _ (H.out.ext E0) E0.size).mono ?_
  rintro e w1 ⟨v1, v2, rfl, R1, R2, M1⟩
  obtain ⟨A1, c1, rfl, -, -⟩ := R1.shape
  have hs1 := Nat.le_trans E0.size M1.size
  have hs9 : w.heap.size < w1.heap.size := by have h9 := M1.size; simp at h9; omega
  have B1 := Lib.hid (B0.out.mod M1 hgn)
  obtain ⟨k0, k1, -, -⟩ := R2.blk.two
  have R2 := Lib.hid R2
  have M1 := Lib.hid ((Mod.of_ext E0).trans M1)
  clear R1
  have hfd : ∀ w, (Instr.field 59 (.agg #[.int .i64 0, .int .u32 N, .slice A1 0 c1, .slice none 0 0]) 1).run Tryz.prog w = .ok (.int .u32 N) w := fun _ => by kernel_rfl
  go_wp2_with fail
  refine (HK.out _ _ R2.out hs1).mono ?_
  rintro e w2 ⟨v3, v4, rfl, R3, R4, M2⟩
  have R3 := Lib.hid (show RI .u8 w2 v3 t by
    have h9 := RdS.ri R3
    rw [← HN.out, List.take_left' rfl] at h9
    exact h9)
  have R4 := Lib.hid (show Re g A w2 v4 r by
    have h9 := R4
    rw [← HN.out, List.drop_left' rfl] at h9
    exact h9)
  have B2 := Lib.hid (B1.out.mod M2 hgn)
  have hs2 := M2.size
  have M2 := Lib.hid (M1.out.trans M2)
  clear B1 R2 M1 k0 k1
  go_wp2_with fail
  refine (Fr.clone_u8 _ _ _ _ R3.out ub_one (by rw [HN.out]; omega)).mono ?_
  rintro e w3 ⟨v5, rfl, o5, E3⟩
  have HO := Lib.hid ((OwnS.of_ints (B := fun _ => False) o5).rd (A := fun k => w2.heap.size ≤ k) (fun k hk => hk) (fun _ h => h.elim))
  have B3 := Lib.hid (B2.out.ext E3)
  obtain ⟨A5, c5, rfl⟩ := own_shape o5
  clear o5
  go_wp2_with ((refine wpList_store_M rfl 59 _ _ rfl (w.heap.size) _ rfl rfl 59 _ B3.out hi rfl (by simp [Value.oneCell']) ?_; intro w4 HB M4))
  refine bodyPost_ret_by (results_cell_row Tryz.results77 _ _ (w.heap.size) 59 _ _ _ rfl HB Tryz.underlying59 rfl hi) rfl ?_
  exact ⟨_, v4, rfl, (HO.out.mod M4 (fun k _ hk he => by omega)).mono (fun k _ hk => by omega), (R4.out.ext E3).mod M4 (fun he => hgn he.symm) (fun k hk ha he => by have := (hA k ha).2; omega), Mod.transN (M2.out.ext E3) M4 (fun k hk he => by omega)⟩
set_option maxHeartbeats 800000 in
theorem rrest_any (g : Nat) (A : Nat → Prop) (v : Value) (t : List Int) (w : World) (h : Re g A w v t) (hn : t.length ≤ 33792) :
    Calls Tryz.prog 83 #[.pointer (some ⟨g, 0, none⟩)] w (RdP g A 0 t [] w) := by
  have hi : (Tryz.prog.info? 59).map (·.size) = some 4 := by kernel_rfl
  have hgn : ¬ w.heap.size = g := by have := h.blk.lt; omega
  obtain ⟨N, hN⟩ : ∃ N, t.length = N := ⟨_, rfl⟩
  have HN := Lib.hid hN
  have H := Lib.hid h
  have B0 := Lib.hid (Blk.new w 59 #[.int .i64 0, .int .u32 0, .slice none 0 0, .slice none 0 0])
  have E0 : Ext w (w.alloc (.cells #[.int .i64 0, .int .u32 0, .slice none 0 0, .slice none 0 0] 59)) := (Ext.refl w).alloc _
  obtain ⟨k0, k1, -, -⟩ := (H.out.blk.ext E0).two
  clear h hN
  go_enter Tryz.func83, Tryz.ntmps83
  go_wp2_with fail
  refine (Fr.clone_u8 _ _ _ _ (RdS.ri (H.out.rd.ext E0)) ub_one (by omega)).mono ?_
  rintro e w1 ⟨v1, rfl, o1, E1⟩
  have HO := Lib.hid ((OwnS.of_ints (B := fun _ => False) o1).rd (A := fun k => w.heap.size + 1 ≤ k) (fun k hk => by simp at hk; exact hk) (fun _ h => h.elim))
  rw [HN.out] at o1
  obtain ⟨A1, c1, rfl⟩ := own_shape o1
  clear o1 k0 k1
  have B1 := Lib.hid (B0.out.ext E1)
  have E01 : Ext w w1 := E0.trans E1
  clear E1 E0
  have hs1 : w.heap.size < w1.heap.size := B1.out.lt
  have hz : (if 33792 < N then (6 : Int) else 0) = 0 := if_neg (by rw [← HN.out]; omega)
  have HR := Lib.hid (fun w' => frest_any 0 0 A1 N c1 (.slice none 0 0) w')
  rw [hz] at HR
  clear hz
  go_upto_region 2 with fail
  obtain ⟨W5, hW5⟩ : ∃ W5, W5 = w1.alloc (.cells #[.int .i64 0, .int .u32 0, .slice A1 N c1, .slice none 0 0] 59) := ⟨_, rfl⟩
  have E5 : Ext w1 W5 := by rw [hW5]; exact (Ext.refl _).alloc _
  have P5 := Lib.hid (show Blk W5 w1.heap.size 59 #[.int .i64 0, .int .u32 0, .slice A1 N c1, .slice none 0 0] by rw [hW5]; exact Blk.new w1 _ _)
  rw [← hW5]
  clear hW5
  obtain ⟨n5, hn5⟩ : ∃ n5, w1.heap.size = n5 := ⟨_, rfl⟩
  rw [hn5] at P5 hs1 ⊢
  have E05 : Ext w W5 := E01.trans E5
  go_wp2_with (first | (refine wpList_load_row rfl 59 _ rfl _ rfl 59 _ _ _ P5.out Tryz.underlying59 rfl hi ?_) | fail)
  refine (HR.out _).mono ?_
  rintro e w6 ⟨rfl, E6⟩
  have E06 := E05.trans E6
  have G6 := H.out.blk.ext E06
  obtain ⟨k0, k1, f0, f1⟩ := G6.two
  have hgl := H.out.blk.lt
  have M6 : Mod (fun k => k = g) w6 ((w6.setCell ⟨g, 1, none⟩ (.int .i64 0)).setCell ⟨g, 0, none⟩ (.slice none 0 0)) := ((Mod.refl _ _).set1 _).set1 _
  have P6 := Lib.hid ((P5.out.ext E6).mod M6 (by omega))
  have B6 := Lib.hid (((B1.out.ext E5).ext E6).mod M6 hgn)
  have G7 := Lib.hid (show Blk ((w6.setCell ⟨g, 1, none⟩ (.int .i64 0)).setCell ⟨g, 0, none⟩ (.slice none 0 0)) g 112 #[.slice none 0 0, .int .i64 0] by simpa using (G6.set_ 1 (.int .i64 0)).set_ 0 (.slice none 0 0))
  have MM := Lib.hid ((Mod.of_ext E06).trans M6)
  have HV := Lib.hid (((HO.out.ext (E5.trans E6)).mod (S := fun k => k = g) M6 (fun k _ hk he => by omega)))
  clear E01 E5 E05 E6 E06 G6 M6 B0 B1
  go_wp2_with (first | (refine wpList_load_row rfl 59 _ rfl _ rfl 59 _ _ _ P6.out Tryz.underlying59 rfl hi ?_) | (refine wpList_store_M rfl 59 _ _ rfl (w.heap.size) _ rfl rfl 59 _ B6.out hi rfl (by simp [Value.oneCell']) ?_; intro w7 HB M7))
  refine bodyPost_ret_by (results_cell_row Tryz.results83 _ _ (w.heap.size) 59 _ _ _ rfl HB Tryz.underlying59 rfl hi) rfl ?_
  exact ⟨_, _, rfl, (HV.out.mod M7 (fun k _ hk he => by omega)).mono (fun k _ hk => by omega), ⟨G7.out.mod M7 (fun he => hgn he.symm), RdS.nil _ _ _⟩, Mod.transN MM.out M7 (fun k hk he => by omega)⟩
end Go.Proofs.YtldijmappinngaaGreatDoor
