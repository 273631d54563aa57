/- The document's examples of packets: they answer true. No condition. -/
import Derived.Test.YtladfocmmhagbaaF02
namespace Go.Proofs.Ytladfocmmhagbaa
open Go.RowKit Go.Kb Go.Kb.Frame

theorem ex1 : Hid (fput [97, 98] = ([0, 0, 0, 2, 97, 98], 0)) := Lib.hid (by decide +kernel)
theorem ex2 : Hid (feedR false ([] ++ [0, 0, 0, 2, 97]) = (([0, 0, 0, 2, 97], false), [], 0)) := Lib.hid (by decide +kernel)
theorem ex3 : Hid (feedR false ([0, 0, 0, 2, 97] ++ [98, 0]) = (([0], false), [[97, 98]], 0)) := Lib.hid (by decide +kernel)
theorem ex4 : Hid (feedR false ([] ++ [0, 0, 0, 0]) = (([], true), [], 5)) := Lib.hid (by decide +kernel)
theorem bs_of {l : List Int} (h : l.all (fun x => decide (0 ≤ x ∧ x ≤ 255)) = true) : Bs l := fun x hx => of_decide_eq_true (List.all_eq_true.1 h x hx)
set_option maxHeartbeats 800000 in
theorem alive_any (w : World) : Calls Try.prog 8 #[] w fun e w' => e = .returned (.bool true) ∧ Ext w w' := by
  have kc := fun (u : World) (C : Array Value) (n c : Nat) => Lib.run_convert_bytes_const (P := Try.prog) u 22 5 C n c Try.underlying22 Try.underlying5
  go_enter Try.func8, Try.ntmps8
  go_wp2_with fail
  refine (put_any _ [97, 98] _ (RI.lit .u8 [97, 98] _ rfl (by simp)) (by simp)).mono ?_
  rintro e w1 ⟨v1, rfl, o1, E1⟩
  rw [ex1.out] at o1 ⊢
  obtain ⟨A1, c1, rfl⟩ := own_shape o1
  have P1 := Lib.hid o1.rd
  clear o1
  go_wp2_with fail
  refine (feed_any _ _ false [] [0, 0, 0, 2, 97] _ (RdN.nil _ _) (RI.lit .u8 [0, 0, 0, 2, 97] _ rfl (by simp)) (bs_of rfl) (bs_of rfl) (by simp) (by simp)).mono ?_
  rintro e w2 ⟨v2, l2, rfl, ⟨vs2, m2, o2, _, r2⟩, E2⟩
  rw [ex2.out] at o2 r2 ⊢
  obtain ⟨A2, c2, rfl⟩ := own_shape r2
  obtain ⟨B2, d2, rfl⟩ := own_shape o2.2.1
  have P2 := Lib.hid r2.rd
  clear o2 r2
  go_wp2_with fail
  refine (feed_any _ _ false [0, 0, 0, 2, 97] [98, 0] _ ((P2.out.alloc _).alloc _) (RI.lit .u8 [98, 0] _ (by simp) (by simp)) (bs_of rfl) (bs_of rfl) (by simp) (by simp)).mono ?_
  rintro e w3 ⟨v3, l3, rfl, ⟨vs3, m3, o3, _, r3⟩, E3⟩
  rw [ex3.out] at o3 r3 ⊢
  obtain ⟨A3, c3, rfl⟩ := own_shape r3
  obtain ⟨g, d3, A5, c5, rfl, hg, hcell, hrd⟩ := o3.one
  have P3 := Lib.hid hrd
  clear o3 r3 hrd
  go_wp2_with fail
  refine (feed_any _ _ false [] [0, 0, 0, 0] _ (RdN.nil _ _) (RI.lit .u8 [0, 0, 0, 0] _ (by simp) (by simp)) (bs_of rfl) (bs_of rfl) (by simp) (by simp)).mono ?_
  rintro e w4 ⟨v4, l4, rfl, ⟨vs4, m4, o4, _, r4⟩, E4⟩
  rw [ex4.out] at o4 r4 ⊢
  obtain ⟨A4, c4, rfl⟩ := own_shape r4
  clear o4 r4
  go_wp2_with fail
  refine (bytes_any _ _ [0, 0, 0, 2, 97, 98] [0, 0, 0, 2, 97, 98] _ (P1.out.ext (by repeat (first | with_reducible exact Ext.refl _ | refine Ext.drewN ?_ _ | refine Ext.drew ?_ | refine Ext.alloc ?_ _ | assumption | (refine Below.trans ?_ (by assumption)) | (refine Ext.trans ?_ (by assumption)) | (refine Below.trans ?_ (Below.mono (by assumption) (by omega)))))) (RI.lit .u8 [0, 0, 0, 2, 97, 98] _ (by simp) (by simp))).mono ?_
  rintro e w5 ⟨rfl, E5⟩
  have hcell5 := cell_ext (show Ext w3 w5 from (by repeat (first | with_reducible exact Ext.refl _ | refine Ext.drewN ?_ _ | refine Ext.drew ?_ | refine Ext.alloc ?_ _ | assumption | (refine Below.trans ?_ (by assumption)) | (refine Ext.trans ?_ (by assumption)) | (refine Below.trans ?_ (Below.mono (by assumption) (by omega)))))) hcell
  clear hcell
  go_wp2_with fail
  refine (bytes_any _ _ [97, 98] [97, 98] _ (P3.out.ext (by repeat (first | with_reducible exact Ext.refl _ | refine Ext.drewN ?_ _ | refine Ext.drew ?_ | refine Ext.alloc ?_ _ | assumption | (refine Below.trans ?_ (by assumption)) | (refine Ext.trans ?_ (by assumption)) | (refine Below.trans ?_ (Below.mono (by assumption) (by omega)))))) (RI.lit .u8 [97, 98] _ (by simp) (by simp))).mono ?_
  rintro e w6 ⟨rfl, E6⟩
  have q1 := ((Blk.new w3 34 #[.slice A3 1 c3, .bool false]).ext (w' := w6) (by repeat (first | with_reducible exact Ext.refl _ | refine Ext.drewN ?_ _ | refine Ext.drew ?_ | refine Ext.alloc ?_ _ | assumption | (refine Below.trans ?_ (by assumption)) | (refine Ext.trans ?_ (by assumption)) | (refine Below.trans ?_ (Below.mono (by assumption) (by omega)))))).two.1
  have q2 := ((Blk.new w4 34 #[.slice A4 0 c4, .bool true]).ext (w' := w6) (by repeat (first | with_reducible exact Ext.refl _ | refine Ext.drewN ?_ _ | refine Ext.drew ?_ | refine Ext.alloc ?_ _ | assumption | (refine Below.trans ?_ (by assumption)) | (refine Ext.trans ?_ (by assumption)) | (refine Below.trans ?_ (Below.mono (by assumption) (by omega)))))).two.2.1
  go_wp2
  go_ret
  exact ⟨rfl, (by repeat (first | with_reducible exact Ext.refl _ | refine Ext.drewN ?_ _ | refine Ext.drew ?_ | refine Ext.alloc ?_ _ | assumption | (refine Below.trans ?_ (by assumption)) | (refine Ext.trans ?_ (by assumption)) | (refine Below.trans ?_ (Below.mono (by assumption) (by omega)))))⟩
end Go.Proofs.Ytladfocmmhagbaa
