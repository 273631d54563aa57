/- shaken: octets, packets and back: the tops' example answers true. No condition. -/
import Derived.Test.YtldijmappinngaaGreatDoorSJ17
import Derived.Test.YtldijmappinngaaGreatDoorFD17
namespace Go.Proofs.YtldijmappinngaaGreatDoor
open Go.RowKit Go.Kb Go.Kb.Frame
open Fr
set_option maxRecDepth 100000

theorem exs1 : Hid (fput [1] = ([0, 0, 0, 1, 1], 0)) := Lib.hid (by decide)
theorem exs2 : Hid (feedR false ([] ++ [0, 0, 0, 1, 1]) = (([], false), ([[1]], 0))) := Lib.hid (by decide)
theorem bs_of {l : List Int} (h : l.all (fun x => decide (0 ≤ x ∧ x ≤ 255)) = true) : Bs l := fun x hx => of_decide_eq_true (List.all_eq_true.1 h x hx)
set_option maxHeartbeats 800000 in
theorem shaken_any (w : World) : Calls Tryz.prog 5 #[] w fun e w' => e = .returned (.bool true) ∧ Ext w w' := by
  go_enter Tryz.func5, Tryz.ntmps5
  go_wp2_with fail
  refine (owrite1 _ _ (Blk.new _ _ _)).mono ?_
  rintro e w1 ⟨A1, c1, rfl, o1, E1⟩
  have R1 := Lib.hid (RdY.ri o1.y)
  clear o1
  go_wp2_with fail
  refine (put_any _ [1] _ R1.out (by simp)).mono ?_
  rintro e w2 ⟨v2, rfl, o2, E2⟩
  rw [exs1.out] at o2 ⊢
  obtain ⟨A2, c2, rfl⟩ := own_shape o2
  have P2 := Lib.hid o2.rd
  clear o2 R1
  go_wp2_with fail
  refine (feed_any _ _ false [] [0, 0, 0, 1, 1] _ (RdN.nil _ _) P2.out (bs_of rfl) (bs_of rfl) (by simp) (by simp)).mono ?_
  rintro e w3 ⟨v3, l3, rfl, ⟨vs3, m3, o3, _, r3⟩, E3⟩
  rw [exs2.out] at o3 r3 ⊢
  obtain ⟨A3, c3, rfl⟩ := own_shape r3
  obtain ⟨g, d3, A5, c5, rfl, hg, hcell, hrd⟩ := o3.one
  have P3 := Lib.hid hrd
  clear o3 r3 hrd
  go_wp2_with fail
  refine (bytes_any _ _ [1] [1] _ (P3.out.ext (by repeat (first | with_reducible exact Ext.refl _ | refine Ext.drewN ?_ _ | refine Ext.drew ?_ | refine Ext.alloc ?_ _ | assumption | (refine Below.trans ?_ (by assumption)) | (refine Ext.trans ?_ (by assumption)) | (refine Below.trans ?_ (Below.mono (by assumption) (by omega)))))) (RI.lit .u8 [1] _ (by simp) (by simp))).mono ?_
  rintro e w4 ⟨rfl, E4⟩
  go_wp2
  go_ret
  exact ⟨rfl, (by repeat (first | with_reducible exact Ext.refl _ | refine Ext.drewN ?_ _ | refine Ext.drew ?_ | refine Ext.alloc ?_ _ | assumption | (refine Below.trans ?_ (by assumption)) | (refine Ext.trans ?_ (by assumption)) | (refine Below.trans ?_ (Below.mono (by assumption) (by omega)))))⟩
end Go.Proofs.YtldijmappinngaaGreatDoor
