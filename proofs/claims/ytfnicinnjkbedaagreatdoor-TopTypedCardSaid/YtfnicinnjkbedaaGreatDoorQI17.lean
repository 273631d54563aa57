/- A line discipline's way of a character that means nothing, or kills, by contract. Conditions: the discipline is one. -/
import Derived.Test.YtfnicinnjkbedaaGreatDoorQH17
namespace Go.Proofs.YtfnicinnjkbedaaGreatDoor
open Go.RowKit Go.Kb
set_option maxRecDepth 100000

set_option maxHeartbeats 800000 in
theorem way_none {S : Nat → Prop} {g : Nat} (d : Ds) (c : Int) (w : World) (h : Dsc S g w d) (h6 : ∀ x ∈ ways6, fitL d.t c x = false) (h2 : ∀ x ∈ ends2, fitL d.t c x = false) :
    Calls Tryz.prog 50 #[.pointer (some ⟨g, 0, none⟩), .int .u8 c] w fun e w' => e = .returned (wyV g (if c = 10 then 97 else 48)) ∧ Ext w w' := by
  have HD := Lib.hid h
  have hm := hmf
  have i6 : idxY (fitL d.t c) ways6 = -1 := idxY_none h6
  have i2 : idxY (fitL d.t c) ends2 = -1 := idxY_none h2
  have B2 : Blk ((w.alloc (.cells #[.pointer (some ⟨g, 0, none⟩)] 65)).alloc (.cells #[.int .u8 c] 5)) w.heap.size 65 #[.pointer (some ⟨g, 0, none⟩)] := (Blk.new _ _ _).alloc _
  have B3 : Blk ((w.alloc (.cells #[.pointer (some ⟨g, 0, none⟩)] 65)).alloc (.cells #[.int .u8 c] 5)) (w.heap.size + 1) 5 #[.int .u8 c] := Blk.at_ _ _ (by simp)
  have AA := Lib.hid (asks_way (S := S) (d := d) (HD.out.ext (((Ext.refl w).alloc _).alloc _)) B2 B3)
  have k2 := B2.cell0
  have k3 := B3.cell0
  have HB2 := Lib.hid B2
  have HB3 := Lib.hid B3
  clear h h6 h2 B2 B3
  obtain ⟨F, hF⟩ : ∃ F, fitL d.t c = F := ⟨_, rfl⟩
  rw [hF] at i6 i2 AA
  clear hF
  have HI6 := Lib.hid i6
  have HI2 := Lib.hid i2
  clear i6 i2
  go_enter Tryz.func50, Tryz.ntmps50
  go_wp2_with fail
  refine (ways_any g _).mono ?_
  rintro e w1 ⟨B, rfl, o1, E1⟩
  have O1 := Lib.hid o1
  clear o1
  go_wp2_with fail
  refine (containsY_any _ _ _ F _ ways6 _ (O1.out.y.ext (by repeat (first | with_reducible exact Ext.refl _ | refine Ext.drewN ?_ _ | refine Ext.drew ?_ | refine Ext.alloc ?_ _ | assumption | (refine Below.trans ?_ (by assumption)) | (refine Ext.trans ?_ (by assumption)) | (refine Below.trans ?_ (Below.mono (by assumption) (by omega)))))) (AA.out.ext (by repeat (first | with_reducible exact Ext.refl _ | refine Ext.drewN ?_ _ | refine Ext.drew ?_ | refine Ext.alloc ?_ _ | assumption | (refine Below.trans ?_ (by assumption)) | (refine Ext.trans ?_ (by assumption)) | (refine Below.trans ?_ (Below.mono (by assumption) (by omega))))))).mono ?_
  rintro e w2 ⟨rfl, E2⟩
  rw [HI6.out]
  have k2 := cell_ext (Ext.trans E1 E2) k2
  have k3 := cell_ext (Ext.trans E1 E2) k3
  by_cases hc : c = 10
  · subst hc
    go_wp2
    go_ret
    exact ⟨rfl, (by repeat (first | with_reducible exact Ext.refl _ | refine Ext.drewN ?_ _ | refine Ext.drew ?_ | refine Ext.alloc ?_ _ | assumption | (refine Below.trans ?_ (by assumption)) | (refine Ext.trans ?_ (by assumption)) | (refine Below.trans ?_ (Below.mono (by assumption) (by omega)))))⟩
  · have hc1 : (c == 10) = false := by simpa using hc
    go_wp2_with fail
    refine (ends_any g _).mono ?_
    rintro e w3 ⟨B9, rfl, o3, E3⟩
    have O3 := Lib.hid o3
    clear o3
    have k2 := cell_ext E3 k2
    go_wp2_with fail
    refine (containsY_any _ _ _ F _ ends2 _ (O3.out.y.ext (by repeat (first | with_reducible exact Ext.refl _ | refine Ext.drewN ?_ _ | refine Ext.drew ?_ | refine Ext.alloc ?_ _ | assumption | (refine Below.trans ?_ (by assumption)) | (refine Ext.trans ?_ (by assumption)) | (refine Below.trans ?_ (Below.mono (by assumption) (by omega)))))) (AA.out.ext (by repeat (first | with_reducible exact Ext.refl _ | refine Ext.drewN ?_ _ | refine Ext.drew ?_ | refine Ext.alloc ?_ _ | assumption | (refine Below.trans ?_ (by assumption)) | (refine Ext.trans ?_ (by assumption)) | (refine Below.trans ?_ (Below.mono (by assumption) (by omega))))))).mono ?_
    rintro e w4 ⟨rfl, E4⟩
    rw [HI2.out]
    have k2 := cell_ext E4 k2
    go_wp2
    go_ret
    exact ⟨by simp, (by repeat (first | with_reducible exact Ext.refl _ | refine Ext.drewN ?_ _ | refine Ext.drew ?_ | refine Ext.alloc ?_ _ | assumption | (refine Below.trans ?_ (by assumption)) | (refine Ext.trans ?_ (by assumption)) | (refine Below.trans ?_ (Below.mono (by assumption) (by omega)))))⟩
set_option maxHeartbeats 800000 in
theorem way_kill {S : Nat → Prop} {g : Nat} (d : Ds) (c : Int) (w : World) (h : Dsc S g w d) (h6 : idxY (fitL d.t c) ways6 = 3) :
    Calls Tryz.prog 50 #[.pointer (some ⟨g, 0, none⟩), .int .u8 c] w fun e w' => e = .returned (wyV g 120) ∧ Ext w w' := by
  have HD := Lib.hid h
  have hm := hmf
  have B2 : Blk ((w.alloc (.cells #[.pointer (some ⟨g, 0, none⟩)] 65)).alloc (.cells #[.int .u8 c] 5)) w.heap.size 65 #[.pointer (some ⟨g, 0, none⟩)] := (Blk.new _ _ _).alloc _
  have B3 : Blk ((w.alloc (.cells #[.pointer (some ⟨g, 0, none⟩)] 65)).alloc (.cells #[.int .u8 c] 5)) (w.heap.size + 1) 5 #[.int .u8 c] := Blk.at_ _ _ (by simp)
  have AA := Lib.hid (asks_way (S := S) (d := d) (HD.out.ext (((Ext.refl w).alloc _).alloc _)) B2 B3)
  have k2 := B2.cell0
  have k3 := B3.cell0
  have HB2 := Lib.hid B2
  have HB3 := Lib.hid B3
  obtain ⟨F, hF⟩ : ∃ F, fitL d.t c = F := ⟨_, rfl⟩
  rw [hF] at h6 AA
  have HI6 := Lib.hid h6
  clear h h6 B2 B3 hF
  go_enter Tryz.func50, Tryz.ntmps50
  go_wp2_with fail
  refine (ways_any g _).mono ?_
  rintro e w1 ⟨B, rfl, o1, E1⟩
  have O1 := Lib.hid o1
  clear o1
  go_wp2_with fail
  refine (containsY_any _ _ _ F _ ways6 _ (O1.out.y.ext (by repeat (first | with_reducible exact Ext.refl _ | refine Ext.drewN ?_ _ | refine Ext.drew ?_ | refine Ext.alloc ?_ _ | assumption | (refine Below.trans ?_ (by assumption)) | (refine Ext.trans ?_ (by assumption)) | (refine Below.trans ?_ (Below.mono (by assumption) (by omega)))))) (AA.out.ext (by repeat (first | with_reducible exact Ext.refl _ | refine Ext.drewN ?_ _ | refine Ext.drew ?_ | refine Ext.alloc ?_ _ | assumption | (refine Below.trans ?_ (by assumption)) | (refine Ext.trans ?_ (by assumption)) | (refine Below.trans ?_ (Below.mono (by assumption) (by omega))))))).mono ?_
  rintro e w2 ⟨rfl, E2⟩
  rw [HI6.out]
  go_wp2_with fail
  refine (indexY_any _ _ _ F _ ways6 _ (O1.out.y.ext (by repeat (first | with_reducible exact Ext.refl _ | refine Ext.drewN ?_ _ | refine Ext.drew ?_ | refine Ext.alloc ?_ _ | assumption | (refine Below.trans ?_ (by assumption)) | (refine Ext.trans ?_ (by assumption)) | (refine Below.trans ?_ (Below.mono (by assumption) (by omega)))))) (AA.out.ext (by repeat (first | with_reducible exact Ext.refl _ | refine Ext.drewN ?_ _ | refine Ext.drew ?_ | refine Ext.alloc ?_ _ | assumption | (refine Below.trans ?_ (by assumption)) | (refine Ext.trans ?_ (by assumption)) | (refine Below.trans ?_ (Below.mono (by assumption) (by omega))))))).mono ?_
  rintro e w3 ⟨rfl, E3⟩
  rw [HI6.out]
  obtain ⟨b, off, x, hA, hd, q0, q1, q2⟩ := wy_at ((O1.out.y.ext E2).ext E3) (j := 3) (by decide)
  have hx : x = ⟨4, false, 120⟩ := by
    have h9 := hd.out
    simp only [ways6, List.getElem?_cons_succ, List.getElem?_cons_zero, Option.some.injEq] at h9
    exact h9.symm
  subst hx
  simp only [Option.some.injEq, Addr.mk.injEq, and_true] at hA
  obtain ⟨rfl, rfl⟩ := hA
  clear hd
  simp only [Nat.zero_add, Nat.reduceMul, Nat.reduceAdd] at q2
  go_wp2
  go_ret
  exact ⟨rfl, (by repeat (first | with_reducible exact Ext.refl _ | refine Ext.drewN ?_ _ | refine Ext.drew ?_ | refine Ext.alloc ?_ _ | assumption | (refine Below.trans ?_ (by assumption)) | (refine Ext.trans ?_ (by assumption)) | (refine Below.trans ?_ (Below.mono (by assumption) (by omega)))))⟩
end Go.Proofs.YtfnicinnjkbedaaGreatDoor
