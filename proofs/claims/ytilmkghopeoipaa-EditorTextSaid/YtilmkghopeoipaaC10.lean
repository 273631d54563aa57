/- Editor: the document's examples answer true. No condition. -/
import Derived.Test.YtilmkghopeoipaaB10
import Derived.Test.YtilmkghopeoipaaMoF
namespace Go.Proofs.Ytilmkghopeoipaa
open Go.RowKit Go.Kb

theorem exW : wordL (hasL defT 42) [97, 98, 32, 99, 100, 32] = 3 := by decide +kernel
theorem exS : startL (hasL (setL defT 42 true) 42) [97, 195, 169] = 1 := by decide +kernel
theorem exE : startL (hasL defT 42) [97, 195, 169] = 2 := by decide +kernel
set_option maxHeartbeats 800000 in
theorem alive_any (w : World) : Calls Try.prog 7 #[] w fun e w' => e = .returned (.bool true) ∧ Ext w w' := by
  have kc := fun (u : World) (C : Array Value) (n c : Nat) => Lib.run_convert_bytes_const (P := Try.prog) u 27 5 C n c Try.underlying27 Try.underlying5
  have hD := default_any
  have hW := fun v w' hr => word_any defT v [97, 98, 32, 99, 100, 32] w' defT_ok hr (by simp [Bs]) (by simp)
  have hE := fun v w' hr => erase_any defT v [97, 195, 169] w' defT_ok hr (by simp [Bs]) (by simp)
  have hS := fun w' => set_any defT 42 true w' defT_ok
  have hF := fun v w' hr => erase_any (setL defT 42 true) v [97, 195, 169] w' (setL_ok defT_ok 42 true) hr (by simp [Bs]) (by simp)
  rw [exW] at hW
  rw [exE] at hE
  rw [exS] at hF
  have h1 := Lib.hid defT.one
  have hn := Tm.size defT_ok
  generalize (setL defT 42 true).arr = ct at hS hF
  generalize defT.arr = cs at hD hW hE hS h1 hn
  have hi : (Try.prog.info? 26).map (·.size) = some cs.size := by rw [hn]; kernel_rfl
  have hn24 := Lib.hid hn
  go_enter Try.func7, Try.ntmps7
  (go_wp2_with fail; refine (hD _).mono ?_; rintro e w1 ⟨rfl, E1⟩)
  go_wp2_with (first | (refine wpList_store_A rfl 26 _ _ rfl w1.heap.size _ rfl rfl 26 _ (show Blk _ _ _ _ from Blk.at_ _ _ (by simp)) hi (by first | rfl | (rw [hn24.out]; rfl)) h1.out ?_; intro w2 Hw2 Ew2; have Ew2 := Ew2 w1.heap.size w1 (by repeat (first | with_reducible exact Ext.refl _ | refine Ext.drewN ?_ _ | refine Ext.drew ?_ | refine Ext.alloc ?_ _ | assumption | (refine Below.trans ?_ (by assumption)) | (refine Ext.trans ?_ (by assumption)) | (refine Below.trans ?_ (Below.mono (by assumption) (by omega))))) (Nat.le_refl _); have Hw2 := Lib.hid Hw2) | (refine wpList_load_row rfl 26 _ rfl _ rfl 26 _ _ _ Hw2.out Try.underlying26 rfl hi ?_))
  refine (hW _ _ (RI.lit .u8 [97, 98, 32, 99, 100, 32] _ rfl (by simp))).mono ?_
  rintro e w3 ⟨A1, c1, B1, d1, rfl, r1, s1, E3⟩
  have r1 := Lib.hid (RdS.ri r1)
  have t1 := Lib.hid (RdS.ri s1)
  have Hw3 := Lib.hid ((Blk.alloc Hw2.out _).ext E3)
  have E13 : Ext w w3 := (by repeat (first | with_reducible exact Ext.refl _ | refine Ext.drewN ?_ _ | refine Ext.drew ?_ | refine Ext.alloc ?_ _ | assumption | (refine Below.trans ?_ (by assumption)) | (refine Ext.trans ?_ (by assumption)) | (refine Below.trans ?_ (Below.mono (by assumption) (by omega)))))
  clear E3 Hw2 Ew2
  go_wp2_with (first | (refine wpList_load_row rfl 26 _ rfl _ rfl 26 _ _ _ Hw3.out Try.underlying26 rfl hi ?_) | (go_at_call 14; refine (hS _).mono ?_; rintro e w4 ⟨rfl, E4⟩))
  refine (hF _ _ (RI.lit .u8 [97, 195, 169] _ rfl (by simp))).mono ?_
  rintro e w5 ⟨A2, c2, B2, d2, rfl, r2, s2, E5⟩
  clear r2 s2
  have Hw5 := Lib.hid ((Blk.alloc (Hw3.out.ext E4) _).ext E5)
  have E35 : Ext w3 w5 := (by repeat (first | with_reducible exact Ext.refl _ | refine Ext.drewN ?_ _ | refine Ext.drew ?_ | refine Ext.alloc ?_ _ | assumption | (refine Below.trans ?_ (by assumption)) | (refine Ext.trans ?_ (by assumption)) | (refine Below.trans ?_ (Below.mono (by assumption) (by omega)))))
  clear E4 E5 Hw3
  go_wp2_with (first | (refine wpList_load_row rfl 26 _ rfl _ rfl 26 _ _ _ Hw5.out Try.underlying26 rfl hi ?_))
  refine (hE _ _ (RI.lit .u8 [97, 195, 169] _ rfl (by simp))).mono ?_
  rintro e w6 ⟨A3, c3, B3, d3, rfl, r3, s3, E6⟩
  clear r3 s3
  have E36 : Ext w3 w6 := (by repeat (first | with_reducible exact Ext.refl _ | refine Ext.drewN ?_ _ | refine Ext.drew ?_ | refine Ext.alloc ?_ _ | assumption | (refine Below.trans ?_ (by assumption)) | (refine Ext.trans ?_ (by assumption)) | (refine Below.trans ?_ (Below.mono (by assumption) (by omega)))))
  have s1 : (convert 27 9 (.slice A1 3 c1)).run Try.prog w6 = .ok (.string { data := #[97, 98, 32] }) w6 := RI.str (l := [97, 98, 32]) Try.underlying27 Try.underlying5 Try.underlying9 (RdN.ext r1.out E36)
  have s2 : (convert 27 9 (.slice B1 3 d1)).run Try.prog w6 = .ok (.string { data := #[99, 100, 32] }) w6 := RI.str (l := [99, 100, 32]) Try.underlying27 Try.underlying5 Try.underlying9 (RdN.ext t1.out E36)
  go_wp2
  go_ret
  exact ⟨rfl, (by repeat (first | with_reducible exact Ext.refl _ | refine Ext.drewN ?_ _ | refine Ext.drew ?_ | refine Ext.alloc ?_ _ | assumption | (refine Below.trans ?_ (by assumption)) | (refine Ext.trans ?_ (by assumption)) | (refine Below.trans ?_ (Below.mono (by assumption) (by omega)))))⟩
end Go.Proofs.Ytilmkghopeoipaa
