/- Modes: the document's examples answer true. No condition. -/
import Derived.Test.YtpngnmokagbekaaC08
import Derived.Test.YtpngnmokagbekaaMoB
namespace Go.Proofs.Ytpngnmokagbekaa
open Go.RowKit Go.Kb

def exl1 : List Int := [3, 0, 0, 0, 8, 53, 0, 0, 0, 0, 0]
def T1 : Tm := (decL [3, 0, 0, 0, 8, 53, 0, 0, 0, 0, 0] defT).1
theorem ex1 : decL [3, 0, 0, 0, 8, 53, 0, 0, 0, 0, 0] defT = (T1, 0) := by
  have h : (decL [3, 0, 0, 0, 8, 53, 0, 0, 0, 0, 0] defT).2 = 0 := by decide +kernel
  exact Prod.ext rfl h
theorem T1_ok : T1.Ok := decL_ok 11 _ _ (by simp) defT_ok (by simp [Bs])
theorem ex2 : decL [160, 1] T1 = (T1, 0) := decL_end (.inr (by decide))
theorem ex3 : decL [1, 0, 0, 1, 0] T1 = (zeroT, 5) := by decide +kernel
theorem ex4 : decL [1, 0] T1 = (zeroT, 3) := decL_short (by decide) (by simp)
theorem ex5 : isL T1 3 8 = true := by decide +kernel
theorem ex6 : hasL T1 53 = false := by decide +kernel
theorem ex7 : hasL T1 51 = true := by decide +kernel
set_option maxRecDepth 100000 in
set_option maxHeartbeats 800000 in
theorem alive_any (w : World) : Calls Try.prog 9 #[] w fun e w' => e = .returned (.bool true) ∧ Ext w w' := by
  have hD := default_any
  have d1 := fun v w' hv => decode_any defT v [3, 0, 0, 0, 8, 53, 0, 0, 0, 0, 0] w' defT_ok hv (by simp [Bs])
  have d2 := fun v w' hv => decode_any T1 v [160, 1] w' T1_ok hv (by simp [Bs])
  have d3 := fun v w' hv => decode_any T1 v [1, 0, 0, 1, 0] w' T1_ok hv (by simp [Bs])
  have d4 := fun v w' hv => decode_any T1 v [1, 0] w' T1_ok hv (by simp [Bs])
  have d5 := fun w' => is_any T1 3 8 w' T1_ok
  have d6 := fun w' => has_any T1 53 w' T1_ok
  have d7 := fun w' => has_any T1 51 w' T1_ok
  have hE := fun w' => tm_eql T1_ok T1_ok w'
  rw [ex1] at d1
  rw [ex2] at d2
  rw [ex3] at d3
  rw [ex4] at d4
  rw [ex5] at d5
  rw [ex6] at d6
  rw [ex7] at d7
  simp only at d1 d2 d3 d4
  rw [decide_eq_true rfl] at hE
  have h1 := Lib.hid T1.one
  have hz1 := Lib.hid zeroT.one
  have hn := Tm.size T1_ok
  have hnz := Tm.size zeroT_ok
  generalize T1.arr = cs at *
  generalize zeroT.arr = cz at *
  generalize defT.arr = cd at *
  have hi : (Try.prog.info? 27).map (·.size) = some cs.size := by rw [hn]; kernel_rfl
  have hiz : (Try.prog.info? 27).map (·.size) = some cz.size := by rw [hnz]; kernel_rfl
  have hn24 := Lib.hid hn
  have hz24 := Lib.hid hnz
  have D1 := Lib.hid d1
  have D2 := Lib.hid d2
  have D3 := Lib.hid d3
  have D4 := Lib.hid d4
  have D5 := Lib.hid d5
  have D6 := Lib.hid d6
  have D7 := Lib.hid d7
  have HE := Lib.hid hE
  clear d1 d2 d3 d4 d5 d6 d7 hE
  go_enter Try.func9, Try.ntmps9
  go_wp2_with fail
  (with_reducible refine (hD _).mono ?_); rintro e w1 ⟨rfl, E1⟩
  go_wp2_with fail
  refine (D1.out _ _ (RdN.ext (RI.lit (w := w) .u8 [3, 0, 0, 0, 8, 53, 0, 0, 0, 0, 0] _ rfl (by simp)) (by repeat (first | with_reducible exact Ext.refl _ | refine Ext.drewN ?_ _ | refine Ext.drew ?_ | refine Ext.alloc ?_ _ | assumption | (refine Below.trans ?_ (by assumption)) | (refine Ext.trans ?_ (by assumption)) | (refine Below.trans ?_ (Below.mono (by assumption) (by omega))))))).mono ?_; rintro e w2 ⟨rfl, E2⟩
  have E02 : Ext w w2 := (by repeat (first | with_reducible exact Ext.refl _ | refine Ext.drewN ?_ _ | refine Ext.drew ?_ | refine Ext.alloc ?_ _ | assumption | (refine Below.trans ?_ (by assumption)) | (refine Ext.trans ?_ (by assumption)) | (refine Below.trans ?_ (Below.mono (by assumption) (by omega)))))
  clear E1 E2
  go_wp2_with (first | (refine wpList_store_A rfl 27 _ _ rfl w2.heap.size _ rfl rfl 27 _ (show Blk _ _ _ _ from Blk.at_ _ _ (by simp)) hi (by first | rfl | (rw [hn24.out]; rfl)) h1.out ?_; intro w3 Hw3 Ew3; have Ew3 := Ew3 w2.heap.size w2 (by repeat (first | with_reducible exact Ext.refl _ | refine Ext.drewN ?_ _ | refine Ext.drew ?_ | refine Ext.alloc ?_ _ | assumption | (refine Below.trans ?_ (by assumption)) | (refine Ext.trans ?_ (by assumption)) | (refine Below.trans ?_ (Below.mono (by assumption) (by omega))))) (Nat.le_refl _); have Hw3 := Lib.hid Hw3) | (refine wpList_load_row rfl 27 _ rfl _ rfl 27 _ _ _ (Blk.ext Hw3.out (show Ext w3 _ from (by repeat (first | with_reducible exact Ext.refl _ | refine Ext.drewN ?_ _ | refine Ext.drew ?_ | refine Ext.alloc ?_ _ | assumption | (refine Below.trans ?_ (by assumption)) | (refine Ext.trans ?_ (by assumption)) | (refine Below.trans ?_ (Below.mono (by assumption) (by omega))))))) Try.underlying27 rfl hi ?_))
  refine (D2.out _ _ (RI.lit (w := w3) .u8 [160, 1] _ rfl (by simp))).mono ?_; rintro e w4 ⟨rfl, E4⟩
  have hT := Lib.hid (Blk.ext Hw3.out (show Ext w3 w4 from (by repeat (first | with_reducible exact Ext.refl _ | refine Ext.drewN ?_ _ | refine Ext.drew ?_ | refine Ext.alloc ?_ _ | assumption | (refine Below.trans ?_ (by assumption)) | (refine Ext.trans ?_ (by assumption)) | (refine Below.trans ?_ (Below.mono (by assumption) (by omega)))))))
  have E04 : Ext w w4 := (E02.trans Ew3).trans (show Ext w3 w4 from (by repeat (first | with_reducible exact Ext.refl _ | refine Ext.drewN ?_ _ | refine Ext.drew ?_ | refine Ext.alloc ?_ _ | assumption | (refine Below.trans ?_ (by assumption)) | (refine Ext.trans ?_ (by assumption)) | (refine Below.trans ?_ (Below.mono (by assumption) (by omega))))))
  clear E4 Hw3 Ew3 E02
  go_wp2_with (first | (refine wpList_store_A rfl 27 _ _ rfl w4.heap.size _ rfl rfl 27 _ (show Blk _ _ _ _ from Blk.at_ _ _ (by simp)) hi (by first | rfl | (rw [hn24.out]; rfl)) h1.out ?_; intro w5 Hw5 Ew5; have Ew5 := Ew5 w4.heap.size w4 (by repeat (first | with_reducible exact Ext.refl _ | refine Ext.drewN ?_ _ | refine Ext.drew ?_ | refine Ext.alloc ?_ _ | assumption | (refine Below.trans ?_ (by assumption)) | (refine Ext.trans ?_ (by assumption)) | (refine Below.trans ?_ (Below.mono (by assumption) (by omega))))) (Nat.le_refl _); have Hw5 := Lib.hid Hw5) | (refine wpList_load_row rfl 27 _ rfl _ rfl 27 _ _ _ (Blk.ext hT.out (show Ext w4 _ from (by repeat (first | with_reducible exact Ext.refl _ | refine Ext.drewN ?_ _ | refine Ext.drew ?_ | refine Ext.alloc ?_ _ | assumption | (refine Below.trans ?_ (by assumption)) | (refine Ext.trans ?_ (by assumption)) | (refine Below.trans ?_ (Below.mono (by assumption) (by omega))))))) Try.underlying27 rfl hi ?_))
  refine (D3.out _ _ (RI.lit (w := w5) .u8 [1, 0, 0, 1, 0] _ rfl (by simp))).mono ?_; rintro e w6 ⟨rfl, E6⟩
  have hU := Lib.hid (Blk.ext Hw5.out (show Ext w5 w6 from (by repeat (first | with_reducible exact Ext.refl _ | refine Ext.drewN ?_ _ | refine Ext.drew ?_ | refine Ext.alloc ?_ _ | assumption | (refine Below.trans ?_ (by assumption)) | (refine Ext.trans ?_ (by assumption)) | (refine Below.trans ?_ (Below.mono (by assumption) (by omega)))))))
  have E46 : Ext w4 w6 := Ext.trans Ew5 (show Ext w5 w6 from (by repeat (first | with_reducible exact Ext.refl _ | refine Ext.drewN ?_ _ | refine Ext.drew ?_ | refine Ext.alloc ?_ _ | assumption | (refine Below.trans ?_ (by assumption)) | (refine Ext.trans ?_ (by assumption)) | (refine Below.trans ?_ (Below.mono (by assumption) (by omega))))))
  have hT := Lib.hid (Blk.ext hT.out E46)
  have E06 : Ext w w6 := E04.trans E46
  clear E6 Hw5 Ew5 E04 E46
  go_wp2_with (first | (refine wpList_store_A rfl 27 _ _ rfl w6.heap.size _ rfl rfl 27 _ (show Blk _ _ _ _ from Blk.at_ _ _ (by simp)) hiz (by first | rfl | (rw [hz24.out]; rfl)) hz1.out ?_; intro w7 Hw7 Ew7; have Ew7 := Ew7 w6.heap.size w6 (by repeat (first | with_reducible exact Ext.refl _ | refine Ext.drewN ?_ _ | refine Ext.drew ?_ | refine Ext.alloc ?_ _ | assumption | (refine Below.trans ?_ (by assumption)) | (refine Ext.trans ?_ (by assumption)) | (refine Below.trans ?_ (Below.mono (by assumption) (by omega))))) (Nat.le_refl _); have Hw7 := Lib.hid Hw7) | (refine wpList_load_row rfl 27 _ rfl _ rfl 27 _ _ _ (Blk.ext hT.out (show Ext w6 _ from (by repeat (first | with_reducible exact Ext.refl _ | refine Ext.drewN ?_ _ | refine Ext.drew ?_ | refine Ext.alloc ?_ _ | assumption | (refine Below.trans ?_ (by assumption)) | (refine Ext.trans ?_ (by assumption)) | (refine Below.trans ?_ (Below.mono (by assumption) (by omega))))))) Try.underlying27 rfl hi ?_))
  refine (D4.out _ _ (RI.lit (w := w7) .u8 [1, 0] _ rfl (by simp))).mono ?_; rintro e w8 ⟨rfl, E8⟩
  have E68 : Ext w6 w8 := Ext.trans Ew7 (show Ext w7 w8 from (by repeat (first | with_reducible exact Ext.refl _ | refine Ext.drewN ?_ _ | refine Ext.drew ?_ | refine Ext.alloc ?_ _ | assumption | (refine Below.trans ?_ (by assumption)) | (refine Ext.trans ?_ (by assumption)) | (refine Below.trans ?_ (Below.mono (by assumption) (by omega))))))
  have hT := Lib.hid (Blk.ext hT.out E68)
  have hU := Lib.hid (Blk.ext hU.out E68)
  have E08 : Ext w w8 := E06.trans E68
  clear E8 Hw7 Ew7 E06 E68
  go_wp2_with (first | (refine wpList_store_A rfl 27 _ _ rfl w8.heap.size _ rfl rfl 27 _ (show Blk _ _ _ _ from Blk.at_ _ _ (by simp)) hiz (by first | rfl | (rw [hz24.out]; rfl)) hz1.out ?_; intro w9 Hw9 Ew9; have Ew9 := Ew9 w8.heap.size w8 (by repeat (first | with_reducible exact Ext.refl _ | refine Ext.drewN ?_ _ | refine Ext.drew ?_ | refine Ext.alloc ?_ _ | assumption | (refine Below.trans ?_ (by assumption)) | (refine Ext.trans ?_ (by assumption)) | (refine Below.trans ?_ (Below.mono (by assumption) (by omega))))) (Nat.le_refl _); have Hw9 := Lib.hid Hw9) | (refine wpList_openG rfl rfl ?_; (refine wpList_load_row rfl 27 _ rfl _ rfl 27 _ _ _ (Blk.ext hT.out (show Ext w8 _ from (by repeat (first | with_reducible exact Ext.refl _ | refine Ext.drewN ?_ _ | refine Ext.drew ?_ | refine Ext.alloc ?_ _ | assumption | (refine Below.trans ?_ (by assumption)) | (refine Ext.trans ?_ (by assumption)) | (refine Below.trans ?_ (Below.mono (by assumption) (by omega))))))) Try.underlying27 rfl hi ?_)))
  (with_reducible refine (D5.out _).mono ?_); rintro e w10 ⟨rfl, E10⟩
  go_wp2_with (first | (refine wpList_openG rfl rfl ?_; (refine wpList_load_row rfl 27 _ rfl _ rfl 27 _ _ _ (Blk.ext hT.out (show Ext w8 _ from (by repeat (first | with_reducible exact Ext.refl _ | refine Ext.drewN ?_ _ | refine Ext.drew ?_ | refine Ext.alloc ?_ _ | assumption | (refine Below.trans ?_ (by assumption)) | (refine Ext.trans ?_ (by assumption)) | (refine Below.trans ?_ (Below.mono (by assumption) (by omega))))))) Try.underlying27 rfl hi ?_)))
  (with_reducible refine (D6.out _).mono ?_); rintro e w11 ⟨rfl, E11⟩
  go_wp2_with (first | (refine wpList_openG rfl rfl ?_; (refine wpList_load_row rfl 27 _ rfl _ rfl 27 _ _ _ (Blk.ext hT.out (show Ext w8 _ from (by repeat (first | with_reducible exact Ext.refl _ | refine Ext.drewN ?_ _ | refine Ext.drew ?_ | refine Ext.alloc ?_ _ | assumption | (refine Below.trans ?_ (by assumption)) | (refine Ext.trans ?_ (by assumption)) | (refine Below.trans ?_ (Below.mono (by assumption) (by omega))))))) Try.underlying27 rfl hi ?_)))
  (with_reducible refine (D7.out _).mono ?_); rintro e w12 ⟨rfl, E12⟩
  go_wp2_with (first | (refine wpList_openG rfl rfl ?_; first | (refine wpList_load_row rfl 27 _ rfl _ rfl 27 _ _ _ (Blk.ext hT.out (show Ext w8 _ from (by repeat (first | with_reducible exact Ext.refl _ | refine Ext.drewN ?_ _ | refine Ext.drew ?_ | refine Ext.alloc ?_ _ | assumption | (refine Below.trans ?_ (by assumption)) | (refine Ext.trans ?_ (by assumption)) | (refine Below.trans ?_ (Below.mono (by assumption) (by omega))))))) Try.underlying27 rfl hi ?_) | (refine wpList_load_row rfl 27 _ rfl _ rfl 27 _ _ _ (Blk.ext hU.out (show Ext w8 _ from (by repeat (first | with_reducible exact Ext.refl _ | refine Ext.drewN ?_ _ | refine Ext.drew ?_ | refine Ext.alloc ?_ _ | assumption | (refine Below.trans ?_ (by assumption)) | (refine Ext.trans ?_ (by assumption)) | (refine Below.trans ?_ (Below.mono (by assumption) (by omega))))))) Try.underlying27 rfl hi ?_) | refine wpList_eql_struct rfl 27 _ _ rfl cs cs rfl rfl true tm_guard (HE.out _) ?_))
  go_ret
  exact ⟨rfl, E08.trans (by repeat (first | with_reducible exact Ext.refl _ | refine Ext.drewN ?_ _ | refine Ext.drew ?_ | refine Ext.alloc ?_ _ | assumption | (refine Below.trans ?_ (by assumption)) | (refine Ext.trans ?_ (by assumption)) | (refine Below.trans ?_ (Below.mono (by assumption) (by omega)))))⟩
end Go.Proofs.Ytpngnmokagbekaa
