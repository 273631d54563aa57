/- Sets, lists and masks are the document's; what is done with a signal is; walked. Conditions: the set has 64 bits, the actions are as many as there are. -/
import Derived.Test.YteandiddfokfjaaN18
namespace Go.Proofs.Yteandiddfokfjaa
open Go.RowKit Go.Kb Go.Kb.Bits

set_option maxRecDepth 100000 in
set_option maxHeartbeats 800000 in
theorem sigsetSets_walk (s sig : Int) (v : Value) (l : List Int) (w : World) (hs : U64 s) (hl : RI .i64 w v l) :
    Calls Try.prog 3 #[.int .u64 s, .int .i64 sig, v] w fun e w' => e = .returned (.bool true) ∧ Ext w w' := by
  have F1 := Lib.hid fun w' => has_any s sig w' hs
  have F2 := Lib.hid fun w' => rhas_any s sig w' hs
  have F3 := Lib.hid fun w' => add_any s sig w' hs
  have F4 := Lib.hid fun w' => radd_any s sig w' hs
  have F5 := Lib.hid fun w' => del_any s sig w' hs
  have F6 := Lib.hid fun w' => rdel_any s sig w' hs
  have F7 := Lib.hid fun w' => list_any s w' hs
  have F8 := Lib.hid fun w' => rlist_any s w' hs
  have F9 := Lib.hid fun v w' h => of_set_any v l w' h
  have F10 := Lib.hid fun v w' h => rof_any v l w' h
  have F11 := Lib.hid fun w' => block_any s w' hs
  have F12 := Lib.hid fun w' => rblock_any s w' hs
  generalize hasL s sig = x1 at *
  generalize addL s sig = x2 at *
  generalize delL s sig = x3 at *
  generalize listL s = x4 at *
  generalize ofL l = x5 at *
  generalize blockL s = x6 at *
  have b1 : (x1 == x1) = true := by simp
  have b2 : (x2 == x2) = true := by simp
  have b3 : (x3 == x3) = true := by simp
  have b5 : (x5 == x5) = true := by simp
  have b6 : (x6 == x6) = true := by simp
  obtain ⟨Ad, c, rfl, hc1, hc2⟩ := hl.shape
  have HL := Lib.hid hl
  clear hl hs
  go_enter Try.func3, Try.ntmps3
  (go_wp2_with fail; refine (alive_any _).mono ?_; rintro e w1 ⟨rfl, E1⟩)
  by_cases hbig : 1000 < l.length
  · go_wp2
    go_ret
    exact ⟨rfl, E1⟩
  · have d1 : ¬ (1000 : Int) < (l.length : Int) := by omega
    go_wp2_with fail
    (with_reducible refine (F1.out _).mono ?_); rintro e w2 ⟨rfl, E2⟩
    go_wp2_with fail
    (with_reducible refine (F2.out _).mono ?_); rintro e w3 ⟨rfl, E3⟩
    go_wp2_with fail
    (with_reducible refine (F3.out _).mono ?_); rintro e w4 ⟨rfl, E4⟩
    go_wp2_with fail
    (with_reducible refine (F4.out _).mono ?_); rintro e w5 ⟨rfl, E5⟩
    go_wp2_with fail
    (with_reducible refine (F5.out _).mono ?_); rintro e w6 ⟨rfl, E6⟩
    go_wp2_with fail
    (with_reducible refine (F6.out _).mono ?_); rintro e w7 ⟨rfl, E7⟩
    have E07 : Ext w w7 := (by repeat (first | with_reducible exact Ext.refl _ | refine Ext.drewN ?_ _ | refine Ext.drew ?_ | refine Ext.alloc ?_ _ | assumption | (refine Below.trans ?_ (by assumption)) | (refine Ext.trans ?_ (by assumption)) | (refine Below.trans ?_ (Below.mono (by assumption) (by omega)))))
    clear E1 E2 E3 E4 E5 E6 E7
    go_wp2_with fail
    (with_reducible refine (F7.out _).mono ?_); rintro e w8 ⟨A8, c8, rfl, r8, E8⟩
    have R8 := Lib.hid r8
    clear r8
    go_wp2_with fail
    (with_reducible refine (F8.out _).mono ?_); rintro e w9 ⟨A9, c9, rfl, r9, E9⟩
    have R9 := Lib.hid r9
    have R8 := Lib.hid (RdN.ext R8.out E9)
    clear r9
    go_wp2_with fail
    (with_reducible refine (ints_same _ _ x4 _ R8.out R9.out).mono ?_); rintro e w10 ⟨rfl, E10⟩
    have E010 : Ext w w10 := E07.trans (by repeat (first | with_reducible exact Ext.refl _ | refine Ext.drewN ?_ _ | refine Ext.drew ?_ | refine Ext.alloc ?_ _ | assumption | (refine Below.trans ?_ (by assumption)) | (refine Ext.trans ?_ (by assumption)) | (refine Below.trans ?_ (Below.mono (by assumption) (by omega)))))
    clear E8 E9 E10 E07 R8 R9
    go_wp2_with fail
    (with_reducible refine (F9.out _ _ (RdN.ext HL.out E010)).mono ?_); rintro e w11 ⟨rfl, E11⟩
    go_wp2_with fail
    (with_reducible refine (F10.out _ _ (RdN.ext HL.out (E010.trans E11))).mono ?_); rintro e w12 ⟨rfl, E12⟩
    go_wp2_with fail
    (with_reducible refine (F11.out _).mono ?_); rintro e w13 ⟨rfl, E13⟩
    go_wp2_with fail
    (with_reducible refine (F12.out _).mono ?_); rintro e w14 ⟨rfl, E14⟩
    go_wp2
    go_ret
    exact ⟨by simp, E010.trans (by repeat (first | with_reducible exact Ext.refl _ | refine Ext.drewN ?_ _ | refine Ext.drew ?_ | refine Ext.alloc ?_ _ | assumption | (refine Below.trans ?_ (by assumption)) | (refine Ext.trans ?_ (by assumption)) | (refine Below.trans ?_ (Below.mono (by assumption) (by omega)))))⟩
end Go.Proofs.Yteandiddfokfjaa
