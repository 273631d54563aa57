/- octet's writer of a text, and the faults of fields, by contract. Condition: the field is one of a kind that isn't Names. -/
import Derived.Test.YtldijmappinngaaGreatDoorOA04
namespace Go.Proofs.YtldijmappinngaaGreatDoor
open Go.RowKit Go.Kb
set_option maxRecDepth 100000

/-- what is wrong with a field of a kind -/
def fltF (k n : Int) (t : List Int) : Int := if k = 1 then (if 255 < n then 5 else 0) else if k = 2 then (if 1 < n then 5 else 0) else if k = 3 then 0 else if k = 4 then (if 32768 < t.length then 6 else 0) else (if 33792 < t.length then 6 else 0)
/-- a field in bytes -/
def encF (k n : Int) (t : List Int) : List Int := if k = 1 ∨ k = 2 then [n] else if k = 3 then Fr.four n else if k = 4 then Fr.four t.length ++ t else t
set_option maxHeartbeats 800000 in
theorem wtext_any (base g : Nat) (v : Value) (out : List Int) (k n : Int) (vt vl : Value) (text : List Int) (w : World) (h : Wr base g w v out) (hb : base ≤ w.heap.size) (ht : RI .u8 w vt text) (hl : out.length ≤ 90000) (htl : text.length ≤ 100000) (hw : 0 < text.length → ∀ j, vt.ownBlock = some j → ¬ wS g v j) :
    Calls Tryz.prog 76 #[.pointer (some ⟨g, 0, none⟩), .agg #[.int .i64 k, .int .u32 n, vt, vl]] w (WPost base g v out (Fr.four text.length ++ text) w) := by
  have HNB := Lib.hid (show ¬ wS g v w.heap.size from fun hh => Nat.lt_irrefl _ (h.lt _ hh))
  obtain ⟨At, ct, rfl, hc1, hc2⟩ := ht.shape
  have H := Lib.hid h
  have HT := Lib.hid ht
  obtain ⟨L, hL⟩ : ∃ L, text.length = L := ⟨_, rfl⟩
  have HTX := Lib.hid hL
  have HTW := Lib.hid hw
  have HBS := Lib.hid hb
  have hwr : IntKind.u32.wrap (L : Int) = (L : Int) := by unfold IntKind.wrap; simp [IntKind.bits, IntKind.signed]; omega
  have B3 := Lib.hid (Blk.new w 59 #[.int .i64 k, .int .u32 n, .slice At L ct, vl])
  have HN := Lib.hid (fun w1 (h1 : Wr base g w1 v out) (hb1 : base ≤ w1.heap.size) => wnum_any base g v out 0 L (.slice none 0 0) (.slice none 0 0) w1 h1 hb1 (by omega) (by omega))
  rw [hL] at hc1 ⊢
  clear h ht hL hw hb
  go_enter Tryz.func76, Tryz.ntmps76
  go_wp2_with fail
  refine (HN.out _ (H.out.ext (by repeat (first | with_reducible exact Ext.refl _ | refine Ext.drewN ?_ _ | refine Ext.drew ?_ | refine Ext.alloc ?_ _ | assumption | (refine Below.trans ?_ (by assumption)) | (refine Ext.trans ?_ (by assumption)) | (refine Below.trans ?_ (Below.mono (by assumption) (by omega)))))) (by have := HBS.out; simp; omega)).mono ?_
  rintro e w1 ⟨rfl, v1, R1, M1, X1⟩
  have B4 := B3.out.mod M1 HNB.out
  have k0 := B4.cell 0
  have k1 := B4.cell 1
  have k2 := B4.cell 2
  have k3 := B4.cell 3
  have HR1 := Lib.hid R1
  have E0 : Ext w (w.alloc (.cells #[.int .i64 k, .int .u32 n, .slice At L ct, vl] 59)) := (Ext.refl _).alloc _
  have HM1 := Lib.hid ((Mod.of_ext E0).trans M1)
  have HX1 := Lib.hid (show ∀ j, v1.ownBlock = some j → v.ownBlock = some j ∨ w.heap.size ≤ j from fun j hj => (X1 j hj).imp id (fun h9 => Nat.le_trans E0.size h9))
  have HT1 := Lib.hid (show RI .u8 w1 (.slice At L ct) text by
    have h9 := HT.out.keepB (fun j hj h0 hs => HM1.out.block j hj (HTW.out h0 j hs))
    unfold RI at h9 ⊢
    rw [HTX.out] at h9 ⊢
    exact h9)
  have HZ1 := Lib.hid (show base ≤ w1.heap.size from Nat.le_trans HBS.out (Nat.le_trans E0.size M1.size))
  clear R1 M1 X1 B4 E0
  go_wp2_with fail
  refine (wrest_any base g v1 (out ++ Fr.four L) k n (.slice At L ct) vl text _ HR1.out HZ1.out (HT1.out) (by simp [Fr.four]; omega) htl).mono ?_
  rintro e w2 ⟨rfl, v2, R2, M2, X2⟩
  have HZ := Lib.hid (WPost.trans HM1.out HX1.out (show WPost base g v1 (out ++ Fr.four L) text w1 (.returned (.tuple #[])) w2 from ⟨rfl, v2, R2, M2, X2⟩))
  clear R2 M2 X2
  go_wp2
  go_end0
  exact HZ.out
set_option maxHeartbeats 400000 in
theorem within_o (n m : Int) (w : World) : Calls Tryz.prog 108 #[.int .u32 n, .int .u32 m] w fun e w' => e = .returned (.int .i64 (if m < n then 5 else 0)) ∧ Ext w w' := by
  by_cases h : m < n
  · rw [if_pos h]
    go_enter Tryz.func108, Tryz.ntmps108
    go_wp2
    go_ret
    exact ⟨rfl, (by repeat (first | with_reducible exact Ext.refl _ | refine Ext.drewN ?_ _ | refine Ext.drew ?_ | refine Ext.alloc ?_ _ | assumption | (refine Below.trans ?_ (by assumption)) | (refine Ext.trans ?_ (by assumption)) | (refine Below.trans ?_ (Below.mono (by assumption) (by omega)))))⟩
  · rw [if_neg h]
    go_enter Tryz.func108, Tryz.ntmps108
    go_wp2
    go_ret
    exact ⟨rfl, (by repeat (first | with_reducible exact Ext.refl _ | refine Ext.drewN ?_ _ | refine Ext.drew ?_ | refine Ext.alloc ?_ _ | assumption | (refine Below.trans ?_ (by assumption)) | (refine Ext.trans ?_ (by assumption)) | (refine Below.trans ?_ (Below.mono (by assumption) (by omega)))))⟩
set_option maxHeartbeats 400000 in
theorem room_o (n m : Int) (w : World) : Calls Tryz.prog 110 #[.int .i64 n, .int .i64 m] w fun e w' => e = .returned (.int .i64 (if m < n then 6 else 0)) ∧ Ext w w' := by
  by_cases h : m < n
  · rw [if_pos h]
    go_enter Tryz.func110, Tryz.ntmps110
    go_wp2
    go_ret
    exact ⟨rfl, (by repeat (first | with_reducible exact Ext.refl _ | refine Ext.drewN ?_ _ | refine Ext.drew ?_ | refine Ext.alloc ?_ _ | assumption | (refine Below.trans ?_ (by assumption)) | (refine Ext.trans ?_ (by assumption)) | (refine Below.trans ?_ (Below.mono (by assumption) (by omega)))))⟩
  · rw [if_neg h]
    go_enter Tryz.func110, Tryz.ntmps110
    go_wp2
    go_ret
    exact ⟨rfl, (by repeat (first | with_reducible exact Ext.refl _ | refine Ext.drewN ?_ _ | refine Ext.drew ?_ | refine Ext.alloc ?_ _ | assumption | (refine Below.trans ?_ (by assumption)) | (refine Ext.trans ?_ (by assumption)) | (refine Below.trans ?_ (Below.mono (by assumption) (by omega)))))⟩
set_option maxHeartbeats 400000 in
theorem foctet_any (k n : Int) (vt vl : Value) (w : World) : Calls Tryz.prog 67 #[.agg #[.int .i64 k, .int .u32 n, vt, vl]] w fun e w' => e = .returned (.int .i64 (if 255 < n then 5 else 0)) ∧ Ext w w' := by
  have HW := Lib.hid (fun w' => within_o n 255 w')
  obtain ⟨z, hz⟩ : ∃ z : Int, (if 255 < n then 5 else 0) = z := ⟨_, rfl⟩
  rw [hz] at HW ⊢
  clear hz
  go_enter Tryz.func67, Tryz.ntmps67
  go_wp2_with fail
  refine (HW.out _).mono ?_
  rintro e w1 ⟨rfl, E1⟩
  go_wp2
  go_ret
  exact ⟨rfl, (by repeat (first | with_reducible exact Ext.refl _ | refine Ext.drewN ?_ _ | refine Ext.drew ?_ | refine Ext.alloc ?_ _ | assumption | (refine Below.trans ?_ (by assumption)) | (refine Ext.trans ?_ (by assumption)) | (refine Below.trans ?_ (Below.mono (by assumption) (by omega)))))⟩
set_option maxHeartbeats 400000 in
theorem fflag_any (k n : Int) (vt vl : Value) (w : World) : Calls Tryz.prog 70 #[.agg #[.int .i64 k, .int .u32 n, vt, vl]] w fun e w' => e = .returned (.int .i64 (if 1 < n then 5 else 0)) ∧ Ext w w' := by
  have HW := Lib.hid (fun w' => within_o n 1 w')
  obtain ⟨z, hz⟩ : ∃ z : Int, (if 1 < n then 5 else 0) = z := ⟨_, rfl⟩
  rw [hz] at HW ⊢
  clear hz
  go_enter Tryz.func70, Tryz.ntmps70
  go_wp2_with fail
  refine (HW.out _).mono ?_
  rintro e w1 ⟨rfl, E1⟩
  go_wp2
  go_ret
  exact ⟨rfl, (by repeat (first | with_reducible exact Ext.refl _ | refine Ext.drewN ?_ _ | refine Ext.drew ?_ | refine Ext.alloc ?_ _ | assumption | (refine Below.trans ?_ (by assumption)) | (refine Ext.trans ?_ (by assumption)) | (refine Below.trans ?_ (Below.mono (by assumption) (by omega)))))⟩
set_option maxHeartbeats 400000 in
theorem fno_any (k n : Int) (vt vl : Value) (w : World) : Calls Tryz.prog 72 #[.agg #[.int .i64 k, .int .u32 n, vt, vl]] w fun e w' => e = .returned (.int .i64 0) ∧ Ext w w' := by
  go_enter Tryz.func72, Tryz.ntmps72
  go_wp2
  go_ret
  exact ⟨rfl, (by repeat (first | with_reducible exact Ext.refl _ | refine Ext.drewN ?_ _ | refine Ext.drew ?_ | refine Ext.alloc ?_ _ | assumption | (refine Below.trans ?_ (by assumption)) | (refine Ext.trans ?_ (by assumption)) | (refine Below.trans ?_ (Below.mono (by assumption) (by omega)))))⟩
set_option maxHeartbeats 400000 in
theorem ftext_any (k n : Int) (A : Option Addr) (L c : Nat) (vl : Value) (w : World) : Calls Tryz.prog 75 #[.agg #[.int .i64 k, .int .u32 n, .slice A L c, vl]] w fun e w' => e = .returned (.int .i64 (if 32768 < L then 6 else 0)) ∧ Ext w w' := by
  have HW := Lib.hid (fun w' => room_o L 32768 w')
  obtain ⟨z, hz⟩ : ∃ z : Int, (if (32768 : Int) < (L : Int) then (6 : Int) else 0) = z := ⟨_, rfl⟩
  have hz2 : (if 32768 < L then (6 : Int) else 0) = z := by
    rw [← hz]
    by_cases h : 32768 < L
    · rw [if_pos h, if_pos (by omega)]
    · rw [if_neg h, if_neg (by omega)]
  rw [hz] at HW
  rw [hz2]
  clear hz hz2
  go_enter Tryz.func75, Tryz.ntmps75
  go_wp2_with fail
  refine (HW.out _).mono ?_
  rintro e w1 ⟨rfl, E1⟩
  go_wp2
  go_ret
  exact ⟨rfl, (by repeat (first | with_reducible exact Ext.refl _ | refine Ext.drewN ?_ _ | refine Ext.drew ?_ | refine Ext.alloc ?_ _ | assumption | (refine Below.trans ?_ (by assumption)) | (refine Ext.trans ?_ (by assumption)) | (refine Below.trans ?_ (Below.mono (by assumption) (by omega)))))⟩
set_option maxHeartbeats 400000 in
theorem frest_any (k n : Int) (A : Option Addr) (L c : Nat) (vl : Value) (w : World) : Calls Tryz.prog 81 #[.agg #[.int .i64 k, .int .u32 n, .slice A L c, vl]] w fun e w' => e = .returned (.int .i64 (if 33792 < L then 6 else 0)) ∧ Ext w w' := by
  have HW := Lib.hid (fun w' => room_o L 33792 w')
  obtain ⟨z, hz⟩ : ∃ z : Int, (if (33792 : Int) < (L : Int) then (6 : Int) else 0) = z := ⟨_, rfl⟩
  have hz2 : (if 33792 < L then (6 : Int) else 0) = z := by
    rw [← hz]
    by_cases h : 33792 < L
    · rw [if_pos h, if_pos (by omega)]
    · rw [if_neg h, if_neg (by omega)]
  rw [hz] at HW
  rw [hz2]
  clear hz hz2
  go_enter Tryz.func81, Tryz.ntmps81
  go_wp2_with fail
  refine (HW.out _).mono ?_
  rintro e w1 ⟨rfl, E1⟩
  go_wp2
  go_ret
  exact ⟨rfl, (by repeat (first | with_reducible exact Ext.refl _ | refine Ext.drewN ?_ _ | refine Ext.drew ?_ | refine Ext.alloc ?_ _ | assumption | (refine Below.trans ?_ (by assumption)) | (refine Ext.trans ?_ (by assumption)) | (refine Below.trans ?_ (Below.mono (by assumption) (by omega)))))⟩
end Go.Proofs.YtldijmappinngaaGreatDoor
