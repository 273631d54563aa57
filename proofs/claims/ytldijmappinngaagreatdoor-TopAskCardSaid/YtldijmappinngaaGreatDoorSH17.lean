/- A Bool field in bytes: octet.Write of one field of that kind, by contract. No condition. -/
import Derived.Test.YtldijmappinngaaGreatDoorFD17
import Derived.Test.YtldijmappinngaaGreatDoorRep
import Derived.Test.YtldijmappinngaaGreatDoorRow
namespace Go.Proofs.YtldijmappinngaaGreatDoor
open Go.RowKit Go.Kb
set_option maxRecDepth 100000

def fld1 : Array Value := #[.int .i64 2, .int .u32 1, .slice none 0 0, .slice none 0 0]
set_option maxHeartbeats 400000 in
theorem known2 (w : World) : Calls Tryz.prog 66 #[.int .i64 2] w fun e w' => e = .returned (.bool true) ∧ Ext w w' := by
  go_enter Tryz.func66, Tryz.ntmps66
  go_wp2
  go_ret
  exact ⟨rfl, (by repeat (first | with_reducible exact Ext.refl _ | refine Ext.drewN ?_ _ | refine Ext.drew ?_ | refine Ext.alloc ?_ _ | assumption | (refine Below.trans ?_ (by assumption)) | (refine Ext.trans ?_ (by assumption)) | (refine Below.trans ?_ (Below.mono (by assumption) (by omega)))))⟩
set_option maxHeartbeats 400000 in
theorem within1 (w : World) : Calls Tryz.prog 108 #[.int .u32 1, .int .u32 1] w fun e w' => e = .returned (.int .i64 0) ∧ Ext w w' := by
  go_enter Tryz.func108, Tryz.ntmps108
  go_wp2
  go_ret
  exact ⟨rfl, (by repeat (first | with_reducible exact Ext.refl _ | refine Ext.drewN ?_ _ | refine Ext.drew ?_ | refine Ext.alloc ?_ _ | assumption | (refine Below.trans ?_ (by assumption)) | (refine Ext.trans ?_ (by assumption)) | (refine Below.trans ?_ (Below.mono (by assumption) (by omega)))))⟩
set_option maxHeartbeats 400000 in
theorem flagFault1 (w : World) : Calls Tryz.prog 70 #[.agg fld1] w fun e w' => e = .returned (.int .i64 0) ∧ Ext w w' := by
  unfold fld1
  go_enter Tryz.func70, Tryz.ntmps70
  go_wp2_with fail
  refine (within1 _).mono ?_
  rintro e w1 ⟨rfl, E1⟩
  go_wp2
  go_ret
  exact ⟨rfl, (by repeat (first | with_reducible exact Ext.refl _ | refine Ext.drewN ?_ _ | refine Ext.drew ?_ | refine Ext.alloc ?_ _ | assumption | (refine Below.trans ?_ (by assumption)) | (refine Ext.trans ?_ (by assumption)) | (refine Below.trans ?_ (Below.mono (by assumption) (by omega)))))⟩
set_option maxHeartbeats 400000 in
theorem row2 (g : Nat) (w : World) (h : Blk w g 3 #[.int .i64 2]) : Calls Tryz.prog 30 #[.slice (some ⟨g, 0, none⟩) 1 1] w fun e w' => e = .returned (.bool true) ∧ Ext w w' := by
  have H := Lib.hid h
  clear h
  go_enter Tryz.func30, Tryz.ntmps30
  go_wp2
  go_loopw [7] (fun i wr => ∃ m : Nat, m ≤ 1 ∧ i = .int .i64 m ∧ Hid (Ext w wr)) (fun i _ => 1 - (intOf i).toNat)
  case atStart => exact ⟨0, Nat.zero_le _, rfl, Lib.hid (Ext.refl _)⟩
  case round =>
    obtain ⟨m, hm, rfl, hE⟩ := hrel
    by_cases hmn : m < 1
    · obtain rfl : m = 0 := by omega
      have kc := (H.out.ext hE.out).cell0
      go_wp2_with fail
      refine (known2 _).mono ?_
      rintro e w1 ⟨rfl, E1⟩
      have hE1 := Lib.hid (hE.out.trans E1)
      go_wp2
      go_roundw
      case rel => exact ⟨1, by omega, by go_num, hE1⟩
      case measure => simp [intOf]
    · obtain rfl : m = 1 := by omega
      go_wp2
      go_ret
      exact ⟨rfl, hE.out⟩
/-- the table of kinds -/
def fnV (a b c : Nat) : List Value := [.func (.func a) #[] #[], .func (.func b) #[] #[], .func (.func c) #[] #[]]
def sortsV : Array Value := ([Value.nilFunc, Value.nilFunc, Value.nilFunc] ++ fnV 67 68 69 ++ fnV 70 68 71 ++
  fnV 72 73 74 ++ fnV 75 76 77 ++
  fnV 78 79 80 ++ fnV 81 82 83).toArray
set_option maxHeartbeats 800000 in
theorem sorts_any (w : World) : Calls Tryz.prog 31 #[] w fun e w' => e = .returned (.agg sortsV) ∧ Ext w w' := by
  have hi : (Tryz.prog.info? 101).map (·.size) = some 21 := by kernel_rfl
  go_enter Tryz.func31, Tryz.ntmps31
  go_wp2_with (refine wpList_store_A rfl 101 _ _ rfl w.heap.size _ rfl rfl 101 _ (show Blk _ _ _ _ from Blk.at_ _ _ (by simp)) hi rfl (by simp [Value.oneCell']) ?_; intro w2 HB E2; have E2 := E2 w.heap.size w (by repeat (first | with_reducible exact Ext.refl _ | refine Ext.drewN ?_ _ | refine Ext.drew ?_ | refine Ext.alloc ?_ _ | assumption | (refine Below.trans ?_ (by assumption)) | (refine Ext.trans ?_ (by assumption)) | (refine Below.trans ?_ (Below.mono (by assumption) (by omega))))) (Nat.le_refl _))
  refine bodyPost_ret_by (results_cell_row Tryz.results31 _ _ w.heap.size 101 _ _ _ rfl HB Tryz.underlying101 rfl hi) rfl ?_
  exact ⟨rfl, E2⟩
end Go.Proofs.YtldijmappinngaaGreatDoor
