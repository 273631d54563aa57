/- message: a message in memory; what gets its fields, by contract. No condition. -/
import Derived.Test.YtldijmappinngaaGreatDoorOF04
import Derived.Lib.ConvBytes
namespace Go.Proofs.YtldijmappinngaaGreatDoor
open Go.RowKit Go.Kb
set_option maxRecDepth 100000

/-- a message -/
structure Mg where
  k : Int
  ch : Int
  se : Int
  wi : Int
  pk : Int
  co : Int
  nm : ByteArray
  la : ByteArray
  wa : Bool
  da : List Int
/-- its cells; where its data lies -/
abbrev mgA (m : Mg) (v : Value) : Array Value := #[.int .i64 m.k, .int .u32 m.ch, .int .u32 m.se, .int .u32 m.wi, .int .u32 m.pk, .int .u32 m.co, .string m.nm, .string m.la, .bool m.wa, v]
/-- a text's bytes -/
def bsL (s : ByteArray) : List Int := s.data.toList.map fun x => (x.toNat : Int)
/-- what a getter leaves: a field without its kind -/
def GetP (A : Nat → Prop) (n : Int) (t : List Int) (w : World) (e : Ending) (w' : World) : Prop :=
  ∃ vt, e = .returned (.agg #[.int .i64 0, .int .u32 n, vt, .slice none 0 0]) ∧ RdS Ub8 (fun k => A k ∨ w.heap.size ≤ k) w' vt t ∧ Ext w w'
structure MgC (w : World) (g : Nat) (m : Mg) (v : Value) : Prop where
  k0 : w.cell? ⟨g, 0, none⟩ = some (.int .i64 m.k)
  k1 : w.cell? ⟨g, 1, none⟩ = some (.int .u32 m.ch)
  k2 : w.cell? ⟨g, 2, none⟩ = some (.int .u32 m.se)
  k3 : w.cell? ⟨g, 3, none⟩ = some (.int .u32 m.wi)
  k4 : w.cell? ⟨g, 4, none⟩ = some (.int .u32 m.pk)
  k5 : w.cell? ⟨g, 5, none⟩ = some (.int .u32 m.co)
  k6 : w.cell? ⟨g, 6, none⟩ = some (.string m.nm)
  k7 : w.cell? ⟨g, 7, none⟩ = some (.string m.la)
  k8 : w.cell? ⟨g, 8, none⟩ = some (.bool m.wa)
  k9 : w.cell? ⟨g, 9, none⟩ = some v
theorem mgC {w : World} {g : Nat} {t : TypeId} {m : Mg} {v : Value} (h : Blk w g t (mgA m v)) : MgC w g m v :=
  ⟨by simpa using h.cell 0, by simpa using h.cell 1, by simpa using h.cell 2, by simpa using h.cell 3, by simpa using h.cell 4, by simpa using h.cell 5, by simpa using h.cell 6, by simpa using h.cell 7, by simpa using h.cell 8, by simpa using h.cell 9⟩
set_option maxHeartbeats 800000 in
theorem mgetCode (g : Nat) (m : Mg) (v : Value) (A : Nat → Prop) (w : World) (h : Blk w g 67 (mgA m v)) : Calls Tryz.prog 84 #[.pointer (some ⟨g, 0, none⟩)] w (GetP A m.co [] w) := by
  have hi : (Tryz.prog.info? 59).map (·.size) = some 4 := by kernel_rfl
  have kc := (mgC (h.ext ((Ext.refl w).alloc (.cells #[.int .i64 0, .int .u32 0, .slice none 0 0, .slice none 0 0] 59)))).k5
  clear h
  go_enter Tryz.func84, Tryz.ntmps84
  go_wp2_with (refine wpList_store_A rfl 59 _ _ rfl w.heap.size _ rfl rfl 59 _ (show Blk _ _ _ _ from Blk.at_ _ _ (by simp)) hi rfl (by simp [Value.oneCell']) ?_; intro w2 HB E2; have E2 := E2 w.heap.size w (by repeat (first | with_reducible exact Ext.refl _ | refine Ext.drewN ?_ _ | refine Ext.drew ?_ | refine Ext.alloc ?_ _ | assumption | (refine Below.trans ?_ (by assumption)) | (refine Ext.trans ?_ (by assumption)) | (refine Below.trans ?_ (Below.mono (by assumption) (by omega))))) (Nat.le_refl _))
  refine bodyPost_ret_by (results_cell_row Tryz.results84 _ _ w.heap.size 59 _ _ _ rfl HB Tryz.underlying59 rfl hi) rfl ?_
  exact ⟨_, rfl, RdS.nil _ _ _, E2⟩
set_option maxHeartbeats 800000 in
theorem mgetSender (g : Nat) (m : Mg) (v : Value) (A : Nat → Prop) (w : World) (h : Blk w g 67 (mgA m v)) : Calls Tryz.prog 94 #[.pointer (some ⟨g, 0, none⟩)] w (GetP A m.se [] w) := by
  have hi : (Tryz.prog.info? 59).map (·.size) = some 4 := by kernel_rfl
  have kc := (mgC (h.ext ((Ext.refl w).alloc (.cells #[.int .i64 0, .int .u32 0, .slice none 0 0, .slice none 0 0] 59)))).k2
  clear h
  go_enter Tryz.func94, Tryz.ntmps94
  go_wp2_with (refine wpList_store_A rfl 59 _ _ rfl w.heap.size _ rfl rfl 59 _ (show Blk _ _ _ _ from Blk.at_ _ _ (by simp)) hi rfl (by simp [Value.oneCell']) ?_; intro w2 HB E2; have E2 := E2 w.heap.size w (by repeat (first | with_reducible exact Ext.refl _ | refine Ext.drewN ?_ _ | refine Ext.drew ?_ | refine Ext.alloc ?_ _ | assumption | (refine Below.trans ?_ (by assumption)) | (refine Ext.trans ?_ (by assumption)) | (refine Below.trans ?_ (Below.mono (by assumption) (by omega))))) (Nat.le_refl _))
  refine bodyPost_ret_by (results_cell_row Tryz.results94 _ _ w.heap.size 59 _ _ _ rfl HB Tryz.underlying59 rfl hi) rfl ?_
  exact ⟨_, rfl, RdS.nil _ _ _, E2⟩
set_option maxHeartbeats 800000 in
theorem mgetWindow (g : Nat) (m : Mg) (v : Value) (A : Nat → Prop) (w : World) (h : Blk w g 67 (mgA m v)) : Calls Tryz.prog 96 #[.pointer (some ⟨g, 0, none⟩)] w (GetP A m.wi [] w) := by
  have hi : (Tryz.prog.info? 59).map (·.size) = some 4 := by kernel_rfl
  have kc := (mgC (h.ext ((Ext.refl w).alloc (.cells #[.int .i64 0, .int .u32 0, .slice none 0 0, .slice none 0 0] 59)))).k3
  clear h
  go_enter Tryz.func96, Tryz.ntmps96
  go_wp2_with (refine wpList_store_A rfl 59 _ _ rfl w.heap.size _ rfl rfl 59 _ (show Blk _ _ _ _ from Blk.at_ _ _ (by simp)) hi rfl (by simp [Value.oneCell']) ?_; intro w2 HB E2; have E2 := E2 w.heap.size w (by repeat (first | with_reducible exact Ext.refl _ | refine Ext.drewN ?_ _ | refine Ext.drew ?_ | refine Ext.alloc ?_ _ | assumption | (refine Below.trans ?_ (by assumption)) | (refine Ext.trans ?_ (by assumption)) | (refine Below.trans ?_ (Below.mono (by assumption) (by omega))))) (Nat.le_refl _))
  refine bodyPost_ret_by (results_cell_row Tryz.results96 _ _ w.heap.size 59 _ _ _ rfl HB Tryz.underlying59 rfl hi) rfl ?_
  exact ⟨_, rfl, RdS.nil _ _ _, E2⟩
set_option maxHeartbeats 800000 in
theorem mgetPacket (g : Nat) (m : Mg) (v : Value) (A : Nat → Prop) (w : World) (h : Blk w g 67 (mgA m v)) : Calls Tryz.prog 98 #[.pointer (some ⟨g, 0, none⟩)] w (GetP A m.pk [] w) := by
  have hi : (Tryz.prog.info? 59).map (·.size) = some 4 := by kernel_rfl
  have kc := (mgC (h.ext ((Ext.refl w).alloc (.cells #[.int .i64 0, .int .u32 0, .slice none 0 0, .slice none 0 0] 59)))).k4
  clear h
  go_enter Tryz.func98, Tryz.ntmps98
  go_wp2_with (refine wpList_store_A rfl 59 _ _ rfl w.heap.size _ rfl rfl 59 _ (show Blk _ _ _ _ from Blk.at_ _ _ (by simp)) hi rfl (by simp [Value.oneCell']) ?_; intro w2 HB E2; have E2 := E2 w.heap.size w (by repeat (first | with_reducible exact Ext.refl _ | refine Ext.drewN ?_ _ | refine Ext.drew ?_ | refine Ext.alloc ?_ _ | assumption | (refine Below.trans ?_ (by assumption)) | (refine Ext.trans ?_ (by assumption)) | (refine Below.trans ?_ (Below.mono (by assumption) (by omega))))) (Nat.le_refl _))
  refine bodyPost_ret_by (results_cell_row Tryz.results98 _ _ w.heap.size 59 _ _ _ rfl HB Tryz.underlying59 rfl hi) rfl ?_
  exact ⟨_, rfl, RdS.nil _ _ _, E2⟩
set_option maxHeartbeats 800000 in
theorem mgetChan (g : Nat) (m : Mg) (v : Value) (A : Nat → Prop) (w : World) (h : Blk w g 67 (mgA m v)) : Calls Tryz.prog 100 #[.pointer (some ⟨g, 0, none⟩)] w (GetP A m.ch [] w) := by
  have hi : (Tryz.prog.info? 59).map (·.size) = some 4 := by kernel_rfl
  have kc := (mgC (h.ext ((Ext.refl w).alloc (.cells #[.int .i64 0, .int .u32 0, .slice none 0 0, .slice none 0 0] 59)))).k1
  clear h
  go_enter Tryz.func100, Tryz.ntmps100
  go_wp2_with (refine wpList_store_A rfl 59 _ _ rfl w.heap.size _ rfl rfl 59 _ (show Blk _ _ _ _ from Blk.at_ _ _ (by simp)) hi rfl (by simp [Value.oneCell']) ?_; intro w2 HB E2; have E2 := E2 w.heap.size w (by repeat (first | with_reducible exact Ext.refl _ | refine Ext.drewN ?_ _ | refine Ext.drew ?_ | refine Ext.alloc ?_ _ | assumption | (refine Below.trans ?_ (by assumption)) | (refine Ext.trans ?_ (by assumption)) | (refine Below.trans ?_ (Below.mono (by assumption) (by omega))))) (Nat.le_refl _))
  refine bodyPost_ret_by (results_cell_row Tryz.results100 _ _ w.heap.size 59 _ _ _ rfl HB Tryz.underlying59 rfl hi) rfl ?_
  exact ⟨_, rfl, RdS.nil _ _ _, E2⟩
set_option maxHeartbeats 800000 in
theorem mgetWant (g : Nat) (m : Mg) (v : Value) (A : Nat → Prop) (w : World) (h : Blk w g 67 (mgA m v)) : Calls Tryz.prog 92 #[.pointer (some ⟨g, 0, none⟩)] w (GetP A (if m.wa = true then 1 else 0) [] w) := by
  have hi : (Tryz.prog.info? 59).map (·.size) = some 4 := by kernel_rfl
  have kc := (mgC (h.ext ((Ext.refl w).alloc (.cells #[.int .i64 0, .int .u32 0, .slice none 0 0, .slice none 0 0] 59)))).k8
  obtain ⟨x, hx⟩ : ∃ x, m.wa = x := ⟨_, rfl⟩
  rw [hx] at kc ⊢
  clear h hx
  cases x with
  | true =>
    go_enter Tryz.func92, Tryz.ntmps92
    go_wp2_with (refine wpList_store_A rfl 59 _ _ rfl w.heap.size _ rfl rfl 59 _ (show Blk _ _ _ _ from Blk.at_ _ _ (by simp)) hi rfl (by simp [Value.oneCell']) ?_; intro w2 HB E2; have E2 := E2 w.heap.size w (by repeat (first | with_reducible exact Ext.refl _ | refine Ext.drewN ?_ _ | refine Ext.drew ?_ | refine Ext.alloc ?_ _ | assumption | (refine Below.trans ?_ (by assumption)) | (refine Ext.trans ?_ (by assumption)) | (refine Below.trans ?_ (Below.mono (by assumption) (by omega))))) (Nat.le_refl _))
    refine bodyPost_ret_by (results_cell_row Tryz.results92 _ _ w.heap.size 59 _ _ _ rfl HB Tryz.underlying59 rfl hi) rfl ?_
    exact ⟨_, rfl, RdS.nil _ _ _, E2⟩
  | false =>
    go_enter Tryz.func92, Tryz.ntmps92
    go_wp2_with (refine wpList_store_A rfl 59 _ _ rfl w.heap.size _ rfl rfl 59 _ (show Blk _ _ _ _ from Blk.at_ _ _ (by simp)) hi rfl (by simp [Value.oneCell']) ?_; intro w2 HB E2; have E2 := E2 w.heap.size w (by repeat (first | with_reducible exact Ext.refl _ | refine Ext.drewN ?_ _ | refine Ext.drew ?_ | refine Ext.alloc ?_ _ | assumption | (refine Below.trans ?_ (by assumption)) | (refine Ext.trans ?_ (by assumption)) | (refine Below.trans ?_ (Below.mono (by assumption) (by omega))))) (Nat.le_refl _))
    refine bodyPost_ret_by (results_cell_row Tryz.results92 _ _ w.heap.size 59 _ _ _ rfl HB Tryz.underlying59 rfl hi) rfl ?_
    exact ⟨_, rfl, RdS.nil _ _ _, E2⟩
set_option maxHeartbeats 800000 in
theorem mgetData (g : Nat) (m : Mg) (v : Value) (A : Nat → Prop) (w : World) (h : Blk w g 67 (mgA m v)) (hv : RdS Ub8 A w v m.da) : Calls Tryz.prog 86 #[.pointer (some ⟨g, 0, none⟩)] w (GetP A 0 m.da w) := by
  have hi : (Tryz.prog.info? 59).map (·.size) = some 4 := by kernel_rfl
  obtain ⟨Ad, c, rfl, -, -⟩ := hv.shape
  have HV := Lib.hid hv
  have kc := (mgC (h.ext ((Ext.refl w).alloc (.cells #[.int .i64 0, .int .u32 0, .slice none 0 0, .slice none 0 0] 59)))).k9
  clear h hv
  go_enter Tryz.func86, Tryz.ntmps86
  go_wp2_with (refine wpList_store_A rfl 59 _ _ rfl w.heap.size _ rfl rfl 59 _ (show Blk _ _ _ _ from Blk.at_ _ _ (by simp)) hi rfl (by simp [Value.oneCell']) ?_; intro w2 HB E2; have E2 := E2 w.heap.size w (by repeat (first | with_reducible exact Ext.refl _ | refine Ext.drewN ?_ _ | refine Ext.drew ?_ | refine Ext.alloc ?_ _ | assumption | (refine Below.trans ?_ (by assumption)) | (refine Ext.trans ?_ (by assumption)) | (refine Below.trans ?_ (Below.mono (by assumption) (by omega))))) (Nat.le_refl _))
  refine bodyPost_ret_by (results_cell_row Tryz.results86 _ _ w.heap.size 59 _ _ _ rfl HB Tryz.underlying59 rfl hi) rfl ?_
  exact ⟨_, rfl, (HV.out.ext E2).mono (fun _ _ hk => .inl hk), E2⟩
end Go.Proofs.YtldijmappinngaaGreatDoor
