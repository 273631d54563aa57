/- message: what puts its fields, by contract. No condition. -/
import Derived.Test.YtldijmappinngaaGreatDoorON04
namespace Go.Proofs.YtldijmappinngaaGreatDoor
open Go.RowKit Go.Kb
set_option maxRecDepth 100000

/-- what a putter leaves -/
def PutP (g : Nat) (A : Nat → Prop) (m : Mg) (w : World) (e : Ending) (w' : World) : Prop :=
  e = .returned (.tuple #[]) ∧ ∃ v, Blk w' g 67 (mgA m v) ∧ RdS Ub8 A w' v m.da ∧ Mod (fun k => k = g) w w'
set_option maxHeartbeats 800000 in
theorem mputCode (g : Nat) (m : Mg) (v : Value) (k n : Int) (t : List Int) (vt vl : Value) (A : Nat → Prop) (w : World) (h : Blk w g 67 (mgA m v)) (hv : RdS Ub8 A w v m.da) (ht : RdS Ub8 A w vt t) (hA : ∀ k, A k → k ≠ g) :
    Calls Tryz.prog 85 #[.pointer (some ⟨g, 0, none⟩), .agg #[.int .i64 k, .int .u32 n, vt, vl]] w (PutP g A { m with co := n } w) := by
  obtain ⟨Av, cv, rfl, -, -⟩ := hv.shape
  obtain ⟨At, ct, rfl, -, -⟩ := ht.shape
  have E0 : Ext w (w.alloc (.cells #[.int .i64 k, .int .u32 n, .slice At t.length ct, vl] 59)) := (Ext.refl w).alloc _
  have HX := Lib.hid (h.ext E0)
  have kc := HX.out.cell 5
  have kf := HX.out.frozen 5
  clear h
  go_enter Tryz.func85, Tryz.ntmps85
  go_wp2
  go_end0
  have M1 : Mod (fun k => k = g) w (World.setCell (w.alloc (.cells #[.int .i64 k, .int .u32 n, .slice At t.length ct, vl] 59)) ⟨g, 5, none⟩ (.int .u32 n)) := (Mod.of_ext E0).set1 _
  refine ⟨rfl, _, by simpa using HX.out.set_ 5 (.int .u32 n), hv.mod M1 (fun k _ hk he => hA k hk he), M1⟩
set_option maxHeartbeats 800000 in
theorem mputSender (g : Nat) (m : Mg) (v : Value) (k n : Int) (t : List Int) (vt vl : Value) (A : Nat → Prop) (w : World) (h : Blk w g 67 (mgA m v)) (hv : RdS Ub8 A w v m.da) (ht : RdS Ub8 A w vt t) (hA : ∀ k, A k → k ≠ g) :
    Calls Tryz.prog 95 #[.pointer (some ⟨g, 0, none⟩), .agg #[.int .i64 k, .int .u32 n, vt, vl]] w (PutP g A { m with se := n } w) := by
  obtain ⟨Av, cv, rfl, -, -⟩ := hv.shape
  obtain ⟨At, ct, rfl, -, -⟩ := ht.shape
  have E0 : Ext w (w.alloc (.cells #[.int .i64 k, .int .u32 n, .slice At t.length ct, vl] 59)) := (Ext.refl w).alloc _
  have HX := Lib.hid (h.ext E0)
  have kc := HX.out.cell 2
  have kf := HX.out.frozen 2
  clear h
  go_enter Tryz.func95, Tryz.ntmps95
  go_wp2
  go_end0
  have M1 : Mod (fun k => k = g) w (World.setCell (w.alloc (.cells #[.int .i64 k, .int .u32 n, .slice At t.length ct, vl] 59)) ⟨g, 2, none⟩ (.int .u32 n)) := (Mod.of_ext E0).set1 _
  refine ⟨rfl, _, by simpa using HX.out.set_ 2 (.int .u32 n), hv.mod M1 (fun k _ hk he => hA k hk he), M1⟩
set_option maxHeartbeats 800000 in
theorem mputWindow (g : Nat) (m : Mg) (v : Value) (k n : Int) (t : List Int) (vt vl : Value) (A : Nat → Prop) (w : World) (h : Blk w g 67 (mgA m v)) (hv : RdS Ub8 A w v m.da) (ht : RdS Ub8 A w vt t) (hA : ∀ k, A k → k ≠ g) :
    Calls Tryz.prog 97 #[.pointer (some ⟨g, 0, none⟩), .agg #[.int .i64 k, .int .u32 n, vt, vl]] w (PutP g A { m with wi := n } w) := by
  obtain ⟨Av, cv, rfl, -, -⟩ := hv.shape
  obtain ⟨At, ct, rfl, -, -⟩ := ht.shape
  have E0 : Ext w (w.alloc (.cells #[.int .i64 k, .int .u32 n, .slice At t.length ct, vl] 59)) := (Ext.refl w).alloc _
  have HX := Lib.hid (h.ext E0)
  have kc := HX.out.cell 3
  have kf := HX.out.frozen 3
  clear h
  go_enter Tryz.func97, Tryz.ntmps97
  go_wp2
  go_end0
  have M1 : Mod (fun k => k = g) w (World.setCell (w.alloc (.cells #[.int .i64 k, .int .u32 n, .slice At t.length ct, vl] 59)) ⟨g, 3, none⟩ (.int .u32 n)) := (Mod.of_ext E0).set1 _
  refine ⟨rfl, _, by simpa using HX.out.set_ 3 (.int .u32 n), hv.mod M1 (fun k _ hk he => hA k hk he), M1⟩
set_option maxHeartbeats 800000 in
theorem mputPacket (g : Nat) (m : Mg) (v : Value) (k n : Int) (t : List Int) (vt vl : Value) (A : Nat → Prop) (w : World) (h : Blk w g 67 (mgA m v)) (hv : RdS Ub8 A w v m.da) (ht : RdS Ub8 A w vt t) (hA : ∀ k, A k → k ≠ g) :
    Calls Tryz.prog 99 #[.pointer (some ⟨g, 0, none⟩), .agg #[.int .i64 k, .int .u32 n, vt, vl]] w (PutP g A { m with pk := n } w) := by
  obtain ⟨Av, cv, rfl, -, -⟩ := hv.shape
  obtain ⟨At, ct, rfl, -, -⟩ := ht.shape
  have E0 : Ext w (w.alloc (.cells #[.int .i64 k, .int .u32 n, .slice At t.length ct, vl] 59)) := (Ext.refl w).alloc _
  have HX := Lib.hid (h.ext E0)
  have kc := HX.out.cell 4
  have kf := HX.out.frozen 4
  clear h
  go_enter Tryz.func99, Tryz.ntmps99
  go_wp2
  go_end0
  have M1 : Mod (fun k => k = g) w (World.setCell (w.alloc (.cells #[.int .i64 k, .int .u32 n, .slice At t.length ct, vl] 59)) ⟨g, 4, none⟩ (.int .u32 n)) := (Mod.of_ext E0).set1 _
  refine ⟨rfl, _, by simpa using HX.out.set_ 4 (.int .u32 n), hv.mod M1 (fun k _ hk he => hA k hk he), M1⟩
set_option maxHeartbeats 800000 in
theorem mputChan (g : Nat) (m : Mg) (v : Value) (k n : Int) (t : List Int) (vt vl : Value) (A : Nat → Prop) (w : World) (h : Blk w g 67 (mgA m v)) (hv : RdS Ub8 A w v m.da) (ht : RdS Ub8 A w vt t) (hA : ∀ k, A k → k ≠ g) :
    Calls Tryz.prog 101 #[.pointer (some ⟨g, 0, none⟩), .agg #[.int .i64 k, .int .u32 n, vt, vl]] w (PutP g A { m with ch := n } w) := by
  obtain ⟨Av, cv, rfl, -, -⟩ := hv.shape
  obtain ⟨At, ct, rfl, -, -⟩ := ht.shape
  have E0 : Ext w (w.alloc (.cells #[.int .i64 k, .int .u32 n, .slice At t.length ct, vl] 59)) := (Ext.refl w).alloc _
  have HX := Lib.hid (h.ext E0)
  have kc := HX.out.cell 1
  have kf := HX.out.frozen 1
  clear h
  go_enter Tryz.func101, Tryz.ntmps101
  go_wp2
  go_end0
  have M1 : Mod (fun k => k = g) w (World.setCell (w.alloc (.cells #[.int .i64 k, .int .u32 n, .slice At t.length ct, vl] 59)) ⟨g, 1, none⟩ (.int .u32 n)) := (Mod.of_ext E0).set1 _
  refine ⟨rfl, _, by simpa using HX.out.set_ 1 (.int .u32 n), hv.mod M1 (fun k _ hk he => hA k hk he), M1⟩
set_option maxHeartbeats 800000 in
theorem mputData (g : Nat) (m : Mg) (v : Value) (k n : Int) (t : List Int) (vt vl : Value) (A : Nat → Prop) (w : World) (h : Blk w g 67 (mgA m v)) (hv : RdS Ub8 A w v m.da) (ht : RdS Ub8 A w vt t) (hA : ∀ k, A k → k ≠ g) :
    Calls Tryz.prog 87 #[.pointer (some ⟨g, 0, none⟩), .agg #[.int .i64 k, .int .u32 n, vt, vl]] w (PutP g A { m with da := t } w) := by
  obtain ⟨Av, cv, rfl, -, -⟩ := hv.shape
  obtain ⟨At, ct, rfl, -, -⟩ := ht.shape
  have E0 : Ext w (w.alloc (.cells #[.int .i64 k, .int .u32 n, .slice At t.length ct, vl] 59)) := (Ext.refl w).alloc _
  have HX := Lib.hid (h.ext E0)
  have kc := HX.out.cell 9
  have kf := HX.out.frozen 9
  clear h
  go_enter Tryz.func87, Tryz.ntmps87
  go_wp2
  go_end0
  have M1 : Mod (fun k => k = g) w (World.setCell (w.alloc (.cells #[.int .i64 k, .int .u32 n, .slice At t.length ct, vl] 59)) ⟨g, 9, none⟩ (.slice At t.length ct)) := (Mod.of_ext E0).set1 _
  refine ⟨rfl, _, by simpa using HX.out.set_ 9 (.slice At t.length ct), ht.mod M1 (fun k _ hk he => hA k hk he), M1⟩
set_option maxHeartbeats 800000 in
theorem mputWant (g : Nat) (m : Mg) (v : Value) (k n : Int) (t : List Int) (vt vl : Value) (A : Nat → Prop) (w : World) (h : Blk w g 67 (mgA m v)) (hv : RdS Ub8 A w v m.da) (ht : RdS Ub8 A w vt t) (hA : ∀ k, A k → k ≠ g) :
    Calls Tryz.prog 93 #[.pointer (some ⟨g, 0, none⟩), .agg #[.int .i64 k, .int .u32 n, vt, vl]] w (PutP g A { m with wa := (n == 1) } w) := by
  obtain ⟨Av, cv, rfl, -, -⟩ := hv.shape
  obtain ⟨At, ct, rfl, -, -⟩ := ht.shape
  have E0 : Ext w (w.alloc (.cells #[.int .i64 k, .int .u32 n, .slice At t.length ct, vl] 59)) := (Ext.refl w).alloc _
  have HX := Lib.hid (h.ext E0)
  have kc := HX.out.cell 8
  have kf := HX.out.frozen 8
  clear h
  go_enter Tryz.func93, Tryz.ntmps93
  go_wp2
  go_end0
  have M1 : Mod (fun k => k = g) w (World.setCell (w.alloc (.cells #[.int .i64 k, .int .u32 n, .slice At t.length ct, vl] 59)) ⟨g, 8, none⟩ (.bool (n == 1))) := (Mod.of_ext E0).set1 _
  refine ⟨rfl, _, by simpa using HX.out.set_ 8 (.bool (n == 1)), hv.mod M1 (fun k _ hk he => hA k hk he), M1⟩
set_option maxHeartbeats 800000 in
theorem mputName (g : Nat) (m : Mg) (v : Value) (k n : Int) (t : List Int) (vt vl : Value) (A : Nat → Prop) (w : World) (h : Blk w g 67 (mgA m v)) (hv : RdS Ub8 A w v m.da) (ht : RdS Ub8 A w vt t) (hA : ∀ k, A k → k ≠ g) :
    Calls Tryz.prog 91 #[.pointer (some ⟨g, 0, none⟩), .agg #[.int .i64 k, .int .u32 n, vt, vl]] w (PutP g A { m with nm := strOfNums t } w) := by
  obtain ⟨Av, cv, rfl, -, -⟩ := hv.shape
  obtain ⟨At, ct, rfl, -, -⟩ := ht.shape
  have E0 : Ext w (w.alloc (.cells #[.int .i64 k, .int .u32 n, .slice At t.length ct, vl] 59)) := (Ext.refl w).alloc _
  have HX := Lib.hid (h.ext E0)
  have hcv : (convert 25 9 (.slice At t.length ct)).run Tryz.prog (w.alloc (.cells #[.int .i64 k, .int .u32 n, .slice At t.length ct, vl] 59)) = _ := RI.str Tryz.underlying25 Tryz.underlying5 Tryz.underlying9 ((RdS.ri ht).ext E0)
  have kc := HX.out.cell 6
  have kf := HX.out.frozen 6
  clear h
  go_enter Tryz.func91, Tryz.ntmps91
  go_wp2
  go_end0
  have M1 : Mod (fun k => k = g) w (World.setCell (w.alloc (.cells #[.int .i64 k, .int .u32 n, .slice At t.length ct, vl] 59)) ⟨g, 6, none⟩ (.string (strOfNums t))) := (Mod.of_ext E0).set1 _
  refine ⟨rfl, _, by simpa using HX.out.set_ 6 (.string (strOfNums t)), hv.mod M1 (fun k _ hk he => hA k hk he), M1⟩
set_option maxHeartbeats 800000 in
theorem mputLang (g : Nat) (m : Mg) (v : Value) (k n : Int) (t : List Int) (vt vl : Value) (A : Nat → Prop) (w : World) (h : Blk w g 67 (mgA m v)) (hv : RdS Ub8 A w v m.da) (ht : RdS Ub8 A w vt t) (hA : ∀ k, A k → k ≠ g) :
    Calls Tryz.prog 89 #[.pointer (some ⟨g, 0, none⟩), .agg #[.int .i64 k, .int .u32 n, vt, vl]] w (PutP g A { m with la := strOfNums t } w) := by
  obtain ⟨Av, cv, rfl, -, -⟩ := hv.shape
  obtain ⟨At, ct, rfl, -, -⟩ := ht.shape
  have E0 : Ext w (w.alloc (.cells #[.int .i64 k, .int .u32 n, .slice At t.length ct, vl] 59)) := (Ext.refl w).alloc _
  have HX := Lib.hid (h.ext E0)
  have hcv : (convert 25 9 (.slice At t.length ct)).run Tryz.prog (w.alloc (.cells #[.int .i64 k, .int .u32 n, .slice At t.length ct, vl] 59)) = _ := RI.str Tryz.underlying25 Tryz.underlying5 Tryz.underlying9 ((RdS.ri ht).ext E0)
  have kc := HX.out.cell 7
  have kf := HX.out.frozen 7
  clear h
  go_enter Tryz.func89, Tryz.ntmps89
  go_wp2
  go_end0
  have M1 : Mod (fun k => k = g) w (World.setCell (w.alloc (.cells #[.int .i64 k, .int .u32 n, .slice At t.length ct, vl] 59)) ⟨g, 7, none⟩ (.string (strOfNums t))) := (Mod.of_ext E0).set1 _
  refine ⟨rfl, _, by simpa using HX.out.set_ 7 (.string (strOfNums t)), hv.mod M1 (fun k _ hk he => hA k hk he), M1⟩
end Go.Proofs.YtldijmappinngaaGreatDoor
