/- Tests of processes: is, lives, all of two, find, by contract. No condition. -/
import Derived.Test.YtmpmnikgbepphaaB20
namespace Go.Proofs.Ytmpmnikgbepphaa
open Go.RowKit Go.Kb

theorem pr_new (w : World) (t : TypeId) {p : Pr} (h : p.ok) : PrAt (w.alloc (.cells p.cells.toArray t)) w.heap.size 0 p := prAt_blk h (Blk.new w t p.arr)
theorem enters_is (args : Array Value) (w : World) : (callFunc 62 args).run Try.prog w = .ok (.enter 62 args) w := by kernel_rfl
set_option maxHeartbeats 400000 in
theorem is1_any (pid : Int) (n : Nat) (p : Pr) (w : World) (hp : p.ok) (h : Blk w n 3 #[.int .i64 pid]) :
    Calls Try.prog 62 #[.agg p.cells.toArray, .pointer (some ⟨n, 0, none⟩)] w fun e w' => e = .returned (.bool (p.pid == pid)) ∧ Ext w w' := by
  have c0 := (pr_new w 43 hp).c0
  have c1 := (h.alloc (.cells p.cells.toArray 43)).cell0
  generalize p.cells.toArray = cs at c0 c1 ⊢
  clear hp h
  go_enter Try.func62, Try.ntmps62
  go_wp2
  go_ret
  exact ⟨rfl, (by repeat (first | with_reducible exact Ext.refl _ | refine Ext.drewN ?_ _ | refine Ext.drew ?_ | refine Ext.alloc ?_ _ | assumption | (refine Below.trans ?_ (by assumption)) | (refine Ext.trans ?_ (by assumption)) | (refine Below.trans ?_ (Below.mono (by assumption) (by omega)))))⟩
theorem asks_is {pid : Int} {n : Nat} {w : World} (h : Blk w n 3 #[.int .i64 pid]) : Asks 62 #[] #[.pointer (some ⟨n, 0, none⟩)] (fun p => p.pid == pid) w :=
  ⟨enters_is, fun p w' hp hE => is1_any pid n p w' hp (h.ext hE)⟩
set_option maxHeartbeats 400000 in
theorem is_any (pid : Int) (w : World) : Calls Try.prog 41 #[.int .i64 pid] w fun e w' => ∃ n, e = .returned (.func (.func 62) #[] #[.pointer (some ⟨n, 0, none⟩)]) ∧ Asks 62 #[] #[.pointer (some ⟨n, 0, none⟩)] (fun p => p.pid == pid) w' ∧ Ext w w' := by
  go_enter Try.func41, Try.ntmps41
  go_wp2
  go_ret
  exact ⟨_, rfl, asks_is (Blk.new _ _ _), (by repeat (first | with_reducible exact Ext.refl _ | refine Ext.drewN ?_ _ | refine Ext.drew ?_ | refine Ext.alloc ?_ _ | assumption | (refine Below.trans ?_ (by assumption)) | (refine Ext.trans ?_ (by assumption)) | (refine Below.trans ?_ (Below.mono (by assumption) (by omega)))))⟩
/-- a process that is no zombie -/
def liveP (p : Pr) : Bool := p.state != 3
theorem enters_lives (args : Array Value) (w : World) : (callFunc 46 args).run Try.prog w = .ok (.enter 46 args) w := by kernel_rfl
set_option maxHeartbeats 400000 in
theorem lives_any (p : Pr) (w : World) (hp : p.ok) :
    Calls Try.prog 46 #[.agg p.cells.toArray] w fun e w' => e = .returned (.bool (liveP p)) ∧ Ext w w' := by
  have c4 := (pr_new w 43 hp).c4
  unfold liveP
  generalize p.cells.toArray = cs at c4 ⊢
  clear hp
  go_enter Try.func46, Try.ntmps46
  go_wp2
  go_ret
  exact ⟨rfl, (by repeat (first | with_reducible exact Ext.refl _ | refine Ext.drewN ?_ _ | refine Ext.drew ?_ | refine Ext.alloc ?_ _ | assumption | (refine Below.trans ?_ (by assumption)) | (refine Ext.trans ?_ (by assumption)) | (refine Below.trans ?_ (Below.mono (by assumption) (by omega)))))⟩
theorem asks_lives (w : World) : Asks 46 #[] #[] liveP w := ⟨enters_lives, fun p w' hp _ => lives_any p w' hp⟩
end Go.Proofs.Ytmpmnikgbepphaa
