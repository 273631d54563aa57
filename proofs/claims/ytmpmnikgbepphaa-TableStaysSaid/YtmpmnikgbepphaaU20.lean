/- The tests of Wait: a child, a zombie, a stop that was not told; by contract. No condition. -/
import Derived.Test.YtmpmnikgbepphaaT20
namespace Go.Proofs.Ytmpmnikgbepphaa
open Go.RowKit Go.Kb

theorem enters_wait1 (args : Array Value) (w : World) : (callFunc 34 args).run Try.prog w = .ok (.enter 34 args) w := by kernel_rfl
set_option maxHeartbeats 400000 in
theorem wait1_any (pid : Int) (n : Nat) (p : Pr) (w : World) (hp : p.ok) (h : Blk w n 3 #[.int .i64 pid]) :
    Calls Try.prog 34 #[.agg p.cells.toArray, .pointer (some ⟨n, 0, none⟩)] w fun e w' => e = .returned (.bool (p.parent == pid)) ∧ Ext w w' := by
  have c0 := (pr_new w 43 hp).c1
  have c1 := (h.alloc (.cells p.cells.toArray 43)).cell0
  generalize p.cells.toArray = cs at c0 c1 ⊢
  clear hp h
  go_enter Try.func34, Try.ntmps34
  go_wp2
  go_ret
  exact ⟨rfl, (by repeat (first | with_reducible exact Ext.refl _ | refine Ext.drewN ?_ _ | refine Ext.drew ?_ | refine Ext.alloc ?_ _ | assumption | (refine Below.trans ?_ (by assumption)) | (refine Ext.trans ?_ (by assumption)) | (refine Below.trans ?_ (Below.mono (by assumption) (by omega)))))⟩
theorem asks_child {pid : Int} {n : Nat} {w : World} (h : Blk w n 3 #[.int .i64 pid]) : Asks 34 #[] #[.pointer (some ⟨n, 0, none⟩)] (fun p => p.parent == pid) w :=
  ⟨enters_wait1, fun p w' hp hE => wait1_any pid n p w' hp (h.ext hE)⟩
def deadP (p : Pr) : Bool := p.state == 3
theorem enters_wait2 (args : Array Value) (w : World) : (callFunc 35 args).run Try.prog w = .ok (.enter 35 args) w := by kernel_rfl
set_option maxHeartbeats 400000 in
theorem wait2_any (p : Pr) (w : World) (hp : p.ok) :
    Calls Try.prog 35 #[.agg p.cells.toArray] w fun e w' => e = .returned (.bool (deadP p)) ∧ Ext w w' := by
  have c4 := (pr_new w 43 hp).c4
  unfold deadP
  generalize p.cells.toArray = cs at c4 ⊢
  clear hp
  go_enter Try.func35, Try.ntmps35
  go_wp2
  go_ret
  exact ⟨rfl, (by repeat (first | with_reducible exact Ext.refl _ | refine Ext.drewN ?_ _ | refine Ext.drew ?_ | refine Ext.alloc ?_ _ | assumption | (refine Below.trans ?_ (by assumption)) | (refine Ext.trans ?_ (by assumption)) | (refine Below.trans ?_ (Below.mono (by assumption) (by omega)))))⟩
theorem asks_dead (w : World) : Asks 35 #[] #[] deadP w := ⟨enters_wait2, fun p w' hp _ => wait2_any p w' hp⟩
def newsP (p : Pr) : Bool := p.state == 2 && !p.told
theorem enters_wait3 (args : Array Value) (w : World) : (callFunc 36 args).run Try.prog w = .ok (.enter 36 args) w := by kernel_rfl
set_option maxHeartbeats 800000 in
theorem wait3_any (p : Pr) (w : World) (hp : p.ok) :
    Calls Try.prog 36 #[.agg p.cells.toArray] w fun e w' => e = .returned (.bool (newsP p)) ∧ Ext w w' := by
  have c4 := (pr_new w 43 hp).c4
  have c42 := (pr_new w 43 hp).c42
  unfold newsP
  generalize p.cells.toArray = cs at c4 c42 ⊢
  clear hp
  cases hs : (p.state == 2)
  · go_enter Try.func36, Try.ntmps36
    go_wp2
    go_ret
    exact ⟨by simp, (by repeat (first | with_reducible exact Ext.refl _ | refine Ext.drewN ?_ _ | refine Ext.drew ?_ | refine Ext.alloc ?_ _ | assumption | (refine Below.trans ?_ (by assumption)) | (refine Ext.trans ?_ (by assumption)) | (refine Below.trans ?_ (Below.mono (by assumption) (by omega)))))⟩
  · go_enter Try.func36, Try.ntmps36
    go_wp2
    go_ret
    exact ⟨by simp, (by repeat (first | with_reducible exact Ext.refl _ | refine Ext.drewN ?_ _ | refine Ext.drew ?_ | refine Ext.alloc ?_ _ | assumption | (refine Below.trans ?_ (by assumption)) | (refine Ext.trans ?_ (by assumption)) | (refine Below.trans ?_ (Below.mono (by assumption) (by omega)))))⟩
theorem asks_news (w : World) : Asks 36 #[] #[] newsP w := ⟨enters_wait3, fun p w' hp _ => wait3_any p w' hp⟩
end Go.Proofs.Ytmpmnikgbepphaa
