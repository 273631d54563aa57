/- Whether a group has a stopped process, by contract. No condition. -/
import Derived.Test.YteljobleojhgmaaGreatN21
namespace Go.Proofs.YteljobleojhgmaaGreat
open Go.RowKit Go.Kb

/-- a stopped process of a group -/
def haltP (g : Int) (p : Pr) : Bool := p.group == g && p.state == 2
theorem enters_halt (args : Array Value) (w : World) : (callFunc 83 args).run Tryz.prog w = .ok (.enter 83 args) w := by kernel_rfl
set_option maxHeartbeats 400000 in
theorem halt1_any (g : Int) (n : Nat) (p : Pr) (w : World) (hp : p.ok) (h : Blk w n 3 #[.int .i64 g]) :
    Calls Tryz.prog 83 #[.agg p.cells.toArray, .pointer (some ⟨n, 0, none⟩)] w fun e w' => e = .returned (.bool (haltP g p)) ∧ Ext w w' := by
  have c2 := (pr_new w 42 hp).c2
  have c4 := (pr_new w 42 hp).c4
  have c1 := (h.alloc (.cells p.cells.toArray 42)).cell0
  unfold haltP
  generalize p.cells.toArray = cs at c2 c4 c1 ⊢
  clear hp h
  cases hq : p.group == g
  · go_enter Tryz.func83, Tryz.ntmps83
    go_wp2
    go_ret
    exact ⟨rfl, (by repeat (first | with_reducible exact Ext.refl _ | refine Ext.drewN ?_ _ | refine Ext.drew ?_ | refine Ext.alloc ?_ _ | assumption | (refine Below.trans ?_ (by assumption)) | (refine Ext.trans ?_ (by assumption)) | (refine Below.trans ?_ (Below.mono (by assumption) (by omega)))))⟩
  · go_enter Tryz.func83, Tryz.ntmps83
    go_wp2
    go_ret
    exact ⟨rfl, (by repeat (first | with_reducible exact Ext.refl _ | refine Ext.drewN ?_ _ | refine Ext.drew ?_ | refine Ext.alloc ?_ _ | assumption | (refine Below.trans ?_ (by assumption)) | (refine Ext.trans ?_ (by assumption)) | (refine Below.trans ?_ (Below.mono (by assumption) (by omega)))))⟩
theorem asks_halt {g : Int} {n : Nat} {w : World} (h : Blk w n 3 #[.int .i64 g]) : Asks 83 #[] #[.pointer (some ⟨n, 0, none⟩)] (haltP g) w :=
  ⟨enters_halt, fun p w' hp hE => halt1_any g n p w' hp (h.ext hE)⟩
set_option maxRecDepth 100000 in
set_option maxHeartbeats 800000 in
theorem halted_any {A : Nat → Prop} (Ad : Option Addr) (c : Nat) (l : List Pr) (nx g : Int) (w : World) (h : RdY Rp A w (.slice Ad l.length c) l) :
    Calls Tryz.prog 49 #[tv Ad l.length c nx, .int .i64 g] w fun e w' => e = .returned (.bool (l.any (haltP g))) ∧ Ext w w' := by
  have H := Lib.hid (rdy_pr (B := fun _ => False) h)
  obtain ⟨W, hW⟩ : ∃ W, W = (w.alloc (.cells #[.slice Ad l.length c, .int .i64 nx] 29)).alloc (.cells #[.int .i64 g] 3) := ⟨_, rfl⟩
  have hb := Lib.hid (show Blk W (w.heap.size + 1) 3 #[.int .i64 g] by rw [hW]; exact Blk.at_ _ _ (by simp))
  have ha := Lib.hid (show Blk W w.heap.size 29 #[.slice Ad l.length c, .int .i64 nx] by rw [hW]; exact (Blk.new w _ _).alloc _)
  have E0 : Ext w W := by rw [hW]; exact (by repeat (first | with_reducible exact Ext.refl _ | refine Ext.drewN ?_ _ | refine Ext.drew ?_ | refine Ext.alloc ?_ _ | assumption | (refine Below.trans ?_ (by assumption)) | (refine Ext.trans ?_ (by assumption)) | (refine Below.trans ?_ (Below.mono (by assumption) (by omega)))))
  have HC := Lib.hid (contains_any _ _ _ (haltP g) _ l W (H.out.ext E0) (asks_halt hb.out))
  have HW := Lib.hid hW
  clear h hW
  go_enter Tryz.func49, Tryz.ntmps49
  go_wp2_with fail
  rw [← HW.out]
  have ka := ha.out.two
  have ka0 := ha.out.two.1
  go_wp2_with fail
  refine HC.out.mono ?_
  rintro e w1 ⟨rfl, E1⟩
  go_wp2
  go_ret
  exact ⟨rfl, E0.trans E1⟩
end Go.Proofs.YteljobleojhgmaaGreat
