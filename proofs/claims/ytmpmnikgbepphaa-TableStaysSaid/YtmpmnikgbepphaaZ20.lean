/- The test for a fellow of a group and session, by contract. No condition. -/
import Derived.Test.YtmpmnikgbepphaaY20
namespace Go.Proofs.Ytmpmnikgbepphaa
open Go.RowKit Go.Kb

def fellowP (group session : Int) (p : Pr) : Bool := p.group == group && p.session == session
theorem enters_group1 (args : Array Value) (w : World) : (callFunc 67 args).run Try.prog w = .ok (.enter 67 args) w := by kernel_rfl
set_option maxHeartbeats 800000 in
theorem group1_any (group : Int) (n n2 : Nat) (q p : Pr) (w : World) (hp : p.ok) (hq : q.ok) (h : Blk w n 3 #[.int .i64 group]) (h2 : Blk w n2 43 q.cells.toArray) :
    Calls Try.prog 67 #[.agg p.cells.toArray, .pointer (some ⟨n, 0, none⟩), .pointer (some ⟨n2, 0, none⟩)] w fun e w' => e = .returned (.bool (fellowP group q.session p)) ∧ Ext w w' := by
  have c2 := (pr_new w 43 hp).c2
  have c3 := (pr_new w 43 hp).c3
  have d0 := (h.alloc (.cells p.cells.toArray 43)).cell0
  have d3 := (prAt_blk hq (h2.alloc (.cells p.cells.toArray 43))).c3
  unfold fellowP
  generalize p.cells.toArray = cs at c2 c3 d0 d3 ⊢
  clear hp hq h h2
  cases hg : (p.group == group)
  · go_enter Try.func67, Try.ntmps67
    go_wp2
    go_ret
    exact ⟨by simp, (by repeat (first | with_reducible exact Ext.refl _ | refine Ext.drewN ?_ _ | refine Ext.drew ?_ | refine Ext.alloc ?_ _ | assumption | (refine Below.trans ?_ (by assumption)) | (refine Ext.trans ?_ (by assumption)) | (refine Below.trans ?_ (Below.mono (by assumption) (by omega)))))⟩
  · go_enter Try.func67, Try.ntmps67
    go_wp2
    go_ret
    exact ⟨by simp, (by repeat (first | with_reducible exact Ext.refl _ | refine Ext.drewN ?_ _ | refine Ext.drew ?_ | refine Ext.alloc ?_ _ | assumption | (refine Below.trans ?_ (by assumption)) | (refine Ext.trans ?_ (by assumption)) | (refine Below.trans ?_ (Below.mono (by assumption) (by omega)))))⟩
theorem asks_fellow {group : Int} {n n2 : Nat} {q : Pr} {w : World} (hq : q.ok) (h : Blk w n 3 #[.int .i64 group]) (h2 : Blk w n2 43 q.cells.toArray) : Asks 67 #[] #[.pointer (some ⟨n, 0, none⟩), .pointer (some ⟨n2, 0, none⟩)] (fellowP group q.session) w :=
  ⟨enters_group1, fun p w' hp hE => group1_any group n n2 q p w' hp hq (h.ext hE) (h2.ext hE)⟩
end Go.Proofs.Ytmpmnikgbepphaa
