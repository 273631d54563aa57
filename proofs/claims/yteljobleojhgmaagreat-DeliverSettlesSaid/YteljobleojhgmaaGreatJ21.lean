/- A stopped process is woken, by contract. No condition. -/
import Derived.Test.YteljobleojhgmaaGreatI21
namespace Go.Proofs.YteljobleojhgmaaGreat
open Go.RowKit Go.Kb

/-- a process that is woken -/
def wakeP (p : Pr) : Pr := if p.state = 2 then { p with state := 1 } else p
theorem stat_cells {p : Pr} {x : Int} : p.cells.toArray.setIfInBounds 4 (.int .i64 x) = (Pr.cells { p with state := x }).toArray := by
  simp [Pr.cells]
set_option maxRecDepth 100000 in
set_option maxHeartbeats 800000 in
theorem wake_any (p : Pr) (hok : p.ok) (n : Nat) (w : World) (h : Blk w n 42 p.cells.toArray) :
    Calls Tryz.prog 71 #[.pointer (some ⟨n, 0, none⟩)] w fun e w' => e = .returned (.tuple #[]) ∧ Blk w' n 42 (wakeP p).cells.toArray ∧ Mod (fun k => k = n) w w' := by
  have B := Lib.hid h
  have k4 := (prAt_blk hok (show Blk w n 42 p.arr from h)).c4
  have f4 := h.frozen 4
  rw [Nat.zero_add] at k4
  clear h
  by_cases h2 : p.state = 2
  · have hb : (p.state == 2) = true := by simpa using h2
    have HP := Lib.hid (show wakeP p = { p with state := 1 } by unfold wakeP; rw [if_pos h2])
    clear h2
    go_enter Tryz.func71, Tryz.ntmps71
    go_wp2
    have B2 := B.out.set_ 4 (.int .i64 1)
    rw [stat_cells] at B2
    go_end0
    rw [HP.out]
    exact ⟨rfl, B2, (Mod.refl _ w).set1 _⟩
  · have hb : (p.state == 2) = false := by simpa using h2
    have HP := Lib.hid (show wakeP p = p by unfold wakeP; rw [if_neg h2])
    clear h2
    go_enter Tryz.func71, Tryz.ntmps71
    go_wp2
    go_end0
    rw [HP.out]
    exact ⟨rfl, B.out, Mod.refl _ w⟩
end Go.Proofs.YteljobleojhgmaaGreat
