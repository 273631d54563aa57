/- A flow's line: how it lies in memory, and what is done to it, by contract. Conditions: the setting is one. -/
import Derived.Test.YtiknogkopfhoiaaMoB
import Derived.Test.YtiknogkopfhoiaaMoF
import Derived.Test.YtiknogkopfhoiaaRep
namespace Go.Proofs.Ytiknogkopfhoiaa
open Go.RowKit Go.Kb

abbrev Ub : Rep Int := Rep.int .u8
theorem info_u8 : (Try.prog.info? 5).map (fun i => (i.zero, i.size, i.bytes)) = some (some (.int .u8 0), Ub.size, 1) := by kernel_rfl
/-- a line's cells: stopped, held, the setting, what the other end is told -/
def lineA (a b : Bool) (cs : Array Value) (o : Value) : Array Value := #[.bool a, .bool b] ++ cs ++ #[o]
theorem built_line (a b : Bool) (cs : Array Value) (h : cs.size = 24) : Try.prog.built 64 [(0, .agg #[.bool a, .bool b]), (1, .agg cs)] = some (lineA a b cs (.slice none 0 0)) := by
  rw [← arr24 h]
  kernel_rfl
theorem lineA_size {a b : Bool} {cs : Array Value} {o : Value} (h : cs.size = 24) : (lineA a b cs o).size = 27 := by simp [lineA, h]
theorem lineA_0 (a b : Bool) (cs : Array Value) (o : Value) : (lineA a b cs o)[0]? = some (.bool a) := by
  simp [lineA, Array.getElem?_append]
theorem lineA_1 (a b : Bool) (cs : Array Value) (o : Value) : (lineA a b cs o)[1]? = some (.bool b) := by
  simp [lineA, Array.getElem?_append]
theorem lineA_26 {a b : Bool} {cs : Array Value} {o : Value} (h : cs.size = 24) : (lineA a b cs o)[26]? = some o := by
  simp only [lineA]
  rw [Array.getElem?_append_right (by simp; omega)]
  simp [h]
theorem lineA_set0 (a b : Bool) (cs : Array Value) (o : Value) (x : Bool) : (lineA a b cs o).setIfInBounds 0 (.bool x) = lineA x b cs o := by
  apply Array.ext'
  simp [lineA]
theorem lineA_set1 (a b : Bool) (cs : Array Value) (o : Value) (x : Bool) : (lineA a b cs o).setIfInBounds 1 (.bool x) = lineA a x cs o := by
  apply Array.ext'
  simp [lineA]
theorem lineA_set26 {a b : Bool} {cs : Array Value} {o : Value} (h : cs.size = 24) (x : Value) : (lineA a b cs o).setIfInBounds 26 x = lineA a b cs x := by
  apply Array.ext'
  simp [lineA, h]
theorem lineA_mid {a b : Bool} {cs : Array Value} {o : Value} {w : World} {g : Nat} (hB : Blk w g 64 (lineA a b cs o)) : w.rangeAt g 2 cs.toList := by
  intro j v hj
  have hj' : cs[j]? = some v := by simpa using hj
  have hlt : j < cs.size := (Array.getElem?_eq_some_iff.1 hj').1
  rw [hB.cell (2 + j)]
  simp only [lineA]
  rw [Array.getElem?_append_left (by simp; omega), Array.getElem?_append_right (by simp)]
  simpa using hj'
theorem Ext.modNew {a w w' : World} {g : Nat} (h : Ext a w) (hM : Mod (fun k => k = g) w w') (hg : a.heap.size ≤ g) : Ext a w' := Mod.toExt h hM fun k hk he => by omega

theorem stop_any {g : Nat} {a b : Bool} {cs : Array Value} {o : Value} (w : World) (h : Blk w g 64 (lineA a b cs o)) :
    Calls Try.prog 22 #[.pointer (some ⟨g, 0, none⟩)] w fun e w' => e = .returned (.tuple #[]) ∧ Blk w' g 64 (lineA true b cs o) ∧ Mod (fun k => k = g) w w' := by
  have hc := h.cell 0
  have hf := h.frozen 0
  rw [lineA_0] at hc
  have hB := Lib.hid (h.set_ 0 (.bool true))
  rw [lineA_set0] at hB
  clear h
  go_enter Try.func22, Try.ntmps22
  go_wp2
  go_end0
  exact ⟨rfl, hB.out, (by repeat (first | with_reducible exact Mod.refl _ _ | refine Mod.drew ?_ | refine Mod.drewN ?_ _ | refine Mod.set1 ?_ _))⟩
theorem start_any {g : Nat} {a b : Bool} {cs : Array Value} {o : Value} (w : World) (h : Blk w g 64 (lineA a b cs o)) :
    Calls Try.prog 23 #[.pointer (some ⟨g, 0, none⟩)] w fun e w' => e = .returned (.tuple #[]) ∧ Blk w' g 64 (lineA false b cs o) ∧ Mod (fun k => k = g) w w' := by
  have hc := h.cell 0
  have hf := h.frozen 0
  rw [lineA_0] at hc
  have hB := Lib.hid (h.set_ 0 (.bool false))
  rw [lineA_set0] at hB
  clear h
  go_enter Try.func23, Try.ntmps23
  go_wp2
  go_end0
  exact ⟨rfl, hB.out, (by repeat (first | with_reducible exact Mod.refl _ _ | refine Mod.drew ?_ | refine Mod.drewN ?_ _ | refine Mod.set1 ?_ _))⟩
theorem nothing_any {g : Nat} {a b : Bool} {cs : Array Value} {o : Value} (w : World) (h : Blk w g 64 (lineA a b cs o)) :
    Calls Try.prog 20 #[.pointer (some ⟨g, 0, none⟩)] w fun e w' => e = .returned (.tuple #[]) ∧ Blk w' g 64 (lineA a b cs o) ∧ Mod (fun k => k = g) w w' := by
  have hB := Lib.hid h
  clear h
  go_enter Try.func20, Try.ntmps20
  go_wp2
  go_end0
  exact ⟨rfl, hB.out, (by repeat (first | with_reducible exact Mod.refl _ _ | refine Mod.drew ?_ | refine Mod.drewN ?_ _ | refine Mod.set1 ?_ _))⟩
theorem turn_any {g : Nat} {a b : Bool} {cs : Array Value} {o : Value} (w : World) (h : Blk w g 64 (lineA a b cs o)) :
    Calls Try.prog 21 #[.pointer (some ⟨g, 0, none⟩)] w fun e w' => e = .returned (.tuple #[]) ∧ Blk w' g 64 (lineA (!a) b cs o) ∧ Mod (fun k => k = g) w w' := by
  have hc := h.cell 0
  have hf := h.frozen 0
  rw [lineA_0] at hc
  have hB := Lib.hid (h.set_ 0 (.bool (!a)))
  rw [lineA_set0] at hB
  clear h
  go_enter Try.func21, Try.ntmps21
  go_wp2
  go_end0
  exact ⟨rfl, hB.out, (by repeat (first | with_reducible exact Mod.refl _ _ | refine Mod.drew ?_ | refine Mod.drewN ?_ _ | refine Mod.set1 ?_ _))⟩
end Go.Proofs.Ytiknogkopfhoiaa
