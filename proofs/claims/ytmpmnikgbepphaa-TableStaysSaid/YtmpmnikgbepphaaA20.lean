/- A process as cells, and lists of processes. No condition. -/
import Derived.Test.YtmpmnikgbepphaaRows
import Derived.Test.YtmpmnikgbepphaaRep
import Derived.Test.YtmpmnikgbepphaaRow
import Derived.IntWalk
namespace Go.Proofs.Ytmpmnikgbepphaa
open Go.RowKit Go.Kb

/-- a process -/
structure Pr where
  (pid parent group session state prog pc pending mask : Int)
  acts : List Int
  status : Int
  told : Bool
deriving DecidableEq
def Pr.cells (p : Pr) : List Value :=
  [.int .i64 p.pid, .int .i64 p.parent, .int .i64 p.group, .int .i64 p.session, .int .i64 p.state, .int .i64 p.prog, .int .i64 p.pc, .int .u64 p.pending, .int .u64 p.mask] ++ (p.acts.map (Value.int .i64) ++ [.int .i64 p.status, .bool p.told])
def Pr.ok (p : Pr) : Prop := p.acts.length = 32
theorem Pr.len {p : Pr} (h : p.ok) : p.cells.length = 43 := by
  unfold Pr.ok at h
  simp [Pr.cells, h]
def Rp : Rep Pr where
  size := 43
  pos := by decide
  rel := fun _ _ cs d => cs = d.cells ∧ d.ok
  len := fun h => by rw [h.1]; exact Pr.len h.2
  one := fun h u hu => by
    rw [h.1] at hu
    simp only [Pr.cells, List.mem_append, List.mem_cons, List.not_mem_nil, or_false, List.mem_map] at hu
    rcases hu with hu | ⟨x, _, rfl⟩ | hu | hu
    · rcases hu with rfl | rfl | rfl | rfl | rfl | rfl | rfl | rfl | rfl <;> rfl
    · rfl
    · rw [hu]; rfl
    · rw [hu]; rfl
  keep := fun h _ => h
/-- a process, whole -/
def Pr.arr (p : Pr) : Array Value := p.cells.toArray
theorem Pr.size {p : Pr} (h : p.ok) : p.arr.size = 43 := by unfold Pr.arr; simp [Pr.len h]
/-- its cells, wherever they lie -/
structure PrAt (w : World) (b o : Nat) (p : Pr) : Prop where
  c0 : w.cell? ⟨b, o, none⟩ = some (.int .i64 p.pid)
  c1 : w.cell? ⟨b, o + 1, none⟩ = some (.int .i64 p.parent)
  c2 : w.cell? ⟨b, o + 2, none⟩ = some (.int .i64 p.group)
  c3 : w.cell? ⟨b, o + 3, none⟩ = some (.int .i64 p.session)
  c4 : w.cell? ⟨b, o + 4, none⟩ = some (.int .i64 p.state)
  c5 : w.cell? ⟨b, o + 5, none⟩ = some (.int .i64 p.prog)
  c6 : w.cell? ⟨b, o + 6, none⟩ = some (.int .i64 p.pc)
  c7 : w.cell? ⟨b, o + 7, none⟩ = some (.int .u64 p.pending)
  c8 : w.cell? ⟨b, o + 8, none⟩ = some (.int .u64 p.mask)
  ca : ∀ (i : Nat) x, p.acts[i]? = some x → w.cell? ⟨b, o + 9 + i, none⟩ = some (.int .i64 x)
  c41 : w.cell? ⟨b, o + 41, none⟩ = some (.int .i64 p.status)
  c42 : w.cell? ⟨b, o + 42, none⟩ = some (.bool p.told)
theorem prAt_of {w : World} {b o : Nat} {p : Pr} (hp : p.ok) (h : ∀ i u, p.cells[i]? = some u → w.cell? ⟨b, o + i, none⟩ = some u) : PrAt w b o p := by
  unfold Pr.ok at hp
  have hb : ∀ i u, (p.acts.map (Value.int .i64) ++ [.int .i64 p.status, .bool p.told])[i]? = some u → w.cell? ⟨b, o + 9 + i, none⟩ = some u := fun i u hu => by
    rw [Nat.add_assoc]
    refine h (9 + i) u ?_
    unfold Pr.cells
    rw [List.getElem?_append_right (by simp)]
    simpa using hu
  refine ⟨h 0 _ rfl, h 1 _ rfl, h 2 _ rfl, h 3 _ rfl, h 4 _ rfl, h 5 _ rfl, h 6 _ rfl, h 7 _ rfl, h 8 _ rfl, fun i x hx => hb i _ ?_, ?_, ?_⟩
  · have hlt := (List.getElem?_eq_some_iff.1 hx).1
    rw [List.getElem?_append_left (by simpa using hlt), List.getElem?_map, hx]; rfl
  · have := hb 32 (.int .i64 p.status) (by rw [List.getElem?_append_right (by simp [hp])]; simp [hp])
    simpa [Nat.add_assoc] using this
  · have := hb 33 (.bool p.told) (by rw [List.getElem?_append_right (by simp [hp])]; simp [hp])
    simpa [Nat.add_assoc] using this
theorem PrAt.ext {w w' : World} {b o : Nat} {p : Pr} (h : PrAt w b o p) (hE : Ext w w') : PrAt w' b o p :=
  ⟨cell_ext hE h.c0, cell_ext hE h.c1, cell_ext hE h.c2, cell_ext hE h.c3, cell_ext hE h.c4, cell_ext hE h.c5, cell_ext hE h.c6, cell_ext hE h.c7, cell_ext hE h.c8, fun i x hx => cell_ext hE (h.ca i x hx), cell_ext hE h.c41, cell_ext hE h.c42⟩
/-- a block that is one process -/
theorem prAt_blk {w : World} {g : Nat} {t : TypeId} {p : Pr} (hp : p.ok) (h : Blk w g t p.arr) : PrAt w g 0 p := prAt_of hp fun i u hu => by
  rw [Nat.zero_add, h.cell i]
  unfold Pr.arr
  simpa using hu
/-- one process of a slice -/
theorem pr_at {A : Nat → Prop} {w : World} {Ad : Option Addr} {n c : Nat} {ds : List Pr} (h : RdY Rp A w (.slice Ad n c) ds) {j : Nat} (hj : j < n) :
    ∃ b off p, Ad = some ⟨b, off, none⟩ ∧ Hid (ds[j]? = some p) ∧ p.ok ∧ Hid (∀ i u, p.cells[i]? = some u → w.cell? ⟨b, off + j * 43 + i, none⟩ = some u) := by
  obtain ⟨Ad', c', hv, _⟩ := h.shape
  simp only [Value.slice.injEq] at hv
  obtain ⟨rfl, rfl, rfl⟩ := hv
  obtain ⟨b, off, c, d, cs, hv, hd, hr, hl, hc⟩ := h.cells hj
  simp only [Value.slice.injEq] at hv
  obtain ⟨rfl, hok⟩ := hr.out
  exact ⟨b, off, d, hv.1, hd, hok, hc⟩
end Go.Proofs.Ytmpmnikgbepphaa
