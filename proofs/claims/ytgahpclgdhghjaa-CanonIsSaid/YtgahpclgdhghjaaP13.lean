/- What is handed out written over: which cells turn. No condition. -/
import Derived.Test.YtgahpclgdhghjaaM13
namespace Go.Proofs.Ytgahpclgdhghjaa
open Go.RowKit Go.Kb

/-- only bytes have turned, into bytes, all in blocks from B on; and new blocks were made -/
structure Ow (B : Nat) (ws w : World) : Prop where
  low : Below B ws w
  size : ws.heap.size ≤ w.heap.size
  cell : ∀ k o v, ws.cell? ⟨k, o, none⟩ = some v → w.cell? ⟨k, o, none⟩ = some v ∨ ∃ x y, v = .int .u8 x ∧ w.cell? ⟨k, o, none⟩ = some (.int .u8 y)
  froz : ∀ k o, k < ws.heap.size → w.frozen? ⟨k, o, none⟩ = ws.frozen? ⟨k, o, none⟩
section
variable {B : Nat} {ws w w' : World}
theorem Ow.refl (B : Nat) (w : World) : Ow B w w := ⟨Below.refl _ _, Nat.le_refl _, fun _ _ _ h => .inl h, fun _ _ _ => rfl⟩
theorem Ow.ext (h : Ow B ws w) (hE : Ext w w') (hB : B ≤ ws.heap.size) : Ow B ws w' := by
  refine ⟨h.low.trans (hE.mono (Nat.le_trans hB h.size)), Nat.le_trans h.size hE.size, fun k o v hv => ?_, fun k o hk => ?_⟩
  · rcases h.cell k o v hv with h1 | ⟨x, y, h1, h2⟩
    · exact .inl (cell_ext hE h1)
    · exact .inr ⟨x, y, h1, cell_ext hE h2⟩
  · rw [← h.froz k o hk]
    exact frozen_of (hE.block k (Nat.lt_of_lt_of_le hk h.size)) o
theorem Ow.set {g o : Nat} {x y : Int} (h : Ow B ws w) (hc : w.cell? ⟨g, o, none⟩ = some (.int .u8 x)) (hg : B ≤ g) : Ow B ws (w.setCell ⟨g, o, none⟩ (.int .u8 y)) := by
  refine ⟨h.low.setCell hg _, by simpa [World.setCell] using h.size, fun k o' v hv => ?_, fun k o' hk => ?_⟩
  · by_cases hk : k = g ∧ o' = o
    · obtain ⟨rfl, rfl⟩ := hk
      have h2 : (w.setCell ⟨k, o', none⟩ (.int .u8 y)).cell? ⟨k, o', none⟩ = some (.int .u8 y) := World.cell?_setCell_same _ _ _ hc
      rcases h.cell k o' v hv with h1 | ⟨x', y', h1, _⟩
      · rw [hc] at h1
        cases h1
        exact .inr ⟨x, y, rfl, h2⟩
      · exact .inr ⟨x', y, h1, h2⟩
    · have h2 : (w.setCell ⟨g, o, none⟩ (.int .u8 y)).cell? ⟨k, o', none⟩ = w.cell? ⟨k, o', none⟩ := World.cell?_setCell_other _ _ _ _ (fun h => hk (by simp only [Addr.mk.injEq, and_true] at h; exact ⟨h.1.symm, h.2.symm⟩))
      rw [h2]
      exact h.cell k o' v hv
  · rw [← h.froz k o' hk]
    simp
theorem Ow.row {k o n c : Nat} {Ad : Option Addr} (h : Ow B ws w) (hv : ws.cell? ⟨k, o, none⟩ = some (.slice Ad n c)) : w.cell? ⟨k, o, none⟩ = some (.slice Ad n c) := by
  rcases h.cell k o _ hv with h1 | ⟨x, y, h1, _⟩
  · exact h1
  · cases h1
theorem Ow.flag {k o : Nat} {f : Bool} (h : Ow B ws w) (hv : ws.cell? ⟨k, o, none⟩ = some (.bool f)) : w.cell? ⟨k, o, none⟩ = some (.bool f) := by
  rcases h.cell k o _ hv with h1 | ⟨x, y, h1, _⟩
  · exact h1
  · cases h1
theorem Ow.u8 {A : Nat → Prop} {Ad : Option Addr} {n c j : Nat} {l : List Int} (h : Ow B ws w) (hr : RdW A ws (.slice Ad n c) l) (hn : l.length = n) (hj : j < n) :
    ∃ b off y, Ad = some ⟨b, off, none⟩ ∧ w.cell? ⟨b, off + j, none⟩ = some (.int .u8 y) ∧ w.frozen? ⟨b, off + j, none⟩ = false ∧ A b := by
  obtain ⟨b, off, x, rfl, hx, _⟩ := hr.1.ri.icell hj
  have hlt := World.block_lt_of_cell? ws _ hx
  have hf := hr.2 b (by omega) rfl (off + j)
  have hA := hr.1.2 (by omega) b rfl
  rcases h.cell _ _ _ hx with h1 | ⟨x', y, _, h2⟩
  · exact ⟨b, off, x, rfl, h1, (h.froz b _ hlt).trans hf, hA⟩
  · exact ⟨b, off, y, rfl, h2, (h.froz b _ hlt).trans hf, hA⟩
end
end Go.Proofs.Ytgahpclgdhghjaa
