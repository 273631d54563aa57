/- A setting stored whole, behind which the world is a letter. Over any program. No condition. -/
import Derived.Test.YtilmkghopeoipaaMoE
namespace Go.Proofs.Ytilmkghopeoipaa
open Go.RowKit Go.Kb

theorem wpList_store_A {P : Program} {ops : Array Oper} {rest : List Oper} {o : Oper} {a : Act} {w : World} {Q : Exit → Act → World → Prop} (hgd : o.guard = none) (ty : TypeId) (x y : Operand) (ho : o.op = .store ty x y)
    (g : Nat) (cells : Array Value) (hx : a.eval x = .pointer (some ⟨g, 0, none⟩)) (hy : a.eval y = .agg cells)
    (t : TypeId) (old : Array Value) (hg : Blk w g t old) (hi : (P.info? ty).map (·.size) = some cells.size)
    (hold : old.size = cells.size) (h1 : cells.all (·.oneCell') = true)
    (h : ∀ w', Blk w' g t cells → (∀ (B : Nat) (a : World), Below B a w → B ≤ g → Below B a w') → wpList P ops Q rest (a.put o.dst undef) w') : wpList P ops Q (o :: rest) a w :=
  wpList_store_row hgd ty x y ho g cells hx hy t old hg hi hold h1 (h _ (Blk.setRow hg _) fun _ _ hb hB => below_setRow hb hB _)
end Go.Proofs.Ytilmkghopeoipaa
