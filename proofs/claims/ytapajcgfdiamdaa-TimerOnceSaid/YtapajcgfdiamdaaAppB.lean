/- append onto a row of the call's own, and whose block the longer row is. Over any program. No condition. -/
import Derived.Test.YtapajcgfdiamdaaRep
namespace Go.Kb
open Go.RowKit

section
variable {D : Type} {e : Rep D} {A B : Nat → Prop} {base : Nat} {T : TypeId} {w : World} {v : Value} {ds ds2 : List D} {P : Program} {z : Value} {bytes : Nat} {t : TypeId}
theorem wp_appB {o : Oper} {a : Act} {K : Act → World → Prop} {Q : Exit → Act → World → Prop} (s x : Operand)
    (ho : o.op = .call { callee := .builtin .append, args := #[s, x], argTypes := #[t, t] })
    (ht : P.underlying t = some (.slice T)) (hi : (P.info? T).map (fun i => (i.zero, i.size, i.bytes)) = some (some z, e.size, bytes)) (hz : z.cells.size = e.size)
    (hown : OwnS e T base B w v ds) (hs : a.eval s = v) {y : Value} (hr : RdY e A w y ds2) (hx : a.eval x = y) (hA : ∀ k, k < w.heap.size → A k → B k ∧ v.ownBlock ≠ some k)
    {N : Nat} (hN : ds.length + ds2.length = N) (h63 : N ≤ maxLen) (hbytes : N * bytes ≤ 140737488355328) (hbase : base ≤ w.heap.size)
    (h : ∀ Ad c w', OwnS e T base B w' (.slice Ad N c) (ds ++ ds2) → Mod (fun k => v.ownBlock = some k) w w' → Below base w w' → ((Value.slice Ad N c).ownBlock = v.ownBlock ∨ (Value.slice Ad N c).ownBlock = some w.heap.size) → K (a.put o.dst (.slice Ad N c)) w') : o.wp P a w K Q := by
  subst hN
  obtain ⟨us, hus, he⟩ := hown
  obtain ⟨news, hn, hne⟩ := hr
  obtain ⟨i0, hi0, hz0, hz1, hz2⟩ := info_parts hi
  refine wp_append_rd w s x t ho base T i0 z e.size bytes ht hi0 hz0 hz1 hz2 hz e.pos v ds.length us hs hus y ds2.length news hx hn hne.one h63 hbytes hbase fun v' w' h1 h2 h3 => ?_
  obtain ⟨Ad, c, rfl⟩ := own_shape h1
  exact h Ad c w' (OwnS.app he hne hA h1 h2 h3) (grown_mod h2) ((Below.refl _ _).grown h2 hbase fun k hk => (hus.lt k hk).1) h3
theorem wpList_appB {ops : Array Oper} {rest : List Oper} {o : Oper} {a : Act} {Q : Exit → Act → World → Prop} (hgd : o.guard = none) (s x : Operand)
    (ho : o.op = .call { callee := .builtin .append, args := #[s, x], argTypes := #[t, t] })
    (ht : P.underlying t = some (.slice T)) (hi : (P.info? T).map (fun i => (i.zero, i.size, i.bytes)) = some (some z, e.size, bytes)) (hz : z.cells.size = e.size)
    (hown : OwnS e T base B w v ds) (hs : a.eval s = v) {y : Value} (hr : RdY e A w y ds2) (hx : a.eval x = y) (hA : ∀ k, k < w.heap.size → A k → B k ∧ v.ownBlock ≠ some k)
    {N : Nat} (hN : ds.length + ds2.length = N) (h63 : N ≤ maxLen) (hbytes : N * bytes ≤ 140737488355328) (hbase : base ≤ w.heap.size)
    (h : ∀ Ad c w', OwnS e T base B w' (.slice Ad N c) (ds ++ ds2) → Mod (fun k => v.ownBlock = some k) w w' → Below base w w' → ((Value.slice Ad N c).ownBlock = v.ownBlock ∨ (Value.slice Ad N c).ownBlock = some w.heap.size) → wpList P ops Q rest (a.put o.dst (.slice Ad N c)) w') : wpList P ops Q (o :: rest) a w :=
  wpList_plain hgd fun _ hK => wp_appB s x ho ht hi hz hown hs hr hx hA hN h63 hbytes hbase fun Ad c w' h1 h2 h3 h4 => hK _ _ (h Ad c w' h1 h2 h3 h4)
theorem step_appB {ops : Array Oper} {o : Oper} {a : Act} {K : Act → World → Prop} {Q : Exit → Act → World → Prop} {E : Prop} (hgd : o.guard = none) (s x : Operand)
    (ho : o.op = .call { callee := .builtin .append, args := #[s, x], argTypes := #[t, t] })
    (ht : P.underlying t = some (.slice T)) (hi : (P.info? T).map (fun i => (i.zero, i.size, i.bytes)) = some (some z, e.size, bytes)) (hz : z.cells.size = e.size)
    (hown : OwnS e T base B w v ds) (hs : a.eval s = v) {y : Value} (hr : RdY e A w y ds2) (hx : a.eval x = y) (hA : ∀ k, k < w.heap.size → A k → B k ∧ v.ownBlock ≠ some k)
    {N : Nat} (hN : ds.length + ds2.length = N) (h63 : N ≤ maxLen) (hbytes : N * bytes ≤ 140737488355328) (hbase : base ≤ w.heap.size)
    (h : ∀ Ad c w', OwnS e T base B w' (.slice Ad N c) (ds ++ ds2) → Mod (fun k => v.ownBlock = some k) w w' → Below base w w' → ((Value.slice Ad N c).ownBlock = v.ownBlock ∨ (Value.slice Ad N c).ownBlock = some w.heap.size) → K (a.put o.dst (.slice Ad N c)) w') :
    if Region.wanted o (yielded ops a.tmps) = true then Oper.wp P o a w K Q else E := by
  have hw : Region.wanted o (yielded ops a.tmps) = true := by simp [Region.wanted, hgd]
  rw [if_pos hw]
  subst hN
  obtain ⟨us, hus, he⟩ := hown
  obtain ⟨news, hn, hne⟩ := hr
  obtain ⟨i0, hi0, hz0, hz1, hz2⟩ := info_parts hi
  refine wp_append_rd w s x t ho base T i0 z e.size bytes ht hi0 hz0 hz1 hz2 hz e.pos v ds.length us hs hus y ds2.length news hx hn hne.one h63 hbytes hbase fun v' w' h1 h2 h3 => ?_
  obtain ⟨Ad, c, rfl⟩ := own_shape h1
  exact h Ad c w' (OwnS.app he hne hA h1 h2 h3) (grown_mod h2) ((Below.refl _ _).grown h2 hbase fun k hk => (hus.lt k hk).1) h3
end
end Go.Kb
