/- The map of what effects do, and a look-up in it, by contract. No condition. -/
import Derived.Test.YteljobleojhgmaaGreatU21
import Derived.MapKept
namespace Go.Proofs.YteljobleojhgmaaGreat
open Go.RowKit Go.Kb

/-- a world in which one block is another map -/
def putMap (w : World) (r : Nat) (es : Array MapEntry) (c : Nat) : World := { w with heap := w.heap.setIfInBounds r (.map es c) }
theorem putMap_get {w : World} {r : Nat} {o : Obj} {es : Array MapEntry} {c : Nat} (h : w.heap[r]? = some o) : (putMap w r es c).heap[r]? = some (.map es c) := (MapKept.heap_set h).1
theorem putMap_ext {a w : World} {r : Nat} {es : Array MapEntry} {c : Nat} (h : Ext a w) (hr : a.heap.size ≤ r) : Ext a (putMap w r es c) :=
  ⟨h.os, h.tape, h.output, by simpa [putMap] using h.size, fun k hk => (by
    show (w.heap.setIfInBounds r _)[k]? = _
    rw [Array.getElem?_setIfInBounds_ne (by omega)]; exact h.block k hk)⟩
theorem run_insert {r clock : Nat} {k : Int} {val : Value} {es : Array MapEntry} (w : World) (hb : w.heap[r]? = some (.map es clock)) (hf : Instr.findNow (.int .i64) (.int .i64 k) es.toList 0 = some none) :
    (Instr.mapUpdate 100 (.map (some r)) (.int .i64 k) val).run Tryz.prog w = .ok () (putMap w r (es.push { key := .int .i64 k, val := val, born := clock }) (clock + 1)) := by
  have hc : (Instr.checkKey false 10000 3 (.int .i64 k)).run Tryz.prog w = .ok () w := MapKept.run_checkKey (k := .int .i64 k) Tryz.underlying3 rfl false 9999
  simp [Instr.mapUpdate, run_underlying Tryz.underlying100, MapKept.run_getObj_map hb, hc, MapKept.run_findKey Tryz.underlying3 hf, MapKept.run_setObj_map _ hb, Result.andThen, putMap]
def dieV : Value := .func (.func 86) #[] #[]
def coreV : Value := .func (.func 87) #[] #[]
def stopV : Value := .func (.func 88) #[] #[]
def doesE : Array MapEntry := #[{ key := .int .i64 1, val := dieV, born := 0 }, { key := .int .i64 2, val := coreV, born := 1 }, { key := .int .i64 4, val := stopV, born := 2 }]
def DoesAt (w : World) (r : Nat) : Prop := w.heap[r]? = some (.map doesE 3)
theorem DoesAt.ext {w w' : World} {r : Nat} (h : DoesAt w r) (E : Ext w w') : DoesAt w' r := by
  unfold DoesAt at *
  rw [E.block r (lt_of_block h)]; exact h
theorem does_look {w : World} {r : Nat} {x : Int} {a : Option (Nat × Value)} (h : DoesAt w r) (hf : Instr.findNow (.int .i64) (.int .i64 x) doesE.toList 0 = some a) :
    (Instr.lookup 100 (.map (some r)) (.int .i64 x) true).run Tryz.prog w = .ok (match a with | some (_, v) => .tuple #[v, .bool true] | none => .tuple #[.nilFunc, .bool false]) w := by
  have hc : (Instr.checkKey doesE.isEmpty 10000 3 (.int .i64 x)).run Tryz.prog w = .ok () w := MapKept.run_checkKey (k := .int .i64 x) Tryz.underlying3 rfl _ 9999
  have hz := Tryz.zeroValue98 w
  cases a with
  | none => simp [Instr.lookup, run_underlying Tryz.underlying100, MapKept.run_getObj_map h, hc, MapKept.run_findKey Tryz.underlying3 hf, hz, Result.andThen]
  | some v => simp [Instr.lookup, run_underlying Tryz.underlying100, MapKept.run_getObj_map h, hc, MapKept.run_findKey Tryz.underlying3 hf, Result.andThen]
set_option maxRecDepth 100000 in
set_option maxHeartbeats 800000 in
theorem does_any (w : World) : Calls Tryz.prog 56 #[] w fun e w' => e = .returned (.map (some w.heap.size)) ∧ DoesAt w' w.heap.size ∧ Ext w w' := by
  have hmm := @run_makeMap Tryz.prog
  obtain ⟨W1, hW1⟩ : ∃ W1, W1 = w.alloc (.map #[] 0) := ⟨_, rfl⟩
  have h1 : W1.heap[w.heap.size]? = some (.map #[] 0) := by rw [hW1]; exact heap_alloc_new w _
  have E1 : Ext w W1 := by rw [hW1]; exact (Ext.refl w).alloc _
  obtain ⟨M, hM⟩ : ∃ M, w.heap.size = M := ⟨_, rfl⟩
  rw [hM] at h1 ⊢
  have i1 := run_insert (k := 1) (val := dieV) W1 h1 rfl
  have h2 := putMap_get (es := #[{ key := .int .i64 1, val := dieV, born := 0 }]) (c := 1) h1
  have E2 := putMap_ext (r := M) (es := #[{ key := .int .i64 1, val := dieV, born := 0 }]) (c := 1) E1 (by omega)
  have e2 : putMap W1 M (#[].push { key := .int .i64 1, val := dieV, born := 0 }) (0 + 1) = putMap W1 M #[{ key := .int .i64 1, val := dieV, born := 0 }] 1 := rfl
  rw [e2] at i1
  generalize putMap W1 M #[{ key := .int .i64 1, val := dieV, born := 0 }] 1 = W2 at *
  have i2 := run_insert (k := 2) (val := coreV) W2 h2 rfl
  have h3 := putMap_get (es := #[{ key := .int .i64 1, val := dieV, born := 0 }, { key := .int .i64 2, val := coreV, born := 1 }]) (c := 2) h2
  have E3 := putMap_ext (r := M) (es := #[{ key := .int .i64 1, val := dieV, born := 0 }, { key := .int .i64 2, val := coreV, born := 1 }]) (c := 2) E2 (by omega)
  have e3 : putMap W2 M (#[{ key := .int .i64 1, val := dieV, born := 0 }].push { key := .int .i64 2, val := coreV, born := 1 }) (1 + 1) = putMap W2 M #[{ key := .int .i64 1, val := dieV, born := 0 }, { key := .int .i64 2, val := coreV, born := 1 }] 2 := rfl
  rw [e3] at i2
  generalize putMap W2 M #[{ key := .int .i64 1, val := dieV, born := 0 }, { key := .int .i64 2, val := coreV, born := 1 }] 2 = W3 at *
  have i3 := run_insert (k := 4) (val := stopV) W3 h3 rfl
  have h4 := putMap_get (es := doesE) (c := 3) h3
  have E4 := putMap_ext (r := M) (es := doesE) (c := 3) E3 (by omega)
  have e4 : putMap W3 M (#[{ key := .int .i64 1, val := dieV, born := 0 }, { key := .int .i64 2, val := coreV, born := 1 }].push { key := .int .i64 4, val := stopV, born := 2 }) (2 + 1) = putMap W3 M doesE 3 := rfl
  rw [e4] at i3
  generalize putMap W3 M doesE 3 = W4 at *
  rw [← hM] at i1 i2 i3 h4 ⊢
  rw [hW1] at i1
  have H4 := Lib.hid h4
  unfold dieV at i1
  unfold coreV at i2
  unfold stopV at i3
  clear h1 h2 h3 h4 E1 E2 E3 e2 e3 e4 hW1 hM
  go_enter Tryz.func56, Tryz.ntmps56
  go_wp2
  go_ret
  exact ⟨rfl, H4.out, E4⟩
end Go.Proofs.YteljobleojhgmaaGreat
