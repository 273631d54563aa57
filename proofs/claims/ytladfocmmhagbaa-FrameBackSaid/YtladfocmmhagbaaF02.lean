/- The laws' own helpers on packets: a framer in new memory; the document's examples. No condition but lengths below 2^26. -/
import Derived.Test.YtladfocmmhagbaaE02
namespace Go.Proofs.Ytladfocmmhagbaa
open Go.RowKit Go.Kb Go.Kb.Frame

set_option maxHeartbeats 800000 in
theorem to_any (vb : Value) (bad : Bool) (xs : List Int) (w : World) (hx : RI .u8 w vb xs) (nx : xs.length ≤ 40000000) :
    Calls Try.prog 13 #[.agg #[vb, .bool bad]] w fun e w' => ∃ rv, e = .returned (.agg #[rv, .bool bad]) ∧ OwnB w' w.heap.size rv xs ∧ Ext w w' := by
  have HX := Lib.hid hx
  obtain ⟨A, c, rfl, hxc, hxm⟩ := hx.shape
  clear hx
  go_enter Try.func13, Try.ntmps13
  go_wp2
  go_region_law (refine sapp_u8 _ rfl (.tmp 3) (.tmp 5) rfl (w.heap.size + 1 + 1) _ 0 [] rfl (own_empty (by simp) _ _ _ (by omega)) _ xs.length _ rfl (((HX.out.alloc _).alloc _).alloc _) (one_ints _ _) (by omega) (by simp) ?_; intro v1 w1 hown1 hB1 hg1 hat1; obtain ⟨A1, c1, rfl⟩ := own_shape hown1; have hc1 := Bc hB1; have hf1 := Bf hB1)
  all_goals
    go_wp2
    have hW : Mod (fun k => k = w.heap.size + 1) w1 ((w1.setCell ⟨w.heap.size + 1, 0, none⟩ (.slice A1 xs.length c1)).setCell ⟨w.heap.size + 1, 1, none⟩ (.bool bad)) :=
      (by repeat (first | with_reducible exact Mod.refl _ _ | refine Mod.drew ?_ | refine Mod.drewN ?_ _ | refine Mod.set1 ?_ _))
    have BW : Blk w1 (w.heap.size + 1) 34 #[.slice none 0 0, .bool false] := (hB1.block _ (by omega)).trans ((Blk.at_ (w := w.alloc (.cells #[.slice A xs.length c, .bool bad] 33)) _ _ (by simp)).alloc (.cells #[] 5))
    obtain ⟨q0, q1, _, _⟩ := (BW.put2 (.slice A1 xs.length c1) (.bool bad)).two
    refine bodyPost_ret (v := .agg #[.slice A1 xs.length c1, .bool bad]) (by simp [results, Try.results13, go_sem, q0, q1]) rfl ?_
    have hE1 : Ext w w1 := (by repeat (first | with_reducible exact Ext.refl _ | refine Ext.drewN ?_ _ | refine Ext.drew ?_ | refine Ext.alloc ?_ _ | assumption | (refine Below.trans ?_ (by assumption)) | (refine Ext.trans ?_ (by assumption)) | (refine Below.trans ?_ (Below.mono (by assumption) (by omega)))))
    refine ⟨_, rfl, ?_, Mod.toExt hE1 hW (by intro k hk; omega)⟩
    have := own_base (own_mod hown1 hW fun k hk => by have := (hown1.lt k hk).1; omega) (Nat.le_succ_of_le (Nat.le_succ w.heap.size))
    simpa using this
end Go.Proofs.Ytladfocmmhagbaa
