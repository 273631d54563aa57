/- The lines that were typed: the document's examples answer true. No condition. -/
import Derived.Test.YtgahpclgdhghjaaF13
namespace Go.Proofs.Ytgahpclgdhghjaa
open Go.RowKit Go.Kb

theorem ex1 : Hid (readL [([97, 98, 10], false), ([], true)] 2 = ([97, 98], [([10], false), ([], true)], true)) := Lib.hid (by decide +kernel)
theorem ex2 : Hid (readL [([10], false), ([], true)] 9 = ([10], [([], true)], true)) := Lib.hid (by decide +kernel)
theorem ex3 : Hid (readL [([], true)] 9 = ([], [], true)) := Lib.hid (by decide +kernel)
theorem ex4 : Hid (readL [] 9 = ([], [], false)) := Lib.hid (by decide +kernel)
theorem ex5 : Hid (usedL [([97, 98, 10], false), ([], true)] = 4) := Lib.hid (by decide +kernel)
theorem used_small {ls : List (List Int × Bool)} (h : decide (usedL ls ≤ 100) = true) : usedL ls ≤ 140737488355328 := by
  have := of_decide_eq_true h
  omega
set_option maxHeartbeats 800000 in
theorem alive_any (w : World) : Calls Try.prog 7 #[] w fun e w' => e = .returned (.bool true) ∧ Ext w w' := by
  have kc := fun (u : World) (C : Array Value) (n c : Nat) => Lib.run_convert_bytes_const (P := Try.prog) u 25 5 C n c Try.underlying25 Try.underlying5
  have L0 : Hid (RdS Ln (fun _ => True) ((w.alloc (.cells #[.int .u8 97, .int .u8 98, .int .u8 10] 5 (3, 4))).alloc (.cells #[.slice (some ⟨w.heap.size, 0, none⟩) 3 3, .bool false, .slice none 0 0, .bool true] 41)) (.slice (some ⟨w.heap.size + 1, 0, none⟩) 2 2) [([97, 98, 10], false), ([], true)]) := Lib.hid (by
    have hb : Blk ((w.alloc (.cells #[.int .u8 97, .int .u8 98, .int .u8 10] 5 (3, 4))).alloc (.cells #[.slice (some ⟨w.heap.size, 0, none⟩) 3 3, .bool false, .slice none 0 0, .bool true] 41)) (w.heap.size + 1) 41 #[.slice (some ⟨w.heap.size, 0, none⟩) 3 3, .bool false, .slice none 0 0, .bool true] := (by repeat (first | ((with_reducible refine Blk.at_ _ _ ?_); simp; done) | with_reducible refine Blk.drew ?_ | with_reducible refine Blk.alloc ?_ _ | refine Blk.ext ?_ (by assumption)))
    refine (RdS.litB (A := fun _ => True) (RdE.append (RdE.single (ln_rel (f := false) ?_)) (RdE.single (ln_rel (f := true) (RdS.nil _ _ _)))) hb rfl (by decide)).mono (fun _ _ _ => trivial)
    exact (RI.s (RI.lit .u8 [97, 98, 10] _ rfl (by simp))).alloc _)
  go_enter Try.func7, Try.ntmps7
  go_wp2_with fail
  have h := read_any _ _ 2 _ L0.out (used_small (by decide +kernel)) (by simp)
  rw [ex1.out] at h
  refine h.mono ?_
  rintro e w1 ⟨A1, c1, B1, d1, rfl, b1, r1, E1⟩
  simp only [List.length_cons, List.length_nil, Nat.zero_add, Nat.reduceAdd] at b1 r1 ⊢
  have S1 := Lib.hid b1.ri
  clear h b1
  go_wp2_with fail
  have h := read_any _ _ 9 _ r1 (used_small (by decide +kernel)) (by simp)
  rw [ex2.out] at h
  refine h.mono ?_
  rintro e w2 ⟨A2, c2, B2, d2, rfl, b2, r2, E2⟩
  simp only [List.length_cons, List.length_nil, Nat.zero_add] at b2 r2 ⊢
  have S2 := Lib.hid b2.ri
  clear h b2 r1
  go_wp2_with fail
  have h := read_any _ _ 9 _ r2 (used_small (by decide +kernel)) (by simp)
  rw [ex3.out] at h
  refine h.mono ?_
  rintro e w3 ⟨A3, c3, B3, d3, rfl, b3, r3, E3⟩
  simp only [List.length_nil] at b3 r3 ⊢
  clear h b3 r2
  go_wp2_with fail
  have h := read_any _ _ 9 _ r3 (used_small (by decide +kernel)) (by simp)
  rw [ex4.out] at h
  refine h.mono ?_
  rintro e w4 ⟨A4, c4, B4, d4, rfl, b4, r4, E4⟩
  simp only [List.length_nil] at b4 r4 ⊢
  clear h b4 r3 r4
  have s1 : (convert 25 9 (.slice A1 2 c1)).run Try.prog w4 = .ok (.string { data := #[97, 98] }) w4 := RI.str (l := [97, 98]) Try.underlying25 Try.underlying5 Try.underlying9 (S1.out.ext (by repeat (first | with_reducible exact Ext.refl _ | refine Ext.drewN ?_ _ | refine Ext.drew ?_ | refine Ext.alloc ?_ _ | assumption | (refine Below.trans ?_ (by assumption)) | (refine Ext.trans ?_ (by assumption)) | (refine Below.trans ?_ (Below.mono (by assumption) (by omega))))))
  have s2 : (convert 25 9 (.slice A2 1 c2)).run Try.prog w4 = .ok (.string { data := #[10] }) w4 := RI.str (l := [10]) Try.underlying25 Try.underlying5 Try.underlying9 (S2.out.ext (by repeat (first | with_reducible exact Ext.refl _ | refine Ext.drewN ?_ _ | refine Ext.drew ?_ | refine Ext.alloc ?_ _ | assumption | (refine Below.trans ?_ (by assumption)) | (refine Ext.trans ?_ (by assumption)) | (refine Below.trans ?_ (Below.mono (by assumption) (by omega))))))
  go_wp2_with ((go_at_call 15; refine (used_any _ _ _ (L0.out.y.ext (by repeat (first | with_reducible exact Ext.refl _ | refine Ext.drewN ?_ _ | refine Ext.drew ?_ | refine Ext.alloc ?_ _ | assumption | (refine Below.trans ?_ (by assumption)) | (refine Ext.trans ?_ (by assumption)) | (refine Below.trans ?_ (Below.mono (by assumption) (by omega)))))) (used_small (by decide +kernel))).mono ?_; rintro e w5 ⟨rfl, E5⟩); rw [ex5.out])
  go_ret
  exact ⟨rfl, (by repeat (first | with_reducible exact Ext.refl _ | refine Ext.drewN ?_ _ | refine Ext.drew ?_ | refine Ext.alloc ?_ _ | assumption | (refine Below.trans ?_ (by assumption)) | (refine Ext.trans ?_ (by assumption)) | (refine Below.trans ?_ (Below.mono (by assumption) (by omega)))))⟩
end Go.Proofs.Ytgahpclgdhghjaa
