/- request.of by contract: a kind's rule. -/
import Derived.Test.YtldijmappinngaaGreatDoorPJ04
namespace Go.Proofs.YtldijmappinngaaGreatDoor
open Go.RowKit Go.Kb
set_option maxRecDepth 100000

set_option maxHeartbeats 4000000 in
theorem index_rules (k : Nat) (hk : k < 11) (n : Nat) : ∀ w, (Instr.index 93 (.agg (rulesA n)) (.int .i64 (k : Int))).run Tryz.prog w = .ok (.agg (ruleL n k).toArray) w := by
  rcases k with _ | _ | _ | _ | _ | _ | _ | _ | _ | _ | _ | k
  all_goals first | exact fun w => by kernel_rfl | omega
theorem rule_cells (k : Nat) (hk : k < 11) (n : Nat) : (ruleL n k).toArray.size = 5 ∧ (ruleL n k).toArray.all (·.oneCell') = true := by
  rcases k with _ | _ | _ | _ | _ | _ | _ | _ | _ | _ | _ | k
  all_goals first | exact ⟨rfl, by simp [ruleL, Value.oneCell']⟩ | omega
theorem kv_own (k n b : Nat) (h : (kvQ n k).ownBlock = some b) : n < b := by
  unfold kvQ at h
  split at h <;> simp [Value.ownBlock] at h <;> omega
theorem rules_any2 (w : World) : Calls Tryz.prog 29 #[] w fun e w' => e = .returned (.agg (rulesA w.heap.size)) ∧ Ext w w' ∧ Hid (∀ i, i ≤ 10 → RI .i64 w' (kvQ w.heap.size i) (kindsQ i)) :=
  (rules_any w).mono fun _ _ h => h
set_option maxHeartbeats 4000000 in
theorem of_in (k : Nat) (h1 : 1 ≤ k) (h10 : k ≤ 10) (w : World) : Calls Tryz.prog 28 #[.int .i64 (k : Int)] w fun e w' =>
    ∃ n, e = .returned (.tuple #[.agg (ruleL n k).toArray, .bool true]) ∧ Ext w w' ∧ RI .i64 w' (kvQ n k) (kindsQ k) := by
  have hiR : (Tryz.prog.info? 87).map (·.size) = some 5 := by kernel_rfl
  have hix := fun n => index_rules k (by omega) n
  have hc := Lib.hid fun n => rule_cells k (by omega) n
  have HR := Lib.hid fun w' => rules_any2 w'
  have hi : ∀ n, (Tryz.prog.info? 87).map (·.size) = some (ruleL n k).toArray.size := fun n => by rw [hiR, (hc.out n).1]
  have hi' := Lib.hid hi
  clear hi
  go_enter Tryz.func28, Tryz.ntmps28
  go_wp2_with (first | ((go_at_call 29; (with_reducible refine (HR.out _).mono ?_); rintro e w1 ⟨rfl, E1, R1⟩)) | (refine wpList_store_M rfl 87 _ _ rfl w.heap.size _ rfl rfl 87 #[.string ⟨#[]⟩, .slice none 0 0, .nilFunc, .nilFunc, .nilFunc] ?_ (hi'.out _) ?_ (hc.out _).2 ?_; exact Blk.ext (Blk.new _ _ _) E1; (rw [(hc.out _).1]; rfl); intro w2 HB M2))
  have hi := hi'.out (w.heap.size + 1)
  refine bodyPost_ret_by (Kb.results_cell_tmp Tryz.results28 _ _ w.heap.size 87 _ _ _ rfl _ rfl HB Tryz.underlying87 rfl hi) rfl ?_
  refine ⟨w.heap.size + 1, rfl, Mod.toExt (by repeat (first | with_reducible exact Ext.refl _ | refine Ext.drewN ?_ _ | refine Ext.drew ?_ | refine Ext.alloc ?_ _ | assumption | (refine Below.trans ?_ (by assumption)) | (refine Ext.trans ?_ (by assumption)) | (refine Below.trans ?_ (Below.mono (by assumption) (by omega))))) M2 (by intro k hk he; omega), ?_⟩
  have hs : ∀ o, (w.alloc o).heap.size = w.heap.size + 1 := fun o => by first | rfl | simp [go_sem] | simp
  have R2 := R1.out k h10
  rw [hs] at R2
  exact RdN.mod R2 M2 (fun b hb he => by have h1 := kv_own _ _ _ hb; have h2 : b = w.heap.size := he; omega)
end Go.Proofs.YtldijmappinngaaGreatDoor
