/- The lines that were typed: the functions that copy them, by contract. Conditions: lengths below 2^30. -/
import Derived.Test.YtgahpclgdhghjaaA13
namespace Go.Proofs.Ytgahpclgdhghjaa
open Go.RowKit Go.Kb

theorem info_cl : (Try.prog.info? 41).map (fun i => (i.zero, i.size, i.bytes)) = some (some (.agg #[.slice none 0 0, .bool false]), Ln.size, 32) := by kernel_rfl
theorem info_rl : (Try.prog.info? 47).map (fun i => (i.zero, i.size, i.bytes)) = some (some (.agg #[.slice none 0 0, .bool false]), Ln.size, 32) := by kernel_rfl
theorem ln_snoc {ls : List (List Int × Bool)} {k : Nat} {x : List Int × Bool} (h : ls[k]? = some x) : ls.take (k + 1) = ls.take k ++ [x] := by
  rw [List.take_add_one, h]; rfl
/- a copy of lines in new memory: parlour/parlourref13.Copy -/
set_option maxHeartbeats 800000 in
theorem copy_any {A : Nat → Prop} (v : Value) (ls : List (List Int × Bool)) (w : World) (h : RdY Ln A w v ls) (hn : usedL ls ≤ 140737488355328) (hm : ls.length ≤ 1000000000) :
    Calls Try.prog 25 #[v] w fun e w' => ∃ Ad c, e = .returned (.slice Ad ls.length c) ∧ OwnS Ln 47 w.heap.size (fun k => w.heap.size ≤ k) w' (.slice Ad ls.length c) ls ∧ Ext w w' := by
  obtain ⟨Ad, c, rfl, hc1, hc2⟩ := h.shape
  have H := Lib.hid h
  clear h
  go_enter Try.func25, Try.ntmps25
  go_wp2
  go_loopw [3, 8] (fun s i wr => ∃ k : Nat, k ≤ ls.length ∧ i = .int .i64 k ∧ OwnS Ln 47 w.heap.size (fun k => w.heap.size ≤ k) wr s (ls.take k) ∧ Ext w wr) (fun _ i _ => ls.length - (intOf i).toNat)
  case atStart => exact ⟨0, Nat.zero_le _, rfl, OwnS.nil _ _ _ _ _, (by repeat (first | with_reducible exact Ext.refl _ | refine Ext.drewN ?_ _ | refine Ext.drew ?_ | refine Ext.alloc ?_ _ | assumption | (refine Below.trans ?_ (by assumption)) | (refine Ext.trans ?_ (by assumption)) | (refine Below.trans ?_ (Below.mono (by assumption) (by omega)))))⟩
  case round =>
    obtain ⟨k, hk, rfl, hO, hE⟩ := hrel
    have HO := Lib.hid hO
    have hsz := hE.size
    obtain ⟨Ao, co, rfl, _, _⟩ := hO.shapeN (n := k) (by simp; omega)
    clear hO
    by_cases hlt : k < ls.length
    · obtain ⟨b, off, Ad', l, f, c', rfl, hx, hy, hd, hr, hl1, hl2⟩ := ln_at (H.out.ext hE) hlt
      have h5 : l.length ≤ 140737488355328 := by
        have : (l.length : Int) ≤ szL (l, f) := by unfold szL; split <;> simp <;> omega
        have := usedL_succ hd.out
        have := usedL_take ls (k + 1)
        have := usedL_nn (ls.take k)
        omega
      go_wp2_with fail
      have hE0 : Ext w ((wr.alloc (.cells #[.slice Ad' l.length c', .bool f] 47)).drew) := (by repeat (first | with_reducible exact Ext.refl _ | refine Ext.drewN ?_ _ | refine Ext.drew ?_ | refine Ext.alloc ?_ _ | assumption | (refine Below.trans ?_ (by assumption)) | (refine Ext.trans ?_ (by assumption)) | (refine Below.trans ?_ (Below.mono (by assumption) (by omega)))))
      go_region_held3 (fun w' => w'.cell? ⟨wr.heap.size, 0, none⟩ = some (.slice Ad' l.length c') ∧ w'.cell? ⟨wr.heap.size, 1, none⟩ = some (.bool f)) (go_keep) (first
        | ((refine step_app0 (A := fun _ => False) rfl (.tmp 13) (.tmp 15) rfl Try.underlying25 info_u8 rfl (by repeat (first | ((with_reducible refine Blk.at_ _ _ ?_); simp; done) | with_reducible refine Blk.drew ?_ | with_reducible refine Blk.alloc ?_ _ | refine Blk.ext ?_ (by assumption))) rfl (RI.y (RdS.ri (hr.out.ext (by repeat (first | exact Ext.refl _ | refine Ext.drew ?_ | refine Ext.alloc ?_ _))))) rfl (fun _ _ h => h.elim) (by simp [maxLen]; omega) (by omega) ?_; intro A1 c1 w1 hown1 hM1 hB1; have hc1 := Bc hB1; have hf1 := Bf hB1; have hz1 := Below.size hB1; (try simp at hz1)))
        | ((refine step_app (B := fun k => w.heap.size ≤ k) (A := fun k => wr.heap.size + 1 ≤ k) rfl (.tmp 12) (.tmp 20) rfl Try.underlying31 info_rl rfl (HO.out.ext (by repeat (first | with_reducible exact Ext.refl _ | refine Ext.drewN ?_ _ | refine Ext.drew ?_ | refine Ext.alloc ?_ _ | assumption | (refine Below.trans ?_ (by assumption)) | (refine Ext.trans ?_ (by assumption)) | (refine Below.trans ?_ (Below.mono (by assumption) (by omega)))))) rfl (RdY.singleB (ln_rel ((hown1.ext (by repeat (first | exact Ext.refl _ | refine Ext.drew ?_ | refine Ext.alloc ?_ _))).rd (fun _ h => h) (fun _ h => h.elim))) (by repeat (first | ((with_reducible refine Blk.at_ _ _ ?_); simp; done) | with_reducible refine Blk.drew ?_ | with_reducible refine Blk.alloc ?_ _ | refine Blk.ext ?_ (by assumption)))) rfl (fun k _ hk => ⟨by have := hE.size; omega, HO.out.newer (by omega)⟩) (N := k + 1) (by simp; omega) (by simp [maxLen]; omega) (by omega) (by have := hE.size; have := hB1.size; simp at this ⊢; omega) ?_; intro A2 c2 w2 hown2 hM2 hB2; have hc2 := fun o => Mod.cell hM2 wr.heap.size o (by have := hB1.size; simp at this ⊢; omega) (HO.out.newer (Nat.le_refl _)); clear hM1 hM2)))
      all_goals
        go_wp2
        go_roundw
        case rel => exact ⟨k + 1, by omega, by go_num, by rw [ln_snoc hd.out]; exact hown2, (by repeat (first | with_reducible exact Ext.refl _ | refine Ext.drewN ?_ _ | refine Ext.drew ?_ | refine Ext.alloc ?_ _ | assumption | (refine Below.trans ?_ (by assumption)) | (refine Ext.trans ?_ (by assumption)) | (refine Below.trans ?_ (Below.mono (by assumption) (by omega)))))⟩
        case measure => simp [intOf]; omega
    · go_wp2
      go_ret
      have : k = ls.length := by omega
      subst this
      have h0 := HO.out
      rw [List.take_length] at h0
      exact ⟨_, _, rfl, h0, (by repeat (first | with_reducible exact Ext.refl _ | refine Ext.drewN ?_ _ | refine Ext.drew ?_ | refine Ext.alloc ?_ _ | assumption | (refine Below.trans ?_ (by assumption)) | (refine Ext.trans ?_ (by assumption)) | (refine Below.trans ?_ (Below.mono (by assumption) (by omega)))))⟩
/- a copy of lines in new memory: parlour/parlourlaw13.to -/
set_option maxHeartbeats 800000 in
theorem to_any {A : Nat → Prop} (v : Value) (ls : List (List Int × Bool)) (w : World) (h : RdY Ln A w v ls) (hn : usedL ls ≤ 140737488355328) (hm : ls.length ≤ 1000000000) :
    Calls Try.prog 10 #[v] w fun e w' => ∃ Ad c, e = .returned (.slice Ad ls.length c) ∧ OwnS Ln 41 w.heap.size (fun k => w.heap.size ≤ k) w' (.slice Ad ls.length c) ls ∧ Ext w w' := by
  obtain ⟨Ad, c, rfl, hc1, hc2⟩ := h.shape
  have H := Lib.hid h
  clear h
  go_enter Try.func10, Try.ntmps10
  go_wp2
  go_loopw [3, 8] (fun s i wr => ∃ k : Nat, k ≤ ls.length ∧ i = .int .i64 k ∧ OwnS Ln 41 w.heap.size (fun k => w.heap.size ≤ k) wr s (ls.take k) ∧ Ext w wr) (fun _ i _ => ls.length - (intOf i).toNat)
  case atStart => exact ⟨0, Nat.zero_le _, rfl, OwnS.nil _ _ _ _ _, (by repeat (first | with_reducible exact Ext.refl _ | refine Ext.drewN ?_ _ | refine Ext.drew ?_ | refine Ext.alloc ?_ _ | assumption | (refine Below.trans ?_ (by assumption)) | (refine Ext.trans ?_ (by assumption)) | (refine Below.trans ?_ (Below.mono (by assumption) (by omega)))))⟩
  case round =>
    obtain ⟨k, hk, rfl, hO, hE⟩ := hrel
    have HO := Lib.hid hO
    have hsz := hE.size
    obtain ⟨Ao, co, rfl, _, _⟩ := hO.shapeN (n := k) (by simp; omega)
    clear hO
    by_cases hlt : k < ls.length
    · obtain ⟨b, off, Ad', l, f, c', rfl, hx, hy, hd, hr, hl1, hl2⟩ := ln_at (H.out.ext hE) hlt
      have h5 : l.length ≤ 140737488355328 := by
        have : (l.length : Int) ≤ szL (l, f) := by unfold szL; split <;> simp <;> omega
        have := usedL_succ hd.out
        have := usedL_take ls (k + 1)
        have := usedL_nn (ls.take k)
        omega
      go_wp2_with fail
      have hE0 : Ext w ((wr.alloc (.cells #[.slice Ad' l.length c', .bool f] 35)).drew) := (by repeat (first | with_reducible exact Ext.refl _ | refine Ext.drewN ?_ _ | refine Ext.drew ?_ | refine Ext.alloc ?_ _ | assumption | (refine Below.trans ?_ (by assumption)) | (refine Ext.trans ?_ (by assumption)) | (refine Below.trans ?_ (Below.mono (by assumption) (by omega)))))
      go_region_held3 (fun w' => w'.cell? ⟨wr.heap.size, 0, none⟩ = some (.slice Ad' l.length c') ∧ w'.cell? ⟨wr.heap.size, 1, none⟩ = some (.bool f)) (go_keep) (first
        | ((refine step_app0 (A := fun _ => False) rfl (.tmp 13) (.tmp 15) rfl Try.underlying25 info_u8 rfl (by repeat (first | ((with_reducible refine Blk.at_ _ _ ?_); simp; done) | with_reducible refine Blk.drew ?_ | with_reducible refine Blk.alloc ?_ _ | refine Blk.ext ?_ (by assumption))) rfl (RI.y (RdS.ri (hr.out.ext (by repeat (first | exact Ext.refl _ | refine Ext.drew ?_ | refine Ext.alloc ?_ _))))) rfl (fun _ _ h => h.elim) (by simp [maxLen]; omega) (by omega) ?_; intro A1 c1 w1 hown1 hM1 hB1; have hc1 := Bc hB1; have hf1 := Bf hB1; have hz1 := Below.size hB1; (try simp at hz1)))
        | ((refine step_app (B := fun k => w.heap.size ≤ k) (A := fun k => wr.heap.size + 1 ≤ k) rfl (.tmp 12) (.tmp 20) rfl Try.underlying26 info_cl rfl (HO.out.ext (by repeat (first | with_reducible exact Ext.refl _ | refine Ext.drewN ?_ _ | refine Ext.drew ?_ | refine Ext.alloc ?_ _ | assumption | (refine Below.trans ?_ (by assumption)) | (refine Ext.trans ?_ (by assumption)) | (refine Below.trans ?_ (Below.mono (by assumption) (by omega)))))) rfl (RdY.singleB (ln_rel ((hown1.ext (by repeat (first | exact Ext.refl _ | refine Ext.drew ?_ | refine Ext.alloc ?_ _))).rd (fun _ h => h) (fun _ h => h.elim))) (by repeat (first | ((with_reducible refine Blk.at_ _ _ ?_); simp; done) | with_reducible refine Blk.drew ?_ | with_reducible refine Blk.alloc ?_ _ | refine Blk.ext ?_ (by assumption)))) rfl (fun k _ hk => ⟨by have := hE.size; omega, HO.out.newer (by omega)⟩) (N := k + 1) (by simp; omega) (by simp [maxLen]; omega) (by omega) (by have := hE.size; have := hB1.size; simp at this ⊢; omega) ?_; intro A2 c2 w2 hown2 hM2 hB2; have hc2 := fun o => Mod.cell hM2 wr.heap.size o (by have := hB1.size; simp at this ⊢; omega) (HO.out.newer (Nat.le_refl _)); clear hM1 hM2)))
      all_goals
        go_wp2
        go_roundw
        case rel => exact ⟨k + 1, by omega, by go_num, by rw [ln_snoc hd.out]; exact hown2, (by repeat (first | with_reducible exact Ext.refl _ | refine Ext.drewN ?_ _ | refine Ext.drew ?_ | refine Ext.alloc ?_ _ | assumption | (refine Below.trans ?_ (by assumption)) | (refine Ext.trans ?_ (by assumption)) | (refine Below.trans ?_ (Below.mono (by assumption) (by omega)))))⟩
        case measure => simp [intOf]; omega
    · go_wp2
      go_ret
      have : k = ls.length := by omega
      subst this
      have h0 := HO.out
      rw [List.take_length] at h0
      exact ⟨_, _, rfl, h0, (by repeat (first | with_reducible exact Ext.refl _ | refine Ext.drewN ?_ _ | refine Ext.drew ?_ | refine Ext.alloc ?_ _ | assumption | (refine Below.trans ?_ (by assumption)) | (refine Ext.trans ?_ (by assumption)) | (refine Below.trans ?_ (Below.mono (by assumption) (by omega)))))⟩
/- lines as lines of another type: parlour/parlourlaw13.from -/
set_option maxHeartbeats 800000 in
theorem from_any {A : Nat → Prop} (v : Value) (ls : List (List Int × Bool)) (w : World) (h : RdY Ln A w v ls) (hm : ls.length ≤ 1000000000) :
    Calls Try.prog 12 #[v] w fun e w' => ∃ Ad c, e = .returned (.slice Ad ls.length c) ∧ OwnS Ln 47 w.heap.size (fun k => A k ∧ k < w.heap.size) w' (.slice Ad ls.length c) ls ∧ Ext w w' := by
  obtain ⟨Ad, c, rfl, hc1, hc2⟩ := h.shape
  have H := Lib.hid h.lt
  clear h
  go_enter Try.func12, Try.ntmps12
  go_wp2
  go_loopw [3, 8] (fun s i wr => ∃ k : Nat, k ≤ ls.length ∧ i = .int .i64 k ∧ OwnS Ln 47 w.heap.size (fun k => A k ∧ k < w.heap.size) wr s (ls.take k) ∧ Ext w wr) (fun _ i _ => ls.length - (intOf i).toNat)
  case atStart => exact ⟨0, Nat.zero_le _, rfl, OwnS.nil _ _ _ _ _, (by repeat (first | with_reducible exact Ext.refl _ | refine Ext.drewN ?_ _ | refine Ext.drew ?_ | refine Ext.alloc ?_ _ | assumption | (refine Below.trans ?_ (by assumption)) | (refine Ext.trans ?_ (by assumption)) | (refine Below.trans ?_ (Below.mono (by assumption) (by omega)))))⟩
  case round =>
    obtain ⟨k, hk, rfl, hO, hE⟩ := hrel
    have HO := Lib.hid hO
    have hsz := hE.size
    obtain ⟨Ao, co, rfl, _, _⟩ := hO.shapeN (n := k) (by simp; omega)
    clear hO
    by_cases hlt : k < ls.length
    · obtain ⟨b, off, Ad', l, f, c', rfl, hx, hy, hd, hr, hl1, hl2⟩ := ln_at (H.out.ext hE) hlt
      go_wp2_with ((at_builtin; refine wpList_app (B := fun k => A k ∧ k < w.heap.size) (A := fun k => A k ∧ k < w.heap.size) rfl (.tmp 12) (.tmp 14) rfl Try.underlying31 info_rl rfl (HO.out.ext (by repeat (first | with_reducible exact Ext.refl _ | refine Ext.drewN ?_ _ | refine Ext.drew ?_ | refine Ext.alloc ?_ _ | assumption | (refine Below.trans ?_ (by assumption)) | (refine Ext.trans ?_ (by assumption)) | (refine Below.trans ?_ (Below.mono (by assumption) (by omega)))))) rfl (RdY.singleB (ln_rel (hr.out.ext (by repeat (first | with_reducible exact Ext.refl _ | refine Ext.drewN ?_ _ | refine Ext.drew ?_ | refine Ext.alloc ?_ _ | assumption | (refine Below.trans ?_ (by assumption)) | (refine Ext.trans ?_ (by assumption)) | (refine Below.trans ?_ (Below.mono (by assumption) (by omega))))))) (by repeat (first | ((with_reducible refine Blk.at_ _ _ ?_); simp; done) | with_reducible refine Blk.drew ?_ | with_reducible refine Blk.alloc ?_ _ | refine Blk.ext ?_ (by assumption)))) rfl (fun k _ hk => ⟨hk, fun h => by have := (HO.out.row k h).1; have := hk.2; omega⟩) (N := k + 1) (by simp; omega) (by simp [maxLen]; omega) (by omega) (by simp; omega) ?_; intro A2 c2 w2 hown2 hM2 hB2; clear hM2))
      go_roundw
      case rel => exact ⟨k + 1, by omega, by go_num, by rw [ln_snoc hd.out]; exact hown2, (by repeat (first | with_reducible exact Ext.refl _ | refine Ext.drewN ?_ _ | refine Ext.drew ?_ | refine Ext.alloc ?_ _ | assumption | (refine Below.trans ?_ (by assumption)) | (refine Ext.trans ?_ (by assumption)) | (refine Below.trans ?_ (Below.mono (by assumption) (by omega)))))⟩
      case measure => simp [intOf]; omega
    · go_wp2
      go_ret
      have : k = ls.length := by omega
      subst this
      have h0 := HO.out
      rw [List.take_length] at h0
      exact ⟨_, _, rfl, h0, (by repeat (first | with_reducible exact Ext.refl _ | refine Ext.drewN ?_ _ | refine Ext.drew ?_ | refine Ext.alloc ?_ _ | assumption | (refine Below.trans ?_ (by assumption)) | (refine Ext.trans ?_ (by assumption)) | (refine Below.trans ?_ (Below.mono (by assumption) (by omega)))))⟩
/- lines as lines of another type: parlour/parlourlaw13.ref -/
set_option maxHeartbeats 800000 in
theorem ref_any {A : Nat → Prop} (v : Value) (ls : List (List Int × Bool)) (w : World) (h : RdY Ln A w v ls) (hm : ls.length ≤ 1000000000) :
    Calls Try.prog 13 #[v] w fun e w' => ∃ Ad c, e = .returned (.slice Ad ls.length c) ∧ OwnS Ln 47 w.heap.size (fun k => A k ∧ k < w.heap.size) w' (.slice Ad ls.length c) ls ∧ Ext w w' := by
  obtain ⟨Ad, c, rfl, hc1, hc2⟩ := h.shape
  have H := Lib.hid h.lt
  clear h
  go_enter Try.func13, Try.ntmps13
  go_wp2
  go_loopw [3, 8] (fun s i wr => ∃ k : Nat, k ≤ ls.length ∧ i = .int .i64 k ∧ OwnS Ln 47 w.heap.size (fun k => A k ∧ k < w.heap.size) wr s (ls.take k) ∧ Ext w wr) (fun _ i _ => ls.length - (intOf i).toNat)
  case atStart => exact ⟨0, Nat.zero_le _, rfl, OwnS.nil _ _ _ _ _, (by repeat (first | with_reducible exact Ext.refl _ | refine Ext.drewN ?_ _ | refine Ext.drew ?_ | refine Ext.alloc ?_ _ | assumption | (refine Below.trans ?_ (by assumption)) | (refine Ext.trans ?_ (by assumption)) | (refine Below.trans ?_ (Below.mono (by assumption) (by omega)))))⟩
  case round =>
    obtain ⟨k, hk, rfl, hO, hE⟩ := hrel
    have HO := Lib.hid hO
    have hsz := hE.size
    obtain ⟨Ao, co, rfl, _, _⟩ := hO.shapeN (n := k) (by simp; omega)
    clear hO
    by_cases hlt : k < ls.length
    · obtain ⟨b, off, Ad', l, f, c', rfl, hx, hy, hd, hr, hl1, hl2⟩ := ln_at (H.out.ext hE) hlt
      go_wp2_with ((at_builtin; refine wpList_app (B := fun k => A k ∧ k < w.heap.size) (A := fun k => A k ∧ k < w.heap.size) rfl (.tmp 12) (.tmp 14) rfl Try.underlying31 info_rl rfl (HO.out.ext (by repeat (first | with_reducible exact Ext.refl _ | refine Ext.drewN ?_ _ | refine Ext.drew ?_ | refine Ext.alloc ?_ _ | assumption | (refine Below.trans ?_ (by assumption)) | (refine Ext.trans ?_ (by assumption)) | (refine Below.trans ?_ (Below.mono (by assumption) (by omega)))))) rfl (RdY.singleB (ln_rel (hr.out.ext (by repeat (first | with_reducible exact Ext.refl _ | refine Ext.drewN ?_ _ | refine Ext.drew ?_ | refine Ext.alloc ?_ _ | assumption | (refine Below.trans ?_ (by assumption)) | (refine Ext.trans ?_ (by assumption)) | (refine Below.trans ?_ (Below.mono (by assumption) (by omega))))))) (by repeat (first | ((with_reducible refine Blk.at_ _ _ ?_); simp; done) | with_reducible refine Blk.drew ?_ | with_reducible refine Blk.alloc ?_ _ | refine Blk.ext ?_ (by assumption)))) rfl (fun k _ hk => ⟨hk, fun h => by have := (HO.out.row k h).1; have := hk.2; omega⟩) (N := k + 1) (by simp; omega) (by simp [maxLen]; omega) (by omega) (by simp; omega) ?_; intro A2 c2 w2 hown2 hM2 hB2; clear hM2))
      go_roundw
      case rel => exact ⟨k + 1, by omega, by go_num, by rw [ln_snoc hd.out]; exact hown2, (by repeat (first | with_reducible exact Ext.refl _ | refine Ext.drewN ?_ _ | refine Ext.drew ?_ | refine Ext.alloc ?_ _ | assumption | (refine Below.trans ?_ (by assumption)) | (refine Ext.trans ?_ (by assumption)) | (refine Below.trans ?_ (Below.mono (by assumption) (by omega)))))⟩
      case measure => simp [intOf]; omega
    · go_wp2
      go_ret
      have : k = ls.length := by omega
      subst this
      have h0 := HO.out
      rw [List.take_length] at h0
      exact ⟨_, _, rfl, h0, (by repeat (first | with_reducible exact Ext.refl _ | refine Ext.drewN ?_ _ | refine Ext.drew ?_ | refine Ext.alloc ?_ _ | assumption | (refine Below.trans ?_ (by assumption)) | (refine Ext.trans ?_ (by assumption)) | (refine Below.trans ?_ (Below.mono (by assumption) (by omega)))))⟩
end Go.Proofs.Ytgahpclgdhghjaa
