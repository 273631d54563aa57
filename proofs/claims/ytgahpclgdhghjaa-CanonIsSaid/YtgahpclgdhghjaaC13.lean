/- The lines that were typed: what they are all together, what is too much, whether they are the same, by contract. Conditions: lengths within the reach. -/
import Derived.Test.YtgahpclgdhghjaaB13
namespace Go.Proofs.Ytgahpclgdhghjaa
open Go.RowKit Go.Kb

def flatL (l : List (List Int × Bool)) : List Int := (l.map (·.1)).flatten
theorem flatL_succ {l : List (List Int × Bool)} {k : Nat} {x : List Int × Bool} (h : l[k]? = some x) : flatL (l.take (k + 1)) = flatL (l.take k) ++ x.1 := by
  rw [ln_snoc h]; simp [flatL]
theorem flatL_len (l : List (List Int × Bool)) : ((flatL l).length : Int) ≤ usedL l := by
  induction l with
  | nil => simp [flatL, usedL]
  | cons x l ih =>
    have : (x.1.length : Int) ≤ szL x := by unfold szL; split <;> omega
    simp only [flatL, usedL, List.map_cons, List.flatten_cons, List.length_append, List.sum_cons] at ih ⊢
    omega
theorem ln_len {ls : List (List Int × Bool)} {k : Nat} {l : List Int} {f : Bool} (hd : ls[k]? = some (l, f)) (hn : usedL ls ≤ 140737488355328) : l.length ≤ 140737488355328 := by
  have : (l.length : Int) ≤ szL (l, f) := by unfold szL; split <;> simp <;> omega
  have := usedL_succ hd
  have := usedL_take ls (k + 1)
  have := usedL_nn (ls.take k)
  omega
/- all bytes of lines: parlour/canon.Flat -/
set_option maxHeartbeats 400000 in
theorem flat_any {A : Nat → Prop} (v : Value) (ls : List (List Int × Bool)) (w : World) (h : RdY Ln A w v ls) (hn : usedL ls ≤ 140737488355328) :
    Calls Try.prog 17 #[v] w fun e w' => ∃ Ad c, e = .returned (.slice Ad (flatL ls).length c) ∧ OwnS Ub 5 w.heap.size (fun _ => False) w' (.slice Ad (flatL ls).length c) (flatL ls) ∧ Ext w w' := by
  obtain ⟨Ad, c, rfl, hc1, hc2⟩ := h.shape
  have H := Lib.hid h
  clear h
  go_enter Try.func17, Try.ntmps17
  go_wp2
  go_loopw [3, 8] (fun s i wr => ∃ k : Nat, k ≤ ls.length ∧ i = .int .i64 k ∧ OwnS Ub 5 w.heap.size (fun _ => False) wr s (flatL (ls.take k)) ∧ Ext w wr) (fun _ i _ => ls.length - (intOf i).toNat)
  case atStart => exact ⟨0, Nat.zero_le _, rfl, OwnS.nil _ _ _ _ _, (by repeat (first | with_reducible exact Ext.refl _ | refine Ext.drewN ?_ _ | refine Ext.drew ?_ | refine Ext.alloc ?_ _ | assumption | (refine Below.trans ?_ (by assumption)) | (refine Ext.trans ?_ (by assumption)) | (refine Below.trans ?_ (Below.mono (by assumption) (by omega)))))⟩
  case round =>
    obtain ⟨k, hk, rfl, hO, hE⟩ := hrel
    have HO := Lib.hid hO
    have hsz := hE.size
    obtain ⟨Ao, co, rfl, _, _⟩ := hO.shape
    clear hO
    by_cases hlt : k < ls.length
    · obtain ⟨b, off, Ad', l, f, c', rfl, hx, hy, hd, hr, hl1, hl2⟩ := ln_at (H.out.ext hE) hlt
      have HS := Lib.hid (flatL_succ hd.out)
      have hle : (flatL (ls.take k)).length + l.length ≤ 140737488355328 := by
        have h1 := flatL_len (ls.take (k + 1))
        have h2 := usedL_take ls (k + 1)
        rw [HS.out, List.length_append] at h1
        simp only at h1
        omega
      go_wp2_with ((at_builtin; refine wpList_app (B := fun _ => False) (A := fun _ => False) rfl (.tmp 12) (.tmp 14) rfl Try.underlying25 info_u8 rfl (HO.out.ext (by repeat (first | with_reducible exact Ext.refl _ | refine Ext.drewN ?_ _ | refine Ext.drew ?_ | refine Ext.alloc ?_ _ | assumption | (refine Below.trans ?_ (by assumption)) | (refine Ext.trans ?_ (by assumption)) | (refine Below.trans ?_ (Below.mono (by assumption) (by omega)))))) rfl (RI.y (RdS.ri (hr.out.ext (by repeat (first | with_reducible exact Ext.refl _ | refine Ext.drewN ?_ _ | refine Ext.drew ?_ | refine Ext.alloc ?_ _ | assumption | (refine Below.trans ?_ (by assumption)) | (refine Ext.trans ?_ (by assumption)) | (refine Below.trans ?_ (Below.mono (by assumption) (by omega)))))))) rfl (fun _ _ h => h.elim) rfl (by simp [maxLen]; omega) (by omega) (by simp; omega) ?_; intro A2 c2 w2 hown2 hM2 hB2; clear hM2))
      go_roundw
      case rel => exact ⟨k + 1, by omega, by go_num, by rw [HS.out]; exact hown2, (by repeat (first | with_reducible exact Ext.refl _ | refine Ext.drewN ?_ _ | refine Ext.drew ?_ | refine Ext.alloc ?_ _ | assumption | (refine Below.trans ?_ (by assumption)) | (refine Ext.trans ?_ (by assumption)) | (refine Below.trans ?_ (Below.mono (by assumption) (by omega)))))⟩
      case measure => simp [intOf]; omega
    · go_wp2
      go_ret
      have : k = ls.length := by omega
      subst this
      have h0 := HO.out
      rw [List.take_length] at h0
      rw [List.take_length]
      exact ⟨_, _, rfl, h0, (by repeat (first | with_reducible exact Ext.refl _ | refine Ext.drewN ?_ _ | refine Ext.drew ?_ | refine Ext.alloc ?_ _ | assumption | (refine Below.trans ?_ (by assumption)) | (refine Ext.trans ?_ (by assumption)) | (refine Below.trans ?_ (Below.mono (by assumption) (by omega)))))⟩
/- all bytes of lines: parlour/parlourref13.Flat -/
set_option maxHeartbeats 400000 in
theorem rflat_any {A : Nat → Prop} (v : Value) (ls : List (List Int × Bool)) (w : World) (h : RdY Ln A w v ls) (hn : usedL ls ≤ 140737488355328) :
    Calls Try.prog 21 #[v] w fun e w' => ∃ Ad c, e = .returned (.slice Ad (flatL ls).length c) ∧ OwnS Ub 5 w.heap.size (fun _ => False) w' (.slice Ad (flatL ls).length c) (flatL ls) ∧ Ext w w' := by
  obtain ⟨Ad, c, rfl, hc1, hc2⟩ := h.shape
  have H := Lib.hid h
  clear h
  go_enter Try.func21, Try.ntmps21
  go_wp2
  go_loopw [3, 8] (fun s i wr => ∃ k : Nat, k ≤ ls.length ∧ i = .int .i64 k ∧ OwnS Ub 5 w.heap.size (fun _ => False) wr s (flatL (ls.take k)) ∧ Ext w wr) (fun _ i _ => ls.length - (intOf i).toNat)
  case atStart => exact ⟨0, Nat.zero_le _, rfl, OwnS.nil _ _ _ _ _, (by repeat (first | with_reducible exact Ext.refl _ | refine Ext.drewN ?_ _ | refine Ext.drew ?_ | refine Ext.alloc ?_ _ | assumption | (refine Below.trans ?_ (by assumption)) | (refine Ext.trans ?_ (by assumption)) | (refine Below.trans ?_ (Below.mono (by assumption) (by omega)))))⟩
  case round =>
    obtain ⟨k, hk, rfl, hO, hE⟩ := hrel
    have HO := Lib.hid hO
    have hsz := hE.size
    obtain ⟨Ao, co, rfl, _, _⟩ := hO.shape
    clear hO
    by_cases hlt : k < ls.length
    · obtain ⟨b, off, Ad', l, f, c', rfl, hx, hy, hd, hr, hl1, hl2⟩ := ln_at (H.out.ext hE) hlt
      have HS := Lib.hid (flatL_succ hd.out)
      have hle : (flatL (ls.take k)).length + l.length ≤ 140737488355328 := by
        have h1 := flatL_len (ls.take (k + 1))
        have h2 := usedL_take ls (k + 1)
        rw [HS.out, List.length_append] at h1
        simp only at h1
        omega
      go_wp2_with ((at_builtin; refine wpList_app (B := fun _ => False) (A := fun _ => False) rfl (.tmp 12) (.tmp 14) rfl Try.underlying25 info_u8 rfl (HO.out.ext (by repeat (first | with_reducible exact Ext.refl _ | refine Ext.drewN ?_ _ | refine Ext.drew ?_ | refine Ext.alloc ?_ _ | assumption | (refine Below.trans ?_ (by assumption)) | (refine Ext.trans ?_ (by assumption)) | (refine Below.trans ?_ (Below.mono (by assumption) (by omega)))))) rfl (RI.y (RdS.ri (hr.out.ext (by repeat (first | with_reducible exact Ext.refl _ | refine Ext.drewN ?_ _ | refine Ext.drew ?_ | refine Ext.alloc ?_ _ | assumption | (refine Below.trans ?_ (by assumption)) | (refine Ext.trans ?_ (by assumption)) | (refine Below.trans ?_ (Below.mono (by assumption) (by omega)))))))) rfl (fun _ _ h => h.elim) rfl (by simp [maxLen]; omega) (by omega) (by simp; omega) ?_; intro A2 c2 w2 hown2 hM2 hB2; clear hM2))
      go_roundw
      case rel => exact ⟨k + 1, by omega, by go_num, by rw [HS.out]; exact hown2, (by repeat (first | with_reducible exact Ext.refl _ | refine Ext.drewN ?_ _ | refine Ext.drew ?_ | refine Ext.alloc ?_ _ | assumption | (refine Below.trans ?_ (by assumption)) | (refine Ext.trans ?_ (by assumption)) | (refine Below.trans ?_ (Below.mono (by assumption) (by omega)))))⟩
      case measure => simp [intOf]; omega
    · go_wp2
      go_ret
      have : k = ls.length := by omega
      subst this
      have h0 := HO.out
      rw [List.take_length] at h0
      rw [List.take_length]
      exact ⟨_, _, rfl, h0, (by repeat (first | with_reducible exact Ext.refl _ | refine Ext.drewN ?_ _ | refine Ext.drew ?_ | refine Ext.alloc ?_ _ | assumption | (refine Below.trans ?_ (by assumption)) | (refine Ext.trans ?_ (by assumption)) | (refine Below.trans ?_ (Below.mono (by assumption) (by omega)))))⟩
set_option maxHeartbeats 400000 in
theorem rused_any {A : Nat → Prop} (v : Value) (ls : List (List Int × Bool)) (w : World) (h : RdY Ln A w v ls) (hn : usedL ls ≤ 140737488355328) :
    Calls Try.prog 20 #[v] w fun e w' => e = .returned (.int .i64 (usedL ls)) ∧ Ext w w' := by
  obtain ⟨Ad, c, rfl, hc1, hc2⟩ := h.shape
  have H := Lib.hid h
  clear h
  go_enter Try.func20, Try.ntmps20
  go_wp2
  go_loopw [3, 8] (fun n i wr => ∃ k : Nat, k ≤ ls.length ∧ i = .int .i64 k ∧ n = .int .i64 (usedL (ls.take k)) ∧ Ext w wr) (fun _ i _ => ls.length - (intOf i).toNat)
  case atStart => exact ⟨0, Nat.zero_le _, rfl, rfl, (by repeat (first | with_reducible exact Ext.refl _ | refine Ext.drewN ?_ _ | refine Ext.drew ?_ | refine Ext.alloc ?_ _ | assumption | (refine Below.trans ?_ (by assumption)) | (refine Ext.trans ?_ (by assumption)) | (refine Below.trans ?_ (Below.mono (by assumption) (by omega)))))⟩
  case round =>
    obtain ⟨k, hk, rfl, rfl, hE⟩ := hrel
    have h0 := usedL_nn (ls.take k)
    have h1 := usedL_take ls k
    by_cases hlt : k < ls.length
    · obtain ⟨b, off, Ad', l, f, c', rfl, hx, hy, hd, hr, hl1, hl2⟩ := ln_at (H.out.ext hE) hlt
      have h2 := usedL_take ls (k + 1)
      have HS := Lib.hid (usedL_succ hd.out)
      have h4 : usedL (ls.take k) + szL (l, f) ≤ 140737488355328 := by rw [← HS.out]; omega
      have h5 : l.length ≤ 140737488355328 := ln_len hd.out hn
      clear hd hr h2
      cases f
      · have h6 : usedL (ls.take k) + l.length ≤ 140737488355328 := by simpa [szL] using h4
        clear h4
        go_wp2
        go_roundw
        case rel => exact ⟨k + 1, by omega, by go_num, by rw [HS.out]; simp [szL], (by repeat (first | with_reducible exact Ext.refl _ | refine Ext.drewN ?_ _ | refine Ext.drew ?_ | refine Ext.alloc ?_ _ | assumption | (refine Below.trans ?_ (by assumption)) | (refine Ext.trans ?_ (by assumption)) | (refine Below.trans ?_ (Below.mono (by assumption) (by omega)))))⟩
        case measure => simp [intOf]; omega
      · have h6 : usedL (ls.take k) + (l.length + 1) ≤ 140737488355328 := by simpa [szL] using h4
        clear h4
        go_wp2
        go_roundw
        case rel => exact ⟨k + 1, by omega, by go_num, by rw [HS.out]; simp [szL]; omega, (by repeat (first | with_reducible exact Ext.refl _ | refine Ext.drewN ?_ _ | refine Ext.drew ?_ | refine Ext.alloc ?_ _ | assumption | (refine Below.trans ?_ (by assumption)) | (refine Ext.trans ?_ (by assumption)) | (refine Below.trans ?_ (Below.mono (by assumption) (by omega)))))⟩
        case measure => simp [intOf]; omega
    · go_wp2
      go_ret
      have : k = ls.length := by omega
      exact ⟨ret_int (by rw [this, List.take_length]), (by repeat (first | with_reducible exact Ext.refl _ | refine Ext.drewN ?_ _ | refine Ext.drew ?_ | refine Ext.alloc ?_ _ | assumption | (refine Below.trans ?_ (by assumption)) | (refine Ext.trans ?_ (by assumption)) | (refine Below.trans ?_ (Below.mono (by assumption) (by omega)))))⟩

def minL (l : List (List Int × Bool)) : Int := (l.map fun x => min (x.1.length : Int) 10000).sum
theorem minL_succ {l : List (List Int × Bool)} {k : Nat} {x : List Int × Bool} (h : l[k]? = some x) : minL (l.take (k + 1)) = minL (l.take k) + min (x.1.length : Int) 10000 := by
  rw [ln_snoc h]; simp [minL, List.sum_append]
theorem minL_bd (l : List (List Int × Bool)) : 0 ≤ minL l ∧ minL l ≤ 10000 * l.length := by
  induction l with
  | nil => simp [minL]
  | cons x l ih => simp only [minL, List.map_cons, List.sum_cons, List.length_cons] at *; omega
def greatL (l : List (List Int × Bool)) : Bool := decide (200 < l.length) || decide (10000 < minL l)
set_option maxHeartbeats 400000 in
theorem great_any {A : Nat → Prop} (v : Value) (ls : List (List Int × Bool)) (w : World) (h : RdY Ln A w v ls) :
    Calls Try.prog 8 #[v] w fun e w' => e = .returned (.bool (greatL ls)) ∧ Ext w w' := by
  obtain ⟨Ad, c, rfl, hc1, hc2⟩ := h.shape
  have H := Lib.hid h
  clear h
  by_cases hbig : 200 < ls.length
  · have HG : Hid (greatL ls = true) := Lib.hid (by simp [greatL, hbig])
    rw [HG.out]
    go_enter Try.func8, Try.ntmps8
    go_wp2
    go_loopw [3, 8] (fun n i wr => ∃ k : Nat, k ≤ ls.length ∧ i = .int .i64 k ∧ (∃ m : Int, n = .int .i64 m) ∧ Ext w wr) (fun _ i _ => ls.length - (intOf i).toNat)
    case atStart => exact ⟨0, Nat.zero_le _, rfl, ⟨0, rfl⟩, (by repeat (first | with_reducible exact Ext.refl _ | refine Ext.drewN ?_ _ | refine Ext.drew ?_ | refine Ext.alloc ?_ _ | assumption | (refine Below.trans ?_ (by assumption)) | (refine Ext.trans ?_ (by assumption)) | (refine Below.trans ?_ (Below.mono (by assumption) (by omega)))))⟩
    case round =>
      obtain ⟨k, hk, rfl, ⟨m, rfl⟩, hE⟩ := hrel
      by_cases hlt : k < ls.length
      · obtain ⟨b, off, Ad', l, f, c', rfl, hx, hy, hd, hr, hl1, hl2⟩ := ln_at (H.out.ext hE) hlt
        clear hd hr
        go_wp2
        go_roundw
        case rel => exact ⟨k + 1, by omega, by go_num, ⟨_, rfl⟩, (by repeat (first | with_reducible exact Ext.refl _ | refine Ext.drewN ?_ _ | refine Ext.drew ?_ | refine Ext.alloc ?_ _ | assumption | (refine Below.trans ?_ (by assumption)) | (refine Ext.trans ?_ (by assumption)) | (refine Below.trans ?_ (Below.mono (by assumption) (by omega)))))⟩
        case measure => simp [intOf]; omega
      · go_wp2
        go_ret
        exact ⟨rfl, (by repeat (first | with_reducible exact Ext.refl _ | refine Ext.drewN ?_ _ | refine Ext.drew ?_ | refine Ext.alloc ?_ _ | assumption | (refine Below.trans ?_ (by assumption)) | (refine Ext.trans ?_ (by assumption)) | (refine Below.trans ?_ (Below.mono (by assumption) (by omega)))))⟩
  · have HG : Hid (greatL ls = decide (10000 < minL ls)) := Lib.hid (by simp [greatL, hbig])
    rw [HG.out]
    have hT := Lib.hid (List.take_length (l := ls))
    go_enter Try.func8, Try.ntmps8
    go_wp2
    go_loopw [3, 8] (fun n i wr => ∃ k : Nat, k ≤ ls.length ∧ i = .int .i64 k ∧ n = .int .i64 (minL (ls.take k)) ∧ Ext w wr) (fun _ i _ => ls.length - (intOf i).toNat)
    case atStart => exact ⟨0, Nat.zero_le _, rfl, rfl, (by repeat (first | with_reducible exact Ext.refl _ | refine Ext.drewN ?_ _ | refine Ext.drew ?_ | refine Ext.alloc ?_ _ | assumption | (refine Below.trans ?_ (by assumption)) | (refine Ext.trans ?_ (by assumption)) | (refine Below.trans ?_ (Below.mono (by assumption) (by omega)))))⟩
    case round =>
      obtain ⟨k, hk, rfl, rfl, hE⟩ := hrel
      have h0 := minL_bd (ls.take k)
      have h1 : (ls.take k).length ≤ 200 := by simp; omega
      by_cases hlt : k < ls.length
      · obtain ⟨b, off, Ad', l, f, c', rfl, hx, hy, hd, hr, hl1, hl2⟩ := ln_at (H.out.ext hE) hlt
        have HS := Lib.hid (minL_succ hd.out)
        clear hd hr
        go_wp2
        go_roundw
        case rel => exact ⟨k + 1, by omega, by go_num, by rw [HS.out]; congr 2; simp only; split <;> omega, (by repeat (first | with_reducible exact Ext.refl _ | refine Ext.drewN ?_ _ | refine Ext.drew ?_ | refine Ext.alloc ?_ _ | assumption | (refine Below.trans ?_ (by assumption)) | (refine Ext.trans ?_ (by assumption)) | (refine Below.trans ?_ (Below.mono (by assumption) (by omega)))))⟩
        case measure => simp [intOf]; omega
      · obtain rfl : k = ls.length := by omega
        rw [hT.out] at h0 ⊢
        by_cases hg : 10000 < minL ls
        · go_wp2
          go_ret
          exact ⟨ret_bool (by rw [Bool.eq_iff_iff]; simp; omega), (by repeat (first | with_reducible exact Ext.refl _ | refine Ext.drewN ?_ _ | refine Ext.drew ?_ | refine Ext.alloc ?_ _ | assumption | (refine Below.trans ?_ (by assumption)) | (refine Ext.trans ?_ (by assumption)) | (refine Below.trans ?_ (Below.mono (by assumption) (by omega)))))⟩
        · go_wp2
          go_ret
          exact ⟨ret_bool (by rw [Bool.eq_iff_iff]; simp; omega), (by repeat (first | with_reducible exact Ext.refl _ | refine Ext.drewN ?_ _ | refine Ext.drew ?_ | refine Ext.alloc ?_ _ | assumption | (refine Below.trans ?_ (by assumption)) | (refine Ext.trans ?_ (by assumption)) | (refine Below.trans ?_ (Below.mono (by assumption) (by omega)))))⟩
end Go.Proofs.Ytgahpclgdhghjaa
