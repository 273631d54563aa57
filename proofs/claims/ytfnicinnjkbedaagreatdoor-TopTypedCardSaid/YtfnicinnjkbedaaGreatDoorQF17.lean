/- A line discipline is typed an end of a line, and a plain byte; a program reads of it; by contract. Conditions: it reads by lines; there is room. -/
import Derived.Test.YtfnicinnjkbedaaGreatDoorQE17
namespace Go.Proofs.YtfnicinnjkbedaaGreatDoor
open Go.RowKit Go.Kb
set_option maxRecDepth 100000

def Ds.newlineD (d : Ds) (c : Int) : Ds := if hasL d.t 53 = true ∨ hasL d.t 56 = true then (d.endD [c] false).showD [c] else d.endD [c] false
set_option maxHeartbeats 800000 in
theorem dnewline_any {S : Nat → Prop} {g : Nat} (d : Ds) (c : Int) (w : World) (h : Dsc S g w d) (hc : 0 ≤ c ∧ c ≤ 255) (hroom : Ca.usedL d.ls + Ca.szL (d.line ++ [c], false) ≤ 1024) (hls : d.ls.length ≤ 100000) :
    Calls Tryz.prog 97 #[.pointer (some ⟨g, 0, none⟩), .int .u8 c] w fun e w' => e = .returned (.tuple #[]) ∧ Dsc S g w' (d.newlineD c) ∧ Mod (fun j => j = g) w w' := by
  have HD := Lib.hid h
  have HE := Lib.hid (fun v w' h hx => dend_any (S := S) (g := g) d v [c] false w' h hx hroom hls)
  have H53 := Lib.hid (fun w' h => dhas_any (S := S) (g := g) (d.endD [c] false) 53 w' h)
  have H56 := Lib.hid (fun w' h => dhas_any (S := S) (g := g) (d.endD [c] false) 56 w' h)
  have HW := Lib.hid (fun v w' h hb => dshow_any (S := S) (g := g) (d.endD [c] false) v [c] w' h hb (fun x hx => by rw [List.mem_singleton.1 hx]; exact hc) (by simp))
  clear h hc hroom hls
  unfold Ds.newlineD
  have e1 : (d.endD [c] false).t = d.t := rfl
  rw [e1] at H53 H56
  obtain ⟨q1, hq1⟩ : ∃ q, hasL d.t 53 = q := ⟨_, rfl⟩
  obtain ⟨q2, hq2⟩ : ∃ q, hasL d.t 56 = q := ⟨_, rfl⟩
  rw [hq1] at H53 ⊢
  rw [hq2] at H56 ⊢
  clear hq1 hq2 e1
  go_enter Tryz.func97, Tryz.ntmps97
  go_wp2_with fail
  refine (HE.out _ _ (HD.out.ext (by repeat (first | with_reducible exact Ext.refl _ | refine Ext.drewN ?_ _ | refine Ext.drew ?_ | refine Ext.alloc ?_ _ | assumption | (refine Below.trans ?_ (by assumption)) | (refine Ext.trans ?_ (by assumption)) | (refine Below.trans ?_ (Below.mono (by assumption) (by omega)))))) (RI.lit .u8 [c] _ (by simp) (by simp))).mono ?_
  rintro e w1 ⟨rfl, P1, M1⟩
  have HP1 := Lib.hid P1
  have HM1 := Lib.hid (Mod.trans (Mod.of_ext (show Ext w _ from (by repeat (first | with_reducible exact Ext.refl _ | refine Ext.drewN ?_ _ | refine Ext.drew ?_ | refine Ext.alloc ?_ _ | assumption | (refine Below.trans ?_ (by assumption)) | (refine Ext.trans ?_ (by assumption)) | (refine Below.trans ?_ (Below.mono (by assumption) (by omega))))))) M1)
  clear P1 M1
  go_wp2_with fail
  refine (H53.out _ HP1.out).mono ?_
  rintro e w2 ⟨rfl, E2⟩
  have HM2 := Lib.hid (HM1.out.ext E2)
  have HP2 := Lib.hid (HP1.out.ext E2)
  clear HM1 HP1 E2
  cases q1 with
  | true =>
    go_wp2_with fail
    refine (HW.out _ _ (HP2.out.ext (by repeat (first | with_reducible exact Ext.refl _ | refine Ext.drewN ?_ _ | refine Ext.drew ?_ | refine Ext.alloc ?_ _ | assumption | (refine Below.trans ?_ (by assumption)) | (refine Ext.trans ?_ (by assumption)) | (refine Below.trans ?_ (Below.mono (by assumption) (by omega)))))) (RI.lit .u8 [c] _ (by simp) (by simp))).mono ?_
    rintro e w3 ⟨rfl, P3, M3⟩
    have HP3 := Lib.hid P3
    have HM3 := Lib.hid (Mod.trans (HM2.out.ext (show Ext w2 _ from (by repeat (first | with_reducible exact Ext.refl _ | refine Ext.drewN ?_ _ | refine Ext.drew ?_ | refine Ext.alloc ?_ _ | assumption | (refine Below.trans ?_ (by assumption)) | (refine Ext.trans ?_ (by assumption)) | (refine Below.trans ?_ (Below.mono (by assumption) (by omega))))))) M3)
    clear P3 M3
    go_wp2
    refine bodyPost_end (v := .tuple #[]) (by simp [results, Tryz.results97]) rfl ?_
    refine ⟨rfl, ?_, HM3.out⟩
    first | exact HP3.out | (rw [if_pos (Or.inl rfl)]; exact HP3.out) | (rw [if_pos (Or.inr rfl)]; exact HP3.out) | (rw [if_neg (by simp)]; exact HP3.out)
  | false =>
    go_wp2_with fail
    refine (H56.out _ HP2.out).mono ?_
    rintro e w3 ⟨rfl, E3⟩
    have HM3 := Lib.hid (HM2.out.ext E3)
    have HP3 := Lib.hid (HP2.out.ext E3)
    clear HM2 HP2 E3
    cases q2 with
    | true =>
      go_wp2_with fail
      refine (HW.out _ _ (HP3.out.ext (by repeat (first | with_reducible exact Ext.refl _ | refine Ext.drewN ?_ _ | refine Ext.drew ?_ | refine Ext.alloc ?_ _ | assumption | (refine Below.trans ?_ (by assumption)) | (refine Ext.trans ?_ (by assumption)) | (refine Below.trans ?_ (Below.mono (by assumption) (by omega)))))) (RI.lit .u8 [c] _ (by simp) (by simp))).mono ?_
      rintro e w4 ⟨rfl, P4, M4⟩
      have HP4 := Lib.hid P4
      have HM4 := Lib.hid (Mod.trans (HM3.out.ext (show Ext w3 _ from (by repeat (first | with_reducible exact Ext.refl _ | refine Ext.drewN ?_ _ | refine Ext.drew ?_ | refine Ext.alloc ?_ _ | assumption | (refine Below.trans ?_ (by assumption)) | (refine Ext.trans ?_ (by assumption)) | (refine Below.trans ?_ (Below.mono (by assumption) (by omega))))))) M4)
      clear P4 M4
      go_wp2
      refine bodyPost_end (v := .tuple #[]) (by simp [results, Tryz.results97]) rfl ?_
      refine ⟨rfl, ?_, HM4.out⟩
      first | exact HP4.out | (rw [if_pos (Or.inl rfl)]; exact HP4.out) | (rw [if_pos (Or.inr rfl)]; exact HP4.out) | (rw [if_neg (by simp)]; exact HP4.out)
    | false =>
      go_wp2
      refine bodyPost_end (v := .tuple #[]) (by simp [results, Tryz.results97]) rfl ?_
      refine ⟨rfl, ?_, HM3.out⟩
      first | exact HP3.out | (rw [if_pos (Or.inl rfl)]; exact HP3.out) | (rw [if_pos (Or.inr rfl)]; exact HP3.out) | (rw [if_neg (by simp)]; exact HP3.out)
set_option maxHeartbeats 800000 in
theorem dplain_any {S : Nat → Prop} {g : Nat} (d : Ds) (c : Int) (w : World) (h : Dsc S g w d) (hc : 0 ≤ c ∧ c ≤ 255) (h51 : hasL d.t 51 = true) (h31 : hasL d.t 31 = false) (hl : d.line.length + 1 ≤ 254) :
    Calls Tryz.prog 48 #[.pointer (some ⟨g, 0, none⟩), .int .u8 c] w fun e w' => e = .returned (.tuple #[]) ∧ Dsc S g w' (d.takeD c [c]) ∧ Mod (fun j => j = g) w w' := by
  have hD0 := Lib.hid h
  obtain ⟨ok, hS, vl, vs, vr, vo, hD, hR⟩ := h
  have hn := Tm.size ok.t
  have hil : (Tryz.prog.info? 26).map (·.size) = some d.t.arr.toList.length := by rw [Array.length_toList, hn]; kernel_rfl
  have HS := Lib.hid hS
  have HR := Lib.hid hR
  have HD := Lib.hid hD
  have HOK := Lib.hid ok
  have KC := Lib.hid (TmC.of hD hn)
  clear hS hR hD ok
  have HW := Lib.hid (fun v w' h hb => dtake_any (S := S) (g := g) d c v [c] w' h h51 hc hb (fun x hx => by rw [List.mem_singleton.1 hx]; exact hc) hl)
  have hmk : Mi.markL (Mi.mfL d.t) c = [c] := by
    unfold Mi.markL
    exact if_neg fun h => by have h2 : hasL d.t 31 = true := h.2.1; rw [h31] at h2; cases h2
  have HMK := Lib.hid (fun w' => Mi.mark_any d.t c w' HOK.out.t)
  rw [hmk] at HMK
  clear hc h51 h31 hl hmk
  go_enter Tryz.func48, Tryz.ntmps48
  go_wp2_with ((refine wpList_load_mid rfl 26 _ rfl g 0 rfl d.t.arr.toList _ (tmA_mid (HD.out.ext (by repeat (first | with_reducible exact Ext.refl _ | refine Ext.drewN ?_ _ | refine Ext.drew ?_ | refine Ext.alloc ?_ _ | assumption | (refine Below.trans ?_ (by assumption)) | (refine Ext.trans ?_ (by assumption)) | (refine Below.trans ?_ (Below.mono (by assumption) (by omega))))))) Tryz.underlying26 rfl hil ?_; simp only [Array.toArray_toList]))
  refine (HMK.out _).mono ?_
  rintro e w1 ⟨A1, n1, c1, l1, rfl, r1, z1, E1⟩
  have E01 : Ext w w1 := (by repeat (first | with_reducible exact Ext.refl _ | refine Ext.drewN ?_ _ | refine Ext.drew ?_ | refine Ext.alloc ?_ _ | assumption | (refine Below.trans ?_ (by assumption)) | (refine Ext.trans ?_ (by assumption)) | (refine Below.trans ?_ (Below.mono (by assumption) (by omega)))))
  have R1 : RdS Ub (fun k => k ≠ g) w1 (.slice A1 n1 c1) [c] := ⟨RI.y r1, fun _ k hk he => by
    have h1 := z1 k hk
    have h2 := HS.out.2 g HS.out.1
    subst he
    have h3 : w.heap.size ≤ k := h1
    omega⟩
  have HR1 := Lib.hid R1
  clear r1 l1 z1 E1 R1
  go_wp2_with fail
  refine (HW.out _ _ (hD0.out.ext (by repeat (first | with_reducible exact Ext.refl _ | refine Ext.drewN ?_ _ | refine Ext.drew ?_ | refine Ext.alloc ?_ _ | assumption | (refine Below.trans ?_ (by assumption)) | (refine Ext.trans ?_ (by assumption)) | (refine Below.trans ?_ (Below.mono (by assumption) (by omega)))))) (HR1.out.ext (by repeat (first | with_reducible exact Ext.refl _ | refine Ext.drewN ?_ _ | refine Ext.drew ?_ | refine Ext.alloc ?_ _ | assumption | (refine Below.trans ?_ (by assumption)) | (refine Ext.trans ?_ (by assumption)) | (refine Below.trans ?_ (Below.mono (by assumption) (by omega))))))).mono ?_
  rintro e w2 ⟨rfl, P2, M2⟩
  have PP := Lib.hid P2
  have MM := Lib.hid ((Mod.of_ext E01).trans M2)
  clear P2 M2
  go_wp2
  refine bodyPost_end (v := .tuple #[]) (by simp [results, Tryz.results48]) rfl ?_
  exact ⟨rfl, PP.out, MM.out⟩
end Go.Proofs.YtfnicinnjkbedaaGreatDoor
