/- A byte is typed to a line discipline, by contract over what its way does. Conditions: the byte is none that stops, starts or sends; it is not 13. -/
import Derived.Test.YtfnicinnjkbedaaGreatDoorQJ17
namespace Go.Proofs.YtfnicinnjkbedaaGreatDoor
open Go.RowKit Go.Kb
set_option maxRecDepth 100000

/-- a setting of lines that turns nothing that comes in -/
structure PlT (t : Tm) : Prop where
  ok : t.Ok
  canon : hasL t 51 = true
  strip : hasL t 33 = false
  low : hasL t 37 = false
  mark : hasL t 31 = false
  nl : hasL t 34 = false
  cr : hasL t 35 = false
  any : hasL t 39 = false
/-- a byte that comes in as it is -/
structure PlC (t : Tm) (c : Int) : Prop where
  bd : 0 ≤ c ∧ c ≤ 255
  cr : c ≠ 13
  start : isL t 8 c = false
  stop : isL t 9 c = false
  intr : isL t 1 c = false
  quit : isL t 2 c = false
  susp : isL t 10 c = false
theorem PlT.strip_ {t : Tm} (h : PlT t) {c : Int} : Mi.stripL (Mi.mfL t) c = c := by
  have e1 : (Mi.mfL t).s = false := h.strip
  have e2 : (Mi.mfL t).a = false := h.low
  unfold Mi.stripL Mi.smallL Mi.lowL
  rw [e1, e2]
  simp
theorem PlT.ends_ {t : Tm} (h : PlT t) {c : Int} (hc : c ≠ 13) : Mi.endsL (Mi.mfL t) c = (c, true) := by
  have e1 : (Mi.mfL t).il = false := h.nl
  unfold Mi.endsL
  rw [if_neg hc, e1]
  by_cases h10 : c = 10
  · rw [if_pos h10, h10]; rfl
  · rw [if_neg h10]
theorem PlT.typed_ {t : Tm} (h : PlT t) {c : Int} (h8 : isL t 8 c = false) (h9 : isL t 9 c = false) (a b : Bool) : Fl.typedL t a b c = (a, b, false) := by
  unfold Fl.typedL
  rw [h8, h9, h.any]
  split <;> simp
def Ds.idle0 (d : Ds) : Ds := { d with idle := 0 }
theorem idle0_ok {d : Ds} (h : d.Ok) : d.idle0.Ok := ⟨h.t, h.bl, h.bo, h.line, h.out, h.col, h.fr⟩
/-- what the marks ask -/
structure MkOk (d : Ds) : Prop where
  hd : d.hd = false
  used : d.used < 768
  ls : Ca.usedL d.ls ≤ 100000
  line : d.line.length ≤ 100000
  raw : d.raw.length ≤ 100000
set_option maxHeartbeats 3000000 in
theorem input_any {S : Nat → Prop} {g : Nat} (d : Ds) (c : Int) (K : Nat) (R : Ds → Prop) (w : World) (h : Dsc S g w d) (hnx : d.nx = false) (ht : PlT d.t) (hc : PlC d.t c)
    (hway : ∀ w', Dsc S g w' d.idle0 → Calls Tryz.prog 50 #[.pointer (some ⟨g, 0, none⟩), .int .u8 c] w' fun e w'' => e = .returned (wyV g K) ∧ Ext w' w'')
    (hent : ∀ args w', (callFunc K args).run Tryz.prog w' = .ok (.enter K args) w')
    (hdo : ∀ w', Dsc S g w' d.idle0 → Calls Tryz.prog K #[.pointer (some ⟨g, 0, none⟩), .int .u8 c] w' fun e w'' => e = .returned (.tuple #[]) ∧ ∃ d2, R d2 ∧ Dsc S g w'' d2 ∧ Mod (fun j => j = g) w' w'')
    (hR : ∀ d2, R d2 → MkOk d2) :
    Calls Tryz.prog 24 #[.pointer (some ⟨g, 0, none⟩), .int .u8 c] w fun e w' => e = .returned (.slice none 0 0) ∧ ∃ d2, R d2 ∧ Dsc S g w' d2 ∧ Mod (fun j => j = g) w w' := by
  have hD0 := Lib.hid h
  obtain ⟨ok, hS, vl, vs, vr, vo, hD, hR⟩ := h
  have hn := Tm.size ok.t
  have hil : (Tryz.prog.info? 26).map (·.size) = some d.t.arr.toList.length := by rw [Array.length_toList, hn]; kernel_rfl
  have HS := Lib.hid hS
  have HR := Lib.hid hR
  have HD := Lib.hid hD
  have HOK := Lib.hid ok
  have KC := Lib.hid (TmC.of hD hn)
  clear hS hR hD ok
  have HST := Lib.hid (fun w' => Mi.strip_any d.t c w' HOK.out.t hc.bd)
  rw [ht.strip_] at HST
  have HTU := Lib.hid (fun w' => Mi.turn_any d.t c w' HOK.out.t hc.bd)
  rw [ht.ends_ hc.cr] at HTU
  have HTY := Lib.hid (fun w' => Fl.typed_any d.t d.st d.hd c w' HOK.out.t)
  rw [ht.typed_ hc.start hc.stop] at HTY
  have HSI := Lib.hid (fun w' h => signal_none (S := S) (g := g) d.idle0 c w' h hc.intr hc.quit hc.susp)
  have HHA := Lib.hid (fun w' h => dhas_any (S := S) (g := g) d.idle0 51 w' h)
  have e51 : hasL d.idle0.t 51 = true := ht.canon
  rw [e51] at HHA
  have HWA := Lib.hid hway
  have HDO := Lib.hid hdo
  have HEN := hent
  have HRR := Lib.hid hR
  have hm := hmf
  have k1 := KC.out.k1
  rw [hnx] at k1
  have k9 := KC.out.k9
  have f9 := HD.out.frozen 33
  have HNX := Lib.hid hnx
  unfold Mi.SPost at HTU
  clear hway hdo hent hR ht hc e51 hnx
  go_enter_defers Tryz.func24, Tryz.ntmps24
  go_wp2_with ((refine wpList_load_mid rfl 26 _ rfl g 0 rfl d.t.arr.toList _ (tmA_mid (HD.out.ext (by repeat (first | with_reducible exact Ext.refl _ | refine Ext.drewN ?_ _ | refine Ext.drew ?_ | refine Ext.alloc ?_ _ | assumption | (refine Below.trans ?_ (by assumption)) | (refine Ext.trans ?_ (by assumption)) | (refine Below.trans ?_ (Below.mono (by assumption) (by omega))))))) Tryz.underlying26 rfl hil ?_; simp only [Array.toArray_toList]))
  refine (HST.out _).mono ?_
  rintro e w1 ⟨rfl, E1⟩
  have E01 : Ext w w1 := (by repeat (first | with_reducible exact Ext.refl _ | refine Ext.drewN ?_ _ | refine Ext.drew ?_ | refine Ext.alloc ?_ _ | assumption | (refine Below.trans ?_ (by assumption)) | (refine Ext.trans ?_ (by assumption)) | (refine Below.trans ?_ (Below.mono (by assumption) (by omega)))))
  have k1 := cell_ext E1 k1
  have k9 := cell_ext E1 k9
  have f9 : w1.frozen? ⟨g, 33, none⟩ = false := (HD.out.ext E01).frozen 33
  have D1 : Dsc S g (w1.setCell ⟨g, 33, none⟩ (.int .i64 0)) d.idle0 := by
    refine ⟨idle0_ok HOK.out, ⟨HS.out.1, fun j hj => ?_⟩, vl, vs, vr, vo, blk_tmset (HD.out.ext E01) hn 9 rfl _, ?_⟩
    · have := HS.out.2 j hj
      have := E01.size
      simp
      omega
    · have := (HR.out.ext E01).set_ (g := g) HS.out.1 33 (.int .i64 0)
      exact ⟨this.line, this.lines, this.raw, this.out⟩
  have HD1 := Lib.hid D1
  have HM1 := Lib.hid ((Mod.of_ext E01).set1 (g := g) (o := 33) (.int .i64 0))
  clear D1
  go_upto_region 11 with fail
  obtain ⟨ws, hws⟩ : ∃ ws, w1.setCell ⟨g, 33, none⟩ (.int .i64 0) = ws := ⟨_, rfl⟩
  rw [hws] at HD1 HM1 ⊢
  obtain ⟨-, -, ul, us, ur, uo, hB1, hR1⟩ := HD1.out
  have hB1 : Blk ws g 82 (tmA d.t.arr (dsX d.idle0 ul us ur uo)) := hB1
  have HB1 := Lib.hid hB1
  have HR1 := Lib.hid hR1
  have k4 : ws.cell? ⟨g, 28, none⟩ = some (.bool d.st) := (TmC.of hB1 hn).k4
  have k5 : ws.cell? ⟨g, 29, none⟩ = some (.bool d.hd) := (TmC.of hB1 hn).k5
  clear hws hB1 hR1 k1 k9 f9 E1 E01
  refine wp_region_noPanic ?_
  refine wp_region_held_drew (S := fun w' => DsS g d.t.arr ws w') (by kernel_rfl) (DsS.of HB1.out rfl (Ext.drew (Ext.refl _))) (fun hHeld => ?_)
  (refine wpAnyH_take (i := 0) (v := ?_) rfl (by kernel_rfl) (by kernel_rfl) (by kernel_rfl) (fun _ _ _ h => h) (Or.inl ⟨by rfl, ?_⟩) (by assumption) ?_; rotate_left; (focus (intro w' hSw; go_simp; try with_reducible rfl)); (try simp only [List.getElem_toArray]); (try simp only [List.getElem_cons_succ]); (try simp only [List.getElem_cons_zero]); (try simp only [Act.put]); (try simp only [List.setIfInBounds_toArray]); (try simp only [List.set_cons_succ]); (try simp only [List.set_cons_zero]))
  (refine wpAnyH_take (i := 1) (v := ?_) rfl (by kernel_rfl) (by kernel_rfl) (by kernel_rfl) (fun _ _ _ h => h) (Or.inl ⟨by rfl, ?_⟩) (by assumption) ?_; rotate_left; (focus (intro w' hSw; go_simp; try with_reducible rfl)); (try simp only [List.getElem_toArray]); (try simp only [List.getElem_cons_succ]); (try simp only [List.getElem_cons_zero]); (try simp only [Act.put]); (try simp only [List.setIfInBounds_toArray]); (try simp only [List.set_cons_succ]); (try simp only [List.set_cons_zero]))
  (refine wpAnyH_take (i := 2) (v := ?_) rfl (by kernel_rfl) (by kernel_rfl) (by kernel_rfl) (fun _ _ _ h => h) (Or.inl ⟨by rfl, ?_⟩) (by assumption) ?_; rotate_left; (focus (intro w' hSw; go_simp; try with_reducible rfl)); (try simp only [List.getElem_toArray]); (try simp only [List.getElem_cons_succ]); (try simp only [List.getElem_cons_zero]); (try simp only [Act.put]); (try simp only [List.setIfInBounds_toArray]); (try simp only [List.set_cons_succ]); (try simp only [List.set_cons_zero]))
  (refine wpAnyH_take (i := 3) (v := ?_) rfl (by kernel_rfl) (by kernel_rfl) (by kernel_rfl) (fun _ _ _ h => h) (Or.inl ⟨by rfl, ?_⟩) (by assumption) ?_; rotate_left; (focus (intro w' hSw; go_simp; try with_reducible rfl)); (try simp only [List.getElem_toArray]); (try simp only [List.getElem_cons_succ]); (try simp only [List.getElem_cons_zero]); (try simp only [Act.put]); (try simp only [List.setIfInBounds_toArray]); (try simp only [List.set_cons_succ]); (try simp only [List.set_cons_zero]))
  (refine wpAnyH_take (i := 4) (v := .agg (d.t.arr).toList.toArray) rfl (by kernel_rfl) (by kernel_rfl) (by kernel_rfl) (fun _ _ _ h => h) (yieldsIf_load_mid (by rfl) 26 _ rfl _ _ rfl (d.t.arr).toList _ (fun w' hSw => DsS.mid hSw) Tryz.underlying26 rfl hil) (by assumption) ?_; simp only [Array.toArray_toList]; (try simp only [Act.put]); (try simp only [List.getElem_toArray]); (try simp only [List.getElem_cons_succ]); (try simp only [List.getElem_cons_zero]); (try simp only [List.setIfInBounds_toArray]); (try simp only [List.set_cons_succ]); (try simp only [List.set_cons_zero]))
  (refine wpAnyH_take (i := 5) (v := ?_) rfl (by kernel_rfl) (by kernel_rfl) (by kernel_rfl) (fun _ _ _ h => h) (Or.inl ⟨by rfl, ?_⟩) (by assumption) ?_; rotate_left; (focus (intro w' hSw; go_simp; try with_reducible rfl)); (try simp only [List.getElem_toArray]); (try simp only [List.getElem_cons_succ]); (try simp only [List.getElem_cons_zero]); (try simp only [Act.put]); (try simp only [List.setIfInBounds_toArray]); (try simp only [List.set_cons_succ]); (try simp only [List.set_cons_zero]))
  (refine wpAnyH_take (i := 6) (v := ?_) rfl (by kernel_rfl) (by kernel_rfl) (by kernel_rfl) (fun _ _ _ h => h) (Or.inl ⟨by rfl, ?_⟩) (by assumption) ?_; rotate_left; (focus (intro w' hSw; go_simp; try with_reducible rfl)); (try simp only [List.getElem_toArray]); (try simp only [List.getElem_cons_succ]); (try simp only [List.getElem_cons_zero]); (try simp only [Act.put]); (try simp only [List.setIfInBounds_toArray]); (try simp only [List.set_cons_succ]); (try simp only [List.set_cons_zero]))
  (refine wpAnyH_take (i := 7) (v := ?_) rfl (by kernel_rfl) (by kernel_rfl) (by kernel_rfl) (fun _ _ _ h => h) (Or.inl ⟨by rfl, ?_⟩) (by assumption) ?_; rotate_left; (focus (intro w' hSw; go_simp; try with_reducible rfl)); (try simp only [List.getElem_toArray]); (try simp only [List.getElem_cons_succ]); (try simp only [List.getElem_cons_zero]); (try simp only [Act.put]); (try simp only [List.setIfInBounds_toArray]); (try simp only [List.set_cons_succ]); (try simp only [List.set_cons_zero]))
  (refine wpAnyH_take (i := 9) (v := ?_) rfl (by kernel_rfl) (by kernel_rfl) (by kernel_rfl) (fun _ _ _ h => h) (Or.inl ⟨by rfl, ?_⟩) (by assumption) ?_; rotate_left; (focus (intro w' hSw; go_simp; try with_reducible rfl)); (try simp only [List.getElem_toArray]); (try simp only [List.getElem_cons_succ]); (try simp only [List.getElem_cons_zero]); (try simp only [Act.put]); (try simp only [List.setIfInBounds_toArray]); (try simp only [List.set_cons_succ]); (try simp only [List.set_cons_zero]))
  (refine wpAnyH_ready (rs := [8]) (by kernel_rfl) (by simp) ?_; refine AllReadyH.cons rfl (fun K hK => ?_) AllReadyH.nil; go_simp; refine hK.out _ _ (DsS.of HB1.out rfl (Ext.drew (Ext.refl _))) (fun hHeld => ?_); clear hK K; (try simp only [Act.put]); (try simp only [List.getElem_toArray]); (try simp only [List.getElem_cons_succ]); (try simp only [List.getElem_cons_zero]); (try simp only [List.setIfInBounds_toArray]); (try simp only [List.set_cons_succ]); (try simp only [List.set_cons_zero]))
  (refine wpAnyH_ready (rs := [10]) (by kernel_rfl) (by simp) ?_; refine AllReadyH.cons rfl (fun K hK => ?_) AllReadyH.nil; go_simp; go_at_call 44; refine (HTY.out _).mono ?_; rintro e w3 ⟨rfl, E3⟩; (try dsimp only); refine hK.out _ _ (DsS.of HB1.out rfl (Ext.trans (Ext.drew (Ext.refl _)) E3)) (fun hHeld => ?_); clear hK K; (try simp only [Act.put]); (try simp only [List.getElem_toArray]); (try simp only [List.getElem_cons_succ]); (try simp only [List.getElem_cons_zero]); (try simp only [List.setIfInBounds_toArray]); (try simp only [List.set_cons_succ]); (try simp only [List.set_cons_zero]))
  have ES3 : Ext ws w3 := Ext.trans (Ext.drew (Ext.refl _)) E3
  have HB3 := Lib.hid (HB1.out.ext ES3)
  have HR3 := Lib.hid (HR1.out.ext ES3)
  have k4 := cell_ext ES3 k4
  have k5 := cell_ext ES3 k5
  have f4 := HB3.out.frozen 28
  have f5 := HB3.out.frozen 29
  (refine wpAnyH_take (i := 11) (v := ?_) rfl (by kernel_rfl) (by kernel_rfl) (by kernel_rfl) (fun _ _ _ h => h) (Or.inl ⟨by rfl, ?_⟩) (by assumption) ?_; rotate_left; (focus (intro w' hSw; go_simp; try with_reducible rfl)); (try simp only [List.getElem_toArray]); (try simp only [List.getElem_cons_succ]); (try simp only [List.getElem_cons_zero]); (try simp only [Act.put]); (try simp only [List.setIfInBounds_toArray]); (try simp only [List.set_cons_succ]); (try simp only [List.set_cons_zero]))
  (refine wpAnyH_take (i := 12) (v := ?_) rfl (by kernel_rfl) (by kernel_rfl) (by kernel_rfl) (fun _ _ _ h => h) (Or.inl ⟨by rfl, ?_⟩) (by assumption) ?_; rotate_left; (focus (intro w' hSw; go_simp; try with_reducible rfl)); (try simp only [List.getElem_toArray]); (try simp only [List.getElem_cons_succ]); (try simp only [List.getElem_cons_zero]); (try simp only [Act.put]); (try simp only [List.setIfInBounds_toArray]); (try simp only [List.set_cons_succ]); (try simp only [List.set_cons_zero]))
  (refine wpAnyH_take (i := 13) (v := ?_) rfl (by kernel_rfl) (by kernel_rfl) (by kernel_rfl) (fun _ _ _ h => h) (Or.inl ⟨by rfl, ?_⟩) (by assumption) ?_; rotate_left; (focus (intro w' hSw; go_simp; try with_reducible rfl)); (try simp only [List.getElem_toArray]); (try simp only [List.getElem_cons_succ]); (try simp only [List.getElem_cons_zero]); (try simp only [Act.put]); (try simp only [List.setIfInBounds_toArray]); (try simp only [List.set_cons_succ]); (try simp only [List.set_cons_zero]))
  (refine wpAnyH_take (i := 14) (v := ?_) rfl (by kernel_rfl) (by kernel_rfl) (by kernel_rfl) (fun _ _ _ h => h) (Or.inl ⟨by rfl, ?_⟩) (by assumption) ?_; rotate_left; (focus (intro w' hSw; go_simp; try with_reducible rfl)); (try simp only [List.getElem_toArray]); (try simp only [List.getElem_cons_succ]); (try simp only [List.getElem_cons_zero]); (try simp only [Act.put]); (try simp only [List.setIfInBounds_toArray]); (try simp only [List.set_cons_succ]); (try simp only [List.set_cons_zero]))
  (refine wpAnyH_take (i := 15) (v := ?_) rfl (by kernel_rfl) (by kernel_rfl) (by kernel_rfl) (fun _ _ _ h => h) (Or.inl ⟨by rfl, ?_⟩) (by assumption) ?_; rotate_left; (focus (intro w' hSw; go_simp; try with_reducible rfl)); (try simp only [List.getElem_toArray]); (try simp only [List.getElem_cons_succ]); (try simp only [List.getElem_cons_zero]); (try simp only [Act.put]); (try simp only [List.setIfInBounds_toArray]); (try simp only [List.set_cons_succ]); (try simp only [List.set_cons_zero]))
  have HM3 := Lib.hid (((HM1.out.ext ES3).set1 (o := 28) (.bool d.st)).set1 (o := 29) (.bool d.hd))
  have D3 : Dsc S g ((w3.setCell ⟨g, 28, none⟩ (.bool d.st)).setCell ⟨g, 29, none⟩ (.bool d.hd)) d.idle0 := by
    refine ⟨idle0_ok HOK.out, ⟨HS.out.1, fun j hj => ?_⟩, ul, us, ur, uo, blk_tmset (blk_tmset HB3.out hn 4 rfl _) hn 5 rfl _, (HR3.out.set_ HS.out.1 _ _).set_ HS.out.1 _ _⟩
    have := HS.out.2 j hj
    have := HM3.out.size
    simp at this ⊢
    omega
  have HD3 := Lib.hid D3
  (refine wpAnyH_ready (rs := [16]) (by kernel_rfl) (by simp) ?_; refine AllReadyH.cons rfl (fun K hK => ?_) AllReadyH.nil; go_simp; refine hK.out _ _ (DsS.set_ (DsS.set_ (DsS.of HB1.out rfl ES3) hn 4 rfl _) hn 5 rfl _) (fun hHeld => ?_); clear hK K; (try simp only [Act.put]); (try simp only [List.getElem_toArray]); (try simp only [List.getElem_cons_succ]); (try simp only [List.getElem_cons_zero]); (try simp only [List.setIfInBounds_toArray]); (try simp only [List.set_cons_succ]); (try simp only [List.set_cons_zero]))
  (refine wpAnyH_take (i := 17) (v := ?_) rfl (by kernel_rfl) (by kernel_rfl) (by kernel_rfl) (fun _ _ _ h => h) (Or.inl ⟨by rfl, ?_⟩) (by assumption) ?_; rotate_left; (focus (intro w' hSw; go_simp; try with_reducible rfl)); (try simp only [List.getElem_toArray]); (try simp only [List.getElem_cons_succ]); (try simp only [List.getElem_cons_zero]); (try simp only [Act.put]); (try simp only [List.setIfInBounds_toArray]); (try simp only [List.set_cons_succ]); (try simp only [List.set_cons_zero]))
  refine wpAnyH_done (by kernel_rfl) ?_ _
  refine NoPanic.normal ?_
  obtain ⟨w4, hw4⟩ : ∃ w4, (w3.setCell ⟨g, 28, none⟩ (.bool d.st)).setCell ⟨g, 29, none⟩ (.bool d.hd) = w4 := ⟨_, rfl⟩
  rw [hw4] at HD3 HM3 ⊢
  clear hw4 D3 k4 k5 f4 f5 HB3 HR3 E3 ES3 HB1 HR1 hHeld
  go_wp2_with fail
  refine (HSI.out _ HD3.out).mono ?_
  rintro e w5 ⟨rfl, E5⟩
  have HD5 := Lib.hid (HD3.out.ext E5)
  have HM5 := Lib.hid (HM3.out.ext E5)
  obtain ⟨-, -, _, _, _, _, hB5, -⟩ := HD5.out
  have HB5 := Lib.hid (show Blk w5 g 82 (tmA d.t.arr _) from hB5)
  clear hB5 E5 HM3 HD3
  go_wp2_with (refine wpList_load_mid rfl 26 _ rfl g 0 rfl d.t.arr.toList _ (tmA_mid (HB5.out.ext (by repeat (first | with_reducible exact Ext.refl _ | refine Ext.drewN ?_ _ | refine Ext.drew ?_ | refine Ext.alloc ?_ _ | assumption | (refine Below.trans ?_ (by assumption)) | (refine Ext.trans ?_ (by assumption)) | (refine Below.trans ?_ (Below.mono (by assumption) (by omega))))))) Tryz.underlying26 rfl hil ?_; simp only [Array.toArray_toList])
  refine (HTU.out _).mono ?_
  rintro e w6 ⟨rfl, E6⟩
  have HD6 := Lib.hid (HD5.out.ext E6)
  have HM6 := Lib.hid (HM5.out.ext E6)
  clear HD5 HM5 E6 HB5
  go_wp2_with fail
  refine (HHA.out _ HD6.out).mono ?_
  rintro e w7 ⟨rfl, E7⟩
  have HD7 := Lib.hid (HD6.out.ext E7)
  have HM7 := Lib.hid (HM6.out.ext E7)
  clear HD6 HM6 E7
  go_wp2_with fail
  refine (HWA.out _ HD7.out).mono ?_
  rintro e w8 ⟨rfl, E8⟩
  have HD8 := Lib.hid (HD7.out.ext E8)
  have HM8 := Lib.hid (HM7.out.ext E8)
  clear HD7 HM7 E8
  go_wp2_with fail
  refine (HDO.out _ HD8.out).mono ?_
  rintro e w9 ⟨rfl, d2, R2, D9, M9⟩
  have HD9 := Lib.hid D9
  have HM9 := Lib.hid (HM8.out.trans M9)
  have HMK := HRR.out d2 R2
  clear D9 M9 HD8 HM8
  go_wp2
  refine leaves_cons (f := 41) (args := #[.pointer (some ⟨g, 0, none⟩)]) (by simp) (by simp [go_sem]) ?_
  refine (dmarks_d d2 .returning _ HD9.out HMK.hd HMK.used HMK.ls HMK.line HMK.raw).mono ?_
  rintro e u' w10 ⟨rfl, rfl, P10, M10⟩
  exact ⟨_, results_tmp rfl _ _ _, rfl, d2, R2, P10, HM9.out.trans M10⟩
end Go.Proofs.YtfnicinnjkbedaaGreatDoor
