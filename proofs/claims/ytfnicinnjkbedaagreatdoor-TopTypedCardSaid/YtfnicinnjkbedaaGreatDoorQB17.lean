/- A line discipline shows, echoes and beeps, by contract. Conditions: the discipline is one, bytes are bytes. -/
import Derived.Test.YtfnicinnjkbedaaGreatDoorQA17
namespace Go.Proofs.YtfnicinnjkbedaaGreatDoor
open Go.RowKit Go.Kb
set_option maxRecDepth 100000

def Ds.showD (d : Ds) (b : List Int) : Ds :=
  if d.out.length + (bytesL (pfL d.t) d.col b).1.length ≤ 4096 then { d with out := d.out ++ (bytesL (pfL d.t) d.col b).1, col := (bytesL (pfL d.t) d.col b).2 } else d
theorem showD_ok {d : Ds} (h : d.Ok) {b : List Int} (hb : Bs b) : (d.showD b).Ok := by
  unfold Ds.showD
  split
  · refine ⟨h.t, h.bl, fun x hx => ?_, h.line, by show (d.out ++ _).length ≤ 4096; rw [List.length_append]; assumption, bytesL_bd _ _ _, h.fr⟩
    rcases List.mem_append.1 hx with hx | hx
    · exact h.bo x hx
    · exact bytesL_bs _ _ _ hb x hx
  · exact h
set_option maxHeartbeats 800000 in
theorem dshow_any {S : Nat → Prop} {g : Nat} (d : Ds) (v : Value) (b : List Int) (w : World) (h : Dsc S g w d) (hb : RI .u8 w v b) (hB : Bs b) (hl : b.length ≤ 1000000) :
    Calls Tryz.prog 124 #[.pointer (some ⟨g, 0, none⟩), v] w fun e w' => e = .returned (.tuple #[]) ∧ Dsc S g w' (d.showD b) ∧ Mod (fun j => j = g) w w' := by
  have hD0 := Lib.hid h
  obtain ⟨ok, hS, vl, vs, vr, vo, hD, hR⟩ := h
  have hn := Tm.size ok.t
  have hil : (Tryz.prog.info? 26).map (·.size) = some d.t.arr.toList.length := by rw [Array.length_toList, hn]; kernel_rfl
  have HS := Lib.hid hS
  have HR := Lib.hid hR
  have HD := Lib.hid hD
  have HOK := Lib.hid ok
  have KC := Lib.hid (TmC.of hD hn)
  clear hS hR hD ok
  have hOK := Lib.hid (showD_ok HOK.out hB)
  obtain ⟨Ab, cb, rfl, -, -⟩ := hb.shape
  have RB := Lib.hid hb
  have HG := Lib.hid (fun w' h => pbytes_any d.t d.col (.slice Ab b.length cb) b w' HOK.out.t h hB (by omega))
  have hlz := bytesL_len (pfL d.t) d.col b
  have hbz := bytesL_bs (pfL d.t) d.col b hB
  have hzc := Lib.hid (bytesL_bd (pfL d.t) d.col b)
  unfold Ds.showD at hOK ⊢
  obtain ⟨⟨zo, zc⟩, hz⟩ : ∃ z, bytesL (pfL d.t) d.col b = z := ⟨_, rfl⟩
  rw [hz] at HG hOK hlz hbz hzc ⊢
  have HBZ := Lib.hid (show Bs zo from hbz)
  have HLZ := Lib.hid (show zo.length ≤ 2 * b.length from hlz)
  obtain ⟨N, hN⟩ : ∃ n, b.length = n := ⟨_, rfl⟩
  rw [hN] at RB HG HLZ hl
  rw [hN]
  clear hb hB hz hbz hlz hN
  have k7 := KC.out.k7
  go_enter Tryz.func124, Tryz.ntmps124
  go_upto_region 0 with fail
  refine wp_region_held_drew (S := fun w' => Ext w w') (by kernel_rfl) (Ext.drew (Ext.refl _)) (fun hHeld => ?_)
  (refine wpAnyH_take (i := 0) (v := ?_) rfl (by kernel_rfl) (by kernel_rfl) (by kernel_rfl) (fun _ _ _ h => h) (Or.inl ⟨by rfl, ?_⟩) (by assumption) ?_; rotate_left; (focus (intro w' hSw; go_simp; try with_reducible rfl)); (try simp only [List.getElem_toArray]); (try simp only [List.getElem_cons_succ]); (try simp only [List.getElem_cons_zero]); (try simp only [Act.put]); (try simp only [List.setIfInBounds_toArray]); (try simp only [List.set_cons_succ]); (try simp only [List.set_cons_zero]))
  (refine wpAnyH_take (i := 1) (v := ?_) rfl (by kernel_rfl) (by kernel_rfl) (by kernel_rfl) (fun _ _ _ h => h) (Or.inl ⟨by rfl, ?_⟩) (by assumption) ?_; rotate_left; (focus (intro w' hSw; go_simp; try with_reducible rfl)); (try simp only [List.getElem_toArray]); (try simp only [List.getElem_cons_succ]); (try simp only [List.getElem_cons_zero]); (try simp only [Act.put]); (try simp only [List.setIfInBounds_toArray]); (try simp only [List.set_cons_succ]); (try simp only [List.set_cons_zero]))
  (refine wpAnyH_take (i := 2) (v := ?_) rfl (by kernel_rfl) (by kernel_rfl) (by kernel_rfl) (fun _ _ _ h => h) (Or.inl ⟨by rfl, ?_⟩) (by assumption) ?_; rotate_left; (focus (intro w' hSw; go_simp; try with_reducible rfl)); (try simp only [List.getElem_toArray]); (try simp only [List.getElem_cons_succ]); (try simp only [List.getElem_cons_zero]); (try simp only [Act.put]); (try simp only [List.setIfInBounds_toArray]); (try simp only [List.set_cons_succ]); (try simp only [List.set_cons_zero]))
  (refine wpAnyH_take (i := 3) (v := .agg (d.t.arr).toList.toArray) rfl (by kernel_rfl) (by kernel_rfl) (by kernel_rfl) (fun _ _ _ h => h) (yieldsIf_load_mid (by rfl) 26 _ rfl _ _ rfl (d.t.arr).toList _ (fun w' hSw => tmA_mid (HD.out.ext hSw)) Tryz.underlying26 rfl hil) (by assumption) ?_; simp only [Array.toArray_toList]; (try simp only [Act.put]); (try simp only [List.getElem_toArray]); (try simp only [List.getElem_cons_succ]); (try simp only [List.getElem_cons_zero]); (try simp only [List.setIfInBounds_toArray]); (try simp only [List.set_cons_succ]); (try simp only [List.set_cons_zero]))
  (refine wpAnyH_take (i := 4) (v := ?_) rfl (by kernel_rfl) (by kernel_rfl) (by kernel_rfl) (fun _ _ _ h => h) (Or.inl ⟨by rfl, ?_⟩) (by assumption) ?_; rotate_left; (focus (intro w' hSw; go_simp; try with_reducible rfl)); (try simp only [List.getElem_toArray]); (try simp only [List.getElem_cons_succ]); (try simp only [List.getElem_cons_zero]); (try simp only [Act.put]); (try simp only [List.setIfInBounds_toArray]); (try simp only [List.set_cons_succ]); (try simp only [List.set_cons_zero]))
  (refine wpAnyH_take (i := 5) (v := ?_) rfl (by kernel_rfl) (by kernel_rfl) (by kernel_rfl) (fun _ _ _ h => h) (Or.inl ⟨by rfl, ?_⟩) (by assumption) ?_; rotate_left; (focus (intro w' hSw; go_simp; try with_reducible rfl)); (try simp only [List.getElem_toArray]); (try simp only [List.getElem_cons_succ]); (try simp only [List.getElem_cons_zero]); (try simp only [Act.put]); (try simp only [List.setIfInBounds_toArray]); (try simp only [List.set_cons_succ]); (try simp only [List.set_cons_zero]))
  (refine wpAnyH_take (i := 6) (v := ?_) rfl (by kernel_rfl) (by kernel_rfl) (by kernel_rfl) (fun _ _ _ h => h) (Or.inl ⟨by rfl, ?_⟩) (by assumption) ?_; rotate_left; (focus (intro w' hSw; go_simp; try with_reducible rfl)); (try simp only [List.getElem_toArray]); (try simp only [List.getElem_cons_succ]); (try simp only [List.getElem_cons_zero]); (try simp only [Act.put]); (try simp only [List.setIfInBounds_toArray]); (try simp only [List.set_cons_succ]); (try simp only [List.set_cons_zero]))
  (refine wpAnyH_take (i := 7) (v := ?_) rfl (by kernel_rfl) (by kernel_rfl) (by kernel_rfl) (fun _ _ _ h => h) (Or.inl ⟨by rfl, ?_⟩) (by assumption) ?_; rotate_left; (focus (intro w' hSw; have kc := cell_ext hSw k7; go_simp; try with_reducible rfl)); (try simp only [List.getElem_toArray]); (try simp only [List.getElem_cons_succ]); (try simp only [List.getElem_cons_zero]); (try simp only [Act.put]); (try simp only [List.setIfInBounds_toArray]); (try simp only [List.set_cons_succ]); (try simp only [List.set_cons_zero]))
  (refine wpAnyH_take (i := 8) (v := ?_) rfl (by kernel_rfl) (by kernel_rfl) (by kernel_rfl) (fun _ _ _ h => h) (Or.inl ⟨by rfl, ?_⟩) (by assumption) ?_; rotate_left; (focus (intro w' hSw; go_simp; try with_reducible rfl)); (try simp only [List.getElem_toArray]); (try simp only [List.getElem_cons_succ]); (try simp only [List.getElem_cons_zero]); (try simp only [Act.put]); (try simp only [List.setIfInBounds_toArray]); (try simp only [List.set_cons_succ]); (try simp only [List.set_cons_zero]))
  (refine wpAnyH_ready (rs := [9]) (by kernel_rfl) (by simp) ?_; refine AllReadyH.cons rfl (fun K hK => ?_) AllReadyH.nil; go_simp; go_at_call 16; refine (HG.out _ (RB.out.ext (by repeat (first | with_reducible exact Ext.refl _ | refine Ext.drewN ?_ _ | refine Ext.drew ?_ | refine Ext.alloc ?_ _ | assumption | (refine Below.trans ?_ (by assumption)) | (refine Ext.trans ?_ (by assumption)) | (refine Below.trans ?_ (Below.mono (by assumption) (by omega))))))).mono ?_; rintro e w1 ⟨A2, n2, c2, l2, rfl, o2, E2⟩; (try dsimp only); refine hK.out _ _ (by repeat (first | with_reducible exact Ext.refl _ | refine Ext.drewN ?_ _ | refine Ext.drew ?_ | refine Ext.alloc ?_ _ | assumption | (refine Below.trans ?_ (by assumption)) | (refine Ext.trans ?_ (by assumption)) | (refine Below.trans ?_ (Below.mono (by assumption) (by omega))))) (fun hHeld => ?_); clear hK K; (try simp only [Act.put]); (try simp only [List.getElem_toArray]); (try simp only [List.getElem_cons_succ]); (try simp only [List.getElem_cons_zero]); (try simp only [List.setIfInBounds_toArray]); (try simp only [List.set_cons_succ]); (try simp only [List.set_cons_zero]))
  (refine wpAnyH_take (i := 10) (v := ?_) rfl (by kernel_rfl) (by kernel_rfl) (by kernel_rfl) (fun _ _ _ h => h) (Or.inl ⟨by rfl, ?_⟩) (by assumption) ?_; rotate_left; (focus (intro w' hSw; go_simp; try with_reducible rfl)); (try simp only [List.getElem_toArray]); (try simp only [List.getElem_cons_succ]); (try simp only [List.getElem_cons_zero]); (try simp only [Act.put]); (try simp only [List.setIfInBounds_toArray]); (try simp only [List.set_cons_succ]); (try simp only [List.set_cons_zero]))
  (refine wpAnyH_take (i := 11) (v := ?_) rfl (by kernel_rfl) (by kernel_rfl) (by kernel_rfl) (fun _ _ _ h => h) (Or.inl ⟨by rfl, ?_⟩) (by assumption) ?_; rotate_left; (focus (intro w' hSw; go_simp; try with_reducible rfl)); (try simp only [List.getElem_toArray]); (try simp only [List.getElem_cons_succ]); (try simp only [List.getElem_cons_zero]); (try simp only [Act.put]); (try simp only [List.setIfInBounds_toArray]); (try simp only [List.set_cons_succ]); (try simp only [List.set_cons_zero]))
  (refine wpAnyH_take (i := 12) (v := ?_) rfl (by kernel_rfl) (by kernel_rfl) (by kernel_rfl) (fun _ _ _ h => h) (Or.inl ⟨by rfl, ?_⟩) (by assumption) ?_; rotate_left; (focus (intro w' hSw; go_simp; try with_reducible rfl)); (try simp only [List.getElem_toArray]); (try simp only [List.getElem_cons_succ]); (try simp only [List.getElem_cons_zero]); (try simp only [Act.put]); (try simp only [List.setIfInBounds_toArray]); (try simp only [List.set_cons_succ]); (try simp only [List.set_cons_zero]))
  (refine wpAnyH_take (i := 13) (v := ?_) rfl (by kernel_rfl) (by kernel_rfl) (by kernel_rfl) (fun _ _ _ h => h) (Or.inl ⟨by rfl, ?_⟩) (by assumption) ?_; rotate_left; (focus (intro w' hSw; go_simp; try with_reducible rfl)); (try simp only [List.getElem_toArray]); (try simp only [List.getElem_cons_succ]); (try simp only [List.getElem_cons_zero]); (try simp only [Act.put]); (try simp only [List.setIfInBounds_toArray]); (try simp only [List.set_cons_succ]); (try simp only [List.set_cons_zero]))
  (refine wpAnyH_take (i := 14) (v := ?_) rfl (by kernel_rfl) (by kernel_rfl) (by kernel_rfl) (fun _ _ _ h => h) (Or.inl ⟨by rfl, ?_⟩) (by assumption) ?_; rotate_left; (focus (intro w' hSw; go_simp; try with_reducible rfl)); (try simp only [List.getElem_toArray]); (try simp only [List.getElem_cons_succ]); (try simp only [List.getElem_cons_zero]); (try simp only [Act.put]); (try simp only [List.setIfInBounds_toArray]); (try simp only [List.set_cons_succ]); (try simp only [List.set_cons_zero]))
  refine wpAnyH_done (by kernel_rfl) ?_ _
  have E01 : Ext w w1 := (by repeat (first | with_reducible exact Ext.refl _ | refine Ext.drewN ?_ _ | refine Ext.drew ?_ | refine Ext.alloc ?_ _ | assumption | (refine Below.trans ?_ (by assumption)) | (refine Ext.trans ?_ (by assumption)) | (refine Below.trans ?_ (Below.mono (by assumption) (by omega)))))
  have R2 := Lib.hid (show RI .u8 w1 (.slice A2 n2 c2) zo from RdY.ri o2.y)
  have D1 := Lib.hid (hD0.out.ext E01)
  clear o2 E2 hHeld
  go_wp2_with fail
  refine (dput_any d _ zo _ D1.out R2.out HBZ.out (by have := HLZ.out; omega)).mono ?_
  rintro e w2 ⟨rfl, P2, M2⟩
  unfold Ds.putB Ds.putD at *
  by_cases hf : d.out.length + zo.length ≤ 4096
  · rw [if_pos hf] at hOK P2
    have hdc : decide (d.out.length + zo.length ≤ 4096) = true := decide_eq_true hf
    rw [hdc]
    obtain ⟨ok2, hS2, vl2, vs2, vr2, vo2, hB2, hR2⟩ := P2
    have HB2 := Lib.hid hB2
    have HR2 := Lib.hid hR2
    have HS2 := Lib.hid hS2
    have hn2 : d.t.arr.size = 24 := hn
    have k7 := (TmC.of hB2 hn2).k7
    have f7 := (TmC.of hB2 hn2).fr 31
    have MM := Lib.hid ((Mod.of_ext E01).trans M2)
    clear hB2 hR2 hS2 ok2 M2
    go_wp2
    refine bodyPost_end (v := .tuple #[]) (by simp [results, Tryz.results124]) rfl ?_
    refine ⟨rfl, ⟨by have := hOK.out; exact this, ⟨HS2.out.1, fun j hj => ?_⟩, vl2, vs2, vr2, vo2, blk_tmset HB2.out hn2 7 rfl _, ⟨(HR2.out.set_ HS2.out.1 _ _).line, (HR2.out.set_ HS2.out.1 _ _).lines, (HR2.out.set_ HS2.out.1 _ _).raw, (HR2.out.set_ HS2.out.1 _ _).out⟩⟩, MM.out.set1 _⟩
    have := HS2.out.2 j hj
    simp
    omega
  · rw [if_neg hf] at P2
    have hdc : decide (d.out.length + zo.length ≤ 4096) = false := decide_eq_false hf
    rw [hdc]
    have PP := Lib.hid P2
    have MM := Lib.hid ((Mod.of_ext E01).trans M2)
    clear P2 M2
    go_wp2
    refine bodyPost_end (v := .tuple #[]) (by simp [results, Tryz.results124]) rfl ?_
    exact ⟨rfl, PP.out, MM.out⟩
def Ds.echoD (d : Ds) (b : List Int) : Ds := if hasL d.t 53 then d.showD b else d
theorem echoD_ok {d : Ds} (h : d.Ok) {b : List Int} (hb : Bs b) : (d.echoD b).Ok := by
  unfold Ds.echoD
  split
  · exact showD_ok h hb
  · exact h
set_option maxHeartbeats 800000 in
theorem decho_any {S : Nat → Prop} {g : Nat} (d : Ds) (v : Value) (b : List Int) (w : World) (h : Dsc S g w d) (hb : RI .u8 w v b) (hB : Bs b) (hl : b.length ≤ 1000000) :
    Calls Tryz.prog 114 #[.pointer (some ⟨g, 0, none⟩), v] w fun e w' => e = .returned (.tuple #[]) ∧ Dsc S g w' (d.echoD b) ∧ Mod (fun j => j = g) w w' := by
  have HD := Lib.hid h
  have RB := Lib.hid hb
  have HH := Lib.hid (fun w' h => dhas_any (S := S) (g := g) d 53 w' h)
  have HW := Lib.hid (fun w' h hb => dshow_any (S := S) (g := g) d v b w' h hb hB hl)
  clear h hb hB
  unfold Ds.echoD
  obtain ⟨q, hq⟩ : ∃ q, hasL d.t 53 = q := ⟨_, rfl⟩
  rw [hq] at HH ⊢
  clear hq
  go_enter Tryz.func114, Tryz.ntmps114
  go_wp2_with fail
  refine (HH.out _ (HD.out.ext (by repeat (first | with_reducible exact Ext.refl _ | refine Ext.drewN ?_ _ | refine Ext.drew ?_ | refine Ext.alloc ?_ _ | assumption | (refine Below.trans ?_ (by assumption)) | (refine Ext.trans ?_ (by assumption)) | (refine Below.trans ?_ (Below.mono (by assumption) (by omega))))))).mono ?_
  rintro e w1 ⟨rfl, E1⟩
  have E01 : Ext w w1 := (by repeat (first | with_reducible exact Ext.refl _ | refine Ext.drewN ?_ _ | refine Ext.drew ?_ | refine Ext.alloc ?_ _ | assumption | (refine Below.trans ?_ (by assumption)) | (refine Ext.trans ?_ (by assumption)) | (refine Below.trans ?_ (Below.mono (by assumption) (by omega)))))
  cases q with
  | false =>
    go_wp2
    refine bodyPost_end (v := .tuple #[]) (by simp [results, Tryz.results114]) rfl ?_
    exact ⟨rfl, HD.out.ext (by repeat (first | with_reducible exact Ext.refl _ | refine Ext.drewN ?_ _ | refine Ext.drew ?_ | refine Ext.alloc ?_ _ | assumption | (refine Below.trans ?_ (by assumption)) | (refine Ext.trans ?_ (by assumption)) | (refine Below.trans ?_ (Below.mono (by assumption) (by omega))))), Mod.of_ext (by repeat (first | with_reducible exact Ext.refl _ | refine Ext.drewN ?_ _ | refine Ext.drew ?_ | refine Ext.alloc ?_ _ | assumption | (refine Below.trans ?_ (by assumption)) | (refine Ext.trans ?_ (by assumption)) | (refine Below.trans ?_ (Below.mono (by assumption) (by omega)))))⟩
  | true =>
    go_wp2_with fail
    refine (HW.out _ (HD.out.ext (by repeat (first | with_reducible exact Ext.refl _ | refine Ext.drewN ?_ _ | refine Ext.drew ?_ | refine Ext.alloc ?_ _ | assumption | (refine Below.trans ?_ (by assumption)) | (refine Ext.trans ?_ (by assumption)) | (refine Below.trans ?_ (Below.mono (by assumption) (by omega)))))) (RB.out.ext (by repeat (first | with_reducible exact Ext.refl _ | refine Ext.drewN ?_ _ | refine Ext.drew ?_ | refine Ext.alloc ?_ _ | assumption | (refine Below.trans ?_ (by assumption)) | (refine Ext.trans ?_ (by assumption)) | (refine Below.trans ?_ (Below.mono (by assumption) (by omega))))))).mono ?_
    rintro e w2 ⟨rfl, P2, M2⟩
    have PP := Lib.hid P2
    have MM := Lib.hid ((Mod.of_ext E01).trans M2)
    clear P2 M2
    go_wp2
    refine bodyPost_end (v := .tuple #[]) (by simp [results, Tryz.results114]) rfl ?_
    exact ⟨rfl, PP.out, MM.out⟩
theorem showL_bs {q : Bool} {c : Int} (hc : 0 ≤ c ∧ c ≤ 255) : Bs (Ec.showL q c) := by
  unfold Ec.showL
  split
  · rename_i h
    have := Ec.hat_q h
    intro x hx
    simp only [List.mem_cons, List.not_mem_nil, or_false] at hx
    rcases hx with rfl | rfl
    · omega
    · split <;> omega
  · intro x hx
    rw [List.mem_singleton.1 hx]; exact hc
def Ds.echoOfD (d : Ds) (c : Int) : Ds := d.echoD (Ec.showL (hasL d.t 60) c)
set_option maxHeartbeats 800000 in
theorem dechoOf_any {S : Nat → Prop} {g : Nat} (d : Ds) (c : Int) (w : World) (h : Dsc S g w d) (hc : 0 ≤ c ∧ c ≤ 255) :
    Calls Tryz.prog 83 #[.pointer (some ⟨g, 0, none⟩), .int .u8 c] w fun e w' => e = .returned (.tuple #[]) ∧ Dsc S g w' (d.echoOfD c) ∧ Mod (fun j => j = g) w w' := by
  have hD0 := Lib.hid h
  obtain ⟨ok, hS, vl, vs, vr, vo, hD, hR⟩ := h
  have hn := Tm.size ok.t
  have hil : (Tryz.prog.info? 26).map (·.size) = some d.t.arr.toList.length := by rw [Array.length_toList, hn]; kernel_rfl
  have HS := Lib.hid hS
  have HR := Lib.hid hR
  have HD := Lib.hid hD
  have HOK := Lib.hid ok
  have KC := Lib.hid (TmC.of hD hn)
  clear hS hR hD ok
  have HW := Lib.hid (fun v w' h hb => decho_any (S := S) (g := g) d v (Ec.showL (hasL d.t 60) c) w' h hb (showL_bs hc) (by have := Ec.showL_len (hasL d.t 60) c; omega))
  have HC := Lib.hid hc
  clear hc
  unfold Ds.echoOfD
  go_enter Tryz.func83, Tryz.ntmps83
  go_wp2_with ((refine wpList_load_mid rfl 26 _ rfl g 0 rfl d.t.arr.toList _ (tmA_mid (HD.out.ext (by repeat (first | with_reducible exact Ext.refl _ | refine Ext.drewN ?_ _ | refine Ext.drew ?_ | refine Ext.alloc ?_ _ | assumption | (refine Below.trans ?_ (by assumption)) | (refine Ext.trans ?_ (by assumption)) | (refine Below.trans ?_ (Below.mono (by assumption) (by omega))))))) Tryz.underlying26 rfl hil ?_; simp only [Array.toArray_toList]))
  refine (Ec.show_any d.t c _ HOK.out.t HC.out).mono ?_
  rintro e w1 ⟨A1, n1, c1, l1, rfl, o1, E1⟩
  have r1 : RI .u8 w1 (.slice A1 n1 c1) (Ec.showL (hasL d.t 60) c) := RdY.ri o1.y
  have E01 : Ext w w1 := (by repeat (first | with_reducible exact Ext.refl _ | refine Ext.drewN ?_ _ | refine Ext.drew ?_ | refine Ext.alloc ?_ _ | assumption | (refine Below.trans ?_ (by assumption)) | (refine Ext.trans ?_ (by assumption)) | (refine Below.trans ?_ (Below.mono (by assumption) (by omega)))))
  have R1 := Lib.hid r1
  clear r1 o1 l1 E1
  go_wp2_with fail
  refine (HW.out _ _ (hD0.out.ext (by repeat (first | with_reducible exact Ext.refl _ | refine Ext.drewN ?_ _ | refine Ext.drew ?_ | refine Ext.alloc ?_ _ | assumption | (refine Below.trans ?_ (by assumption)) | (refine Ext.trans ?_ (by assumption)) | (refine Below.trans ?_ (Below.mono (by assumption) (by omega)))))) (R1.out.ext (by repeat (first | with_reducible exact Ext.refl _ | refine Ext.drewN ?_ _ | refine Ext.drew ?_ | refine Ext.alloc ?_ _ | assumption | (refine Below.trans ?_ (by assumption)) | (refine Ext.trans ?_ (by assumption)) | (refine Below.trans ?_ (Below.mono (by assumption) (by omega))))))).mono ?_
  rintro e w2 ⟨rfl, P2, M2⟩
  have PP := Lib.hid P2
  have MM := Lib.hid ((Mod.of_ext E01).trans M2)
  clear P2 M2
  go_wp2
  refine bodyPost_end (v := .tuple #[]) (by simp [results, Tryz.results83]) rfl ?_
  exact ⟨rfl, PP.out, MM.out⟩
end Go.Proofs.YtfnicinnjkbedaaGreatDoor
