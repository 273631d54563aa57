/- What is taken of a line discipline's output, by contract. Conditions: output is not stopped; so many bytes are wanted. -/
import Derived.Test.YtfnicinnjkbedaaDoorDW17
import Derived.Test.YtfnicinnjkbedaaDoorLate
namespace Go.Proofs.YtfnicinnjkbedaaDoor
open Go.RowKit Go.Kb
set_option maxRecDepth 100000

def Ds.taken (d : Ds) (m : Nat) : Ds := { d with out := d.out.drop m }
theorem taken_ok {d : Ds} (h : d.Ok) (m : Nat) : (d.taken m).Ok :=
  ⟨h.t, h.bl, Bs.drop h.bo m, h.line, (by have := h.out; show (d.out.drop m).length ≤ 4096; rw [List.length_drop]; omega), h.col, h.fr⟩
/-- the first bytes were taken -/
def OutPost (S : Nat → Prop) (g : Nat) (d : Ds) (m : Nat) (w : World) (e : Ending) (w' : World) : Prop :=
  ∃ v, e = .returned v ∧ RI .u8 w' v (d.out.take m) ∧ Dsc S g w' (d.taken m) ∧ Mod (fun j => j = g) w w'
set_option maxHeartbeats 800000 in
theorem doutput_any {S : Nat → Prop} {g : Nat} (d : Ds) (n : Nat) (w : World) (h : Dsc S g w d) (hst : d.st = false) :
    Calls Tryd.prog 17 #[.pointer (some ⟨g, 0, none⟩), .int .i64 n] w (OutPost S g d (min n d.out.length) w) := by
  obtain ⟨ok, hS, vl, vs, vr, vo, hD, hR⟩ := h
  have hn := Tm.size ok.t
  have hW := taken_ok ok (min n d.out.length)
  have hol := ok.out
  obtain ⟨Ao, co, rfl, ho1, ho2⟩ := hR.out.shape
  have hFF := fun w' (h : RI .u8 w' (.slice Ao d.out.length co) d.out) => off_any Ao co (min n d.out.length) d.out w' h (Nat.min_le_right _ _) (by omega) ho1
  have HS := Lib.hid hS
  have HR := Lib.hid hR
  have HW := Lib.hid hW
  have HF := Lib.hid hFF
  clear hS hR hW hFF ok
  have HD := Lib.hid hD
  obtain ⟨c0, c1, c2, c3, c4, c5, c6, c7, c8, c9, cf⟩ := TmC.of hD hn
  rw [hst] at c4
  have f6 := cf 30
  clear hD cf
  have HST := Lib.hid hst
  clear hst
  unfold OutPost
  have RO := Lib.hid (show RI .u8 w (.slice Ao d.out.length co) d.out from RdS.ri HR.out.out)
  generalize hO : d.out.length = O at *
  have HO := Lib.hid hO
  clear hO
  obtain ⟨M, hM⟩ : ∃ M, min n O = M := ⟨_, rfl⟩
  rw [hM] at HF HW ⊢
  have hm1 : (if O < n then (O : Int) else (n : Int)) = (M : Int) := by split <;> omega
  have hm2 : (if (0 : Int) < (M : Int) then (M : Int) else 0) = (M : Int) := by split <;> omega
  have hm3 : (if 0 < M then (M : Int) else 0) = (M : Int) := by split <;> omega
  have hMO : M ≤ O := by omega
  clear hM
  go_enter Tryd.func17, Tryd.ntmps17
  go_upto_region 4 with fail
  refine region_till 20 (fun w' => Ext w w') (by kernel_rfl) (Ext.drew (Ext.refl _)) (fun hHeld => ?_)
  (refine till_take (i := 0) (v := ?_) rfl (by kernel_rfl) (by kernel_rfl) (by kernel_rfl) (by kernel_rfl) (fun _ _ _ h => h) (Or.inl ⟨by rfl, ?_⟩) (by assumption) ?_; rotate_left; (focus (intro w' hSw; go_simp; try with_reducible rfl)); (try simp only [List.getElem_toArray]); (try simp only [List.getElem_cons_succ]); (try simp only [List.getElem_cons_zero]); (try simp only [Act.put]); (try simp only [List.setIfInBounds_toArray]); (try simp only [List.set_cons_succ]); (try simp only [List.set_cons_zero]))
  (refine till_take (i := 1) (v := ?_) rfl (by kernel_rfl) (by kernel_rfl) (by kernel_rfl) (by kernel_rfl) (fun _ _ _ h => h) (Or.inl ⟨by rfl, ?_⟩) (by assumption) ?_; rotate_left; (focus (intro w' hSw; go_simp; try with_reducible rfl)); (try simp only [List.getElem_toArray]); (try simp only [List.getElem_cons_succ]); (try simp only [List.getElem_cons_zero]); (try simp only [Act.put]); (try simp only [List.setIfInBounds_toArray]); (try simp only [List.set_cons_succ]); (try simp only [List.set_cons_zero]))
  (refine till_take (i := 2) (v := ?_) rfl (by kernel_rfl) (by kernel_rfl) (by kernel_rfl) (by kernel_rfl) (fun _ _ _ h => h) (Or.inl ⟨by rfl, ?_⟩) (by assumption) ?_; rotate_left; (focus (intro w' hSw; go_simp; try with_reducible rfl)); (try simp only [List.getElem_toArray]); (try simp only [List.getElem_cons_succ]); (try simp only [List.getElem_cons_zero]); (try simp only [Act.put]); (try simp only [List.setIfInBounds_toArray]); (try simp only [List.set_cons_succ]); (try simp only [List.set_cons_zero]))
  (refine till_take (i := 3) (v := ?_) rfl (by kernel_rfl) (by kernel_rfl) (by kernel_rfl) (by kernel_rfl) (fun _ _ _ h => h) (Or.inl ⟨by rfl, ?_⟩) (by assumption) ?_; rotate_left; (focus (intro w' hSw; go_simp; try with_reducible rfl)); (try simp only [List.getElem_toArray]); (try simp only [List.getElem_cons_succ]); (try simp only [List.getElem_cons_zero]); (try simp only [Act.put]); (try simp only [List.setIfInBounds_toArray]); (try simp only [List.set_cons_succ]); (try simp only [List.set_cons_zero]))
  (refine till_take (i := 4) (v := ?_) rfl (by kernel_rfl) (by kernel_rfl) (by kernel_rfl) (by kernel_rfl) (fun _ _ _ h => h) (Or.inl ⟨by rfl, ?_⟩) (by assumption) ?_; rotate_left; (focus (intro w' hSw; have kc := cell_ext hSw c6; go_simp; try with_reducible rfl)); (try simp only [List.getElem_toArray]); (try simp only [List.getElem_cons_succ]); (try simp only [List.getElem_cons_zero]); (try simp only [Act.put]); (try simp only [List.setIfInBounds_toArray]); (try simp only [List.set_cons_succ]); (try simp only [List.set_cons_zero]))
  (refine till_take (i := 5) (v := ?_) rfl (by kernel_rfl) (by kernel_rfl) (by kernel_rfl) (by kernel_rfl) (fun _ _ _ h => h) (Or.inl ⟨by rfl, ?_⟩) (by assumption) ?_; rotate_left; (focus (intro w' hSw; go_simp; try with_reducible rfl)); (try simp only [List.getElem_toArray]); (try simp only [List.getElem_cons_succ]); (try simp only [List.getElem_cons_zero]); (try simp only [Act.put]); (try simp only [List.setIfInBounds_toArray]); (try simp only [List.set_cons_succ]); (try simp only [List.set_cons_zero]))
  (refine till_take (i := 6) (v := ?_) rfl (by kernel_rfl) (by kernel_rfl) (by kernel_rfl) (by kernel_rfl) (fun _ _ _ h => h) (Or.inl ⟨by rfl, ?_⟩) (by assumption) ?_; rotate_left; (focus (intro w' hSw; go_simp; try with_reducible rfl)); (try simp only [List.getElem_toArray]); (try simp only [List.getElem_cons_succ]); (try simp only [List.getElem_cons_zero]); (try simp only [Act.put]); (try simp only [List.setIfInBounds_toArray]); (try simp only [List.set_cons_succ]); (try simp only [List.set_cons_zero]))
  (refine till_take (i := 7) (v := ?_) rfl (by kernel_rfl) (by kernel_rfl) (by kernel_rfl) (by kernel_rfl) (fun _ _ _ h => h) (Or.inl ⟨by rfl, ?_⟩) (by assumption) ?_; rotate_left; (focus (intro w' hSw; go_simp; try with_reducible rfl)); (try simp only [List.getElem_toArray]); (try simp only [List.getElem_cons_succ]); (try simp only [List.getElem_cons_zero]); (try simp only [Act.put]); (try simp only [List.setIfInBounds_toArray]); (try simp only [List.set_cons_succ]); (try simp only [List.set_cons_zero]))
  (refine till_take (i := 8) (v := ?_) rfl (by kernel_rfl) (by kernel_rfl) (by kernel_rfl) (by kernel_rfl) (fun _ _ _ h => h) (Or.inl ⟨by rfl, ?_⟩) (by assumption) ?_; rotate_left; (focus (intro w' hSw; go_simp; try with_reducible rfl)); (try simp only [List.getElem_toArray]); (try simp only [List.getElem_cons_succ]); (try simp only [List.getElem_cons_zero]); (try simp only [Act.put]); (try simp only [List.setIfInBounds_toArray]); (try simp only [List.set_cons_succ]); (try simp only [List.set_cons_zero]))
  (refine till_take (i := 9) (v := ?_) rfl (by kernel_rfl) (by kernel_rfl) (by kernel_rfl) (by kernel_rfl) (fun _ _ _ h => h) (Or.inl ⟨by rfl, ?_⟩) (by assumption) ?_; rotate_left; (focus (intro w' hSw; have kc := cell_ext hSw c6; go_simp; try with_reducible rfl)); (try simp only [List.getElem_toArray]); (try simp only [List.getElem_cons_succ]); (try simp only [List.getElem_cons_zero]); (try simp only [Act.put]); (try simp only [List.setIfInBounds_toArray]); (try simp only [List.set_cons_succ]); (try simp only [List.set_cons_zero]))
  (refine till_take (i := 10) (v := ?_) rfl (by kernel_rfl) (by kernel_rfl) (by kernel_rfl) (by kernel_rfl) (fun _ _ _ h => h) (Or.inl ⟨by rfl, ?_⟩) (by assumption) ?_; rotate_left; (focus (intro w' hSw; go_simp; try with_reducible rfl)); (try simp only [List.getElem_toArray]); (try simp only [List.getElem_cons_succ]); (try simp only [List.getElem_cons_zero]); (try simp only [Act.put]); (try simp only [List.setIfInBounds_toArray]); (try simp only [List.set_cons_succ]); (try simp only [List.set_cons_zero]))
  (refine till_take (i := 11) (v := ?_) rfl (by kernel_rfl) (by kernel_rfl) (by kernel_rfl) (by kernel_rfl) (fun _ _ _ h => h) (Or.inl ⟨by rfl, ?_⟩) (by assumption) ?_; rotate_left; (focus (intro w' hSw; go_simp; try with_reducible rfl)); (try simp only [List.getElem_toArray]); (try simp only [List.getElem_cons_succ]); (try simp only [List.getElem_cons_zero]); (try simp only [Act.put]); (try simp only [List.setIfInBounds_toArray]); (try simp only [List.set_cons_succ]); (try simp only [List.set_cons_zero]))
  (refine till_take (i := 12) (v := ?_) rfl (by kernel_rfl) (by kernel_rfl) (by kernel_rfl) (by kernel_rfl) (fun _ _ _ h => h) (Or.inl ⟨by rfl, ?_⟩) (by assumption) ?_; rotate_left; (focus (intro w' hSw; go_simp; try with_reducible rfl)); (try simp only [List.getElem_toArray]); (try simp only [List.getElem_cons_succ]); (try simp only [List.getElem_cons_zero]); (try simp only [Act.put]); (try simp only [List.setIfInBounds_toArray]); (try simp only [List.set_cons_succ]); (try simp only [List.set_cons_zero]))
  (refine till_ready (rs := [13]) (by kernel_rfl) (by simp) ?_; refine AllTill.cons rfl (fun K hK => ?_) AllTill.nil; go_simp; go_at_call 29; refine (HF.out _ (RO.out.ext (by repeat (first | with_reducible exact Ext.refl _ | refine Ext.drewN ?_ _ | refine Ext.drew ?_ | refine Ext.alloc ?_ _ | assumption | (refine Below.trans ?_ (by assumption)) | (refine Ext.trans ?_ (by assumption)) | (refine Below.trans ?_ (Below.mono (by assumption) (by omega))))))).mono ?_; rintro e w1 ⟨v1, v2, rfl, o1, o2, E1⟩; (try dsimp only); refine hK.out _ _ (by repeat (first | with_reducible exact Ext.refl _ | refine Ext.drewN ?_ _ | refine Ext.drew ?_ | refine Ext.alloc ?_ _ | assumption | (refine Below.trans ?_ (by assumption)) | (refine Ext.trans ?_ (by assumption)) | (refine Below.trans ?_ (Below.mono (by assumption) (by omega))))) (fun hHeld => ?_); clear hK K; (try simp only [Act.put]); (try simp only [List.getElem_toArray]); (try simp only [List.getElem_cons_succ]); (try simp only [List.getElem_cons_zero]); (try simp only [List.setIfInBounds_toArray]); (try simp only [List.set_cons_succ]); (try simp only [List.set_cons_zero]))
  (refine till_take (i := 14) (v := ?_) rfl (by kernel_rfl) (by kernel_rfl) (by kernel_rfl) (by kernel_rfl) (fun _ _ _ h => h) (Or.inl ⟨by rfl, ?_⟩) (by assumption) ?_; rotate_left; (focus (intro w' hSw; go_simp; try with_reducible rfl)); (try simp only [List.getElem_toArray]); (try simp only [List.getElem_cons_succ]); (try simp only [List.getElem_cons_zero]); (try simp only [Act.put]); (try simp only [List.setIfInBounds_toArray]); (try simp only [List.set_cons_succ]); (try simp only [List.set_cons_zero]))
  (refine till_take (i := 15) (v := ?_) rfl (by kernel_rfl) (by kernel_rfl) (by kernel_rfl) (by kernel_rfl) (fun _ _ _ h => h) (Or.inl ⟨by rfl, ?_⟩) (by assumption) ?_; rotate_left; (focus (intro w' hSw; go_simp; try with_reducible rfl)); (try simp only [List.getElem_toArray]); (try simp only [List.getElem_cons_succ]); (try simp only [List.getElem_cons_zero]); (try simp only [Act.put]); (try simp only [List.setIfInBounds_toArray]); (try simp only [List.set_cons_succ]); (try simp only [List.set_cons_zero]))
  (refine till_take (i := 16) (v := ?_) rfl (by kernel_rfl) (by kernel_rfl) (by kernel_rfl) (by kernel_rfl) (fun _ _ _ h => h) (Or.inl ⟨by rfl, ?_⟩) (by assumption) ?_; rotate_left; (focus (intro w' hSw; go_simp; try with_reducible rfl)); (try simp only [List.getElem_toArray]); (try simp only [List.getElem_cons_succ]); (try simp only [List.getElem_cons_zero]); (try simp only [Act.put]); (try simp only [List.setIfInBounds_toArray]); (try simp only [List.set_cons_succ]); (try simp only [List.set_cons_zero]))
  (refine till_take (i := 17) (v := ?_) rfl (by kernel_rfl) (by kernel_rfl) (by kernel_rfl) (by kernel_rfl) (fun _ _ _ h => h) (Or.inl ⟨by rfl, ?_⟩) (by assumption) ?_; rotate_left; (focus (intro w' hSw; go_simp; try with_reducible rfl)); (try simp only [List.getElem_toArray]); (try simp only [List.getElem_cons_succ]); (try simp only [List.getElem_cons_zero]); (try simp only [Act.put]); (try simp only [List.setIfInBounds_toArray]); (try simp only [List.set_cons_succ]); (try simp only [List.set_cons_zero]))
  (refine till_ready (rs := [18]) (by kernel_rfl) (by simp) ?_; refine AllTill.cons rfl (fun K hK => ?_) AllTill.nil; go_simp; refine hK.out _ _ (by repeat (first | with_reducible exact Ext.refl _ | refine Ext.drewN ?_ _ | refine Ext.drew ?_ | refine Ext.alloc ?_ _ | assumption | (refine Below.trans ?_ (by assumption)) | (refine Ext.trans ?_ (by assumption)) | (refine Below.trans ?_ (Below.mono (by assumption) (by omega))))) (fun hHeld => ?_); clear hK K; (try simp only [Act.put]); (try simp only [List.getElem_toArray]); (try simp only [List.getElem_cons_succ]); (try simp only [List.getElem_cons_zero]); (try simp only [List.setIfInBounds_toArray]); (try simp only [List.set_cons_succ]); (try simp only [List.set_cons_zero]))
  (refine till_take (i := 19) (v := ?_) rfl (by kernel_rfl) (by kernel_rfl) (by kernel_rfl) (by kernel_rfl) (fun _ _ _ h => h) (Or.inl ⟨by rfl, ?_⟩) (by assumption) ?_; rotate_left; (focus (intro w' hSw; go_simp; try with_reducible rfl)); (try simp only [List.getElem_toArray]); (try simp only [List.getElem_cons_succ]); (try simp only [List.getElem_cons_zero]); (try simp only [Act.put]); (try simp only [List.setIfInBounds_toArray]); (try simp only [List.set_cons_succ]); (try simp only [List.set_cons_zero]))
  have E01 : Ext w w1 := (by repeat (first | with_reducible exact Ext.refl _ | refine Ext.drewN ?_ _ | refine Ext.drew ?_ | refine Ext.alloc ?_ _ | assumption | (refine Below.trans ?_ (by assumption)) | (refine Ext.trans ?_ (by assumption)) | (refine Below.trans ?_ (Below.mono (by assumption) (by omega)))))
  have hsz := E01.size
  have O1 := Lib.hid o1
  have O2 := Lib.hid (ownS_dsr o2 (S := S) (fun j hj => by have := HS.out.2 j hj; simp; omega))
  obtain ⟨A2, c2', rfl, -, -⟩ := o2.shape
  have c6 := cell_ext E01 c6
  have f6 : w1.frozen? ⟨g, 30, none⟩ = false := (HD.out.ext E01).frozen 30
  have HR1 := Lib.hid (HR.out.ext E01)
  have HD1 := Lib.hid (HD.out.ext E01)
  clear o1 o2 E1 hHeld
  obtain ⟨N2, hN2⟩ : ∃ N, (d.out.drop M).length = N := ⟨_, rfl⟩
  rw [hN2] at O2 ⊢
  clear hN2
  (refine till_ready (rs := [20]) (by kernel_rfl) (by simp) ?_; refine AllTill.last rfl (fun K hK => ?_) AllTill.nil; go_simp; refine hK.out _ _ ?_; clear hK K; (try simp only [Act.put]); (try simp only [List.getElem_toArray]); (try simp only [List.getElem_cons_succ]); (try simp only [List.getElem_cons_zero]); (try simp only [List.setIfInBounds_toArray]); (try simp only [List.set_cons_succ]); (try simp only [List.set_cons_zero]))
  refine till_done (by kernel_rfl) ?_ _
  go_wp2
  refine bodyPost_ret (v := v1) (by simp [results, Tryd.results17, go_sem]) rfl ?_
  refine ⟨v1, rfl, ?_, ⟨HW.out, ⟨HS.out.1, fun j hj => ?_⟩, vl, vs, vr, _, blk_tmset HD1.out hn 6 rfl _, ⟨(HR1.out.set_ HS.out.1 _ _).line, (HR1.out.set_ HS.out.1 _ _).lines, (HR1.out.set_ HS.out.1 _ _).raw, rdS_set O2.out HS.out.1 _ _⟩⟩, (Mod.of_ext E01).set1 _⟩
  · have hq := O1.out.mod (S := fun j => j = g) ((Mod.refl _ _).set1 (o := 30) (.slice A2 N2 c2')) (fun j hj he => ?_) (fun _ _ hk _ => hk)
    · exact RdS.ri hq.rdT
    · have h1 := (O1.out.row j hj).1
      have h2 := HS.out.2 g HS.out.1
      rw [he] at h1
      have h3 : w.heap.size ≤ g := h1
      omega
  · have := HS.out.2 j hj
    have h2 := E01.size
    simp
    omega
end Go.Proofs.YtfnicinnjkbedaaDoor
