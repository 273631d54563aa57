/- A line discipline asks its setting, tells what waits, puts bytes out, shows and echoes, by contract. Conditions: the discipline is one, bytes are bytes. -/
import Derived.Test.YtfnicinnjkbedaaGreatDoorDZ17
import Derived.Test.YtfnicinnjkbedaaGreatDoorMD17
import Derived.Test.YtfnicinnjkbedaaGreatDoorCA17
import Derived.Test.YtfnicinnjkbedaaGreatDoorFL17
import Derived.Test.YtfnicinnjkbedaaGreatDoorMI17
import Derived.Test.YtfnicinnjkbedaaGreatDoorEC17
namespace Go.Proofs.YtfnicinnjkbedaaGreatDoor
open Go.RowKit Go.Kb
set_option maxRecDepth 100000

set_option maxHeartbeats 800000 in
theorem dhas_any {S : Nat → Prop} {g : Nat} (d : Ds) (op : Int) (w : World) (h : Dsc S g w d) :
    Calls Tryz.prog 49 #[.pointer (some ⟨g, 0, none⟩), .int .i64 op] w fun e w' => e = .returned (.bool (hasL d.t op)) ∧ Ext w w' := by
  obtain ⟨ok, hS, vl, vs, vr, vo, hD, hR⟩ := h
  have hn := Tm.size ok.t
  have hil : (Tryz.prog.info? 26).map (·.size) = some d.t.arr.toList.length := by rw [Array.length_toList, hn]; kernel_rfl
  have HS := Lib.hid hS
  have HR := Lib.hid hR
  have HD := Lib.hid hD
  have HOK := Lib.hid ok
  have KC := Lib.hid (TmC.of hD hn)
  clear hS hR hD ok
  go_enter Tryz.func49, Tryz.ntmps49
  go_wp2_with ((refine wpList_load_mid rfl 26 _ rfl g 0 rfl d.t.arr.toList _ (tmA_mid (HD.out.ext (by repeat (first | with_reducible exact Ext.refl _ | refine Ext.drewN ?_ _ | refine Ext.drew ?_ | refine Ext.alloc ?_ _ | assumption | (refine Below.trans ?_ (by assumption)) | (refine Ext.trans ?_ (by assumption)) | (refine Below.trans ?_ (Below.mono (by assumption) (by omega))))))) Tryz.underlying26 rfl hil ?_; simp only [Array.toArray_toList]))
  refine (has_any d.t op _ HOK.out.t).mono ?_
  rintro e w1 ⟨rfl, E1⟩
  go_wp2
  go_ret
  exact ⟨rfl, (by repeat (first | with_reducible exact Ext.refl _ | refine Ext.drewN ?_ _ | refine Ext.drew ?_ | refine Ext.alloc ?_ _ | assumption | (refine Below.trans ?_ (by assumption)) | (refine Ext.trans ?_ (by assumption)) | (refine Below.trans ?_ (Below.mono (by assumption) (by omega)))))⟩
set_option maxHeartbeats 800000 in
theorem dis_any {S : Nat → Prop} {g : Nat} (d : Ds) (op c : Int) (w : World) (h : Dsc S g w d) :
    Calls Tryz.prog 90 #[.pointer (some ⟨g, 0, none⟩), .int .i64 op, .int .u8 c] w fun e w' => e = .returned (.bool (isL d.t op c)) ∧ Ext w w' := by
  obtain ⟨ok, hS, vl, vs, vr, vo, hD, hR⟩ := h
  have hn := Tm.size ok.t
  have hil : (Tryz.prog.info? 26).map (·.size) = some d.t.arr.toList.length := by rw [Array.length_toList, hn]; kernel_rfl
  have HS := Lib.hid hS
  have HR := Lib.hid hR
  have HD := Lib.hid hD
  have HOK := Lib.hid ok
  have KC := Lib.hid (TmC.of hD hn)
  clear hS hR hD ok
  go_enter Tryz.func90, Tryz.ntmps90
  go_wp2_with ((refine wpList_load_mid rfl 26 _ rfl g 0 rfl d.t.arr.toList _ (tmA_mid (HD.out.ext (by repeat (first | with_reducible exact Ext.refl _ | refine Ext.drewN ?_ _ | refine Ext.drew ?_ | refine Ext.alloc ?_ _ | assumption | (refine Below.trans ?_ (by assumption)) | (refine Ext.trans ?_ (by assumption)) | (refine Below.trans ?_ (Below.mono (by assumption) (by omega))))))) Tryz.underlying26 rfl hil ?_; simp only [Array.toArray_toList]))
  refine (is_any d.t op c _ HOK.out.t).mono ?_
  rintro e w1 ⟨rfl, E1⟩
  go_wp2
  go_ret
  exact ⟨rfl, (by repeat (first | with_reducible exact Ext.refl _ | refine Ext.drewN ?_ _ | refine Ext.drew ?_ | refine Ext.alloc ?_ _ | assumption | (refine Below.trans ?_ (by assumption)) | (refine Ext.trans ?_ (by assumption)) | (refine Below.trans ?_ (Below.mono (by assumption) (by omega)))))⟩
/-- how much waits -/
def Ds.used (d : Ds) : Int := Ca.usedL d.ls + d.line.length + d.raw.length
set_option maxHeartbeats 800000 in
theorem dused_any {S : Nat → Prop} {g : Nat} (d : Ds) (w : World) (h : Dsc S g w d) (h1 : Ca.usedL d.ls ≤ 100000) (h2 : d.line.length ≤ 100000) (h3 : d.raw.length ≤ 100000) :
    Calls Tryz.prog 23 #[.pointer (some ⟨g, 0, none⟩)] w fun e w' => e = .returned (.int .i64 d.used) ∧ Ext w w' := by
  obtain ⟨ok, hS, vl, vs, vr, vo, hD, hR⟩ := h
  have hn := Tm.size ok.t
  have hil : (Tryz.prog.info? 26).map (·.size) = some d.t.arr.toList.length := by rw [Array.length_toList, hn]; kernel_rfl
  have HS := Lib.hid hS
  have HR := Lib.hid hR
  have HD := Lib.hid hD
  have HOK := Lib.hid ok
  have KC := Lib.hid (TmC.of hD hn)
  clear hS hR hD ok
  obtain ⟨Al, cl, rfl, -, -⟩ := HR.out.line.shape
  obtain ⟨Ar, cr, rfl, -, -⟩ := HR.out.raw.shape
  obtain ⟨As, cs, rfl, -, -⟩ := HR.out.lines.shape
  have h0 := Ca.usedL_nn d.ls
  have HU := Lib.hid (fun w' (h : RdY Ca.Ln (fun k => ¬ S k) w' (.slice As d.ls.length cs) d.ls) => Ca.used_any (.slice As d.ls.length cs) d.ls w' h (by omega))
  have k0 := KC.out.k0
  have k2 := KC.out.k2
  have k3 := KC.out.k3
  have i1 : IntKind.i64.wrap (Ca.usedL d.ls + d.line.length) = Ca.usedL d.ls + d.line.length := by rw [IntKind.wrap_i64]; omega
  have i2 : IntKind.i64.wrap (Ca.usedL d.ls + d.line.length + d.raw.length) = d.used := by rw [IntKind.wrap_i64]; unfold Ds.used; omega
  go_enter Tryz.func23, Tryz.ntmps23
  go_upto_region 3 with fail
  refine wp_region_held_drew (S := fun w' => Ext w w') (by kernel_rfl) (Ext.drew (Ext.refl _)) (fun hHeld => ?_)
  (refine wpAnyH_take (i := 0) (v := ?_) rfl (by kernel_rfl) (by kernel_rfl) (by kernel_rfl) (fun _ _ _ h => h) (Or.inl ⟨by rfl, ?_⟩) (by assumption) ?_; rotate_left; (focus (intro w' hSw; go_simp; try with_reducible rfl)); (try simp only [List.getElem_toArray]); (try simp only [List.getElem_cons_succ]); (try simp only [List.getElem_cons_zero]); (try simp only [Act.put]); (try simp only [List.setIfInBounds_toArray]); (try simp only [List.set_cons_succ]); (try simp only [List.set_cons_zero]))
  (refine wpAnyH_take (i := 1) (v := ?_) rfl (by kernel_rfl) (by kernel_rfl) (by kernel_rfl) (fun _ _ _ h => h) (Or.inl ⟨by rfl, ?_⟩) (by assumption) ?_; rotate_left; (focus (intro w' hSw; go_simp; try with_reducible rfl)); (try simp only [List.getElem_toArray]); (try simp only [List.getElem_cons_succ]); (try simp only [List.getElem_cons_zero]); (try simp only [Act.put]); (try simp only [List.setIfInBounds_toArray]); (try simp only [List.set_cons_succ]); (try simp only [List.set_cons_zero]))
  (refine wpAnyH_take (i := 2) (v := ?_) rfl (by kernel_rfl) (by kernel_rfl) (by kernel_rfl) (fun _ _ _ h => h) (Or.inl ⟨by rfl, ?_⟩) (by assumption) ?_; rotate_left; (focus (intro w' hSw; go_simp; try with_reducible rfl)); (try simp only [List.getElem_toArray]); (try simp only [List.getElem_cons_succ]); (try simp only [List.getElem_cons_zero]); (try simp only [Act.put]); (try simp only [List.setIfInBounds_toArray]); (try simp only [List.set_cons_succ]); (try simp only [List.set_cons_zero]))
  (refine wpAnyH_take (i := 3) (v := ?_) rfl (by kernel_rfl) (by kernel_rfl) (by kernel_rfl) (fun _ _ _ h => h) (Or.inl ⟨by rfl, ?_⟩) (by assumption) ?_; rotate_left; (focus (intro w' hSw; have kc := cell_ext hSw k2; go_simp; try with_reducible rfl)); (try simp only [List.getElem_toArray]); (try simp only [List.getElem_cons_succ]); (try simp only [List.getElem_cons_zero]); (try simp only [Act.put]); (try simp only [List.setIfInBounds_toArray]); (try simp only [List.set_cons_succ]); (try simp only [List.set_cons_zero]))
  (refine wpAnyH_take (i := 5) (v := ?_) rfl (by kernel_rfl) (by kernel_rfl) (by kernel_rfl) (fun _ _ _ h => h) (Or.inl ⟨by rfl, ?_⟩) (by assumption) ?_; rotate_left; (focus (intro w' hSw; go_simp; try with_reducible rfl)); (try simp only [List.getElem_toArray]); (try simp only [List.getElem_cons_succ]); (try simp only [List.getElem_cons_zero]); (try simp only [Act.put]); (try simp only [List.setIfInBounds_toArray]); (try simp only [List.set_cons_succ]); (try simp only [List.set_cons_zero]))
  (refine wpAnyH_take (i := 6) (v := ?_) rfl (by kernel_rfl) (by kernel_rfl) (by kernel_rfl) (fun _ _ _ h => h) (Or.inl ⟨by rfl, ?_⟩) (by assumption) ?_; rotate_left; (focus (intro w' hSw; go_simp; try with_reducible rfl)); (try simp only [List.getElem_toArray]); (try simp only [List.getElem_cons_succ]); (try simp only [List.getElem_cons_zero]); (try simp only [Act.put]); (try simp only [List.setIfInBounds_toArray]); (try simp only [List.set_cons_succ]); (try simp only [List.set_cons_zero]))
  (refine wpAnyH_take (i := 7) (v := ?_) rfl (by kernel_rfl) (by kernel_rfl) (by kernel_rfl) (fun _ _ _ h => h) (Or.inl ⟨by rfl, ?_⟩) (by assumption) ?_; rotate_left; (focus (intro w' hSw; go_simp; try with_reducible rfl)); (try simp only [List.getElem_toArray]); (try simp only [List.getElem_cons_succ]); (try simp only [List.getElem_cons_zero]); (try simp only [Act.put]); (try simp only [List.setIfInBounds_toArray]); (try simp only [List.set_cons_succ]); (try simp only [List.set_cons_zero]))
  (refine wpAnyH_take (i := 8) (v := ?_) rfl (by kernel_rfl) (by kernel_rfl) (by kernel_rfl) (fun _ _ _ h => h) (Or.inl ⟨by rfl, ?_⟩) (by assumption) ?_; rotate_left; (focus (intro w' hSw; have kc := cell_ext hSw k0; go_simp; try with_reducible rfl)); (try simp only [List.getElem_toArray]); (try simp only [List.getElem_cons_succ]); (try simp only [List.getElem_cons_zero]); (try simp only [Act.put]); (try simp only [List.setIfInBounds_toArray]); (try simp only [List.set_cons_succ]); (try simp only [List.set_cons_zero]))
  (refine wpAnyH_take (i := 9) (v := ?_) rfl (by kernel_rfl) (by kernel_rfl) (by kernel_rfl) (fun _ _ _ h => h) (Or.inl ⟨by rfl, ?_⟩) (by assumption) ?_; rotate_left; (focus (intro w' hSw; go_simp; try with_reducible rfl)); (try simp only [List.getElem_toArray]); (try simp only [List.getElem_cons_succ]); (try simp only [List.getElem_cons_zero]); (try simp only [Act.put]); (try simp only [List.setIfInBounds_toArray]); (try simp only [List.set_cons_succ]); (try simp only [List.set_cons_zero]))
  (refine wpAnyH_take (i := 11) (v := ?_) rfl (by kernel_rfl) (by kernel_rfl) (by kernel_rfl) (fun _ _ _ h => h) (Or.inl ⟨by rfl, ?_⟩) (by assumption) ?_; rotate_left; (focus (intro w' hSw; go_simp; try with_reducible rfl)); (try simp only [List.getElem_toArray]); (try simp only [List.getElem_cons_succ]); (try simp only [List.getElem_cons_zero]); (try simp only [Act.put]); (try simp only [List.setIfInBounds_toArray]); (try simp only [List.set_cons_succ]); (try simp only [List.set_cons_zero]))
  (refine wpAnyH_take (i := 12) (v := ?_) rfl (by kernel_rfl) (by kernel_rfl) (by kernel_rfl) (fun _ _ _ h => h) (Or.inl ⟨by rfl, ?_⟩) (by assumption) ?_; rotate_left; (focus (intro w' hSw; go_simp; try with_reducible rfl)); (try simp only [List.getElem_toArray]); (try simp only [List.getElem_cons_succ]); (try simp only [List.getElem_cons_zero]); (try simp only [Act.put]); (try simp only [List.setIfInBounds_toArray]); (try simp only [List.set_cons_succ]); (try simp only [List.set_cons_zero]))
  (refine wpAnyH_take (i := 13) (v := ?_) rfl (by kernel_rfl) (by kernel_rfl) (by kernel_rfl) (fun _ _ _ h => h) (Or.inl ⟨by rfl, ?_⟩) (by assumption) ?_; rotate_left; (focus (intro w' hSw; go_simp; try with_reducible rfl)); (try simp only [List.getElem_toArray]); (try simp only [List.getElem_cons_succ]); (try simp only [List.getElem_cons_zero]); (try simp only [Act.put]); (try simp only [List.setIfInBounds_toArray]); (try simp only [List.set_cons_succ]); (try simp only [List.set_cons_zero]))
  (refine wpAnyH_take (i := 14) (v := ?_) rfl (by kernel_rfl) (by kernel_rfl) (by kernel_rfl) (fun _ _ _ h => h) (Or.inl ⟨by rfl, ?_⟩) (by assumption) ?_; rotate_left; (focus (intro w' hSw; have kc := cell_ext hSw k3; go_simp; try with_reducible rfl)); (try simp only [List.getElem_toArray]); (try simp only [List.getElem_cons_succ]); (try simp only [List.getElem_cons_zero]); (try simp only [Act.put]); (try simp only [List.setIfInBounds_toArray]); (try simp only [List.set_cons_succ]); (try simp only [List.set_cons_zero]))
  (refine wpAnyH_take (i := 15) (v := ?_) rfl (by kernel_rfl) (by kernel_rfl) (by kernel_rfl) (fun _ _ _ h => h) (Or.inl ⟨by rfl, ?_⟩) (by assumption) ?_; rotate_left; (focus (intro w' hSw; go_simp; try with_reducible rfl)); (try simp only [List.getElem_toArray]); (try simp only [List.getElem_cons_succ]); (try simp only [List.getElem_cons_zero]); (try simp only [Act.put]); (try simp only [List.setIfInBounds_toArray]); (try simp only [List.set_cons_succ]); (try simp only [List.set_cons_zero]))
  (refine wpAnyH_ready (rs := [4]) (by kernel_rfl) (by simp) ?_; refine AllReadyH.cons rfl (fun K hK => ?_) AllReadyH.nil; go_simp; go_at_call 40; refine (HU.out _ (HR.out.lines.y.ext (by repeat (first | with_reducible exact Ext.refl _ | refine Ext.drewN ?_ _ | refine Ext.drew ?_ | refine Ext.alloc ?_ _ | assumption | (refine Below.trans ?_ (by assumption)) | (refine Ext.trans ?_ (by assumption)) | (refine Below.trans ?_ (Below.mono (by assumption) (by omega))))))).mono ?_; rintro e w1 ⟨rfl, E1⟩; (try dsimp only); refine hK.out _ _ (by repeat (first | with_reducible exact Ext.refl _ | refine Ext.drewN ?_ _ | refine Ext.drew ?_ | refine Ext.alloc ?_ _ | assumption | (refine Below.trans ?_ (by assumption)) | (refine Ext.trans ?_ (by assumption)) | (refine Below.trans ?_ (Below.mono (by assumption) (by omega))))) (fun hHeld => ?_); clear hK K; (try simp only [Act.put]); (try simp only [List.getElem_toArray]); (try simp only [List.getElem_cons_succ]); (try simp only [List.getElem_cons_zero]); (try simp only [List.setIfInBounds_toArray]); (try simp only [List.set_cons_succ]); (try simp only [List.set_cons_zero]))
  (refine wpAnyH_take (i := 10) (v := ?_) rfl (by kernel_rfl) (by kernel_rfl) (by kernel_rfl) (fun _ _ _ h => h) (Or.inl ⟨by rfl, ?_⟩) (by assumption) ?_; rotate_left; (focus (intro w' hSw; go_simp; try with_reducible rfl)); (try simp only [List.getElem_toArray]); (try simp only [List.getElem_cons_succ]); (try simp only [List.getElem_cons_zero]); (try simp only [Act.put]); (try simp only [List.setIfInBounds_toArray]); (try simp only [List.set_cons_succ]); (try simp only [List.set_cons_zero]))
  (refine wpAnyH_take (i := 16) (v := ?_) rfl (by kernel_rfl) (by kernel_rfl) (by kernel_rfl) (fun _ _ _ h => h) (Or.inl ⟨by rfl, ?_⟩) (by assumption) ?_; rotate_left; (focus (intro w' hSw; go_simp; try with_reducible rfl)); (try simp only [List.getElem_toArray]); (try simp only [List.getElem_cons_succ]); (try simp only [List.getElem_cons_zero]); (try simp only [Act.put]); (try simp only [List.setIfInBounds_toArray]); (try simp only [List.set_cons_succ]); (try simp only [List.set_cons_zero]))
  (refine wpAnyH_take (i := 17) (v := ?_) rfl (by kernel_rfl) (by kernel_rfl) (by kernel_rfl) (fun _ _ _ h => h) (Or.inl ⟨by rfl, ?_⟩) (by assumption) ?_; rotate_left; (focus (intro w' hSw; go_simp; try with_reducible rfl)); (try simp only [List.getElem_toArray]); (try simp only [List.getElem_cons_succ]); (try simp only [List.getElem_cons_zero]); (try simp only [Act.put]); (try simp only [List.setIfInBounds_toArray]); (try simp only [List.set_cons_succ]); (try simp only [List.set_cons_zero]))
  refine wpAnyH_done (by kernel_rfl) ?_ _
  go_wp2
  go_ret
  exact ⟨rfl, (by repeat (first | with_reducible exact Ext.refl _ | refine Ext.drewN ?_ _ | refine Ext.drew ?_ | refine Ext.alloc ?_ _ | assumption | (refine Below.trans ?_ (by assumption)) | (refine Ext.trans ?_ (by assumption)) | (refine Below.trans ?_ (Below.mono (by assumption) (by omega)))))⟩
def Ds.putB (d : Ds) (b : List Int) : Bool := decide (d.out.length + b.length ≤ 4096)
def Ds.putD (d : Ds) (b : List Int) : Ds := if d.out.length + b.length ≤ 4096 then { d with out := d.out ++ b } else d
theorem putD_ok {d : Ds} (h : d.Ok) {b : List Int} (hb : Bs b) : (d.putD b).Ok := by
  unfold Ds.putD
  split
  · refine ⟨h.t, h.bl, fun x hx => ?_, h.line, by show (d.out ++ b).length ≤ 4096; rw [List.length_append]; assumption, h.col, h.fr⟩
    rcases List.mem_append.1 hx with hx | hx
    · exact h.bo x hx
    · exact hb x hx
  · exact h
set_option maxHeartbeats 800000 in
theorem dput_any {S : Nat → Prop} {g : Nat} (d : Ds) (v : Value) (b : List Int) (w : World) (h : Dsc S g w d) (hb : RI .u8 w v b) (hB : Bs b) (hl : b.length ≤ 5000000) :
    Calls Tryz.prog 80 #[.pointer (some ⟨g, 0, none⟩), v] w fun e w' => e = .returned (.bool (d.putB b)) ∧ Dsc S g w' (d.putD b) ∧ Mod (fun j => j = g) w w' := by
  have hD0 := Lib.hid h
  obtain ⟨ok, hS, vl, vs, vr, vo, hD, hR⟩ := h
  have hn := Tm.size ok.t
  have hil : (Tryz.prog.info? 26).map (·.size) = some d.t.arr.toList.length := by rw [Array.length_toList, hn]; kernel_rfl
  have HS := Lib.hid hS
  have HR := Lib.hid hR
  have HD := Lib.hid hD
  have HOK := Lib.hid ok
  have KC := Lib.hid (TmC.of hD hn)
  clear hS hR hD ok
  have hol := HOK.out.out
  have hOK := Lib.hid (putD_ok HOK.out hB)
  obtain ⟨Ao, co, rfl, -, -⟩ := HR.out.out.shape
  obtain ⟨Ab, cb, rfl, -, -⟩ := hb.shape
  have RO := Lib.hid (show RI .u8 w (.slice Ao d.out.length co) d.out from RdS.ri HR.out.out)
  have RB := Lib.hid hb
  have K1 := Lib.hid (two_one (a := d.out) (b := b))
  have K2 := Lib.hid (show tot [(d.out.length, d.out.map (Value.int .u8)), (b.length, b.map (Value.int .u8))] ≤ 137438953472 by
    simp only [tot, List.map_cons, List.map_nil, List.sum_cons, List.sum_nil]
    omega)
  clear hb hB
  have k6 := KC.out.k6
  unfold Ds.putB Ds.putD at *
  by_cases hf : d.out.length + b.length ≤ 4096
  · rw [if_pos hf] at hOK ⊢
    have hf1 : ¬ (4096 < (d.out.length : Int) + (b.length : Int)) := by omega
    obtain ⟨n1, hn1⟩ : ∃ n, d.out.length = n := ⟨_, rfl⟩
    obtain ⟨n2, hn2⟩ : ∃ n, b.length = n := ⟨_, rfl⟩
    have HN1 := Lib.hid hn1
    have HN2 := Lib.hid hn2
    rw [hn1] at k6 hf hf1
    rw [hn2] at hf hf1
    rw [hn1, hn2]
    have RO' := Lib.hid (show RdN w 1 (.slice Ao n1 co) d.out.length (d.out.map (Value.int .u8)) by rw [← hn1]; exact RO.out)
    have RB' := Lib.hid (show RdN w 1 (.slice Ab n2 cb) b.length (b.map (Value.int .u8)) by rw [← hn2]; exact RB.out)
    clear hn1 hn2 RO RB
    have hdc : decide (n1 + n2 ≤ 4096) = true := decide_eq_true hf
    rw [hdc]
    clear hdc
    go_enter Tryz.func80, Tryz.ntmps80
    go_wp2_with fail
    refine (Fr.concat_u8 _ _ _ (RdLL.lit2 _ (by simp) (RdN.ext RO'.out (by repeat (first | with_reducible exact Ext.refl _ | refine Ext.drewN ?_ _ | refine Ext.drew ?_ | refine Ext.alloc ?_ _ | assumption | (refine Below.trans ?_ (by assumption)) | (refine Ext.trans ?_ (by assumption)) | (refine Below.trans ?_ (Below.mono (by assumption) (by omega)))))) (RdN.ext RB'.out (by repeat (first | with_reducible exact Ext.refl _ | refine Ext.drewN ?_ _ | refine Ext.drew ?_ | refine Ext.alloc ?_ _ | assumption | (refine Below.trans ?_ (by assumption)) | (refine Ext.trans ?_ (by assumption)) | (refine Below.trans ?_ (Below.mono (by assumption) (by omega))))))) K1.out K2.out).mono ?_
    rintro e w3 ⟨v3, rfl, o3, E3⟩
    have E03 : Ext w w3 := (by repeat (first | with_reducible exact Ext.refl _ | refine Ext.drewN ?_ _ | refine Ext.drew ?_ | refine Ext.alloc ?_ _ | assumption | (refine Below.trans ?_ (by assumption)) | (refine Ext.trans ?_ (by assumption)) | (refine Below.trans ?_ (Below.mono (by assumption) (by omega)))))
    have O3 := two_cat o3
    obtain ⟨A3, c3, rfl⟩ := own_shape O3
    obtain ⟨M3, hM3⟩ : ∃ M, (d.out ++ b).length = M := ⟨_, rfl⟩
    rw [hM3] at O3 ⊢
    have O4 := Lib.hid (own_dsr O3 hM3 (fun j hj => by have := HS.out.2 j hj; simp; omega))
    have k6 := cell_ext E03 k6
    have f6 : w3.frozen? ⟨g, 30, none⟩ = false := (HD.out.ext E03).frozen 30
    have HR3 := Lib.hid (HR.out.ext E03)
    have HD3 := Lib.hid (HD.out.ext E03)
    have EE := Lib.hid E03
    have hsz := E03.size
    clear o3 O3 E3 E03 K1 K2 RO' RB' hM3
    go_wp2
    go_ret
    refine ⟨rfl, ⟨hOK.out, ⟨HS.out.1, fun j hj => ?_⟩, vl, vs, vr, _, blk_tmset HD3.out hn 6 rfl _, ⟨(HR3.out.set_ HS.out.1 _ _).line, (HR3.out.set_ HS.out.1 _ _).lines, (HR3.out.set_ HS.out.1 _ _).raw, rdS_set O4.out HS.out.1 _ _⟩⟩, (Mod.of_ext EE.out).set1 _⟩
    have := HS.out.2 j hj
    simp
    omega
  · rw [if_neg hf] at hOK ⊢
    have hf1 : 4096 < (d.out.length : Int) + (b.length : Int) := by omega
    have hdc : decide (d.out.length + b.length ≤ 4096) = false := decide_eq_false hf
    rw [hdc]
    go_enter Tryz.func80, Tryz.ntmps80
    go_wp2
    go_ret
    exact ⟨rfl, hD0.out.ext (by repeat (first | with_reducible exact Ext.refl _ | refine Ext.drewN ?_ _ | refine Ext.drew ?_ | refine Ext.alloc ?_ _ | assumption | (refine Below.trans ?_ (by assumption)) | (refine Ext.trans ?_ (by assumption)) | (refine Below.trans ?_ (Below.mono (by assumption) (by omega))))), Mod.of_ext (by repeat (first | with_reducible exact Ext.refl _ | refine Ext.drewN ?_ _ | refine Ext.drew ?_ | refine Ext.alloc ?_ _ | assumption | (refine Below.trans ?_ (by assumption)) | (refine Ext.trans ?_ (by assumption)) | (refine Below.trans ?_ (Below.mono (by assumption) (by omega)))))⟩
end Go.Proofs.YtfnicinnjkbedaaGreatDoor
