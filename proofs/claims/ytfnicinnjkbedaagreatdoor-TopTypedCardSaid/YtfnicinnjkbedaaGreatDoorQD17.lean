/- A line discipline ends a line, by contract. Conditions: there is room. -/
import Derived.Test.YtfnicinnjkbedaaGreatDoorQC17
namespace Go.Proofs.YtfnicinnjkbedaaGreatDoor
open Go.RowKit Go.Kb
set_option maxRecDepth 100000

def Ds.endD (d : Ds) (x : List Int) (f : Bool) : Ds := { d with ls := d.ls ++ [(d.line ++ x, f)], line := [] }
theorem endD_ok {d : Ds} (h : d.Ok) (x : List Int) (f : Bool) : (d.endD x f).Ok := ⟨h.t, (fun _ hx => by cases hx), h.bo, by simp [Ds.endD], h.out, h.col, h.fr⟩
set_option maxHeartbeats 800000 in
theorem dend_any {S : Nat → Prop} {g : Nat} (d : Ds) (v : Value) (x : List Int) (f : Bool) (w : World) (h : Dsc S g w d) (hx : RI .u8 w v x) (hroom : Ca.usedL d.ls + Ca.szL (d.line ++ x, f) ≤ 1024) (hls : d.ls.length ≤ 100000) :
    Calls Tryz.prog 123 #[.pointer (some ⟨g, 0, none⟩), .agg #[v, .bool f]] w fun e w' => e = .returned (.bool true) ∧ Dsc S g w' (d.endD x f) ∧ Mod (fun j => j = g) w w' := by
  obtain ⟨ok, hS, vl, vs, vr, vo, hD, hR⟩ := h
  have hn := Tm.size ok.t
  have hil : (Tryz.prog.info? 26).map (·.size) = some d.t.arr.toList.length := by rw [Array.length_toList, hn]; kernel_rfl
  have HS := Lib.hid hS
  have HR := Lib.hid hR
  have HD := Lib.hid hD
  have HOK := Lib.hid ok
  have KC := Lib.hid (TmC.of hD hn)
  clear hS hR hD ok
  have hOK := Lib.hid (endD_ok HOK.out x f)
  obtain ⟨Al, cl, rfl, -, -⟩ := HR.out.line.shape
  obtain ⟨As, cs, rfl, -, -⟩ := HR.out.lines.shape
  obtain ⟨Ax, cx, rfl, -, -⟩ := hx.shape
  have hu0 := Ca.usedL_nn d.ls
  have hsz : ((d.line ++ x).length : Int) ≤ Ca.szL (d.line ++ x, f) := by unfold Ca.szL; show _ ≤ ((d.line ++ x).length : Int) + _; split <;> omega
  have hlen : (d.line ++ x).length ≤ 1024 := by omega
  have K1 := Lib.hid (two_one (a := d.line) (b := x))
  have K2 := Lib.hid (show tot [(d.line.length, d.line.map (Value.int .u8)), (x.length, x.map (Value.int .u8))] ≤ 137438953472 by
    rw [List.length_append] at hlen
    simp only [tot, List.map_cons, List.map_nil, List.sum_cons, List.sum_nil]
    omega)
  have hput : Ca.putL d.ls (d.line ++ x, f) = (d.ls ++ [(d.line ++ x, f)], true) := if_pos hroom
  have HP := Lib.hid (fun (v2 : Value) w' (h1 : RdS Ca.Ln (fun _ => True) w' (.slice As d.ls.length cs) d.ls) (h2 : RdS Ca.Ub (fun _ => True) w' v2 (d.line ++ x)) => Ca.put_any (.slice As d.ls.length cs) v2 d.ls (d.line ++ x) f w' h1 h2 (by omega) (by omega))
  rw [hput] at HP
  dsimp only at HP
  obtain ⟨n4, hn4⟩ : ∃ n, (d.ls ++ [(d.line ++ x, f)]).length = n := ⟨_, rfl⟩
  rw [hn4] at HP
  clear hn4
  have RL := Lib.hid (show RI .u8 w (.slice Al d.line.length cl) d.line from RdS.ri HR.out.line)
  have RX := Lib.hid hx
  have k0 := KC.out.k0
  have k2 := KC.out.k2
  obtain ⟨n1, hn1⟩ : ∃ n, d.line.length = n := ⟨_, rfl⟩
  obtain ⟨n2, hn2⟩ : ∃ n, x.length = n := ⟨_, rfl⟩
  obtain ⟨n3, hn3⟩ : ∃ n, d.ls.length = n := ⟨_, rfl⟩
  have RL' := Lib.hid (show RdN w 1 (.slice Al n1 cl) d.line.length (d.line.map (Value.int .u8)) by rw [← hn1]; exact RL.out)
  have RX' := Lib.hid (show RdN w 1 (.slice Ax n2 cx) x.length (x.map (Value.int .u8)) by rw [← hn2]; exact RX.out)
  have RS' := Lib.hid (show RdS Lnr (fun _ => True) w (.slice As n3 cs) d.ls by rw [← hn3]; exact HR.out.lines.mono fun _ _ _ => trivial)
  rw [hn1] at k0
  rw [hn3] at k2 HP
  rw [hn2]
  clear hx hput hn1 hn2 hn3 RL RX hu0 hsz hroom
  have b0 : ((w.alloc (.cells #[.slice Ax n2 cx, .bool f] 133))).heap[w.heap.size]? = some (.cells #[.slice Ax n2 cx, .bool f] 133 (0, 0)) := Blk.at_ _ _ rfl
  have B0 := Lib.hid (show Blk (w.alloc (.cells #[.slice Ax n2 cx, .bool f] 133)) w.heap.size 133 #[.slice Ax n2 cx, .bool f] from b0)
  obtain ⟨t0, t1, tf0, tf1⟩ := B0.out.two
  have k2' := k2
  have EA : Ext w (w.alloc (.cells #[.slice Ax n2 cx, .bool f] 133)) := (Ext.refl _).alloc _
  have k0 := cell_ext EA k0
  have k2 := cell_ext EA k2
  clear b0 EA
  have HLL := Lib.hid (RdLL.lit2 (w := (w.alloc (.cells #[.slice Ax n2 cx, .bool f] 133)).drew) (B := w.heap.size + 1) 27 (by simp) (RdN.ext RL'.out (by repeat (first | with_reducible exact Ext.refl _ | refine Ext.drewN ?_ _ | refine Ext.drew ?_ | refine Ext.alloc ?_ _ | assumption | (refine Below.trans ?_ (by assumption)) | (refine Ext.trans ?_ (by assumption)) | (refine Below.trans ?_ (Below.mono (by assumption) (by omega)))))) (RdN.ext RX'.out (by repeat (first | with_reducible exact Ext.refl _ | refine Ext.drewN ?_ _ | refine Ext.drew ?_ | refine Ext.alloc ?_ _ | assumption | (refine Below.trans ?_ (by assumption)) | (refine Ext.trans ?_ (by assumption)) | (refine Below.trans ?_ (Below.mono (by assumption) (by omega)))))))
  go_enter Tryz.func123, Tryz.ntmps123
  go_upto_region 1 with fail
  refine region_till 9 (fun w' => Ext (w.alloc (.cells #[.slice Ax n2 cx, .bool f] 133)) w') (by kernel_rfl) (Ext.drew (Ext.refl _)) (fun hHeld => ?_)
  (refine till_take (i := 0) (v := ?_) rfl (by kernel_rfl) (by kernel_rfl) (by kernel_rfl) (by kernel_rfl) (fun _ _ _ h => h) (Or.inl ⟨by rfl, ?_⟩) (by assumption) ?_; rotate_left; (focus (intro w' hSw; go_simp; try with_reducible rfl)); (try simp only [List.getElem_toArray]); (try simp only [List.getElem_cons_succ]); (try simp only [List.getElem_cons_zero]); (try simp only [Act.put]); (try simp only [List.setIfInBounds_toArray]); (try simp only [List.set_cons_succ]); (try simp only [List.set_cons_zero]))
  (refine till_take (i := 1) (v := ?_) rfl (by kernel_rfl) (by kernel_rfl) (by kernel_rfl) (by kernel_rfl) (fun _ _ _ h => h) (Or.inl ⟨by rfl, ?_⟩) (by assumption) ?_; rotate_left; (focus (intro w' hSw; go_simp; try with_reducible rfl)); (try simp only [List.getElem_toArray]); (try simp only [List.getElem_cons_succ]); (try simp only [List.getElem_cons_zero]); (try simp only [Act.put]); (try simp only [List.setIfInBounds_toArray]); (try simp only [List.set_cons_succ]); (try simp only [List.set_cons_zero]))
  (refine till_take (i := 2) (v := ?_) rfl (by kernel_rfl) (by kernel_rfl) (by kernel_rfl) (by kernel_rfl) (fun _ _ _ h => h) (Or.inl ⟨by rfl, ?_⟩) (by assumption) ?_; rotate_left; (focus (intro w' hSw; go_simp; try with_reducible rfl)); (try simp only [List.getElem_toArray]); (try simp only [List.getElem_cons_succ]); (try simp only [List.getElem_cons_zero]); (try simp only [Act.put]); (try simp only [List.setIfInBounds_toArray]); (try simp only [List.set_cons_succ]); (try simp only [List.set_cons_zero]))
  (refine till_take (i := 3) (v := ?_) rfl (by kernel_rfl) (by kernel_rfl) (by kernel_rfl) (by kernel_rfl) (fun _ _ _ h => h) (Or.inl ⟨by rfl, ?_⟩) (by assumption) ?_; rotate_left; (focus (intro w' hSw; have kc := cell_ext hSw k0; go_simp; try with_reducible rfl)); (try simp only [List.getElem_toArray]); (try simp only [List.getElem_cons_succ]); (try simp only [List.getElem_cons_zero]); (try simp only [Act.put]); (try simp only [List.setIfInBounds_toArray]); (try simp only [List.set_cons_succ]); (try simp only [List.set_cons_zero]))
  (refine till_take (i := 4) (v := ?_) rfl (by kernel_rfl) (by kernel_rfl) (by kernel_rfl) (by kernel_rfl) (fun _ _ _ h => h) (Or.inl ⟨by rfl, ?_⟩) (by assumption) ?_; rotate_left; (focus (intro w' hSw; go_simp; try with_reducible rfl)); (try simp only [List.getElem_toArray]); (try simp only [List.getElem_cons_succ]); (try simp only [List.getElem_cons_zero]); (try simp only [Act.put]); (try simp only [List.setIfInBounds_toArray]); (try simp only [List.set_cons_succ]); (try simp only [List.set_cons_zero]))
  (refine till_take (i := 5) (v := ?_) rfl (by kernel_rfl) (by kernel_rfl) (by kernel_rfl) (by kernel_rfl) (fun _ _ _ h => h) (Or.inl ⟨by rfl, ?_⟩) (by assumption) ?_; rotate_left; (focus (intro w' hSw; have kc := cell_ext hSw t0; go_simp; try with_reducible rfl)); (try simp only [List.getElem_toArray]); (try simp only [List.getElem_cons_succ]); (try simp only [List.getElem_cons_zero]); (try simp only [Act.put]); (try simp only [List.setIfInBounds_toArray]); (try simp only [List.set_cons_succ]); (try simp only [List.set_cons_zero]))
  (refine till_ready (rs := [6]) (by kernel_rfl) (by simp) ?_; refine AllTill.cons rfl (fun K hK => ?_) AllTill.nil; go_simp; refine hK.out _ _ (by repeat (first | with_reducible exact Ext.refl _ | refine Ext.drewN ?_ _ | refine Ext.drew ?_ | refine Ext.alloc ?_ _ | assumption | (refine Below.trans ?_ (by assumption)) | (refine Ext.trans ?_ (by assumption)) | (refine Below.trans ?_ (Below.mono (by assumption) (by omega))))) (fun hHeld => ?_); clear hK K; (try simp only [Act.put]); (try simp only [List.getElem_toArray]); (try simp only [List.getElem_cons_succ]); (try simp only [List.getElem_cons_zero]); (try simp only [List.setIfInBounds_toArray]); (try simp only [List.set_cons_succ]); (try simp only [List.set_cons_zero]))
  (refine till_ready (rs := [7]) (by kernel_rfl) (by simp) ?_; refine AllTill.cons rfl (fun K hK => ?_) AllTill.nil; go_simp; go_at_call 36; refine (Fr.concat_u8 _ _ _ HLL.out K1.out K2.out).mono ?_; rintro e w2 ⟨v2, rfl, o2, E2⟩; (try dsimp only); refine hK.out _ _ (by repeat (first | with_reducible exact Ext.refl _ | refine Ext.drewN ?_ _ | refine Ext.drew ?_ | refine Ext.alloc ?_ _ | assumption | (refine Below.trans ?_ (by assumption)) | (refine Ext.trans ?_ (by assumption)) | (refine Below.trans ?_ (Below.mono (by assumption) (by omega))))) (fun hHeld => ?_); clear hK K; (try simp only [Act.put]); (try simp only [List.getElem_toArray]); (try simp only [List.getElem_cons_succ]); (try simp only [List.getElem_cons_zero]); (try simp only [List.setIfInBounds_toArray]); (try simp only [List.set_cons_succ]); (try simp only [List.set_cons_zero]))
  (refine till_take (i := 8) (v := ?_) rfl (by kernel_rfl) (by kernel_rfl) (by kernel_rfl) (by kernel_rfl) (fun _ _ _ h => h) (Or.inl ⟨by rfl, ?_⟩) (by assumption) ?_; rotate_left; (focus (intro w' hSw; go_simp; try with_reducible rfl)); (try simp only [List.getElem_toArray]); (try simp only [List.getElem_cons_succ]); (try simp only [List.getElem_cons_zero]); (try simp only [Act.put]); (try simp only [List.setIfInBounds_toArray]); (try simp only [List.set_cons_succ]); (try simp only [List.set_cons_zero]))
  have E02 := hHeld
  have O2 := two_cat o2
  obtain ⟨A2, c2, rfl⟩ := own_shape O2
  obtain ⟨M2, hM2⟩ : ∃ M, (d.line ++ x).length = M := ⟨_, rfl⟩
  rw [hM2] at O2 ⊢
  have t0 := cell_ext E02 t0
  have tf0 : w2.frozen? ⟨w.heap.size, 0, none⟩ = false := (B0.out.ext E02).frozen 0
  have z2 := E02.size
  have BS : Blk (w2.setCell ⟨w.heap.size, 0, none⟩ (.slice A2 M2 c2)) w.heap.size 133 #[.slice A2 M2 c2, .bool f] := by
    have := (B0.out.ext E02).set_ 0 (.slice A2 M2 c2)
    simpa using this
  have hbw : w.heap.size ≤ w.heap.size := Nat.le_refl _
  have EW : Ext w (w2.setCell ⟨w.heap.size, 0, none⟩ (.slice A2 M2 c2)) := Ext.setNew (Ext.trans (Ext.alloc (Ext.refl _) _) E02) hbw _
  have O3 : RdS Ub (fun _ => True) (w2.setCell ⟨w.heap.size, 0, none⟩ (.slice A2 M2 c2)) (.slice A2 M2 c2) (d.line ++ x) := by
    have h1 := OwnS.of_ints (B := fun _ => False) (by rw [hM2]; exact O2 : w2.ownsRow _ 5 1 (.slice A2 M2 c2) (d.line ++ x).length _)
    have h2 := h1.mod (S := fun k => k = w.heap.size) ((Mod.refl _ _).set1 (o := 0) (.slice A2 M2 c2)) (fun k hk he => by
      have := (h1.row k hk).1
      simp at this
      omega) (fun _ _ h _ => h)
    exact h2.rdT
  (refine till_ready (rs := [9]) (by kernel_rfl) (by simp) ?_; refine AllTill.last rfl (fun K hK => ?_) AllTill.nil; go_simp; refine hK.out _ _ ?_; clear hK K; (try simp only [Act.put]); (try simp only [List.getElem_toArray]); (try simp only [List.getElem_cons_succ]); (try simp only [List.getElem_cons_zero]); (try simp only [List.setIfInBounds_toArray]); (try simp only [List.set_cons_succ]); (try simp only [List.set_cons_zero]))
  refine till_done (by kernel_rfl) ?_ _
  obtain ⟨ws, hws⟩ : ∃ ws, w2.setCell ⟨w.heap.size, 0, none⟩ (.slice A2 M2 c2) = ws := ⟨_, rfl⟩
  rw [hws] at BS EW O3 ⊢
  have HBS := Lib.hid BS
  have HEW := Lib.hid EW
  have HO3 := Lib.hid O3
  have k2 := cell_ext EW k2'
  clear BS O3 hws O2 E2 o2 K1 K2 HLL RL' RX' z2 hHeld E02 hbw hM2 t0 t1 tf0 tf1
  go_upto_region 2 with fail
  refine wp_region_held_drew (S := fun w' => Ext ws w') (by kernel_rfl) (Ext.drew (Ext.refl _)) (fun hHeld => ?_)
  (refine wpAnyH_take (i := 0) (v := ?_) rfl (by kernel_rfl) (by kernel_rfl) (by kernel_rfl) (fun _ _ _ h => h) (Or.inl ⟨by rfl, ?_⟩) (by assumption) ?_; rotate_left; (focus (intro w' hSw; go_simp; try with_reducible rfl)); (try simp only [List.getElem_toArray]); (try simp only [List.getElem_cons_succ]); (try simp only [List.getElem_cons_zero]); (try simp only [Act.put]); (try simp only [List.setIfInBounds_toArray]); (try simp only [List.set_cons_succ]); (try simp only [List.set_cons_zero]))
  (refine wpAnyH_take (i := 1) (v := ?_) rfl (by kernel_rfl) (by kernel_rfl) (by kernel_rfl) (fun _ _ _ h => h) (Or.inl ⟨by rfl, ?_⟩) (by assumption) ?_; rotate_left; (focus (intro w' hSw; go_simp; try with_reducible rfl)); (try simp only [List.getElem_toArray]); (try simp only [List.getElem_cons_succ]); (try simp only [List.getElem_cons_zero]); (try simp only [Act.put]); (try simp only [List.setIfInBounds_toArray]); (try simp only [List.set_cons_succ]); (try simp only [List.set_cons_zero]))
  (refine wpAnyH_take (i := 2) (v := ?_) rfl (by kernel_rfl) (by kernel_rfl) (by kernel_rfl) (fun _ _ _ h => h) (Or.inl ⟨by rfl, ?_⟩) (by assumption) ?_; rotate_left; (focus (intro w' hSw; go_simp; try with_reducible rfl)); (try simp only [List.getElem_toArray]); (try simp only [List.getElem_cons_succ]); (try simp only [List.getElem_cons_zero]); (try simp only [Act.put]); (try simp only [List.setIfInBounds_toArray]); (try simp only [List.set_cons_succ]); (try simp only [List.set_cons_zero]))
  (refine wpAnyH_take (i := 3) (v := ?_) rfl (by kernel_rfl) (by kernel_rfl) (by kernel_rfl) (fun _ _ _ h => h) (Or.inl ⟨by rfl, ?_⟩) (by assumption) ?_; rotate_left; (focus (intro w' hSw; have kc := cell_ext hSw k2; go_simp; try with_reducible rfl)); (try simp only [List.getElem_toArray]); (try simp only [List.getElem_cons_succ]); (try simp only [List.getElem_cons_zero]); (try simp only [Act.put]); (try simp only [List.setIfInBounds_toArray]); (try simp only [List.set_cons_succ]); (try simp only [List.set_cons_zero]))
  (refine wpAnyH_take (i := 4) (v := .agg #[.slice A2 M2 c2, .bool f]) rfl (by kernel_rfl) (by kernel_rfl) (by kernel_rfl) (fun _ _ _ h => h) (yieldsIf_load_row (by rfl) 133 _ rfl _ rfl 133 #[.slice A2 M2 c2, .bool f] _ _ (fun w' hSw => (HBS.out.ext hSw)) Tryz.underlying133 rfl (by kernel_rfl)) (by assumption) ?_; (try simp only [Act.put]); (try simp only [List.getElem_toArray]); (try simp only [List.getElem_cons_succ]); (try simp only [List.getElem_cons_zero]); (try simp only [List.setIfInBounds_toArray]); (try simp only [List.set_cons_succ]); (try simp only [List.set_cons_zero]))
  (refine wpAnyH_ready (rs := [5]) (by kernel_rfl) (by simp) ?_; refine AllReadyH.cons rfl (fun K hK => ?_) AllReadyH.nil; go_simp; go_at_call 144; refine (HP.out _ _ (RS'.out.ext (Ext.trans HEW.out (by repeat (first | with_reducible exact Ext.refl _ | refine Ext.drewN ?_ _ | refine Ext.drew ?_ | refine Ext.alloc ?_ _ | assumption | (refine Below.trans ?_ (by assumption)) | (refine Ext.trans ?_ (by assumption)) | (refine Below.trans ?_ (Below.mono (by assumption) (by omega))))))) (HO3.out.ext (by repeat (first | with_reducible exact Ext.refl _ | refine Ext.drewN ?_ _ | refine Ext.drew ?_ | refine Ext.alloc ?_ _ | assumption | (refine Below.trans ?_ (by assumption)) | (refine Ext.trans ?_ (by assumption)) | (refine Below.trans ?_ (Below.mono (by assumption) (by omega))))))).mono ?_; rintro e w4 ⟨A4, c4, rfl, o4, E4⟩; (try dsimp only); refine hK.out _ _ (by repeat (first | with_reducible exact Ext.refl _ | refine Ext.drewN ?_ _ | refine Ext.drew ?_ | refine Ext.alloc ?_ _ | assumption | (refine Below.trans ?_ (by assumption)) | (refine Ext.trans ?_ (by assumption)) | (refine Below.trans ?_ (Below.mono (by assumption) (by omega))))) (fun hHeld => ?_); clear hK K; (try simp only [Act.put]); (try simp only [List.getElem_toArray]); (try simp only [List.getElem_cons_succ]); (try simp only [List.getElem_cons_zero]); (try simp only [List.setIfInBounds_toArray]); (try simp only [List.set_cons_succ]); (try simp only [List.set_cons_zero]))
  (refine wpAnyH_take (i := 6) (v := ?_) rfl (by kernel_rfl) (by kernel_rfl) (by kernel_rfl) (fun _ _ _ h => h) (Or.inl ⟨by rfl, ?_⟩) (by assumption) ?_; rotate_left; (focus (intro w' hSw; go_simp; try with_reducible rfl)); (try simp only [List.getElem_toArray]); (try simp only [List.getElem_cons_succ]); (try simp only [List.getElem_cons_zero]); (try simp only [Act.put]); (try simp only [List.setIfInBounds_toArray]); (try simp only [List.set_cons_succ]); (try simp only [List.set_cons_zero]))
  (refine wpAnyH_take (i := 7) (v := ?_) rfl (by kernel_rfl) (by kernel_rfl) (by kernel_rfl) (fun _ _ _ h => h) (Or.inl ⟨by rfl, ?_⟩) (by assumption) ?_; rotate_left; (focus (intro w' hSw; go_simp; try with_reducible rfl)); (try simp only [List.getElem_toArray]); (try simp only [List.getElem_cons_succ]); (try simp only [List.getElem_cons_zero]); (try simp only [Act.put]); (try simp only [List.setIfInBounds_toArray]); (try simp only [List.set_cons_succ]); (try simp only [List.set_cons_zero]))
  (refine wpAnyH_take (i := 8) (v := ?_) rfl (by kernel_rfl) (by kernel_rfl) (by kernel_rfl) (fun _ _ _ h => h) (Or.inl ⟨by rfl, ?_⟩) (by assumption) ?_; rotate_left; (focus (intro w' hSw; go_simp; try with_reducible rfl)); (try simp only [List.getElem_toArray]); (try simp only [List.getElem_cons_succ]); (try simp only [List.getElem_cons_zero]); (try simp only [Act.put]); (try simp only [List.setIfInBounds_toArray]); (try simp only [List.set_cons_succ]); (try simp only [List.set_cons_zero]))
  (refine wpAnyH_take (i := 9) (v := ?_) rfl (by kernel_rfl) (by kernel_rfl) (by kernel_rfl) (fun _ _ _ h => h) (Or.inl ⟨by rfl, ?_⟩) (by assumption) ?_; rotate_left; (focus (intro w' hSw; go_simp; try with_reducible rfl)); (try simp only [List.getElem_toArray]); (try simp only [List.getElem_cons_succ]); (try simp only [List.getElem_cons_zero]); (try simp only [Act.put]); (try simp only [List.setIfInBounds_toArray]); (try simp only [List.set_cons_succ]); (try simp only [List.set_cons_zero]))
  (refine wpAnyH_take (i := 10) (v := ?_) rfl (by kernel_rfl) (by kernel_rfl) (by kernel_rfl) (fun _ _ _ h => h) (Or.inl ⟨by rfl, ?_⟩) (by assumption) ?_; rotate_left; (focus (intro w' hSw; go_simp; try with_reducible rfl)); (try simp only [List.getElem_toArray]); (try simp only [List.getElem_cons_succ]); (try simp only [List.getElem_cons_zero]); (try simp only [Act.put]); (try simp only [List.setIfInBounds_toArray]); (try simp only [List.set_cons_succ]); (try simp only [List.set_cons_zero]))
  refine wpAnyH_done (by kernel_rfl) ?_ _
  have E04 : Ext w w4 := HEW.out.trans hHeld
  have z4 : w.heap.size ≤ ws.heap.size := HEW.out.size
  have O4 : RdS Lnr (fun j => ¬ S j) w4 (.slice A4 n4 c4) (d.ls ++ [(d.line ++ x, f)]) := o4.rd (fun k hk hs => by have := HS.out.2 k hs; simp at hk; omega) (fun k hk hs => by have := HS.out.2 k hs; simp at hk; omega)
  have HO4 := Lib.hid O4
  have HR4 := Lib.hid (HR.out.ext E04)
  have B4 := HD.out.ext E04
  have HB4 := Lib.hid B4
  have k0 := (TmC.of B4 hn).k0
  have k2 := (TmC.of B4 hn).k2
  have f0 := B4.frozen 24
  have f2 := B4.frozen 26
  have EE := Lib.hid E04
  clear B4 O4 o4 E4 hHeld HEW HO3 HBS RS' HP E04
  go_wp2
  go_ret
  refine ⟨rfl, ⟨hOK.out, ⟨HS.out.1, fun j hj => ?_⟩, .slice none 0 0, .slice A4 n4 c4, vr, vo, blk_tmset (blk_tmset HB4.out hn 2 rfl _) hn 0 rfl _, ⟨RdS.nil _ _ _, ?_, ((HR4.out.set_ HS.out.1 _ _).set_ HS.out.1 _ _).raw, ((HR4.out.set_ HS.out.1 _ _).set_ HS.out.1 _ _).out⟩⟩, ((Mod.of_ext EE.out).set1 _).set1 _⟩
  · have := HS.out.2 j hj
    have := EE.out.size
    simp
    omega
  · exact (HO4.out.mod (S := fun k => k = g) ((Mod.refl _ _).set1 _) (fun k _ hk he => hk (by subst he; exact HS.out.1))).mod (S := fun k => k = g) ((Mod.refl _ _).set1 _) (fun k _ hk he => hk (by subst he; exact HS.out.1))
end Go.Proofs.YtfnicinnjkbedaaGreatDoor
