/- The same numbers; the document's examples of timers. No condition. -/
import Derived.Test.YtapajcgfdiamdaaK07
namespace Go.Proofs.Ytapajcgfdiamdaa
open Go.RowKit Go.Kb

set_option maxRecDepth 100000 in
set_option maxHeartbeats 800000 in
theorem ints_same {A B : Nat → Prop} (v u : Value) (l : List Int) (w : World) (h : RdY Ib A w v l) (g : RdY Ib B w u l) :
    Calls Try.prog 13 #[v, u] w fun e w' => e = .returned (.bool true) ∧ Ext w w' := by
  obtain ⟨Ad, c, rfl, hc1, hc2⟩ := h.shape
  obtain ⟨Bd, d, rfl, hd1, hd2⟩ := g.shape
  obtain ⟨N, hN⟩ : ∃ N, l.length = N := ⟨_, rfl⟩
  rw [hN] at h g hc1 ⊢
  have H := Lib.hid h
  have G := Lib.hid g
  clear h g hN
  go_enter Try.func13, Try.ntmps13
  go_wp2
  go_loopw [13] (fun i wr => ∃ m : Nat, m ≤ N ∧ i = .int .i64 m ∧ Ext w wr) (fun i _ => N - (intOf i).toNat)
  case atStart => exact ⟨0, Nat.zero_le _, rfl, Ext.refl _⟩
  case round =>
    obtain ⟨m, hm, rfl, hE⟩ := hrel
    by_cases hmn : m < N
    · obtain ⟨b, off, x, y, rfl, hx, hy, hxy⟩ := RdY.at1 (H.out.ext hE) rfl hmn
      obtain ⟨b2, off2, x2, y2, rfl, hx2, hy2, hxy2⟩ := RdY.at1 (G.out.ext hE) rfl hmn
      have hxy : [x] = [Value.int .i64 y] := hxy.out
      have hxy2 : [x2] = [Value.int .i64 y2] := hxy2.out
      cases hxy
      cases hxy2
      obtain rfl : y2 = y := by have := hy.out; rw [hy2.out] at this; exact Option.some.inj this
      have HX := Lib.hid hx
      have HX2 := Lib.hid hx2
      have hm1 : (0 : Int) ≤ (m : Int) := by omega
      have hm2 : (m : Int) < (N : Int) := by omega
      clear hy hy2 hx hx2
      go_wp2
      refine wp_region_held_drew (S := fun w' => Ext wr w') (by kernel_rfl) (Ext.drew (Ext.refl _)) (fun hHeld => ?_)
      (refine wpAnyH_take (i := 0) (v := ?_) rfl (by kernel_rfl) (by kernel_rfl) (by kernel_rfl) (fun _ _ _ h => h) (Or.inl ⟨by rfl, ?_⟩) (by assumption) ?_; rotate_left; (focus (intro w' hSw; go_simp; try with_reducible rfl)); (try simp only [List.getElem_toArray]); (try simp only [List.getElem_cons_succ]); (try simp only [List.getElem_cons_zero]); (try simp only [Act.put]); (try simp only [List.setIfInBounds_toArray]); (try simp only [List.set_cons_succ]); (try simp only [List.set_cons_zero]))
      (refine wpAnyH_take (i := 1) (v := ?_) rfl (by kernel_rfl) (by kernel_rfl) (by kernel_rfl) (fun _ _ _ h => h) (Or.inl ⟨by rfl, ?_⟩) (by assumption) ?_; rotate_left; (focus (intro w' hSw; go_simp; try with_reducible rfl)); (try simp only [List.getElem_toArray]); (try simp only [List.getElem_cons_succ]); (try simp only [List.getElem_cons_zero]); (try simp only [Act.put]); (try simp only [List.setIfInBounds_toArray]); (try simp only [List.set_cons_succ]); (try simp only [List.set_cons_zero]))
      (refine wpAnyH_take (i := 2) (v := ?_) rfl (by kernel_rfl) (by kernel_rfl) (by kernel_rfl) (fun _ _ _ h => h) (Or.inl ⟨by rfl, ?_⟩) (by assumption) ?_; rotate_left; (focus (intro w' hSw; go_simp; try with_reducible rfl)); (try simp only [List.getElem_toArray]); (try simp only [List.getElem_cons_succ]); (try simp only [List.getElem_cons_zero]); (try simp only [Act.put]); (try simp only [List.setIfInBounds_toArray]); (try simp only [List.set_cons_succ]); (try simp only [List.set_cons_zero]))
      (refine wpAnyH_take (i := 3) (v := ?_) rfl (by kernel_rfl) (by kernel_rfl) (by kernel_rfl) (fun _ _ _ h => h) (Or.inl ⟨by rfl, ?_⟩) (by assumption) ?_; rotate_left; (focus (intro w' hSw; have kc := cell_ext hSw HX.out; go_simp; try with_reducible rfl)); (try simp only [List.getElem_toArray]); (try simp only [List.getElem_cons_succ]); (try simp only [List.getElem_cons_zero]); (try simp only [Act.put]); (try simp only [List.setIfInBounds_toArray]); (try simp only [List.set_cons_succ]); (try simp only [List.set_cons_zero]))
      (refine wpAnyH_take (i := 4) (v := ?_) rfl (by kernel_rfl) (by kernel_rfl) (by kernel_rfl) (fun _ _ _ h => h) (Or.inl ⟨by rfl, ?_⟩) (by assumption) ?_; rotate_left; (focus (intro w' hSw; go_simp; try with_reducible rfl)); (try simp only [List.getElem_toArray]); (try simp only [List.getElem_cons_succ]); (try simp only [List.getElem_cons_zero]); (try simp only [Act.put]); (try simp only [List.setIfInBounds_toArray]); (try simp only [List.set_cons_succ]); (try simp only [List.set_cons_zero]))
      (refine wpAnyH_take (i := 5) (v := ?_) rfl (by kernel_rfl) (by kernel_rfl) (by kernel_rfl) (fun _ _ _ h => h) (Or.inl ⟨by rfl, ?_⟩) (by assumption) ?_; rotate_left; (focus (intro w' hSw; go_simp; try with_reducible rfl)); (try simp only [List.getElem_toArray]); (try simp only [List.getElem_cons_succ]); (try simp only [List.getElem_cons_zero]); (try simp only [Act.put]); (try simp only [List.setIfInBounds_toArray]); (try simp only [List.set_cons_succ]); (try simp only [List.set_cons_zero]))
      (refine wpAnyH_take (i := 6) (v := ?_) rfl (by kernel_rfl) (by kernel_rfl) (by kernel_rfl) (fun _ _ _ h => h) (Or.inl ⟨by rfl, ?_⟩) (by assumption) ?_; rotate_left; (focus (intro w' hSw; go_simp; try with_reducible rfl)); (try simp only [List.getElem_toArray]); (try simp only [List.getElem_cons_succ]); (try simp only [List.getElem_cons_zero]); (try simp only [Act.put]); (try simp only [List.setIfInBounds_toArray]); (try simp only [List.set_cons_succ]); (try simp only [List.set_cons_zero]))
      (refine wpAnyH_take (i := 7) (v := ?_) rfl (by kernel_rfl) (by kernel_rfl) (by kernel_rfl) (fun _ _ _ h => h) (Or.inl ⟨by rfl, ?_⟩) (by assumption) ?_; rotate_left; (focus (intro w' hSw; have kc := cell_ext hSw HX2.out; go_simp; try with_reducible rfl)); (try simp only [List.getElem_toArray]); (try simp only [List.getElem_cons_succ]); (try simp only [List.getElem_cons_zero]); (try simp only [Act.put]); (try simp only [List.setIfInBounds_toArray]); (try simp only [List.set_cons_succ]); (try simp only [List.set_cons_zero]))
      (refine wpAnyH_take (i := 8) (v := ?_) rfl (by kernel_rfl) (by kernel_rfl) (by kernel_rfl) (fun _ _ _ h => h) (Or.inl ⟨by rfl, ?_⟩) (by assumption) ?_; rotate_left; (focus (intro w' hSw; go_simp; try with_reducible rfl)); (try simp only [List.getElem_toArray]); (try simp only [List.getElem_cons_succ]); (try simp only [List.getElem_cons_zero]); (try simp only [Act.put]); (try simp only [List.setIfInBounds_toArray]); (try simp only [List.set_cons_succ]); (try simp only [List.set_cons_zero]))
      refine wpAnyH_done (by kernel_rfl) ?_ _
      have E5 : Ext w wr.drew := Ext.drew hE
      go_wp2
      go_roundw
      case rel => exact ⟨m + 1, by omega, by go_num, E5⟩
      case measure => simp [intOf]; omega
    · go_wp2
      go_ret
      exact ⟨rfl, hE⟩
set_option maxHeartbeats 400000 in
theorem nil_set (id due : Int) (w : World) : Calls Try.prog 9 #[.pointer none, .int .i64 id, .int .i64 due] w fun e w' => e = .returned (.int .i64 1) ∧ Ext w w' := by
  go_enter Try.func9, Try.ntmps9
  go_wp2
  go_ret
  exact ⟨rfl, (by repeat (first | with_reducible exact Ext.refl _ | refine Ext.drewN ?_ _ | refine Ext.drew ?_ | refine Ext.alloc ?_ _ | assumption | (refine Below.trans ?_ (by assumption)) | (refine Ext.trans ?_ (by assumption)) | (refine Below.trans ?_ (Below.mono (by assumption) (by omega)))))⟩
set_option maxHeartbeats 400000 in
theorem nil_len (w : World) : Calls Try.prog 17 #[.pointer none] w fun e w' => e = .returned (.int .i64 0) ∧ Ext w w' := by
  go_enter Try.func17, Try.ntmps17
  go_wp2
  go_ret
  exact ⟨rfl, (by repeat (first | with_reducible exact Ext.refl _ | refine Ext.drewN ?_ _ | refine Ext.drew ?_ | refine Ext.alloc ?_ _ | assumption | (refine Below.trans ?_ (by assumption)) | (refine Ext.trans ?_ (by assumption)) | (refine Below.trans ?_ (Below.mono (by assumption) (by omega)))))⟩
/-- a row that no timer writes -/
def Free (v : Value) (F : Nat → Prop) : Prop := ∀ k, v.ownBlock = some k → ¬ F k
set_option maxRecDepth 100000 in
set_option maxHeartbeats 3000000 in
theorem alive_any (w : World) : Calls Try.prog 7 #[] w fun e w' => e = .returned (.bool true) ∧ Ext w w' := by
  go_enter Try.func7, Try.ntmps7
  go_wp2_with fail
  refine (new_any _).mono ?_
  rintro e w1 ⟨T, F, rfl, hT, hF, E1⟩
  have HT := Lib.hid hT
  have HFN := Lib.hid hF
  have HE := Lib.hid E1
  clear hT hF E1
  go_wp2_with fail
  have hcall := tset_any T F [] 1 5 (by decide) _ HT.out
  rw [show setE [] 1 = 0 by kernel_rfl, show setT [] 1 5 = [(1, 5)] by kernel_rfl] at hcall
  refine hcall.mono ?_
  clear hcall
  rintro e wn ⟨rfl, F2, hT2, hF2, hM2⟩
  have HE2 := Lib.hid (Mod.toExt HE.out hM2 (fun k hk hf => by have := HFN.out k hf; omega))
  have HFN2 := Lib.hid (show ∀ k, F2 k → w.heap.size ≤ k from fun k hk => (hF2 k hk).elim (HFN.out k) (fun h => Nat.le_trans HE.out.size h))
  have HT2 := Lib.hid hT2
  have HM2 := Lib.hid hM2
  have HF2 := Lib.hid hF2
  clear hT2 hM2 hF2
  clear HT HE HFN HM2 HF2
  obtain ⟨F, hF⟩ : ∃ G, G = F2 := ⟨_, rfl⟩
  subst hF
  have HT := HT2
  have HE := HE2
  have HFN := HFN2
  clear HT2 HE2 HFN2
  go_wp2_with fail
  have hcall := tset_any T F [(1, 5)] 2 3 (by decide) _ HT.out
  rw [show setE [(1, 5)] 2 = 0 by kernel_rfl, show setT [(1, 5)] 2 3 = [(2, 3), (1, 5)] by kernel_rfl] at hcall
  refine hcall.mono ?_
  clear hcall
  rintro e wn ⟨rfl, F2, hT2, hF2, hM2⟩
  have HE2 := Lib.hid (Mod.toExt HE.out hM2 (fun k hk hf => by have := HFN.out k hf; omega))
  have HFN2 := Lib.hid (show ∀ k, F2 k → w.heap.size ≤ k from fun k hk => (hF2 k hk).elim (HFN.out k) (fun h => Nat.le_trans HE.out.size h))
  have HT2 := Lib.hid hT2
  have HM2 := Lib.hid hM2
  have HF2 := Lib.hid hF2
  clear hT2 hM2 hF2
  clear HT HE HFN HM2 HF2
  obtain ⟨F, hF⟩ : ∃ G, G = F2 := ⟨_, rfl⟩
  subst hF
  have HT := HT2
  have HE := HE2
  have HFN := HFN2
  clear HT2 HE2 HFN2
  go_wp2_with fail
  have hcall := tset_any T F [(2, 3), (1, 5)] 3 5 (by decide) _ HT.out
  rw [show setE [(2, 3), (1, 5)] 3 = 0 by kernel_rfl, show setT [(2, 3), (1, 5)] 3 5 = [(2, 3), (1, 5), (3, 5)] by kernel_rfl] at hcall
  refine hcall.mono ?_
  clear hcall
  rintro e wn ⟨rfl, F2, hT2, hF2, hM2⟩
  have HE2 := Lib.hid (Mod.toExt HE.out hM2 (fun k hk hf => by have := HFN.out k hf; omega))
  have HFN2 := Lib.hid (show ∀ k, F2 k → w.heap.size ≤ k from fun k hk => (hF2 k hk).elim (HFN.out k) (fun h => Nat.le_trans HE.out.size h))
  have HT2 := Lib.hid hT2
  have HM2 := Lib.hid hM2
  have HF2 := Lib.hid hF2
  clear hT2 hM2 hF2
  clear HT HE HFN HM2 HF2
  obtain ⟨F, hF⟩ : ∃ G, G = F2 := ⟨_, rfl⟩
  subst hF
  have HT := HT2
  have HE := HE2
  have HFN := HFN2
  clear HT2 HE2 HFN2
  go_wp2_with fail
  refine (next_any T F [(2, 3), (1, 5), (3, 5)] _ HT.out).mono ?_
  rintro e w5 ⟨rfl, E5⟩
  have HT := Lib.hid (HT.out.ext E5)
  have HE := Lib.hid (HE.out.trans E5)
  clear E5
  go_wp2_with fail
  have hcall := due_any T F [(2, 3), (1, 5), (3, 5)] 4 _ HT.out
  rw [show dueL 4 [(2, 3), (1, 5), (3, 5)] = [2] by kernel_rfl, show restL 4 [(2, 3), (1, 5), (3, 5)] = [(1, 5), (3, 5)] by kernel_rfl] at hcall
  refine hcall.mono ?_
  clear hcall
  rintro e w6 ⟨A1, c1, rfl, o1, hT6, M6⟩
  have FR1 := Lib.hid (show Free (.slice A1 1 c1) F from fun k hk hf => by have := (o1.row k hk).1; have := HT.out.lt k hf; omega)
  have HE := Lib.hid (Mod.toExt HE.out M6 (fun k hk hf => by have := HFN.out k hf; omega))
  have HT := Lib.hid hT6
  have O1 := Lib.hid (show OwnS Ib 3 _ (fun _ => False) w6 (.slice A1 1 c1) [2] from o1)
  clear hT6 M6 o1
  go_wp2_with fail
  have hcall := tset_any T F [(1, 5), (3, 5)] 3 9 (by decide) _ HT.out
  rw [show setE [(1, 5), (3, 5)] 3 = 0 by kernel_rfl, show setT [(1, 5), (3, 5)] 3 9 = [(1, 5), (3, 9)] by kernel_rfl] at hcall
  refine hcall.mono ?_
  clear hcall
  rintro e wn ⟨rfl, F2, hT2, hF2, hM2⟩
  have HE2 := Lib.hid (Mod.toExt HE.out hM2 (fun k hk hf => by have := HFN.out k hf; omega))
  have HFN2 := Lib.hid (show ∀ k, F2 k → w.heap.size ≤ k from fun k hk => (hF2 k hk).elim (HFN.out k) (fun h => Nat.le_trans HE.out.size h))
  have HT2 := Lib.hid hT2
  have HM2 := Lib.hid hM2
  have HF2 := Lib.hid hF2
  clear hT2 hM2 hF2
  have FR2 := Lib.hid (show Free (.slice A1 1 c1) F2 from fun k hk hf => (HF2.out k hf).elim (FR1.out k hk) (fun h => by have := (O1.out.row k hk).2; omega))
  have O1 := Lib.hid (O1.out.mod HM2.out (fun k hk hf => FR1.out k hk hf) (fun _ _ hk _ => hk))
  clear FR1
  clear HT HE HFN HM2 HF2
  obtain ⟨F, hF⟩ : ∃ G, G = F2 := ⟨_, rfl⟩
  subst hF
  have HT := HT2
  have HE := HE2
  have HFN := HFN2
  clear HT2 HE2 HFN2
  go_wp2_with fail
  have hcall := due_any T F [(1, 5), (3, 9)] 8 _ HT.out
  rw [show dueL 8 [(1, 5), (3, 9)] = [1] by kernel_rfl, show restL 8 [(1, 5), (3, 9)] = [(3, 9)] by kernel_rfl] at hcall
  refine hcall.mono ?_
  clear hcall
  rintro e w8 ⟨A2, c2, rfl, o2, hT8, M8⟩
  have FR3 := Lib.hid (show Free (.slice A2 1 c2) F from fun k hk hf => by have := (o2.row k hk).1; have := HT.out.lt k hf; omega)
  have HE := Lib.hid (Mod.toExt HE.out M8 (fun k hk hf => by have := HFN.out k hf; omega))
  have HT := Lib.hid hT8
  have O2 := Lib.hid (show OwnS Ib 3 _ (fun _ => False) w8 (.slice A2 1 c2) [1] from o2)
  have O1 := Lib.hid (O1.out.mod M8 (fun k hk hf => FR2.out k hk hf) (fun _ _ hk _ => hk))
  clear hT8 M8 o2
  go_wp2_with fail
  refine (ints_same (A := fun _ => True) (B := fun _ => True) _ _ [2] _ ((O1.out.alloc _).y.mono fun _ _ _ => trivial) (RdY.singleB (e := Ib) (cs := [.int .i64 2]) (d := 2) rfl (Blk.at_ _ _ rfl))).mono ?_
  rintro e w9 ⟨rfl, E9⟩
  have E89 : Ext w8 w9 := Ext.trans ((Ext.refl w8).alloc _) E9
  have O2 := Lib.hid (O2.out.ext E89)
  have HT := Lib.hid (HT.out.ext E89)
  have HE := Lib.hid (HE.out.trans E89)
  clear E9 E89
  go_wp2_with fail
  refine (ints_same (A := fun _ => True) (B := fun _ => True) _ _ [1] _ ((O2.out.alloc _).y.mono fun _ _ _ => trivial) (RdY.singleB (e := Ib) (cs := [.int .i64 1]) (d := 1) rfl (Blk.at_ _ _ rfl))).mono ?_
  rintro e w10 ⟨rfl, E10⟩
  have E90 : Ext w9 w10 := Ext.trans ((Ext.refl w9).alloc _) E10
  have HT := Lib.hid (HT.out.ext E90)
  have HE := Lib.hid (HE.out.trans E90)
  clear E10 E90 O1 O2 FR2 FR3
  go_wp2_with fail
  have hcall := cancel_any T F [(3, 9)] 3 (by decide) _ HT.out
  rw [show hasL [(3, 9)] 3 = true by kernel_rfl, show remL 3 [((3 : Int), (9 : Int))] = [] by kernel_rfl] at hcall
  refine hcall.mono ?_
  clear hcall
  rintro e w11 ⟨rfl, hT, M11⟩
  have HE := Lib.hid (Mod.toExt HE.out M11 (fun k hk hf => by have := HFN.out k hf; omega))
  have HT := Lib.hid hT
  clear hT M11
  go_wp2_with fail
  have hcall := cancel_any T F [] 3 (by decide) _ HT.out
  rw [show hasL [] 3 = false by kernel_rfl] at hcall
  refine hcall.mono ?_
  clear hcall
  rintro e w12 ⟨rfl, hT, M12⟩
  have HE := Lib.hid (Mod.toExt HE.out M12 (fun k hk hf => by have := HFN.out k hf; omega))
  clear hT M12 HT
  go_wp2_with fail
  refine (nil_set _ _ _).mono ?_
  rintro e w13 ⟨rfl, E13⟩
  go_wp2_with fail
  refine (nil_len _).mono ?_
  rintro e w14 ⟨rfl, E14⟩
  go_wp2
  go_ret
  exact ⟨rfl, (HE.out.trans E13).trans E14⟩
end Go.Proofs.Ytapajcgfdiamdaa
