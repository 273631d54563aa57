/- A terminal that is made and opened, by contract. Condition: the setting is one. -/
import Derived.Test.YtfnicinnjkbedaaDoorPY17
namespace Go.Proofs.YtfnicinnjkbedaaDoor
open Go.RowKit Go.Kb
set_option maxRecDepth 100000

/-- a discipline that was just made -/
def newD (t : Tm) : Ds := ⟨t, [], false, [], [], false, false, [], 0, 0, 0⟩
theorem newD_ok {t : Tm} (h : t.Ok) : (newD t).Ok := ⟨h, (fun _ hx => by cases hx), (fun _ hx => by cases hx), by simp [newD], by simp [newD], by simp [newD], by simp [newD]⟩
def newY : Py := ⟨0, 0, 0, 0, 0, 0, 0, false⟩
theorem built_disc (cs : Array Value) (h : cs.size = 24) : Tryd.prog.built 68 [(0, .agg cs)] = some (tmA cs [.slice none 0 0, .bool false, .slice none 0 0, .slice none 0 0, .bool false, .bool false, .slice none 0 0, .int .i64 0, .int .i64 0, .int .i64 0]) := by
  rw [← arr24 h]
  kernel_rfl
theorem newD_dsr {S : Nat → Prop} {w : World} {t : Tm} : DsR S w (newD t) (.slice none 0 0) (.slice none 0 0) (.slice none 0 0) (.slice none 0 0) := ⟨RdS.nil _ _ _, RdS.nil _ _ _, RdS.nil _ _ _, RdS.nil _ _ _⟩
set_option maxHeartbeats 800000 in
theorem dnew_any (t : Tm) (w : World) (ht : t.Ok) : Calls Tryd.prog 27 #[.agg t.arr] w fun e w' =>
    ∃ g, e = .returned (.pointer (some ⟨g, 0, none⟩)) ∧ w.heap.size ≤ g ∧ g < w'.heap.size ∧ Blk w' g 68 (tmA t.arr (dsX (newD t) (.slice none 0 0) (.slice none 0 0) (.slice none 0 0) (.slice none 0 0))) ∧ Ext w w' := by
  have hn := Tm.size ht
  have hbi := Lib.hid (built_disc t.arr hn)
  show Calls _ _ _ _ fun e w' => ∃ g, e = .returned (.pointer (some ⟨g, 0, none⟩)) ∧ w.heap.size ≤ g ∧ g < w'.heap.size ∧ Blk w' g 68 (tmA t.arr [.slice none 0 0, .bool false, .slice none 0 0, .slice none 0 0, .bool false, .bool false, .slice none 0 0, .int .i64 0, .int .i64 0, .int .i64 0]) ∧ Ext w w'
  clear ht
  obtain ⟨cs, hcs⟩ : ∃ cs, t.arr = cs := ⟨_, rfl⟩
  rw [hcs] at hbi hn ⊢
  clear hcs
  have hi : (Tryd.prog.info? 26).map (·.size) = some cs.size := by rw [hn]; kernel_rfl
  have hT := Lib.hid (Blk.new w 26 cs)
  obtain ⟨L, hL⟩ : ∃ L, tmA cs [.slice none 0 0, .bool false, .slice none 0 0, .slice none 0 0, .bool false, .bool false, .slice none 0 0, .int .i64 0, .int .i64 0, .int .i64 0] = L := ⟨_, rfl⟩
  rw [hL] at hbi ⊢
  clear hL
  go_enter Tryd.func27, Tryd.ntmps27
  go_wp2_with (first | (refine wpList_load_row rfl 26 _ rfl _ rfl 26 _ _ _ (Blk.ext hT.out (by repeat (first | with_reducible exact Ext.refl _ | refine Ext.drewN ?_ _ | refine Ext.drew ?_ | refine Ext.alloc ?_ _ | assumption | (refine Below.trans ?_ (by assumption)) | (refine Ext.trans ?_ (by assumption)) | (refine Below.trans ?_ (Below.mono (by assumption) (by omega)))))) Tryd.underlying26 rfl hi ?_) | (refine wpList_build_eq rfl 68 _ rfl (L := L) ?_ ?_; · (simp [go_sem]; exact hbi.out)))
  go_ret
  exact ⟨_, rfl, by simp, by simp, Blk.at_ _ _ (by simp), (by repeat (first | with_reducible exact Ext.refl _ | refine Ext.drewN ?_ _ | refine Ext.drew ?_ | refine Ext.alloc ?_ _ | assumption | (refine Below.trans ?_ (by assumption)) | (refine Ext.trans ?_ (by assumption)) | (refine Below.trans ?_ (Below.mono (by assumption) (by omega)))))⟩
theorem built_pty (g : Nat) : Tryd.prog.built 60 [(0, .pointer (some ⟨g, 0, none⟩)), (1, .agg #[.int .u32 0, .int .u32 0, .int .u32 0, .int .u32 0])] = some (ptA g newY) := by kernel_rfl
set_option maxHeartbeats 800000 in
theorem pnew_any (t : Tm) (w : World) (ht : t.Ok) : Calls Tryd.prog 13 #[.agg t.arr, .agg #[.int .u32 0, .int .u32 0, .int .u32 0, .int .u32 0]] w fun e w' =>
    ∃ p g, e = .returned (.pointer (some ⟨p, 0, none⟩)) ∧ Pt (fun _ => False) p g w' newY (newD t) ∧ Ext w w' ∧ w.heap.size ≤ p ∧ w.heap.size ≤ g := by
  have hn := Tm.size ht
  have hN := Lib.hid (fun w' => dnew_any t w' ht)
  have hok := Lib.hid (newD_ok ht)
  have htt : (newD t).t.arr = t.arr := rfl
  obtain ⟨cs, hcs⟩ : ∃ cs, t.arr = cs := ⟨_, rfl⟩
  rw [hcs] at hN hn ⊢
  have HCS := Lib.hid hcs
  clear hcs ht htt
  have hi : (Tryd.prog.info? 26).map (·.size) = some cs.size := by rw [hn]; kernel_rfl
  have hT := Lib.hid (Blk.new w 26 cs)
  have hT2 := Lib.hid (hT.out.ext ((Ext.refl _).alloc (.cells #[.int .u32 0, .int .u32 0, .int .u32 0, .int .u32 0] 56)))
  have b0 : ((w.alloc (.cells cs 26)).alloc (.cells #[.int .u32 0, .int .u32 0, .int .u32 0, .int .u32 0] 56)).heap[w.heap.size + 1]? = some (.cells #[.int .u32 0, .int .u32 0, .int .u32 0, .int .u32 0] 56 (0, 0)) := Blk.at_ _ _ (by simp)
  have B0 := Lib.hid (show Blk ((w.alloc (.cells cs 26)).alloc (.cells #[.int .u32 0, .int .u32 0, .int .u32 0, .int .u32 0] 56)) (w.heap.size + 1) 56 #[.int .u32 0, .int .u32 0, .int .u32 0, .int .u32 0] from b0)
  clear b0
  go_enter Tryd.func13, Tryd.ntmps13
  go_upto_region 1 with fail
  refine wp_region_held_drew (S := fun w' => Ext ((w.alloc (.cells cs 26)).alloc (.cells #[.int .u32 0, .int .u32 0, .int .u32 0, .int .u32 0] 56)) w') (by kernel_rfl) (Ext.drew (Ext.refl _)) (fun hHeld => ?_)
  (refine wpAnyH_take (i := 0) (v := .agg cs) rfl (by kernel_rfl) (by kernel_rfl) (by kernel_rfl) (fun _ _ _ h => h) (yieldsIf_load_row (by rfl) 26 _ rfl _ rfl 26 cs _ _ (fun w' hw' => Blk.ext hT2.out hw') Tryd.underlying26 rfl hi) (by assumption) ?_; (try simp only [Act.put]); (try simp only [List.getElem_toArray]); (try simp only [List.getElem_cons_succ]); (try simp only [List.getElem_cons_zero]); (try simp only [List.setIfInBounds_toArray]); (try simp only [List.set_cons_succ]); (try simp only [List.set_cons_zero]))
  (refine wpAnyH_take (i := 2) (v := .agg #[.int .u32 0, .int .u32 0, .int .u32 0, .int .u32 0]) rfl (by kernel_rfl) (by kernel_rfl) (by kernel_rfl) (fun _ _ _ h => h) (yieldsIf_load_row (by rfl) 56 _ rfl _ rfl 56 #[.int .u32 0, .int .u32 0, .int .u32 0, .int .u32 0] _ _ (fun w' hSw => B0.out.ext hSw) Tryd.underlying56 rfl (by kernel_rfl)) (by assumption) ?_; (try simp only [Act.put]); (try simp only [List.getElem_toArray]); (try simp only [List.getElem_cons_succ]); (try simp only [List.getElem_cons_zero]); (try simp only [List.setIfInBounds_toArray]); (try simp only [List.set_cons_succ]); (try simp only [List.set_cons_zero]))
  (refine wpAnyH_ready (rs := [1]) (by kernel_rfl) (by simp) ?_; refine AllReadyH.cons rfl (fun K hK => ?_) AllReadyH.nil; go_simp; go_at_call 27; refine (hN.out _).mono ?_; rintro e w1 ⟨g, rfl, g1, g2, G1, E1⟩; (try dsimp only); refine hK.out _ _ (by repeat (first | with_reducible exact Ext.refl _ | refine Ext.drewN ?_ _ | refine Ext.drew ?_ | refine Ext.alloc ?_ _ | assumption | (refine Below.trans ?_ (by assumption)) | (refine Ext.trans ?_ (by assumption)) | (refine Below.trans ?_ (Below.mono (by assumption) (by omega))))) (fun hHeld => ?_); clear hK K; (try simp only [Act.put]); (try simp only [List.getElem_toArray]); (try simp only [List.getElem_cons_succ]); (try simp only [List.getElem_cons_zero]); (try simp only [List.setIfInBounds_toArray]); (try simp only [List.set_cons_succ]); (try simp only [List.set_cons_zero]))
  have G1' := Lib.hid G1
  have EB := hHeld
  have z1 : w.heap.size ≤ w1.heap.size := by have := EB.size; simp at this; omega
  have z2 : w.heap.size ≤ g := by simp at g1; omega
  clear G1 g1 E1 hHeld
  have hb := built_pty g
  (refine wpAnyH_take (i := 3) (v := .agg (ptA g newY)) rfl (by kernel_rfl) (by kernel_rfl) (by kernel_rfl) (fun _ _ _ h => h) (yieldsIf_build (by rfl) 60 _ rfl (by simp [go_sem]; exact hb)) (by assumption) ?_; (try simp only [List.getElem_toArray]); (try simp only [List.getElem_cons_succ]); (try simp only [List.getElem_cons_zero]); (try simp only [Act.put]); (try simp only [List.setIfInBounds_toArray]); (try simp only [List.set_cons_succ]); (try simp only [List.set_cons_zero]))
  (refine wpAnyH_ready (rs := [4]) (by kernel_rfl) (by simp) ?_; refine AllReadyH.cons rfl (fun K hK => ?_) AllReadyH.nil; go_simp; refine hK.out _ _ (by repeat (first | with_reducible exact Ext.refl _ | refine Ext.drewN ?_ _ | refine Ext.drew ?_ | refine Ext.alloc ?_ _ | assumption | (refine Below.trans ?_ (by assumption)) | (refine Ext.trans ?_ (by assumption)) | (refine Below.trans ?_ (Below.mono (by assumption) (by omega))))) (fun hHeld => ?_); clear hK K; (try simp only [Act.put]); (try simp only [List.getElem_toArray]); (try simp only [List.getElem_cons_succ]); (try simp only [List.getElem_cons_zero]); (try simp only [List.setIfInBounds_toArray]); (try simp only [List.set_cons_succ]); (try simp only [List.set_cons_zero]))
  (refine wpAnyH_take (i := 5) (v := ?_) rfl (by kernel_rfl) (by kernel_rfl) (by kernel_rfl) (fun _ _ _ h => h) (Or.inl ⟨by rfl, ?_⟩) (by assumption) ?_; rotate_left; (focus (intro w' hSw; go_simp; try with_reducible rfl)); (try simp only [List.getElem_toArray]); (try simp only [List.getElem_cons_succ]); (try simp only [List.getElem_cons_zero]); (try simp only [Act.put]); (try simp only [List.setIfInBounds_toArray]); (try simp only [List.set_cons_succ]); (try simp only [List.set_cons_zero]))
  refine wpAnyH_done (by kernel_rfl) ?_ _
  clear hb
  have E01 : Ext w w1 := Ext.trans (Ext.alloc (Ext.alloc (Ext.refl _) _) _) EB
  have E02 : Ext w (w1.alloc (.cells (ptA g newY) 60)) := E01.alloc _
  have E12 : Ext w1 (w1.alloc (.cells (ptA g newY) 60)) := (Ext.refl _).alloc _
  have EE := Lib.hid E02
  have fin : Pt (fun _ => False) w1.heap.size g (w1.alloc (.cells (ptA g newY) 60)) newY (newD t) := by
    have hg : g < (w1.alloc (.cells (ptA g newY) 60)).heap.size := by simp; omega
    refine ⟨by omega, Blk.new _ _ _, hok.out, ⟨.inr (.inl rfl), ?_⟩, _, _, _, _, ?_, newD_dsr⟩
    · rintro k (rfl | rfl | h)
      · simp
      · exact hg
      · exact h.elim
    · have h := G1'.out.ext E12
      rw [← HCS.out] at h
      exact h
  have FIN := Lib.hid fin
  clear fin E02 E12
  go_wp2
  go_ret
  exact ⟨_, g, rfl, FIN.out, EE.out, z1, z2⟩
set_option maxHeartbeats 800000 in
theorem opened_any (t : Tm) (w : World) (ht : t.Ok) : Calls Tryd.prog 5 #[.agg t.arr] w fun e w' =>
    ∃ p g, e = .returned (.tuple #[.pointer (some ⟨p, 0, none⟩), .bool true]) ∧ Pt (fun _ => False) p g w' { newY with sl := 1 } (newD t) ∧ Ext w w' ∧ w.heap.size ≤ p ∧ w.heap.size ≤ g := by
  have hn := Tm.size ht
  have hN := Lib.hid (fun w' => pnew_any t w' ht)
  obtain ⟨cs, hcs⟩ : ∃ cs, t.arr = cs := ⟨_, rfl⟩
  rw [hcs] at hN hn ⊢
  clear hcs ht
  have hi : (Tryd.prog.info? 26).map (·.size) = some cs.size := by rw [hn]; kernel_rfl
  have hT := Lib.hid (Blk.new w 26 cs)
  go_enter Tryd.func5, Tryd.ntmps5
  go_wp2_with ((refine wpList_load_row rfl 26 _ rfl _ rfl 26 _ _ _ (Blk.ext hT.out (by repeat (first | with_reducible exact Ext.refl _ | refine Ext.drewN ?_ _ | refine Ext.drew ?_ | refine Ext.alloc ?_ _ | assumption | (refine Below.trans ?_ (by assumption)) | (refine Ext.trans ?_ (by assumption)) | (refine Below.trans ?_ (Below.mono (by assumption) (by omega)))))) Tryd.underlying26 rfl hi ?_))
  refine (hN.out _).mono ?_
  rintro e w1 ⟨p, g, rfl, P1, E1, b1, b2⟩
  have b1 : w.heap.size ≤ p := by simp at b1; omega
  have b2 : w.heap.size ≤ g := by simp at b2; omega
  have HP := Lib.hid P1
  have E01 : Ext w w1 := (by repeat (first | with_reducible exact Ext.refl _ | refine Ext.drewN ?_ _ | refine Ext.drew ?_ | refine Ext.alloc ?_ _ | assumption | (refine Below.trans ?_ (by assumption)) | (refine Ext.trans ?_ (by assumption)) | (refine Below.trans ?_ (Below.mono (by assumption) (by omega)))))
  clear P1 E1
  go_wp2_with fail
  refine (open_any _ HP.out rfl (by simp [newY])).mono ?_
  rintro e w2 ⟨rfl, P2, M2⟩
  have HP2 := Lib.hid P2
  have EE := Lib.hid (Mod.toExt E01 M2 (by rintro k hk (rfl | rfl) <;> omega))
  clear P2 M2
  go_wp2
  go_ret2
  exact ⟨p, g, rfl, HP2.out, EE.out, b1, b2⟩
end Go.Proofs.YtfnicinnjkbedaaDoor
