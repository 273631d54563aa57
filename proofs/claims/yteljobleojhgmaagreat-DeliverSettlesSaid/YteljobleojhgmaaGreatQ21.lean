/- The law's table as the program's, by contract. Condition: few processes. -/
import Derived.Test.YteljobleojhgmaaGreatP21
namespace Go.Proofs.YteljobleojhgmaaGreat
open Go.RowKit Go.Kb

set_option maxRecDepth 100000 in
set_option maxHeartbeats 800000 in
theorem tob_any {A : Nat → Prop} (Ad : Option Addr) (c : Nat) (l : List Pr) (nx : Int) (w : World) (h : RdY Rp A w (.slice Ad l.length c) l) (hn : l.length ≤ 100000) :
    Calls Tryz.prog 7 #[tv Ad l.length c nx] w fun e w' => ∃ A' c', e = .returned (tv A' l.length c' nx) ∧ OwnS Rp 42 w.heap.size (fun _ => False) w' (.slice A' l.length c') l ∧ Ext w w' := by
  have H := Lib.hid (rdy_pr (B := fun _ => False) h)
  obtain ⟨W, hW⟩ : ∃ W, W = (w.alloc (.cells #[.slice Ad l.length c, .int .i64 nx] 24)).alloc (.cells #[.slice none 0 0, .int .i64 0] 29) := ⟨_, rfl⟩
  have hres := Lib.hid (show Blk W (w.heap.size + 1) 29 #[.slice none 0 0, .int .i64 0] by rw [hW]; exact Blk.at_ _ _ (by simp))
  have hbox := Lib.hid (show Blk W w.heap.size 24 #[.slice Ad l.length c, .int .i64 nx] by rw [hW]; exact (Blk.new w _ _).alloc _)
  have E0 : Ext w W := by rw [hW]; exact (by repeat (first | with_reducible exact Ext.refl _ | refine Ext.drewN ?_ _ | refine Ext.drew ?_ | refine Ext.alloc ?_ _ | assumption | (refine Below.trans ?_ (by assumption)) | (refine Ext.trans ?_ (by assumption)) | (refine Below.trans ?_ (Below.mono (by assumption) (by omega)))))
  have HR := Lib.hid (ref_any (A := fun _ => False) Ad c l nx W (H.out.ext E0) hn)
  have HT := Lib.hid (fun A1 c1 w1 (h1 : RdY Rp (fun _ => False) w1 (.slice A1 l.length c1) l) => to_any A1 c1 l nx w1 h1 hn)
  have HW := Lib.hid hW
  clear h hW
  go_enter Tryz.func7, Tryz.ntmps7
  go_wp2_with fail
  rw [← HW.out]
  have kb := hbox.out.two
  go_wp2_with fail
  refine HR.out.mono ?_
  rintro e w1 ⟨A1, c1, rfl, O1, E1⟩
  have R1 := Lib.hid (rdy_pr (B := fun _ => False) O1.y)
  have E01 := E0.trans E1
  clear O1
  go_wp2_with fail
  refine (HT.out A1 c1 w1 R1.out).mono ?_
  rintro e w2 ⟨A2, c2, rfl, O2, E2⟩
  have O2 := Lib.hid O2
  have E02 := E01.trans E2
  have E12 := E1.trans E2
  have kr := (hres.out.ext E12).two
  have hM : Mod (fun k => k = w.heap.size + 1) w2 _ := ((Mod.refl _ w2).set1 (.slice A2 l.length c2) (o := 0)).set1 (.int .i64 nx) (o := 1)
  obtain ⟨q0, q1, _, _⟩ := ((hres.out.ext E12).put2 (.slice A2 l.length c2) (.int .i64 nx)).two
  have hz : w.heap.size + 1 < w1.heap.size := (hres.out.ext E1).lt
  clear kb
  go_wp2
  refine bodyPost_ret (v := tv A2 l.length c2 nx) (by simp [results, Tryz.results7, go_sem, q0, q1]) rfl ?_
  exact ⟨A2, c2, rfl, (O2.out.mod hM (fun k hk he => by have := (O2.out.row k hk).1; omega) (fun _ _ hk _ => hk)).lower (by omega), Mod.toExt E02 hM (by intro k hk he; omega)⟩
end Go.Proofs.YteljobleojhgmaaGreat
