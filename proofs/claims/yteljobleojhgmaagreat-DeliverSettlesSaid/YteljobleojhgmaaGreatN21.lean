/- Whether somebody outside sees to a group that lives, by contract. No condition. -/
import Derived.Test.YteljobleojhgmaaGreatM21
namespace Go.Proofs.YteljobleojhgmaaGreat
open Go.RowKit Go.Kb

/-- a group that lives, and somebody outside sees to it -/
def seenL (l : List Pr) (nx g : Int) : Bool := decide (0 < (memL l nx g).length) && !orphL l nx g
set_option maxRecDepth 100000 in
set_option maxHeartbeats 3000000 in
theorem seen_any {A : Nat → Prop} (Ad : Option Addr) (c : Nat) (l : List Pr) (nx g : Int) (w : World) (h : RdY Rp A w (.slice Ad l.length c) l) :
    Calls Tryz.prog 47 #[tv Ad l.length c nx, .int .i64 g] w fun e w' => e = .returned (.bool (seenL l nx g)) ∧ Ext w w' := by
  have H := Lib.hid (rdy_pr (B := fun _ => False) h)
  obtain ⟨W, hW⟩ : ∃ W, W = w.alloc (.cells #[.slice Ad l.length c, .int .i64 nx] 29) := ⟨_, rfl⟩
  have hbox := Lib.hid (show Blk W w.heap.size 29 #[.slice Ad l.length c, .int .i64 nx] by rw [hW]; exact Blk.new w _ _)
  have E0 : Ext w W := by rw [hW]; exact (Ext.refl _).alloc _
  have HW := Lib.hid hW
  have HM := Lib.hid (members_any (A := fun _ => False) Ad c l nx g W (H.out.ext E0))
  have HO := Lib.hid (fun w' E => orphaned_any (A := fun _ => False) Ad c l nx g w' (H.out.ext (w' := w') E))
  obtain ⟨K, hK⟩ : ∃ K, (memL l nx g).length = K := ⟨_, rfl⟩
  obtain ⟨o, ho⟩ : ∃ o, orphL l nx g = o := ⟨_, rfl⟩
  have HS := Lib.hid (show seenL l nx g = (decide (0 < K) && !o) by unfold seenL; rw [hK, ho])
  have HK := Lib.hid hK
  have HOO := Lib.hid ho
  clear h hW hK ho
  go_enter Tryz.func47, Tryz.ntmps47
  go_wp2_with fail
  rw [← HW.out]
  have kb := hbox.out.two
  go_wp2_with fail
  refine HM.out.mono ?_
  rintro e w1 ⟨A1, c1, rfl, _, E1⟩
  rw [HK.out]
  have E01 := E0.trans E1
  have kb := (hbox.out.ext E1).two
  clear HM E1 E0
  by_cases h0 : 0 < K
  · have h0i : (0 : Int) < (K : Int) := by omega
    have HS := Lib.hid (show seenL l nx g = !o by rw [HS.out, decide_eq_true h0]; rfl)
    go_wp2_with fail
    refine (HO.out w1 E01).mono ?_
    rw [HOO.out]
    rintro e w2 ⟨rfl, E2⟩
    have E02 := E01.trans E2
    go_wp2
    go_ret
    exact ⟨by rw [HS.out]; rfl, E02⟩
  · have h0i : ¬ (0 : Int) < (K : Int) := by omega
    have HS := Lib.hid (show seenL l nx g = false by rw [HS.out, decide_eq_false h0]; rfl)
    clear HO
    go_wp2
    go_ret
    exact ⟨by rw [HS.out]; rfl, E01⟩
end Go.Proofs.YteljobleojhgmaaGreat
