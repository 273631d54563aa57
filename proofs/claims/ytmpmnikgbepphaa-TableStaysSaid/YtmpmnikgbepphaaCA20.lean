/- A group's members, by contract. No condition. -/
import Derived.Test.YtmpmnikgbepphaaBA20
namespace Go.Proofs.Ytmpmnikgbepphaa
open Go.RowKit Go.Kb

theorem info_i64 : (Try.prog.info? 3).map (fun i => (i.zero, i.size, i.bytes)) = some (some (.int .i64 0), Ib.size, 8) := by kernel_rfl
def memL (l : List Pr) (nx group : Int) : List Int := if rightL l nx = true then (l.filter (ofP group)).map (·.pid) else []
set_option maxRecDepth 100000 in
set_option maxHeartbeats 800000 in
theorem members_any {A : Nat → Prop} (Ad : Option Addr) (c : Nat) (l : List Pr) (nx group : Int) (w : World) (h : RdY Rp A w (.slice Ad l.length c) l) :
    Calls Try.prog 18 #[tv Ad l.length c nx, .int .i64 group] w fun e w' => ∃ A' c', e = .returned (.slice A' (memL l nx group).length c') ∧ OwnS Ib 3 w.heap.size (fun _ => False) w' (.slice A' (memL l nx group).length c') (memL l nx group) ∧ Ext w w' := by
  have H := Lib.hid (rdy_pr (B := fun _ => False) h)
  have hbox := Lib.hid (Blk.new w 29 #[.slice Ad l.length c, .int .i64 nx])
  clear h
  cases hr : rightL l nx
  · have HR := Lib.hid hr
    have HM := Lib.hid (show memL l nx group = [] by unfold memL; rw [hr]; rfl)
    clear hr
    go_enter Try.func18, Try.ntmps18
    go_wp2_with fail
    refine (right_any Ad c l nx _ (H.out.ext (by repeat (first | with_reducible exact Ext.refl _ | refine Ext.drewN ?_ _ | refine Ext.drew ?_ | refine Ext.alloc ?_ _ | assumption | (refine Below.trans ?_ (by assumption)) | (refine Ext.trans ?_ (by assumption)) | (refine Below.trans ?_ (Below.mono (by assumption) (by omega))))))).mono ?_
    rintro e w1 ⟨rfl, E1⟩
    rw [HR.out]
    have E01 : Ext w w1 := (by repeat (first | with_reducible exact Ext.refl _ | refine Ext.drewN ?_ _ | refine Ext.drew ?_ | refine Ext.alloc ?_ _ | assumption | (refine Below.trans ?_ (by assumption)) | (refine Ext.trans ?_ (by assumption)) | (refine Below.trans ?_ (Below.mono (by assumption) (by omega)))))
    go_wp2
    go_ret
    rw [HM.out]
    exact ⟨none, 0, rfl, OwnS.nil _ _ _ _ _, E01⟩
  · have HR := Lib.hid hr
    have hl := (right_len hr).1
    have HM := Lib.hid (show memL l nx group = (l.filter (ofP group)).map (·.pid) by unfold memL; rw [hr]; rfl)
    clear hr
    go_enter Try.func18, Try.ntmps18
    go_wp2_with fail
    refine (right_any Ad c l nx _ (H.out.ext (by repeat (first | with_reducible exact Ext.refl _ | refine Ext.drewN ?_ _ | refine Ext.drew ?_ | refine Ext.alloc ?_ _ | assumption | (refine Below.trans ?_ (by assumption)) | (refine Ext.trans ?_ (by assumption)) | (refine Below.trans ?_ (Below.mono (by assumption) (by omega))))))).mono ?_
    rintro e w1 ⟨rfl, E1⟩
    rw [HR.out]
    have E01 : Ext w w1 := (by repeat (first | with_reducible exact Ext.refl _ | refine Ext.drewN ?_ _ | refine Ext.drew ?_ | refine Ext.alloc ?_ _ | assumption | (refine Below.trans ?_ (by assumption)) | (refine Ext.trans ?_ (by assumption)) | (refine Below.trans ?_ (Below.mono (by assumption) (by omega)))))
    have kb := (hbox.out.ext E1).two
    clear E1 hbox
    go_wp2_with fail
    refine (of_any Ad c l nx group _ (H.out.ext E01) (by omega)).mono ?_
    rintro e w2 ⟨A2, c2, rfl, O2, E2⟩
    have E02 : Ext w w2 := E01.trans E2
    obtain ⟨L, hL⟩ : ∃ L, l.filter (ofP group) = L := ⟨_, rfl⟩
    have hLn : L.length ≤ 32 := by rw [← hL]; exact Nat.le_trans (List.length_filter_le _ _) hl
    rw [hL] at O2 HM ⊢
    obtain ⟨_, _, hv, hc1, _⟩ := O2.shape
    simp only [Value.slice.injEq] at hv
    obtain ⟨-, -, rfl⟩ := hv
    obtain ⟨N, hN⟩ : ∃ N, L.length = N := ⟨_, rfl⟩
    rw [hN] at O2 hLn hc1 ⊢
    have HN := Lib.hid hN
    have HO := Lib.hid (rdy_pr (B := fun _ => False) O2.y)
    clear hN hL O2 kb
    go_wp2
    go_loopw [5, 15] (fun o i wr => ∃ (m c' : Nat) (A' : Option Addr), m ≤ N ∧ i = .int .i64 m ∧ o = .slice A' m c' ∧ Hid (OwnS Ib 3 w2.heap.size (fun _ => False) wr (.slice A' m c') ((L.take m).map (·.pid))) ∧ Hid (Ext w2 wr)) (fun _ i _ => N - (intOf i).toNat)
    case atStart => exact ⟨0, 0, none, Nat.zero_le _, rfl, rfl, Lib.hid (OwnS.nil _ _ _ _ _), Lib.hid (Ext.refl _)⟩
    case round =>
      obtain ⟨m, c', A', hm, rfl, rfl, O, hE⟩ := hrel
      by_cases hmn : m < N
      · obtain ⟨b, off, p, rfl, hd, hok, hcell⟩ := pr_at (HO.out.ext hE.out) hmn
        have hws := hE.out.size
        have HY := Lib.hid (show (L.take (m + 1)).map (·.pid) = (L.take m).map (·.pid) ++ [p.pid] by rw [List.take_add_one, hd.out]; simp)
        have HZ := Lib.hid (show ((L.take m).map (·.pid)).length = m by rw [List.length_map, List.length_take]; have := HN.out; omega)
        go_wp2_with (first
          | (refine wpList_load_mid rfl 43 _ rfl b (off + m * 43) rfl p.cells _ hcell.out Try.underlying43 rfl (i43' hok) ?_)
          | ((refine wpList_store_A rfl 43 _ _ rfl (wr.heap.size) _ rfl rfl 43 _ (zero_row wr _ rfl) (by rw [List.size_toArray]; exact i43' hok) (Eq.trans (b := 43) (by rfl) (Eq.symm (show (p).cells.toArray.size = 43 from Pr.size hok))) (Pr.one hok) ?_); intro w4 H2 E4; have E4 : Ext wr w4 := E4 wr.heap.size wr ((Ext.refl wr).alloc _) (Nat.le_refl _); have c0 := (prAt_blk hok H2).c0; have hws4 := E4.size)
          | (at_builtin; refine wpList_app (e := Ib) (base := w2.heap.size) (B := fun _ => False) (A := fun _ => False) rfl (.tmp 19) (.tmp 22) rfl Try.underlying50 info_i64 rfl ((O.out.ext E4).alloc _) rfl (RdY.singleB (e := Ib) (cs := [.int .i64 p.pid]) (d := p.pid) rfl (Blk.at_ _ _ rfl)) rfl (fun _ _ h => h.elim) (N := m + 1) (by rw [HZ.out]; rfl) (by simp [maxLen]; omega) (by omega) (by simp; omega) ?_; intro A5 c5 w5 o5 M5 D5))
        have E5 : Hid (Ext w2 w5) := Lib.hid (Below.trans ((hE.out.trans E4).alloc _) D5)
        have o5 := Lib.hid o5
        clear M5 D5
        go_roundw
        case rel => exact ⟨m + 1, c5, A5, by omega, by go_num, rfl, Lib.hid (by rw [HY.out]; exact o5.out), E5⟩
        case measure => simp [intOf]; omega
      · obtain rfl : m = N := by omega
        have hf : memL l nx group = (L.take m).map (·.pid) := by rw [HM.out, List.take_of_length_le (by have := HN.out; omega)]
        have HF := Lib.hid hf
        have HFL := Lib.hid (show ((L.take m).map (·.pid)).length = m by rw [List.length_map, List.length_take]; have := HN.out; omega)
        clear hf
        go_wp2
        go_ret
        rw [HF.out, HFL.out]
        exact ⟨A', c', rfl, O.out.lower E02.size, E02.trans hE.out⟩
end Go.Proofs.Ytmpmnikgbepphaa
