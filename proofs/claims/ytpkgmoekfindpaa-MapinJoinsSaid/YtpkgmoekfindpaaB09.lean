/- The way of a byte that comes in through its steps, by contract. Conditions: the setting is one, bytes are bytes. -/
import Derived.Test.YtpkgmoekfindpaaA09
namespace Go.Proofs.Ytpkgmoekfindpaa
open Go.RowKit Go.Kb

theorem steps_any (w : World) : Calls Try.prog 25 #[] w fun e w' => e = .returned (.agg #[.func (.func 29) #[] #[], .func (.func 30) #[] #[], .func (.func 31) #[] #[]]) ∧ Ext w w' := by
  have hi : (Try.prog.info? 52).map (·.size) = some 3 := by kernel_rfl
  go_enter Try.func25, Try.ntmps25
  go_wp2_with (refine wpList_store_A rfl 52 _ _ rfl w.heap.size _ rfl rfl 52 _ (show Blk _ _ _ _ from Blk.at_ _ _ (by simp)) hi rfl (by simp [Value.oneCell']) ?_; intro w2 HB E2; have E2 := E2 w.heap.size w (by repeat (first | with_reducible exact Ext.refl _ | refine Ext.drewN ?_ _ | refine Ext.drew ?_ | refine Ext.alloc ?_ _ | assumption | (refine Below.trans ?_ (by assumption)) | (refine Ext.trans ?_ (by assumption)) | (refine Below.trans ?_ (Below.mono (by assumption) (by omega))))) (Nat.le_refl _))
  refine bodyPost_ret_by (results_cell_row Try.results25 _ _ w.heap.size 52 _ _ _ rfl HB Try.underlying52 rfl hi) rfl ?_
  exact ⟨rfl, E2⟩
set_option maxHeartbeats 800000 in
theorem through02_any (t : Tm) (c : Int) (w : World) (ht : t.Ok) (hc : 0 ≤ c ∧ c ≤ 255) : Calls Try.prog 20 #[.agg t.arr, .int .u8 c, .int .i64 0, .int .i64 2] w (SPost w (stripL (mfL t) c, true)) := by
  have hn := t.size ht
  have hL := fun c w' hc => low_any t c w' ht hc
  have hS := fun c w' hc => small_any t c w' ht hc
  have hE := fun c w' => ends_any t c w' ht
  generalize mfL t = f at *
  generalize t.arr = cs at *
  clear ht
  have HL := Lib.hid hL
  have HS := Lib.hid hS
  have HE := Lib.hid hE
  clear hL hS hE
  have hi : (Try.prog.info? 47).map (·.size) = some cs.size := by rw [hn]; kernel_rfl
  have hi3 : (Try.prog.info? 52).map (·.size) = some 3 := by kernel_rfl
  have hT := Lib.hid (Blk.new w 47 cs)
  have HC := Lib.hid hc
  clear hc
  go_enter Try.func20, Try.ntmps20
  (go_wp2_with fail; refine (steps_any _).mono ?_; rintro e w1 ⟨rfl, E1⟩)
  have E01 : Ext (w.alloc (.cells cs 47)) w1 := E1
  go_wp2_with (refine wpList_store_A rfl 52 _ _ rfl w1.heap.size _ rfl rfl 52 _ (show Blk _ _ _ _ from Blk.at_ _ _ (by simp)) hi3 rfl (by simp [Value.oneCell']) ?_; intro w2 HB2 E2; have E2 := E2 w1.heap.size w1 (by repeat (first | with_reducible exact Ext.refl _ | refine Ext.drewN ?_ _ | refine Ext.drew ?_ | refine Ext.alloc ?_ _ | assumption | (refine Below.trans ?_ (by assumption)) | (refine Ext.trans ?_ (by assumption)) | (refine Below.trans ?_ (Below.mono (by assumption) (by omega))))) (Nat.le_refl _); have HB2 := Lib.hid HB2)
  have E02 : Ext (w.alloc (.cells cs 47)) w2 := E01.trans E2
  clear E1 E01 E2
  go_loopw [1, 19] (fun x i wr => ((i = .int .i64 0 ∧ x = .int .u8 c) ∨ (i = .int .i64 1 ∧ x = .int .u8 (lowL f c)) ∨ (i = .int .i64 2 ∧ x = .int .u8 (stripL f c))) ∧ Ext w2 wr) (fun _ i _ => 2 - (intOf i).toNat)
  case atStart => exact ⟨.inl ⟨rfl, rfl⟩, Ext.refl _⟩
  case round =>
    obtain ⟨hk, E2r⟩ := hrel
    have E0r := E02.trans E2r
    rcases hk with ⟨rfl, rfl⟩ | ⟨rfl, rfl⟩ | ⟨rfl, rfl⟩
    · have hcell := (HB2.out.ext E2r).cell 0
      simp only [List.getElem?_toArray, List.getElem?_cons_zero] at hcell
      clear E02
      go_wp2_with ((refine wpList_load_row rfl 47 _ rfl _ rfl 47 _ _ _ (Blk.ext hT.out (by repeat (first | with_reducible exact Ext.refl _ | refine Ext.drewN ?_ _ | refine Ext.drew ?_ | refine Ext.alloc ?_ _ | assumption | (refine Below.trans ?_ (by assumption)) | (refine Ext.trans ?_ (by assumption)) | (refine Below.trans ?_ (Below.mono (by assumption) (by omega)))))) Try.underlying47 rfl hi ?_))
      (with_reducible refine (HL.out c _ HC.out).mono ?_); rintro e w3 ⟨rfl, E3⟩
      go_wp2
      go_roundw
      case rel => exact ⟨.inr (.inl ⟨rfl, rfl⟩), E2r.trans E3⟩
      case measure => simp [intOf]
    · have hcell := (HB2.out.ext E2r).cell 1
      simp only [List.getElem?_toArray, List.getElem?_cons_succ, List.getElem?_cons_zero] at hcell
      clear E02
      go_wp2_with ((refine wpList_load_row rfl 47 _ rfl _ rfl 47 _ _ _ (Blk.ext hT.out (by repeat (first | with_reducible exact Ext.refl _ | refine Ext.drewN ?_ _ | refine Ext.drew ?_ | refine Ext.alloc ?_ _ | assumption | (refine Below.trans ?_ (by assumption)) | (refine Ext.trans ?_ (by assumption)) | (refine Below.trans ?_ (Below.mono (by assumption) (by omega)))))) Try.underlying47 rfl hi ?_))
      (with_reducible refine (HS.out (lowL f c) _ (lowL_bd HC.out)).mono ?_); rintro e w3 ⟨rfl, E3⟩
      go_wp2
      go_roundw
      case rel => exact ⟨.inr (.inr ⟨rfl, rfl⟩), E2r.trans E3⟩
      case measure => simp [intOf]
    ·
      go_wp2
      refine bodyPost_ret (v := .tuple #[.int .u8 (stripL f c), .bool true]) (by simp [results, Try.results20, go_sem]) rfl ?_
      exact ⟨rfl, Ext.trans ((Ext.refl w).alloc _) E0r⟩
set_option maxHeartbeats 800000 in
theorem through23_any (t : Tm) (c : Int) (w : World) (ht : t.Ok) (hc : 0 ≤ c ∧ c ≤ 255) : Calls Try.prog 20 #[.agg t.arr, .int .u8 c, .int .i64 2, .int .i64 3] w (SPost w (endsL (mfL t) c)) := by
  have hn := t.size ht
  have hL := fun c w' hc => low_any t c w' ht hc
  have hS := fun c w' hc => small_any t c w' ht hc
  have hE := fun c w' => ends_any t c w' ht
  generalize mfL t = f at *
  generalize t.arr = cs at *
  clear ht
  have HL := Lib.hid hL
  have HS := Lib.hid hS
  have HE := Lib.hid hE
  clear hL hS hE
  have hi : (Try.prog.info? 47).map (·.size) = some cs.size := by rw [hn]; kernel_rfl
  have hi3 : (Try.prog.info? 52).map (·.size) = some 3 := by kernel_rfl
  have hT := Lib.hid (Blk.new w 47 cs)
  have HC := Lib.hid hc
  clear hc
  go_enter Try.func20, Try.ntmps20
  (go_wp2_with fail; refine (steps_any _).mono ?_; rintro e w1 ⟨rfl, E1⟩)
  have E01 : Ext (w.alloc (.cells cs 47)) w1 := E1
  go_wp2_with (refine wpList_store_A rfl 52 _ _ rfl w1.heap.size _ rfl rfl 52 _ (show Blk _ _ _ _ from Blk.at_ _ _ (by simp)) hi3 rfl (by simp [Value.oneCell']) ?_; intro w2 HB2 E2; have E2 := E2 w1.heap.size w1 (by repeat (first | with_reducible exact Ext.refl _ | refine Ext.drewN ?_ _ | refine Ext.drew ?_ | refine Ext.alloc ?_ _ | assumption | (refine Below.trans ?_ (by assumption)) | (refine Ext.trans ?_ (by assumption)) | (refine Below.trans ?_ (Below.mono (by assumption) (by omega))))) (Nat.le_refl _); have HB2 := Lib.hid HB2)
  have E02 : Ext (w.alloc (.cells cs 47)) w2 := E01.trans E2
  clear E1 E01 E2
  have HX := Lib.hid fun w' => HE.out c w'
  have HY : Hid ((endsL f c).2 = false → (endsL f c).1 = 0) := Lib.hid (by
    unfold endsL
    repeat' split
    all_goals simp)
  clear HE
  generalize endsL f c = z at *
  obtain ⟨zx, zb⟩ := z
  go_loopw [1, 19] (fun x i wr => ((i = .int .i64 0 ∧ x = .int .u8 c) ∨ (i = .int .i64 1 ∧ x = .int .u8 zx ∧ zb = true)) ∧ Ext w2 wr) (fun _ i _ => 1 - (intOf i).toNat)
  case atStart => exact ⟨.inl ⟨rfl, rfl⟩, Ext.refl _⟩
  case round =>
    obtain ⟨hk, E2r⟩ := hrel
    have E0r := E02.trans E2r
    rcases hk with ⟨rfl, rfl⟩ | ⟨rfl, rfl, rfl⟩
    · have hcell := (HB2.out.ext E2r).cell 2
      simp only [List.getElem?_toArray, List.getElem?_cons_succ, List.getElem?_cons_zero] at hcell
      clear E02
      go_wp2_with ((refine wpList_load_row rfl 47 _ rfl _ rfl 47 _ _ _ (Blk.ext hT.out (by repeat (first | with_reducible exact Ext.refl _ | refine Ext.drewN ?_ _ | refine Ext.drew ?_ | refine Ext.alloc ?_ _ | assumption | (refine Below.trans ?_ (by assumption)) | (refine Ext.trans ?_ (by assumption)) | (refine Below.trans ?_ (Below.mono (by assumption) (by omega)))))) Try.underlying47 rfl hi ?_))
      (with_reducible refine (HX.out _).mono ?_); rintro e w3 ⟨rfl, E3⟩
      cases zb
      · obtain rfl : zx = 0 := HY.out rfl
        go_wp2
        refine bodyPost_ret (v := .tuple #[.int .u8 0, .bool false]) (by simp [results, Try.results20, go_sem]) rfl ?_
        exact ⟨rfl, Ext.trans ((Ext.refl w).alloc _) (E0r.trans E3)⟩
      · go_wp2
        go_roundw
        case rel => exact ⟨.inr ⟨rfl, rfl, by trivial⟩, E2r.trans E3⟩
        case measure => simp [intOf]
    ·
      go_wp2
      refine bodyPost_ret (v := .tuple #[.int .u8 zx, .bool true]) (by simp [results, Try.results20, go_sem]) rfl ?_
      exact ⟨rfl, Ext.trans ((Ext.refl w).alloc _) E0r⟩
set_option maxHeartbeats 800000 in
theorem through03_any (t : Tm) (c : Int) (w : World) (ht : t.Ok) (hc : 0 ≤ c ∧ c ≤ 255) : Calls Try.prog 20 #[.agg t.arr, .int .u8 c, .int .i64 0, .int .i64 3] w (SPost w (endsL (mfL t) (stripL (mfL t) c))) := by
  have hn := t.size ht
  have hL := fun c w' hc => low_any t c w' ht hc
  have hS := fun c w' hc => small_any t c w' ht hc
  have hE := fun c w' => ends_any t c w' ht
  generalize mfL t = f at *
  generalize t.arr = cs at *
  clear ht
  have HL := Lib.hid hL
  have HS := Lib.hid hS
  have HE := Lib.hid hE
  clear hL hS hE
  have hi : (Try.prog.info? 47).map (·.size) = some cs.size := by rw [hn]; kernel_rfl
  have hi3 : (Try.prog.info? 52).map (·.size) = some 3 := by kernel_rfl
  have hT := Lib.hid (Blk.new w 47 cs)
  have HC := Lib.hid hc
  clear hc
  go_enter Try.func20, Try.ntmps20
  (go_wp2_with fail; refine (steps_any _).mono ?_; rintro e w1 ⟨rfl, E1⟩)
  have E01 : Ext (w.alloc (.cells cs 47)) w1 := E1
  go_wp2_with (refine wpList_store_A rfl 52 _ _ rfl w1.heap.size _ rfl rfl 52 _ (show Blk _ _ _ _ from Blk.at_ _ _ (by simp)) hi3 rfl (by simp [Value.oneCell']) ?_; intro w2 HB2 E2; have E2 := E2 w1.heap.size w1 (by repeat (first | with_reducible exact Ext.refl _ | refine Ext.drewN ?_ _ | refine Ext.drew ?_ | refine Ext.alloc ?_ _ | assumption | (refine Below.trans ?_ (by assumption)) | (refine Ext.trans ?_ (by assumption)) | (refine Below.trans ?_ (Below.mono (by assumption) (by omega))))) (Nat.le_refl _); have HB2 := Lib.hid HB2)
  have E02 : Ext (w.alloc (.cells cs 47)) w2 := E01.trans E2
  clear E1 E01 E2
  have HX := Lib.hid fun w' => HE.out (stripL f c) w'
  have HY : Hid ((endsL f (stripL f c)).2 = false → (endsL f (stripL f c)).1 = 0) := Lib.hid (by
    unfold endsL
    repeat' split
    all_goals simp)
  clear HE
  generalize endsL f (stripL f c) = z at *
  obtain ⟨zx, zb⟩ := z
  go_loopw [1, 19] (fun x i wr => ((i = .int .i64 0 ∧ x = .int .u8 c) ∨ (i = .int .i64 1 ∧ x = .int .u8 (lowL f c)) ∨ (i = .int .i64 2 ∧ x = .int .u8 (stripL f c)) ∨ (i = .int .i64 3 ∧ x = .int .u8 zx ∧ zb = true)) ∧ Ext w2 wr) (fun _ i _ => 3 - (intOf i).toNat)
  case atStart => exact ⟨.inl ⟨rfl, rfl⟩, Ext.refl _⟩
  case round =>
    obtain ⟨hk, E2r⟩ := hrel
    have E0r := E02.trans E2r
    rcases hk with ⟨rfl, rfl⟩ | ⟨rfl, rfl⟩ | ⟨rfl, rfl⟩ | ⟨rfl, rfl, rfl⟩
    · have hcell := (HB2.out.ext E2r).cell 0
      simp only [List.getElem?_toArray, List.getElem?_cons_zero] at hcell
      clear E02
      go_wp2_with ((refine wpList_load_row rfl 47 _ rfl _ rfl 47 _ _ _ (Blk.ext hT.out (by repeat (first | with_reducible exact Ext.refl _ | refine Ext.drewN ?_ _ | refine Ext.drew ?_ | refine Ext.alloc ?_ _ | assumption | (refine Below.trans ?_ (by assumption)) | (refine Ext.trans ?_ (by assumption)) | (refine Below.trans ?_ (Below.mono (by assumption) (by omega)))))) Try.underlying47 rfl hi ?_))
      (with_reducible refine (HL.out c _ HC.out).mono ?_); rintro e w3 ⟨rfl, E3⟩
      go_wp2
      go_roundw
      case rel => exact ⟨.inr (.inl ⟨rfl, rfl⟩), E2r.trans E3⟩
      case measure => simp [intOf]
    · have hcell := (HB2.out.ext E2r).cell 1
      simp only [List.getElem?_toArray, List.getElem?_cons_succ, List.getElem?_cons_zero] at hcell
      clear E02
      go_wp2_with ((refine wpList_load_row rfl 47 _ rfl _ rfl 47 _ _ _ (Blk.ext hT.out (by repeat (first | with_reducible exact Ext.refl _ | refine Ext.drewN ?_ _ | refine Ext.drew ?_ | refine Ext.alloc ?_ _ | assumption | (refine Below.trans ?_ (by assumption)) | (refine Ext.trans ?_ (by assumption)) | (refine Below.trans ?_ (Below.mono (by assumption) (by omega)))))) Try.underlying47 rfl hi ?_))
      (with_reducible refine (HS.out (lowL f c) _ (lowL_bd HC.out)).mono ?_); rintro e w3 ⟨rfl, E3⟩
      go_wp2
      go_roundw
      case rel => exact ⟨.inr (.inr (.inl ⟨rfl, rfl⟩)), E2r.trans E3⟩
      case measure => simp [intOf]
    · have hcell := (HB2.out.ext E2r).cell 2
      simp only [List.getElem?_toArray, List.getElem?_cons_succ, List.getElem?_cons_zero] at hcell
      clear E02
      go_wp2_with ((refine wpList_load_row rfl 47 _ rfl _ rfl 47 _ _ _ (Blk.ext hT.out (by repeat (first | with_reducible exact Ext.refl _ | refine Ext.drewN ?_ _ | refine Ext.drew ?_ | refine Ext.alloc ?_ _ | assumption | (refine Below.trans ?_ (by assumption)) | (refine Ext.trans ?_ (by assumption)) | (refine Below.trans ?_ (Below.mono (by assumption) (by omega)))))) Try.underlying47 rfl hi ?_))
      (with_reducible refine (HX.out _).mono ?_); rintro e w3 ⟨rfl, E3⟩
      cases zb
      · obtain rfl : zx = 0 := HY.out rfl
        go_wp2
        refine bodyPost_ret (v := .tuple #[.int .u8 0, .bool false]) (by simp [results, Try.results20, go_sem]) rfl ?_
        exact ⟨rfl, Ext.trans ((Ext.refl w).alloc _) (E0r.trans E3)⟩
      · go_wp2
        go_roundw
        case rel => exact ⟨.inr (.inr (.inr ⟨rfl, rfl, by trivial⟩)), E2r.trans E3⟩
        case measure => simp [intOf]
    ·
      go_wp2
      refine bodyPost_ret (v := .tuple #[.int .u8 zx, .bool true]) (by simp [results, Try.results20, go_sem]) rfl ?_
      exact ⟨rfl, Ext.trans ((Ext.refl w).alloc _) E0r⟩
end Go.Proofs.Ytpkgmoekfindpaa
