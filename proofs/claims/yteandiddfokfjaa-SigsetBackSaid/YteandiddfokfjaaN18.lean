/- Sigset: the document's examples answer true; names and numbers are the document's. No condition. -/
import Derived.Test.YteandiddfokfjaaM18
namespace Go.Proofs.Yteandiddfokfjaa
open Go.RowKit Go.Kb Go.Kb.Bits

def tstp : List Int := zero32.set 20 1
theorem ex_act : actL zero32 20 1 = (tstp, 0) := by decide +kernel
theorem ex_eff1 : effL zero32 20 = 4 := by decide +kernel
theorem ex_eff2 : effL tstp 20 = 3 := by decide +kernel
theorem ex_num : numL ⟨#[83, 73, 71, 73, 78, 84]⟩ = (0, false) := by decide +kernel
theorem ex_pick : pickL (ofL [2, 9]) (ofL [2, 9]) = (9, true) := by decide +kernel
theorem Blk.castV {w : World} {g : Nat} {t : TypeId} {a b : Array Value} (h : Blk w g t a) (e : a = b) : Blk w g t b := e ▸ h
set_option maxRecDepth 100000 in
set_option maxHeartbeats 800000 in
theorem alive_any (w : World) : Calls Try.prog 8 #[] w fun e w' => e = .returned (.bool true) ∧ Ext w w' := by
  have f1 := fun w' => name_any 2 w'
  have f2 := fun w' => number_any ⟨#[83, 73, 71, 73, 78, 84]⟩ w'
  have f3 := fun w' => act_any zero32 20 1 w' rfl
  have f4 := fun v w' h => of_set_any v [2, 9] w' h
  have f5 := fun w' => pick_any (ofL [2, 9]) (ofL [2, 9]) w' (ofL_bd _) (ofL_bd _)
  have f6 := fun w' => effect_any zero32 20 w' rfl
  have f7 := fun w' => effect_any tstp 20 w' rfl
  rw [show isL 2 = true from rfl, if_pos rfl, show nameB (Int.toNat 2) = ⟨#[73, 78, 84]⟩ from rfl] at f1
  rw [ex_num] at f2
  rw [ex_act] at f3
  rw [ex_pick] at f5
  rw [ex_eff1] at f6
  rw [ex_eff2] at f7
  simp only at f2 f3 f5
  have hz := arrV_size (a := zero32) rfl
  have hb := arrV_size (a := tstp) rfl
  have h1b := Lib.hid (arrV_one tstp)
  have hza := zero32_arr
  generalize ofL [2, 9] = o at *
  generalize arrV zero32 = cz at *
  generalize arrV tstp = cb at *
  have F1 := Lib.hid f1
  have F2 := Lib.hid f2
  have F3 := Lib.hid f3
  have F4 := Lib.hid f4
  have F5 := Lib.hid f5
  have F6 := Lib.hid f6
  have F7 := Lib.hid f7
  have HZA := Lib.hid hza
  clear f1 f2 f3 f4 f5 f6 f7 hza
  have hi : (Try.prog.info? 39).map (·.size) = some cz.size := by rw [hz]; exact arr_info
  have hib : (Try.prog.info? 39).map (·.size) = some cb.size := by rw [hb]; exact arr_info
  have hzb : Hid ((#[.int .i64 0, .int .i64 0, .int .i64 0, .int .i64 0, .int .i64 0, .int .i64 0, .int .i64 0, .int .i64 0, .int .i64 0, .int .i64 0, .int .i64 0, .int .i64 0, .int .i64 0, .int .i64 0, .int .i64 0, .int .i64 0, .int .i64 0, .int .i64 0, .int .i64 0, .int .i64 0, .int .i64 0, .int .i64 0, .int .i64 0, .int .i64 0, .int .i64 0, .int .i64 0, .int .i64 0, .int .i64 0, .int .i64 0, .int .i64 0, .int .i64 0, .int .i64 0] : Array Value).size = cb.size) := Lib.hid (by rw [hb]; rfl)
  have hs : ((⟨#[73, 78, 84]⟩ : ByteArray).toList == (⟨#[73, 78, 84]⟩ : ByteArray).toList) = true := by simp
  go_enter Try.func8, Try.ntmps8
  go_wp2_with fail
  (with_reducible refine (F1.out _).mono ?_); rintro e w1 ⟨rfl, E1⟩
  go_wp2_with fail
  (with_reducible refine (F2.out _).mono ?_); rintro e w2 ⟨rfl, E2⟩
  have E02 : Ext w w2 := (by repeat (first | with_reducible exact Ext.refl _ | refine Ext.drewN ?_ _ | refine Ext.drew ?_ | refine Ext.alloc ?_ _ | assumption | (refine Below.trans ?_ (by assumption)) | (refine Ext.trans ?_ (by assumption)) | (refine Below.trans ?_ (Below.mono (by assumption) (by omega)))))
  clear E1 E2
  have hA := Lib.hid (Blk.castV (Blk.new w2 39 #[.int .i64 0, .int .i64 0, .int .i64 0, .int .i64 0, .int .i64 0, .int .i64 0, .int .i64 0, .int .i64 0, .int .i64 0, .int .i64 0, .int .i64 0, .int .i64 0, .int .i64 0, .int .i64 0, .int .i64 0, .int .i64 0, .int .i64 0, .int .i64 0, .int .i64 0, .int .i64 0, .int .i64 0, .int .i64 0, .int .i64 0, .int .i64 0, .int .i64 0, .int .i64 0, .int .i64 0, .int .i64 0, .int .i64 0, .int .i64 0, .int .i64 0, .int .i64 0]) HZA.out.symm)
  go_wp2_with ((refine wpList_load_row rfl 39 _ rfl _ rfl 39 _ _ _ hA.out Try.underlying39 rfl hi ?_))
  (with_reducible refine (F3.out _).mono ?_); rintro e w3 ⟨rfl, E3⟩
  have hA := Lib.hid (hA.out.ext E3)
  have E03 : Ext w w3 := E02.trans (by repeat (first | with_reducible exact Ext.refl _ | refine Ext.drewN ?_ _ | refine Ext.drew ?_ | refine Ext.alloc ?_ _ | assumption | (refine Below.trans ?_ (by assumption)) | (refine Ext.trans ?_ (by assumption)) | (refine Below.trans ?_ (Below.mono (by assumption) (by omega)))))
  clear E3 E02
  go_wp2_with (refine wpList_store_A rfl 39 _ _ rfl w3.heap.size _ rfl rfl 39 _ (Blk.at_ _ _ rfl) hib hzb.out h1b.out ?_; intro w4 H4 E4; have E4 : Ext w3 w4 := E4 w3.heap.size w3 (by repeat (first | with_reducible exact Ext.refl _ | refine Ext.drewN ?_ _ | refine Ext.drew ?_ | refine Ext.alloc ?_ _ | assumption | (refine Below.trans ?_ (by assumption)) | (refine Ext.trans ?_ (by assumption)) | (refine Below.trans ?_ (Below.mono (by assumption) (by omega))))) (Nat.le_refl _); have H4 := Lib.hid H4)
  have hA := Lib.hid (hA.out.ext E4)
  refine (F4.out _ _ (RI.lit (w := w4) .i64 [2, 9] _ rfl (by simp))).mono ?_; rintro e w5 ⟨rfl, E5⟩
  have E45 : Ext w4 w5 := (by repeat (first | with_reducible exact Ext.refl _ | refine Ext.drewN ?_ _ | refine Ext.drew ?_ | refine Ext.alloc ?_ _ | assumption | (refine Below.trans ?_ (by assumption)) | (refine Ext.trans ?_ (by assumption)) | (refine Below.trans ?_ (Below.mono (by assumption) (by omega)))))
  have hA := Lib.hid (hA.out.ext E45)
  have hB := Lib.hid (H4.out.ext E45)
  have E05 : Ext w w5 := E03.trans (E4.trans E45)
  clear E4 E45 E5 E03
  go_wp2_with fail
  (with_reducible refine (F5.out _).mono ?_); rintro e w6 ⟨rfl, E6⟩
  have hA := Lib.hid (hA.out.ext E6)
  have hB := Lib.hid (hB.out.ext E6)
  go_wp2_with (refine wpList_openG rfl rfl ?_; (refine wpList_load_row rfl 39 _ rfl _ rfl 39 _ _ _ hA.out Try.underlying39 rfl hi ?_))
  (with_reducible refine (F6.out _).mono ?_); rintro e w7 ⟨rfl, E7⟩
  go_wp2_with (refine wpList_openG rfl rfl ?_; (refine wpList_load_row rfl 39 _ rfl _ rfl 39 _ _ _ (Blk.ext hB.out E7) Try.underlying39 rfl hib ?_))
  (with_reducible refine (F7.out _).mono ?_); rintro e w8 ⟨rfl, E8⟩
  go_wp2
  go_ret
  exact ⟨rfl, E05.trans (by repeat (first | with_reducible exact Ext.refl _ | refine Ext.drewN ?_ _ | refine Ext.drew ?_ | refine Ext.alloc ?_ _ | assumption | (refine Below.trans ?_ (by assumption)) | (refine Ext.trans ?_ (by assumption)) | (refine Below.trans ?_ (Below.mono (by assumption) (by omega)))))⟩
set_option maxRecDepth 100000 in
set_option maxHeartbeats 800000 in
theorem sigsetNames_walk (sig : Int) (name : ByteArray) (w : World) :
    Calls Try.prog 7 #[.int .i64 sig, .string name] w fun e w' => e = .returned (.bool true) ∧ Ext w w' := by
  have f1 := fun w' => name_any sig w'
  have f2 := fun w' => rname_any sig w'
  have f3 := fun w' => number_any name w'
  have f4 := fun w' => rnumber_any name w'
  rw [rnum_num] at f4
  have f5 := fun w' => wire_any sig w'
  have f6 := fun w' => rwire_any sig w'
  generalize (if isL sig then nameB sig.toNat else ⟨#[]⟩) = s at *
  generalize isL sig = il at *
  generalize numL name = nl at *
  generalize wireL sig = wl at *
  obtain ⟨n, nb⟩ := nl
  simp only at f3 f4
  have F1 := Lib.hid f1
  have F2 := Lib.hid f2
  have F3 := Lib.hid f3
  have F4 := Lib.hid f4
  have F5 := Lib.hid f5
  have F6 := Lib.hid f6
  clear f1 f2 f3 f4 f5 f6
  have b1 : (s.toList == s.toList) = true := by simp
  have b2 : (il == il) = true := by simp
  have b3 : (n == n) = true := by simp
  have b4 : (nb == nb) = true := by simp
  have b5 : (wl == wl) = true := by simp
  go_enter Try.func7, Try.ntmps7
  (go_wp2_with fail; refine (alive_any _).mono ?_; rintro e w1 ⟨rfl, E1⟩)
  go_wp2_with fail
  (with_reducible refine (F1.out _).mono ?_); rintro e w2 ⟨rfl, E2⟩
  go_wp2_with fail
  (with_reducible refine (F2.out _).mono ?_); rintro e w3 ⟨rfl, E3⟩
  go_wp2_with fail
  (with_reducible refine (F3.out _).mono ?_); rintro e w4 ⟨rfl, E4⟩
  go_wp2_with fail
  (with_reducible refine (F4.out _).mono ?_); rintro e w5 ⟨rfl, E5⟩
  go_wp2_with fail
  (with_reducible refine (F5.out _).mono ?_); rintro e w6 ⟨rfl, E6⟩
  go_wp2_with fail
  (with_reducible refine (F6.out _).mono ?_); rintro e w7 ⟨rfl, E7⟩
  go_wp2
  go_ret
  exact ⟨by simp, (by repeat (first | with_reducible exact Ext.refl _ | refine Ext.drewN ?_ _ | refine Ext.drew ?_ | refine Ext.alloc ?_ _ | assumption | (refine Below.trans ?_ (by assumption)) | (refine Ext.trans ?_ (by assumption)) | (refine Below.trans ?_ (Below.mono (by assumption) (by omega)))))⟩
end Go.Proofs.Yteandiddfokfjaa
