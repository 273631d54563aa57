/- With ECHOCTL no byte without a sign is shown, without it a line is shown as it is, walked. Conditions: the setting is one, bytes are bytes. -/
import Derived.Test.YtjgheofaflgagaaE11
namespace Go.Proofs.Ytjgheofaflgagaa
open Go.RowKit Go.Kb

set_option maxRecDepth 100000 in
set_option maxHeartbeats 800000 in
theorem echoSigns_walk (t : Tm) (v : Value) (l : List Int) (w : World) (ht : t.Ok) (hl : RI .u8 w v l) (hB : Bs l) :
    Calls Try.prog 7 #[.agg t.arr, v] w fun e w' => e = .returned (.bool true) ∧ Ext w w' := by
  have hn := t.size ht
  have hS1 := fun w' => set_any t 60 true w' ht
  have hS0 := fun w' => set_any t 60 false w' ht
  have hL1 := fun v w' hl hlen => line_any (setL t 60 true) v l w' (setL_ok ht 60 true) hl hB hlen
  have hL0 := fun v w' hl hlen => line_any (setL t 60 false) v l w' (setL_ok ht 60 false) hl hB hlen
  have e1 : hasL (setL t 60 true) 60 = true := by rw [hasL_setL ht]; simp [flagL]
  have e0 : hasL (setL t 60 false) 60 = false := by rw [hasL_setL ht]; simp [flagL]
  rw [e1] at hL1
  rw [e0, lineL_off] at hL0
  have hQ := fun x hx => lineL_on (x := x) hB hx
  have hml := lineL_len true l
  clear e1 e0
  generalize lineL true l = m at *
  generalize (setL t 60 true).arr = c1 at *
  generalize (setL t 60 false).arr = c0 at *
  generalize t.arr = cs at *
  obtain ⟨Ad, c, rfl, hc1, hc2⟩ := hl.shape
  have H0 := Lib.hid hl
  have HS1 := Lib.hid hS1
  have HS0 := Lib.hid hS0
  have HL1 := Lib.hid hL1
  have HL0 := Lib.hid hL0
  have HQ := Lib.hid hQ
  clear hl hB hS1 hS0 hL1 hL0 hQ ht
  have hi : (Try.prog.info? 26).map (·.size) = some cs.size := by rw [hn]; kernel_rfl
  have hT0 := Lib.hid (Blk.new w 26 cs)
  go_enter Try.func7, Try.ntmps7
  (go_wp2_with fail; refine (alive_any _).mono ?_; rintro e w1 ⟨rfl, E1⟩)
  have hT := Lib.hid (hT0.out.ext E1)
  have E01 : Ext w w1 := (by repeat (first | with_reducible exact Ext.refl _ | refine Ext.drewN ?_ _ | refine Ext.drew ?_ | refine Ext.alloc ?_ _ | assumption | (refine Below.trans ?_ (by assumption)) | (refine Ext.trans ?_ (by assumption)) | (refine Below.trans ?_ (Below.mono (by assumption) (by omega)))))
  have H := Lib.hid (RdN.ext H0.out E01)
  clear E1 hT0 H0
  by_cases hbig : 2000 < l.length
  · go_wp2
    go_ret
    exact ⟨rfl, E01⟩
  · have hlen : l.length ≤ 1000000 := by omega
    go_wp2_with ((refine wpList_load_row rfl 26 _ rfl _ rfl 26 _ _ _ (Blk.ext hT.out (by repeat (first | with_reducible exact Ext.refl _ | refine Ext.drewN ?_ _ | refine Ext.drew ?_ | refine Ext.alloc ?_ _ | assumption | (refine Below.trans ?_ (by assumption)) | (refine Ext.trans ?_ (by assumption)) | (refine Below.trans ?_ (Below.mono (by assumption) (by omega)))))) Try.underlying26 rfl hi ?_))
    (with_reducible refine (HS1.out _).mono ?_); rintro e w2 ⟨rfl, E2⟩
    go_wp2_with fail
    (with_reducible refine (HL1.out _ _ (RdN.ext H.out E2) hlen).mono ?_); rintro e w3 ⟨A3, n3, c3, l3, rfl, o3, E3⟩
    have R3 : Hid (RI .u8 w3 (.slice A3 n3 c3) m) := Lib.hid o3.rdT.ri
    have l3 : m.length = n3 := l3
    have E13 : Ext w1 w3 := E2.trans E3
    have i6 : n3 ≤ 4000 := by omega
    have L3 := Lib.hid l3
    clear o3 l3 E2 E3 hml
    go_wp2
    go_loopw [17] (fun i wr => ∃ k : Nat, k ≤ n3 ∧ i = .int .i64 k ∧ Ext w3 wr) (fun i _ => n3 - (intOf i).toNat)
    case atStart => exact ⟨0, Nat.zero_le _, rfl, Ext.refl _⟩
    case round =>
      obtain ⟨k, hk, rfl, E3r⟩ := hrel
      have E1r := E13.trans E3r
      clear E13
      by_cases hlt : k < n3
      · obtain ⟨b, off, x, rfl, hx, hd⟩ := (RdN.ext R3.out E3r).icell hlt
        have hq := HQ.out x (List.mem_of_getElem? hd.out)
        have i127 : (x == 127) = false := by simpa using hq.2
        by_cases h32 : x < 32
        · have hq2 : x = 9 ∨ x = 10 := by omega
          rcases hq2 with rfl | rfl
          · clear hq i127
            go_wp2
            go_roundw
            case rel => exact ⟨k + 1, by omega, by go_num, (by repeat (first | with_reducible exact Ext.refl _ | refine Ext.drewN ?_ _ | refine Ext.drew ?_ | refine Ext.alloc ?_ _ | assumption | (refine Below.trans ?_ (by assumption)) | (refine Ext.trans ?_ (by assumption)) | (refine Below.trans ?_ (Below.mono (by assumption) (by omega)))))⟩
            case measure => simp [intOf]; omega
          · clear hq i127
            go_wp2
            go_roundw
            case rel => exact ⟨k + 1, by omega, by go_num, (by repeat (first | with_reducible exact Ext.refl _ | refine Ext.drewN ?_ _ | refine Ext.drew ?_ | refine Ext.alloc ?_ _ | assumption | (refine Below.trans ?_ (by assumption)) | (refine Ext.trans ?_ (by assumption)) | (refine Below.trans ?_ (Below.mono (by assumption) (by omega)))))⟩
            case measure => simp [intOf]; omega
        · clear hq
          go_wp2
          go_roundw
          case rel => exact ⟨k + 1, by omega, by go_num, (by repeat (first | with_reducible exact Ext.refl _ | refine Ext.drewN ?_ _ | refine Ext.drew ?_ | refine Ext.alloc ?_ _ | assumption | (refine Below.trans ?_ (by assumption)) | (refine Ext.trans ?_ (by assumption)) | (refine Below.trans ?_ (Below.mono (by assumption) (by omega)))))⟩
          case measure => simp [intOf]; omega
      · clear HL1 HS1 HQ
        go_wp2_with ((refine wpList_load_row rfl 26 _ rfl _ rfl 26 _ _ _ (Blk.ext hT.out (by repeat (first | with_reducible exact Ext.refl _ | refine Ext.drewN ?_ _ | refine Ext.drew ?_ | refine Ext.alloc ?_ _ | assumption | (refine Below.trans ?_ (by assumption)) | (refine Ext.trans ?_ (by assumption)) | (refine Below.trans ?_ (Below.mono (by assumption) (by omega)))))) Try.underlying26 rfl hi ?_))
        (with_reducible refine (HS0.out _).mono ?_); rintro e w5 ⟨rfl, E5⟩
        go_wp2_with fail
        (with_reducible refine (HL0.out _ _ (RdN.ext H.out (Ext.trans E1r E5)) hlen).mono ?_); rintro e w6 ⟨A6, n6, c6, l6, rfl, o6, E6⟩
        have R6 : Hid (RI .u8 w6 (.slice A6 n6 c6) l) := Lib.hid o6.rdT.ri
        clear o6 l6
        go_wp2_with fail
        (with_reducible refine (bytes_same _ _ l _ R6.out (RdN.ext H.out (Ext.trans E1r (Ext.trans E5 E6)))).mono ?_); rintro e w7 ⟨rfl, E7⟩
        go_wp2
        go_ret
        exact ⟨rfl, Ext.trans E01 (Ext.trans E1r (Ext.trans E5 (Ext.trans E6 E7)))⟩
end Go.Proofs.Ytjgheofaflgagaa
