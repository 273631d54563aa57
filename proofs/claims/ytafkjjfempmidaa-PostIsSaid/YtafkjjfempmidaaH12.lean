/- What goes out of bytes that are written is the document's, walked. Conditions: the setting is one, bytes are bytes. -/
import Derived.Test.YtafkjjfempmidaaG12
namespace Go.Proofs.Ytafkjjfempmidaa
open Go.RowKit Go.Kb

set_option maxRecDepth 100000 in
set_option maxHeartbeats 800000 in
theorem postIs_walk (t : Tm) (col : Int) (v : Value) (l : List Int) (w : World) (ht : t.Ok) (hl : RI .u8 w v l) (hB : Bs l) :
    Calls Try.prog 3 #[.agg t.arr, .int .i64 col, v] w fun e w' => e = .returned (.bool true) ∧ Ext w w' := by
  have hn := t.size ht
  have hF := fun v w' hl hlen => pbytes_any t col v l w' ht hl hB hlen
  have hG := fun v w' hl hlen => rbytes_any t col v l w' ht hl hB hlen
  have hF1 := fun c w' hc => pbyte_any t col c w' ht hc
  have hG1 := fun c w' hc => rbyte_any t col c w' ht hc
  generalize pfL t = p at *
  generalize t.arr = cs at *
  obtain ⟨Ad, c, rfl, hc1, hc2⟩ := hl.shape
  have H0 := Lib.hid hl
  have HB := Lib.hid hB
  have HF := Lib.hid hF
  have HG := Lib.hid hG
  have HF1 := Lib.hid hF1
  have HG1 := Lib.hid hG1
  clear hl hB hF hG hF1 hG1 ht
  generalize bytesL p col l = z at *
  obtain ⟨zo, zc⟩ := z
  have hi : (Try.prog.info? 26).map (·.size) = some cs.size := by rw [hn]; kernel_rfl
  have hT0 := Lib.hid (Blk.new w 26 cs)
  go_enter Try.func3, Try.ntmps3
  (go_wp2_with fail; refine (alive_any _).mono ?_; rintro e w1 ⟨rfl, E1⟩)
  have hT := Lib.hid (hT0.out.ext E1)
  have E01 : Ext w w1 := (by repeat (first | with_reducible exact Ext.refl _ | refine Ext.drewN ?_ _ | refine Ext.drew ?_ | refine Ext.alloc ?_ _ | assumption | (refine Below.trans ?_ (by assumption)) | (refine Ext.trans ?_ (by assumption)) | (refine Below.trans ?_ (Below.mono (by assumption) (by omega)))))
  have H := Lib.hid (RdN.ext H0.out E01)
  clear E1 hT0 H0
  by_cases hbig : 2000 < l.length
  · go_wp2
    go_ret
    exact ⟨rfl, E01⟩
  · have hlen : l.length ≤ 10000000 := by omega
    go_wp2_with (at_builtin; refine wpList_app (e := Ub) (base := w1.heap.size) (B := fun _ => False) (A := fun _ => False) rfl _ (.tmp 24) rfl Try.underlying27 info_u8 rfl (OwnS.empty _ _ _ rfl (Nat.le_refl _)) rfl (RI.y (RdN.alloc H.out _)) rfl (fun _ _ h => h.elim) (N := l.length) (by simp) (by simp [maxLen]; omega) (by omega) (by simp) ?_; intro A2 c2 w2 o2 M2 E2; simp only [List.nil_append] at o2; have O2 := Lib.hid o2; have E12 : Ext w1 w2 := (by repeat (first | with_reducible exact Ext.refl _ | refine Ext.drewN ?_ _ | refine Ext.drew ?_ | refine Ext.alloc ?_ _ | assumption | (refine Below.trans ?_ (by assumption)) | (refine Ext.trans ?_ (by assumption)) | (refine Below.trans ?_ (Below.mono (by assumption) (by omega))))); clear o2 M2 E2)
    go_loopw [28] (fun i wr => ∃ k : Nat, k ≤ l.length ∧ i = .int .i64 k ∧ Ext w2 wr) (fun i _ => l.length - (intOf i).toNat)
    case atStart => exact ⟨0, Nat.zero_le _, rfl, Ext.refl _⟩
    case round =>
      obtain ⟨k, hk, rfl, E2r⟩ := hrel
      have E1r : Ext w1 wr := E12.trans E2r
      clear E12
      by_cases hlt : k < l.length
      · obtain ⟨b, off, x, rfl, hx, hd⟩ := (RdN.ext H.out E1r).icell hlt
        have hxb := HB.out x (List.mem_of_getElem? hd.out)
        have HF2 := Lib.hid fun w' => HF1.out x w' hxb
        have HG2 := Lib.hid fun w' => HG1.out x w' hxb
        generalize byteL p (colL col) x = y at *
        obtain ⟨yo, yc⟩ := y
        go_wp2_with ((refine wpList_load_row rfl 26 _ rfl _ rfl 26 _ _ _ (Blk.ext hT.out (by repeat (first | with_reducible exact Ext.refl _ | refine Ext.drewN ?_ _ | refine Ext.drew ?_ | refine Ext.alloc ?_ _ | assumption | (refine Below.trans ?_ (by assumption)) | (refine Ext.trans ?_ (by assumption)) | (refine Below.trans ?_ (Below.mono (by assumption) (by omega)))))) Try.underlying26 rfl hi ?_))
        with_reducible refine (HF2.out _).mono ?_
        rintro e w3 ⟨A3, n3, c3, l3, rfl, o3, E3⟩
        have O3 := Lib.hid o3
        clear o3 l3
        go_wp2_with ((refine wpList_load_row rfl 26 _ rfl _ rfl 26 _ _ _ (Blk.ext hT.out (by repeat (first | with_reducible exact Ext.refl _ | refine Ext.drewN ?_ _ | refine Ext.drew ?_ | refine Ext.alloc ?_ _ | assumption | (refine Below.trans ?_ (by assumption)) | (refine Ext.trans ?_ (by assumption)) | (refine Below.trans ?_ (Below.mono (by assumption) (by omega)))))) Try.underlying26 rfl hi ?_))
        with_reducible refine (HG2.out _).mono ?_
        rintro e w4 ⟨A4, n4, c4, l4, rfl, R4, E4⟩
        have R4 := Lib.hid R4
        have O4 : Hid (RI .u8 w4 (.slice A3 n3 c3) yo) := Lib.hid (O3.out.ext E4).rdT.ri
        clear l4 O3
        go_wp2_with fail
        with_reducible refine (bytes_same _ _ yo _ O4.out R4.out).mono ?_
        rintro e w5 ⟨rfl, E5⟩
        go_wp2
        go_roundw
        case rel => exact ⟨k + 1, by omega, by go_num, (by repeat (first | with_reducible exact Ext.refl _ | refine Ext.drewN ?_ _ | refine Ext.drew ?_ | refine Ext.alloc ?_ _ | assumption | (refine Below.trans ?_ (by assumption)) | (refine Ext.trans ?_ (by assumption)) | (refine Below.trans ?_ (Below.mono (by assumption) (by omega)))))⟩
        case measure => simp [intOf]; omega
      · have O2 := Lib.hid (O2.out.ext E2r)
        clear HF1 HG1
        go_wp2_with ((refine wpList_load_row rfl 26 _ rfl _ rfl 26 _ _ _ (Blk.ext hT.out (by repeat (first | with_reducible exact Ext.refl _ | refine Ext.drewN ?_ _ | refine Ext.drew ?_ | refine Ext.alloc ?_ _ | assumption | (refine Below.trans ?_ (by assumption)) | (refine Ext.trans ?_ (by assumption)) | (refine Below.trans ?_ (Below.mono (by assumption) (by omega)))))) Try.underlying26 rfl hi ?_))
        with_reducible refine (HF.out _ _ O2.out.rdT.ri hlen).mono ?_
        rintro e w3 ⟨A3, n3, c3, l3, rfl, o3, E3⟩
        have O3 := Lib.hid o3
        clear o3 l3
        go_wp2_with ((refine wpList_load_row rfl 26 _ rfl _ rfl 26 _ _ _ (Blk.ext hT.out (by repeat (first | with_reducible exact Ext.refl _ | refine Ext.drewN ?_ _ | refine Ext.drew ?_ | refine Ext.alloc ?_ _ | assumption | (refine Below.trans ?_ (by assumption)) | (refine Ext.trans ?_ (by assumption)) | (refine Below.trans ?_ (Below.mono (by assumption) (by omega)))))) Try.underlying26 rfl hi ?_))
        with_reducible refine (HG.out _ _ (RdN.ext H.out (by repeat (first | with_reducible exact Ext.refl _ | refine Ext.drewN ?_ _ | refine Ext.drew ?_ | refine Ext.alloc ?_ _ | assumption | (refine Below.trans ?_ (by assumption)) | (refine Ext.trans ?_ (by assumption)) | (refine Below.trans ?_ (Below.mono (by assumption) (by omega)))))) hlen).mono ?_
        rintro e w4 ⟨A4, n4, c4, l4, rfl, o4, E4⟩
        have R4 : Hid (RI .u8 w4 (.slice A4 n4 c4) zo) := Lib.hid o4.rdT.ri
        have O4 : Hid (RI .u8 w4 (.slice A3 n3 c3) zo) := Lib.hid (O3.out.ext E4).rdT.ri
        have O5 : Hid (RI .u8 w4 (.slice A2 l.length c2) l) := Lib.hid ((O2.out.ext E3).ext E4).rdT.ri
        clear l4 O3 o4 O2
        go_wp2_with fail
        with_reducible refine (bytes_same _ _ zo _ O4.out R4.out).mono ?_
        rintro e w5 ⟨rfl, E5⟩
        go_wp2_with fail
        with_reducible refine (bytes_same _ _ l _ (RdN.ext O5.out E5) (RdN.ext H.out (by repeat (first | with_reducible exact Ext.refl _ | refine Ext.drewN ?_ _ | refine Ext.drew ?_ | refine Ext.alloc ?_ _ | assumption | (refine Below.trans ?_ (by assumption)) | (refine Ext.trans ?_ (by assumption)) | (refine Below.trans ?_ (Below.mono (by assumption) (by omega))))))).mono ?_
        rintro e w6 ⟨rfl, E6⟩
        go_wp2
        go_ret
        exact ⟨rfl, (by repeat (first | with_reducible exact Ext.refl _ | refine Ext.drewN ?_ _ | refine Ext.drew ?_ | refine Ext.alloc ?_ _ | assumption | (refine Below.trans ?_ (by assumption)) | (refine Ext.trans ?_ (by assumption)) | (refine Below.trans ?_ (Below.mono (by assumption) (by omega)))))⟩
end Go.Proofs.Ytafkjjfempmidaa
