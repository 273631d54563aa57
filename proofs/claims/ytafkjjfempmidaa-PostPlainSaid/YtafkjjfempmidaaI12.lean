/- What goes out without the document's answer, walked. Conditions: the setting is one, bytes are bytes. -/
import Derived.Test.YtafkjjfempmidaaG12
namespace Go.Proofs.Ytafkjjfempmidaa
open Go.RowKit Go.Kb

set_option maxRecDepth 100000 in
set_option maxHeartbeats 800000 in
theorem postPlain_walk (t : Tm) (col : Int) (v : Value) (l : List Int) (w : World) (ht : t.Ok) (hl : RI .u8 w v l) (hB : Bs l) :
    Calls Try.prog 5 #[.agg t.arr, .int .i64 col, v] w fun e w' => e = .returned (.bool true) ∧ Ext w w' := by
  have hn := t.size ht
  have hS := fun w' => set_any t 70 false w' ht
  have hF := fun v w' hl hlen => pbytes_any t col v l w' ht hl hB hlen
  have hG := fun v w' hl hlen => pbytes_any (setL t 70 false) col v l w' (setL_ok ht 70 false) hl hB hlen
  have hpl : (bytesL (pfL (setL t 70 false)) col l).1 = l := bytesL_plain _ (by show hasL (setL t 70 false) 70 = false; rw [hasL_setL ht]; simp [flagL]) col l
  have hb1 := bytesL_bd (pfL (setL t 70 false)) col l
  rw [hpl] at hG
  have hb2 := bytesL_bd (pfL t) col l
  have hlen2 := bytesL_len (pfL t) col l
  have h70 := fun w' => has_any t 70 w' ht
  have h72 := fun w' => has_any t 72 w' ht
  have h73 := fun w' => has_any t 73 w' ht
  have hcr := fun h1 h2 h3 => bytesL_crs (p := pfL t) h1 h2 h3 col l
  have p1 : (pfL t).post = hasL t 70 := rfl
  have p2 : (pfL t).nlcr = hasL t 72 := rfl
  have p3 : (pfL t).crnl = hasL t 73 := rfl
  rw [p1, p2, p3] at hcr
  clear p1 p2 p3 hpl
  generalize bytesL (pfL t) col l = z at *
  obtain ⟨zo, zc⟩ := z
  generalize (bytesL (pfL (setL t 70 false)) col l).2 = yc at *
  generalize hasL t 70 = u0 at *
  generalize hasL t 72 = u2 at *
  generalize hasL t 73 = u3 at *
  generalize (setL t 70 false).arr = ct at *
  generalize t.arr = cs at *
  obtain ⟨Ad, c, rfl, hc1, hc2⟩ := hl.shape
  have H0 := Lib.hid hl
  have HF := Lib.hid hF
  have HG := Lib.hid hG
  have HS := Lib.hid hS
  have H70 := Lib.hid h70
  have H72 := Lib.hid h72
  have H73 := Lib.hid h73
  have HCR := Lib.hid hcr
  obtain ⟨y0, y1⟩ := hb1
  obtain ⟨z0, z1⟩ := hb2
  simp only at z0 z1 hlen2
  clear hl hB hF hG ht hS h70 h72 h73 hcr
  have hi : (Try.prog.info? 26).map (·.size) = some cs.size := by rw [hn]; kernel_rfl
  have hT0 := Lib.hid (Blk.new w 26 cs)
  go_enter Try.func5, Try.ntmps5
  (go_wp2_with fail; refine (alive_any _).mono ?_; rintro e w1 ⟨rfl, E1⟩)
  have hT := Lib.hid (hT0.out.ext E1)
  have E01 : Ext w w1 := (by repeat (first | with_reducible exact Ext.refl _ | refine Ext.drewN ?_ _ | refine Ext.drew ?_ | refine Ext.alloc ?_ _ | assumption | (refine Below.trans ?_ (by assumption)) | (refine Ext.trans ?_ (by assumption)) | (refine Below.trans ?_ (Below.mono (by assumption) (by omega)))))
  have H := Lib.hid (RdN.ext H0.out E01)
  clear E1 hT0 H0
  by_cases hbig : 2000 < l.length
  · go_wp2
    go_ret
    exact ⟨rfl, E01⟩
  · have hlen : l.length ≤ 10000000 := by omega
    go_wp2_with ((refine wpList_load_row rfl 26 _ rfl _ rfl 26 _ _ _ (Blk.ext hT.out (by repeat (first | with_reducible exact Ext.refl _ | refine Ext.drewN ?_ _ | refine Ext.drew ?_ | refine Ext.alloc ?_ _ | assumption | (refine Below.trans ?_ (by assumption)) | (refine Ext.trans ?_ (by assumption)) | (refine Below.trans ?_ (Below.mono (by assumption) (by omega)))))) Try.underlying26 rfl hi ?_))
    with_reducible refine (HS.out _).mono ?_
    rintro e w2 ⟨rfl, E2⟩
    go_wp2_with fail
    with_reducible refine (HG.out _ _ (RdN.ext H.out (by repeat (first | with_reducible exact Ext.refl _ | refine Ext.drewN ?_ _ | refine Ext.drew ?_ | refine Ext.alloc ?_ _ | assumption | (refine Below.trans ?_ (by assumption)) | (refine Ext.trans ?_ (by assumption)) | (refine Below.trans ?_ (Below.mono (by assumption) (by omega)))))) hlen).mono ?_
    rintro e w3 ⟨A3, n3, c3, l3, rfl, o3, E3⟩
    have R3 : Hid (RI .u8 w3 (.slice A3 n3 c3) l) := Lib.hid o3.rdT.ri
    clear o3 l3
    go_wp2_with fail
    with_reducible refine (bytes_same _ _ l _ R3.out (RdN.ext H.out (by repeat (first | with_reducible exact Ext.refl _ | refine Ext.drewN ?_ _ | refine Ext.drew ?_ | refine Ext.alloc ?_ _ | assumption | (refine Below.trans ?_ (by assumption)) | (refine Ext.trans ?_ (by assumption)) | (refine Below.trans ?_ (Below.mono (by assumption) (by omega))))))).mono ?_
    rintro e w4 ⟨rfl, E4⟩
    have i1 : ¬ yc < 0 := by omega
    have i2 : ¬ 65535 < yc := by omega
    go_wp2_with ((refine wpList_load_row rfl 26 _ rfl _ rfl 26 _ _ _ (Blk.ext hT.out (by repeat (first | with_reducible exact Ext.refl _ | refine Ext.drewN ?_ _ | refine Ext.drew ?_ | refine Ext.alloc ?_ _ | assumption | (refine Below.trans ?_ (by assumption)) | (refine Ext.trans ?_ (by assumption)) | (refine Below.trans ?_ (Below.mono (by assumption) (by omega)))))) Try.underlying26 rfl hi ?_))
    with_reducible refine (HF.out _ _ (RdN.ext H.out (by repeat (first | with_reducible exact Ext.refl _ | refine Ext.drewN ?_ _ | refine Ext.drew ?_ | refine Ext.alloc ?_ _ | assumption | (refine Below.trans ?_ (by assumption)) | (refine Ext.trans ?_ (by assumption)) | (refine Below.trans ?_ (Below.mono (by assumption) (by omega)))))) hlen).mono ?_
    rintro e w5 ⟨A5, n5, c5, l5, rfl, o5, E5⟩
    have R5 : Hid (RI .u8 w5 (.slice A5 n5 c5) zo) := Lib.hid o5.rdT.ri
    have l5 : zo.length = n5 := l5
    have i3 : ¬ 2 * (l.length : Int) < (n5 : Int) := by omega
    have i4 : ¬ zc < 0 := by omega
    have i5 : ¬ 65535 < zc := by omega
    have i6 : n5 ≤ 4000 := by omega
    have L5 := Lib.hid l5
    have E15 : Ext w1 w5 := (by repeat (first | with_reducible exact Ext.refl _ | refine Ext.drewN ?_ _ | refine Ext.drew ?_ | refine Ext.alloc ?_ _ | assumption | (refine Below.trans ?_ (by assumption)) | (refine Ext.trans ?_ (by assumption)) | (refine Below.trans ?_ (Below.mono (by assumption) (by omega)))))
    clear o5 l5 E2 E3 E4 E5 R3 HF HG HS
    go_wp2
    go_loopw [61] (fun i wr => ∃ k : Nat, k ≤ n5 ∧ i = .int .i64 k ∧ Ext w5 wr) (fun i _ => n5 - (intOf i).toNat)
    case atStart => exact ⟨0, Nat.zero_le _, rfl, Ext.refl _⟩
    case round =>
      obtain ⟨k, hk, rfl, E5r⟩ := hrel
      have E1r : Ext w1 wr := E15.trans E5r
      clear i1 i2 i3 i4 i5 E15
      by_cases hlt : k < n5
      · obtain ⟨b, off, x, rfl, hx, hd⟩ := (RdN.ext R5.out E5r).icell hlt
        by_cases h10 : x = 10
        · subst h10
          go_wp2_with (first | (refine wpList_openG rfl rfl ?_; (refine wpList_load_row rfl 26 _ rfl _ rfl 26 _ _ _ (Blk.ext hT.out (by repeat (first | with_reducible exact Ext.refl _ | refine Ext.drewN ?_ _ | refine Ext.drew ?_ | refine Ext.alloc ?_ _ | assumption | (refine Below.trans ?_ (by assumption)) | (refine Ext.trans ?_ (by assumption)) | (refine Below.trans ?_ (Below.mono (by assumption) (by omega)))))) Try.underlying26 rfl hi ?_)))
          with_reducible refine (H70.out _).mono ?_
          rintro e w6 ⟨rfl, E6⟩
          cases u0
          · go_wp2
            go_roundw
            case rel => exact ⟨k + 1, by omega, by go_num, (by repeat (first | with_reducible exact Ext.refl _ | refine Ext.drewN ?_ _ | refine Ext.drew ?_ | refine Ext.alloc ?_ _ | assumption | (refine Below.trans ?_ (by assumption)) | (refine Ext.trans ?_ (by assumption)) | (refine Below.trans ?_ (Below.mono (by assumption) (by omega)))))⟩
            case measure => simp [intOf]; omega
          · go_wp2_with (first | (refine wpList_openG rfl rfl ?_; (refine wpList_load_row rfl 26 _ rfl _ rfl 26 _ _ _ (Blk.ext hT.out (by repeat (first | with_reducible exact Ext.refl _ | refine Ext.drewN ?_ _ | refine Ext.drew ?_ | refine Ext.alloc ?_ _ | assumption | (refine Below.trans ?_ (by assumption)) | (refine Ext.trans ?_ (by assumption)) | (refine Below.trans ?_ (Below.mono (by assumption) (by omega)))))) Try.underlying26 rfl hi ?_)))
            with_reducible refine (H72.out _).mono ?_
            rintro e w7 ⟨rfl, E7⟩
            cases u2
            · go_wp2
              go_roundw
              case rel => exact ⟨k + 1, by omega, by go_num, (by repeat (first | with_reducible exact Ext.refl _ | refine Ext.drewN ?_ _ | refine Ext.drew ?_ | refine Ext.alloc ?_ _ | assumption | (refine Below.trans ?_ (by assumption)) | (refine Ext.trans ?_ (by assumption)) | (refine Below.trans ?_ (Below.mono (by assumption) (by omega)))))⟩
              case measure => simp [intOf]; omega
            · go_wp2_with (first | (refine wpList_openG rfl rfl ?_; (refine wpList_load_row rfl 26 _ rfl _ rfl 26 _ _ _ (Blk.ext hT.out (by repeat (first | with_reducible exact Ext.refl _ | refine Ext.drewN ?_ _ | refine Ext.drew ?_ | refine Ext.alloc ?_ _ | assumption | (refine Below.trans ?_ (by assumption)) | (refine Ext.trans ?_ (by assumption)) | (refine Below.trans ?_ (Below.mono (by assumption) (by omega)))))) Try.underlying26 rfl hi ?_)))
              with_reducible refine (H73.out _).mono ?_
              rintro e w8 ⟨rfl, E8⟩
              cases u3
              · obtain ⟨hk0, hk13⟩ := HCR.out (by trivial) (by trivial) (by trivial) k hd.out
                obtain ⟨m, rfl⟩ : ∃ m, k = m + 1 := ⟨k - 1, by omega⟩
                have hk13 : zo[m]? = some 13 := by simpa using hk13
                have E58 : Ext w5 w8 := (by repeat (first | with_reducible exact Ext.refl _ | refine Ext.drewN ?_ _ | refine Ext.drew ?_ | refine Ext.alloc ?_ _ | assumption | (refine Below.trans ?_ (by assumption)) | (refine Ext.trans ?_ (by assumption)) | (refine Below.trans ?_ (Below.mono (by assumption) (by omega)))))
                obtain ⟨b2, off2, x2, hA2, hx2, hd2⟩ := (RdN.ext R5.out E58).icell (j := m) (by omega)
                cases hA2
                have hd2 := hd2.out
                rw [hk13] at hd2
                cases hd2
                have k0 : (((m + 1 : Nat) : Int) == 0) = false := by rw [beq_eq_false_iff_ne]; omega
                have k1 : IntKind.i64.wrap (((m + 1 : Nat) : Int) - 1) = (m : Int) := by rw [show ((m + 1 : Nat) : Int) - 1 = (m : Int) by omega]; exact IntWalk.i64_in _ (by omega)
                clear hk13 hk0
                go_wp2
                go_roundw
                case rel => exact ⟨m + 1 + 1, by omega, by go_num, E58⟩
                case measure => simp [intOf]; omega
              · go_wp2
                go_roundw
                case rel => exact ⟨k + 1, by omega, by go_num, (by repeat (first | with_reducible exact Ext.refl _ | refine Ext.drewN ?_ _ | refine Ext.drew ?_ | refine Ext.alloc ?_ _ | assumption | (refine Below.trans ?_ (by assumption)) | (refine Ext.trans ?_ (by assumption)) | (refine Below.trans ?_ (Below.mono (by assumption) (by omega)))))⟩
                case measure => simp [intOf]; omega
        · have i10 : (x == 10) = false := by simpa using h10
          clear h10
          go_wp2
          go_roundw
          case rel => exact ⟨k + 1, by omega, by go_num, (by repeat (first | with_reducible exact Ext.refl _ | refine Ext.drewN ?_ _ | refine Ext.drew ?_ | refine Ext.alloc ?_ _ | assumption | (refine Below.trans ?_ (by assumption)) | (refine Ext.trans ?_ (by assumption)) | (refine Below.trans ?_ (Below.mono (by assumption) (by omega)))))⟩
          case measure => simp [intOf]; omega
      · go_wp2
        go_ret
        exact ⟨rfl, (by repeat (first | with_reducible exact Ext.refl _ | refine Ext.drewN ?_ _ | refine Ext.drew ?_ | refine Ext.alloc ?_ _ | assumption | (refine Below.trans ?_ (by assumption)) | (refine Ext.trans ?_ (by assumption)) | (refine Below.trans ?_ (Below.mono (by assumption) (by omega)))))⟩
end Go.Proofs.Ytafkjjfempmidaa
