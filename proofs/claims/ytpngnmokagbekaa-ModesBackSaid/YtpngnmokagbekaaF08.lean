/- What any stream of modes makes of any setting is the document's, walked. Conditions: the setting is one, bytes are bytes. -/
import Derived.Test.YtpngnmokagbekaaE08
import Derived.Test.YtpngnmokagbekaaD08
namespace Go.Proofs.Ytpngnmokagbekaa
open Go.RowKit Go.Kb

abbrev Ub : Rep Int := Rep.int .u8
theorem info_u8 : (Try.prog.info? 5).map (fun i => (i.zero, i.size, i.bytes)) = some (some (.int .u8 0), Ub.size, 1) := by kernel_rfl

/- the same bytes -/
theorem take_ne {xs ys : List Int} {k : Nat} {x y : Int} (h1 : xs[k]? = some x) (h2 : ys[k]? = some y) (hne : x ≠ y) : xs ≠ ys := by
  rintro rfl
  rw [h1] at h2
  exact hne (Option.some.inj h2)
theorem take_all {xs ys : List Int} {k : Nat} (hk : k ≤ xs.length) (hn : ¬ k < xs.length) (hl : xs.length = ys.length) (ht : xs.take k = ys.take k) : xs = ys := by
  have : k = xs.length := by omega
  subst this
  rw [List.take_of_length_le (Nat.le_refl _), List.take_of_length_le (by omega)] at ht
  exact ht
set_option maxHeartbeats 400000 in
theorem bytes_q (va vb : Value) (xs ys : List Int) (w : World) (ha : RI .u8 w va xs) (hb : RI .u8 w vb ys) :
    Calls Try.prog 12 #[va, vb] w fun e w' => e = .returned (.bool (decide (xs = ys))) ∧ Qt w w' := by
  have ha' := ha
  have hb' := hb
  obtain ⟨_, A, c, rfl, hnc, hcm, _⟩ := ha'
  obtain ⟨_, A2, c2, rfl, hnc2, hcm2, _⟩ := hb'
  have Ha := Lib.hid ha
  have Hb := Lib.hid hb
  clear ha hb
  unfold maxLen at hcm hcm2
  by_cases hl : xs.length = ys.length
  · have HL := Lib.hid hl
    have hl2 : ((xs.length : Int) == (ys.length : Int)) = true := by simp [hl]
    have hl3 : ((xs.length : Int) != (ys.length : Int)) = false := by simp [hl]
    clear hl
    go_enter Try.func12, Try.ntmps12
    go_wp2
    clear hl2 hl3
    go_loopw [13] (fun i wr => ∃ k : Nat, k ≤ xs.length ∧ i = .int .i64 k ∧ xs.take k = ys.take k ∧ Qt w wr) (fun i _ => xs.length - (intOf i).toNat)
    case atStart => exact ⟨0, Nat.zero_le _, rfl, by simp, Qt.refl _⟩
    case round =>
      obtain ⟨k, hk, rfl, htake, hq⟩ := hrel
      have HT := Lib.hid htake
      have Ha := Lib.hid (Ha.out.ext hq.ext)
      have Hb := Lib.hid (Hb.out.ext hq.ext)
      clear htake
      by_cases hlt : k < xs.length
      · have hlt2 : k < ys.length := by have := HL.out; omega
        obtain ⟨b, off, x, rfl, hc1, hx⟩ := Ha.out.icell hlt
        obtain ⟨b2, off2, y, rfl, hc2, hy⟩ := Hb.out.icell hlt2
        by_cases he : x = y
        · subst he
          go_wp2
          go_quiet (fail)
          go_wp2
          go_roundw
          case rel => exact ⟨k + 1, by omega, by go_num, by rw [take_succ_of hx.out, take_succ_of hy.out, HT.out], (by repeat (first | with_reducible exact Qt.refl _ | refine Qt.drewN ?_ _ | assumption | refine Qt.trans ?_ (by assumption)))⟩
          case measure => simp [intOf]; omega
        · have he2 : (x == y) = false := by simp [he]
          have he3 : (x != y) = true := by simp [he]
          go_wp2
          go_quiet (fail)
          go_wp2
          go_ret
          exact ⟨by simp [take_ne hx.out hy.out he], (by repeat (first | with_reducible exact Qt.refl _ | refine Qt.drewN ?_ _ | assumption | refine Qt.trans ?_ (by assumption)))⟩
      · go_wp2
        go_ret
        exact ⟨by simp [take_all hk hlt HL.out HT.out], (by repeat (first | with_reducible exact Qt.refl _ | refine Qt.drewN ?_ _ | assumption | refine Qt.trans ?_ (by assumption)))⟩
  · have hl2 : ((xs.length : Int) == (ys.length : Int)) = false := by simp; omega
    have hl3 : ((xs.length : Int) != (ys.length : Int)) = true := by simp; omega
    have hne : xs ≠ ys := fun h => hl (by rw [h])
    have HN := Lib.hid hne
    clear hne hl
    go_enter Try.func12, Try.ntmps12
    go_wp2
    go_ret
    exact ⟨by simp [HN.out], Qt.refl _⟩

theorem bytes_any (va vb : Value) (xs ys : List Int) (w : World) (ha : RI .u8 w va xs) (hb : RI .u8 w vb ys) :
    Calls Try.prog 12 #[va, vb] w fun e w' => e = .returned (.bool (decide (xs = ys))) ∧ Ext w w' :=
  (bytes_q va vb xs ys w ha hb).mono fun _ _ ⟨he, hq⟩ => ⟨he, hq.ext⟩
theorem bytes_same (va vb : Value) (xs : List Int) (w : World) (ha : RI .u8 w va xs) (hb : RI .u8 w vb xs) :
    Calls Try.prog 12 #[va, vb] w fun e w' => e = .returned (.bool true) ∧ Ext w w' :=
  (bytes_any va vb xs xs w ha hb).mono fun e w' h => by simpa using h
set_option maxRecDepth 100000 in
set_option maxHeartbeats 800000 in
theorem modesDecodes_walk (v : Value) (l : List Int) (t : Tm) (w : World) (hl : RI .u8 w v l) (hB : Bs l) (ht : t.Ok) :
    Calls Try.prog 3 #[v, .agg t.arr] w fun e w' => e = .returned (.bool true) ∧ Ext w w' := by
  have hn := t.size ht
  have hF := fun v w' h => decode_any t v l w' ht h hB
  have hG := fun v w' h => rdecode_any t v l w' ht h hB
  have hU := decL_ok l.length l t (Nat.le_refl _) ht hB
  generalize decL l t = U at *
  obtain ⟨u, e⟩ := U
  simp only at hF hG hU
  have hnu := u.size hU
  have h1u := Lib.hid u.one
  have hE := fun w' => tm_eql hU hU w'
  rw [decide_eq_true rfl] at hE
  generalize u.arr = cu at *
  generalize t.arr = cs at *
  obtain ⟨Ad, c, rfl, hc1, hc2⟩ := hl.shape
  have H0 := Lib.hid hl
  have HF := Lib.hid hF
  have HG := Lib.hid hG
  have HE := Lib.hid hE
  have hee : (e == e) = true := by simp
  clear hl hB hF hG ht hU hE
  have hi : (Try.prog.info? 27).map (·.size) = some cs.size := by rw [hn]; kernel_rfl
  have hiu : (Try.prog.info? 27).map (·.size) = some cu.size := by rw [hnu]; kernel_rfl
  have hu24 := Lib.hid hnu
  have hT0 := Lib.hid (Blk.new w 27 cs)
  go_enter Try.func3, Try.ntmps3
  (go_wp2_with fail; refine (alive_any _).mono ?_; rintro e w1 ⟨rfl, E1⟩)
  have hT := Lib.hid (hT0.out.ext E1)
  have E01 : Ext w w1 := (by repeat (first | with_reducible exact Ext.refl _ | refine Ext.drewN ?_ _ | refine Ext.drew ?_ | refine Ext.alloc ?_ _ | assumption | (refine Below.trans ?_ (by assumption)) | (refine Ext.trans ?_ (by assumption)) | (refine Below.trans ?_ (Below.mono (by assumption) (by omega)))))
  have H := Lib.hid (RdN.ext H0.out E01)
  clear E1 hT0 H0
  by_cases hbig : 20000 < l.length
  · go_wp2
    go_ret
    exact ⟨rfl, E01⟩
  · have hlen : l.length ≤ 1000000 := by omega
    go_wp2_with (first
      | (at_builtin; go_loud (refine wpList_app (e := Ub) (base := w1.heap.size) (B := fun _ => False) (A := fun _ => False) rfl _ (.tmp 16) rfl Try.underlying22 info_u8 rfl (OwnS.empty _ _ _ rfl (Nat.le_refl _)) rfl (RI.y (RdN.alloc H.out _)) rfl (fun _ _ h => h.elim) (N := l.length) (by simp) (by simp [maxLen]; omega) (by omega) (by simp) ?_; intro A2 c2 w2 o2 M2 E2; simp only [List.nil_append] at o2; have O2 := Lib.hid o2; have E12 : Ext w1 w2 := (by repeat (first | with_reducible exact Ext.refl _ | refine Ext.drewN ?_ _ | refine Ext.drew ?_ | refine Ext.alloc ?_ _ | assumption | (refine Below.trans ?_ (by assumption)) | (refine Ext.trans ?_ (by assumption)) | (refine Below.trans ?_ (Below.mono (by assumption) (by omega))))); clear o2 M2 E2))
      | (refine wpList_load_row rfl 27 _ rfl _ rfl 27 _ _ _ (Blk.ext hT.out E12) Try.underlying27 rfl hi ?_))
    (with_reducible refine (HF.out _ _ O2.out.rdT.ri).mono ?_); rintro e w3 ⟨rfl, E3⟩
    have O3 := Lib.hid (O2.out.ext E3)
    have E13 := E12.trans E3
    clear O2 E12 E3
    go_wp2_with (first | (refine wpList_store_A rfl 27 _ _ rfl w3.heap.size _ rfl rfl 27 _ (show Blk _ _ _ _ from Blk.at_ _ _ (by simp)) hiu (by first | rfl | (rw [hu24.out]; rfl)) h1u.out ?_; intro w4 Hw4 Ew4; have Ew4 := Ew4 w3.heap.size w3 (by repeat (first | with_reducible exact Ext.refl _ | refine Ext.drewN ?_ _ | refine Ext.drew ?_ | refine Ext.alloc ?_ _ | assumption | (refine Below.trans ?_ (by assumption)) | (refine Ext.trans ?_ (by assumption)) | (refine Below.trans ?_ (Below.mono (by assumption) (by omega))))) (Nat.le_refl _); have Hw4 := Lib.hid Hw4) | (refine wpList_load_row rfl 27 _ rfl _ rfl 27 _ _ _ (Blk.ext hT.out (E13.trans (show Ext w3 _ from (by repeat (first | with_reducible exact Ext.refl _ | refine Ext.drewN ?_ _ | refine Ext.drew ?_ | refine Ext.alloc ?_ _ | assumption | (refine Below.trans ?_ (by assumption)) | (refine Ext.trans ?_ (by assumption)) | (refine Below.trans ?_ (Below.mono (by assumption) (by omega)))))))) Try.underlying27 rfl hi ?_))
    (with_reducible refine (HG.out _ _ (RdN.ext H.out (E13.trans (by repeat (first | with_reducible exact Ext.refl _ | refine Ext.drewN ?_ _ | refine Ext.drew ?_ | refine Ext.alloc ?_ _ | assumption | (refine Below.trans ?_ (by assumption)) | (refine Ext.trans ?_ (by assumption)) | (refine Below.trans ?_ (Below.mono (by assumption) (by omega)))))))).mono ?_); rintro e w5 ⟨rfl, E5⟩
    have E35 : Ext w3 w5 := Ext.trans Ew4 E5
    have hX := Lib.hid (Blk.ext Hw4.out E5)
    have O5 := Lib.hid (O3.out.ext E35)
    have E15 := E13.trans E35
    clear O3 E13 E35 E5 Ew4 Hw4
    go_wp2_with (first | (refine wpList_store_A rfl 27 _ _ rfl w5.heap.size _ rfl rfl 27 _ (show Blk _ _ _ _ from Blk.at_ _ _ (by simp)) hiu (by first | rfl | (rw [hu24.out]; rfl)) h1u.out ?_; intro w6 Hw6 Ew6; have Ew6 := Ew6 w5.heap.size w5 (by repeat (first | with_reducible exact Ext.refl _ | refine Ext.drewN ?_ _ | refine Ext.drew ?_ | refine Ext.alloc ?_ _ | assumption | (refine Below.trans ?_ (by assumption)) | (refine Ext.trans ?_ (by assumption)) | (refine Below.trans ?_ (Below.mono (by assumption) (by omega))))) (Nat.le_refl _); have Hw6 := Lib.hid Hw6) | (refine wpList_openG rfl rfl ?_; first | (refine wpList_load_row rfl 27 _ rfl _ rfl 27 _ _ _ (Blk.ext hX.out (show Ext w5 _ from (by repeat (first | with_reducible exact Ext.refl _ | refine Ext.drewN ?_ _ | refine Ext.drew ?_ | refine Ext.alloc ?_ _ | assumption | (refine Below.trans ?_ (by assumption)) | (refine Ext.trans ?_ (by assumption)) | (refine Below.trans ?_ (Below.mono (by assumption) (by omega))))))) Try.underlying27 rfl hiu ?_) | (refine wpList_load_row rfl 27 _ rfl _ rfl 27 _ _ _ Hw6.out Try.underlying27 rfl hiu ?_) | refine wpList_eql_struct rfl 27 _ _ rfl cu cu rfl rfl true tm_guard (HE.out _) ?_))
    (with_reducible refine (bytes_same _ _ l _ (RdN.ext O5.out.rdT.ri (by repeat (first | with_reducible exact Ext.refl _ | refine Ext.drewN ?_ _ | refine Ext.drew ?_ | refine Ext.alloc ?_ _ | assumption | (refine Below.trans ?_ (by assumption)) | (refine Ext.trans ?_ (by assumption)) | (refine Below.trans ?_ (Below.mono (by assumption) (by omega)))))) (RdN.ext H.out (E15.trans (by repeat (first | with_reducible exact Ext.refl _ | refine Ext.drewN ?_ _ | refine Ext.drew ?_ | refine Ext.alloc ?_ _ | assumption | (refine Below.trans ?_ (by assumption)) | (refine Ext.trans ?_ (by assumption)) | (refine Below.trans ?_ (Below.mono (by assumption) (by omega)))))))).mono ?_); rintro e w7 ⟨rfl, E7⟩
    go_wp2
    go_ret
    exact ⟨rfl, Ext.trans E01 (Ext.trans E15 (by repeat (first | with_reducible exact Ext.refl _ | refine Ext.drewN ?_ _ | refine Ext.drew ?_ | refine Ext.alloc ?_ _ | assumption | (refine Below.trans ?_ (by assumption)) | (refine Ext.trans ?_ (by assumption)) | (refine Below.trans ?_ (Below.mono (by assumption) (by omega))))))⟩
end Go.Proofs.Ytpngnmokagbekaa
