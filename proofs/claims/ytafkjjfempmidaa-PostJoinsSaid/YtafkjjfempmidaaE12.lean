/- The document's answer for bytes that are written, and how many fit, by contract. Conditions: the setting is one, bytes are bytes, lengths below 10^7. -/
import Derived.Test.YtafkjjfempmidaaD12
namespace Go.Proofs.Ytafkjjfempmidaa
open Go.RowKit Go.Kb

set_option maxHeartbeats 800000 in
theorem rbytes_any (t : Tm) (col : Int) (v : Value) (l : List Int) (w : World) (ht : t.Ok) (hl : RI .u8 w v l) (hB : Bs l) (hlen : l.length ≤ 10000000) :
    Calls Try.prog 12 #[.agg t.arr, .int .i64 col, v] w (BPost w (bytesL (pfL t) col l).1 (bytesL (pfL t) col l).2) := by
  have hn := t.size ht
  have hW := fun col c w' hc => rbyte_any t col c w' ht hc
  generalize pfL t = p at *
  generalize t.arr = cs at *
  obtain ⟨Ad, c, rfl, h1, h2⟩ := hl.shape
  have H := Lib.hid hl
  have HB := Lib.hid hB
  have HW := Lib.hid hW
  clear hl hB hW ht
  have hi : (Try.prog.info? 26).map (·.size) = some cs.size := by rw [hn]; kernel_rfl
  have hT := Lib.hid (Blk.new w 26 cs)
  go_enter Try.func12, Try.ntmps12
  go_wp2_with ((go_at_call 18; (with_reducible refine (column_any _ _).mono ?_); rintro e w1 ⟨rfl, rfl⟩))
  go_loopw [1, 8, 16] (fun q o i wr => ∃ (k n c : Nat) (A : Option Addr), k ≤ l.length ∧ i = .int .i64 k ∧ q = .int .i64 (bytesL p col (l.take k)).2 ∧ o = .slice A n c ∧ Hid ((bytesL p col (l.take k)).1.length = n) ∧ Hid (OwnS Ub 5 (w.heap.size + 1) (fun _ => False) wr (.slice A n c) (bytesL p col (l.take k)).1) ∧ Ext (w.alloc (.cells cs 26)) wr) (fun _ _ i _ => l.length - (intOf i).toNat)
  case atStart => exact ⟨0, 0, 0, none, Nat.zero_le _, rfl, rfl, rfl, Lib.hid rfl, Lib.hid (OwnS.nil _ _ _ _ _), (by repeat (first | with_reducible exact Ext.refl _ | refine Ext.drewN ?_ _ | refine Ext.drew ?_ | refine Ext.alloc ?_ _ | assumption | (refine Below.trans ?_ (by assumption)) | (refine Ext.trans ?_ (by assumption)) | (refine Below.trans ?_ (Below.mono (by assumption) (by omega)))))⟩
  case round =>
    obtain ⟨k, n, c', A, hk, rfl, rfl, rfl, HN, HO, hE⟩ := hrel
    by_cases hlt : k < l.length
    · obtain ⟨b, off, x, rfl, hx, hd⟩ := (H.out.ext (Ext.trans (by repeat (first | with_reducible exact Ext.refl _ | refine Ext.drewN ?_ _ | refine Ext.drew ?_ | refine Ext.alloc ?_ _ | assumption | (refine Below.trans ?_ (by assumption)) | (refine Ext.trans ?_ (by assumption)) | (refine Below.trans ?_ (Below.mono (by assumption) (by omega))))) hE)).icell hlt
      have hxb := HB.out x (List.mem_of_getElem? hd.out)
      have hbl := bytesL_len p col (l.take k)
      have hb2 := byteL_len (p := p) (col := (bytesL p col (l.take k)).2) (c := x)
      have htl : (l.take k).length = k := by rw [List.length_take]; omega
      have hnn := HN.out
      have hcol := colL_id (bytesL_bd p col (l.take k))
      have HS := Lib.hid (bytesL_succ (p := p) (col := col) hd.out)
      have HQ := Lib.hid (fun w' => HW.out (bytesL p col (l.take k)).2 x w' hxb)
      rw [hcol] at HQ
      have hbn : n ≤ 20000000 := by omega
      have hb2 : (byteL p (bytesL p col (l.take k)).2 x).1.length ≤ 2 := hb2
      clear hbl htl hcol hnn
      generalize (bytesL p col (l.take k)).2 = q at *
      generalize (bytesL p col (l.take k)).1 = out at *
      generalize byteL p q x = z at *
      obtain ⟨zo, zc⟩ := z
      go_wp2_with ((refine wpList_load_row rfl 26 _ rfl _ rfl 26 _ _ _ (Blk.ext hT.out (by repeat (first | with_reducible exact Ext.refl _ | refine Ext.drewN ?_ _ | refine Ext.drew ?_ | refine Ext.alloc ?_ _ | assumption | (refine Below.trans ?_ (by assumption)) | (refine Ext.trans ?_ (by assumption)) | (refine Below.trans ?_ (Below.mono (by assumption) (by omega)))))) Try.underlying26 rfl hi ?_))
      refine (HQ.out _).mono ?_
      rintro e w3 ⟨A1, n1, c1, l1, rfl, R1, E3⟩
      have L1 := Lib.hid l1
      have R1 := Lib.hid R1
      have hn1 : n1 ≤ 2 := by rw [← l1]; exact hb2
      have hsz := hE.size
      simp at hsz
      clear l1 hb2 HQ
      go_wp2_with (at_builtin; refine wpList_app (e := Ub) (base := w.heap.size + 1) (B := fun _ => False) (A := fun _ => False) rfl (.tmp 27) (.tmp 28) rfl Try.underlying27 info_u8 rfl (HO.out.ext E3) rfl (RI.y R1.out) rfl (fun _ _ h => h.elim) (N := n + n1) (by rw [HN.out, L1.out]) (by simp [maxLen]; omega) (by omega) (by have := E3.size; omega) ?_; intro A4 c4 w4 o4 M4 B4)
      go_roundw
      case rel => exact ⟨k + 1, n + n1, c4, A4, by omega, by go_num, by rw [HS.out], rfl, Lib.hid (by rw [HS.out]; simp [HN.out, L1.out]), Lib.hid (by rw [HS.out]; exact o4), Below.trans (hE.trans E3) (B4.mono (by simp))⟩
      case measure => simp [intOf]; omega
    · obtain rfl : k = l.length := by omega
      rw [List.take_length] at HN HO ⊢
      generalize bytesL p col l = z at *
      obtain ⟨zo, zc⟩ := z
      go_wp2
      refine bodyPost_ret (v := .tuple #[.slice A n c', .int .i64 zc]) (by simp [results, Try.results12, go_sem]) rfl ?_
      exact ⟨A, n, c', HN.out, rfl, HO.out.lower (by simp), Ext.trans (by repeat (first | with_reducible exact Ext.refl _ | refine Ext.drewN ?_ _ | refine Ext.drew ?_ | refine Ext.alloc ?_ _ | assumption | (refine Below.trans ?_ (by assumption)) | (refine Ext.trans ?_ (by assumption)) | (refine Below.trans ?_ (Below.mono (by assumption) (by omega))))) hE⟩
set_option maxHeartbeats 800000 in
theorem rfit_any (t : Tm) (col : Int) (v : Value) (l : List Int) (room : Int) (w : World) (ht : t.Ok) (hl : RI .u8 w v l) (hB : Bs l) (hlen : l.length ≤ 10000000) :
    Calls Try.prog 14 #[.agg t.arr, .int .i64 col, v, .int .i64 room] w (FPost w (pfL t) col l room) := by
  have hn := t.size ht
  have hW := fun v l w' hl hB hlen => rbytes_any t col v l w' ht hl hB hlen
  generalize pfL t = p at *
  generalize t.arr = cs at *
  obtain ⟨Ad, c, rfl, h1, h2⟩ := hl.shape
  have H := Lib.hid hl
  have HB := Lib.hid hB
  have HW := Lib.hid hW
  clear hl hB hW ht
  have hi : (Try.prog.info? 26).map (·.size) = some cs.size := by rw [hn]; kernel_rfl
  have hT := Lib.hid (Blk.new w 26 cs)
  go_enter Try.func14, Try.ntmps14
  go_wp2
  go_loopw [9] (fun i wr => ∃ k : Nat, k ≤ l.length ∧ i = .int .i64 k ∧ Hid (k = l.length ∨ room < ((bytesL p col (l.take (k + 1))).1.length : Int)) ∧ Ext (w.alloc (.cells cs 26)) wr) (fun i _ => (intOf i).toNat)
  case atStart => exact ⟨l.length, Nat.le_refl _, rfl, Lib.hid (.inl rfl), (by repeat (first | with_reducible exact Ext.refl _ | refine Ext.drewN ?_ _ | refine Ext.drew ?_ | refine Ext.alloc ?_ _ | assumption | (refine Below.trans ?_ (by assumption)) | (refine Ext.trans ?_ (by assumption)) | (refine Below.trans ?_ (Below.mono (by assumption) (by omega)))))⟩
  case round =>
    obtain ⟨k, hk, rfl, HM, hE⟩ := hrel
    have E0 : Ext w wr := Ext.trans (by exact (Ext.refl w).alloc _) hE
    rcases k with _ | m
    · go_wp2
      go_ret
      exact ⟨0, ⟨Nat.zero_le _, .inl rfl, by rcases HM.out with h | h; exact .inl h; exact .inr h⟩, rfl, E0⟩
    · have HR := Lib.hid (RI.toA (RdN.ext H.out E0) hk)
      have htl : (l.take (m + 1)).length = m + 1 := by rw [List.length_take]; omega
      have HQ := Lib.hid (fun w' hl => HW.out (.slice Ad (m + 1) c) (l.take (m + 1)) w' hl (Bs.take HB.out _) (by omega))
      have d0 : (0 : Int) < ((m + 1 : Nat) : Int) := by omega
      have i1 : (0 : Int) ≤ ((m + 1 : Nat) : Int) := by omega
      have i2 : ((m + 1 : Nat) : Int) ≤ (l.length : Int) := by omega
      have i3 : ((m + 1 : Nat) : Int) ≤ (c : Int) := by omega
      have i4 : IntKind.i64.wrap (((m + 1 : Nat) : Int) - 1) = (m : Int) := by rw [show ((m + 1 : Nat) : Int) - 1 = (m : Int) by omega]; exact IntWalk.i64_in _ (by omega)
      clear htl
      generalize hmm : m + 1 = m1 at *
      have HMM := Lib.hid hmm
      clear hmm
      generalize hz : bytesL p col (l.take m1) = z at HQ
      have HZ := Lib.hid hz
      clear hz
      obtain ⟨zo, zc⟩ := z
      go_wp2
      refine wp_region_held_drew (S := fun w' => Ext wr w') (by kernel_rfl) (by repeat (first | with_reducible exact Ext.refl _ | refine Ext.drewN ?_ _ | refine Ext.drew ?_ | refine Ext.alloc ?_ _ | assumption | (refine Below.trans ?_ (by assumption)) | (refine Ext.trans ?_ (by assumption)) | (refine Below.trans ?_ (Below.mono (by assumption) (by omega))))) (fun hHeld => ?_)
      (refine wpAnyH_take (i := 0) (v := .agg cs) rfl (by kernel_rfl) (by kernel_rfl) (by kernel_rfl) (fun _ _ _ h => h) (yieldsIf_load_row (by rfl) 26 _ rfl _ rfl 26 cs _ _ (fun w' hw' => Blk.ext (Blk.ext hT.out hE) hw') Try.underlying26 rfl hi) (by assumption) ?_; (try simp only [Act.put]); (try simp only [List.getElem_toArray]); (try simp only [List.getElem_cons_succ]); (try simp only [List.getElem_cons_zero]); (try simp only [List.setIfInBounds_toArray]); (try simp only [List.set_cons_succ]); (try simp only [List.set_cons_zero]))
      (refine wpAnyH_take (i := 1) (v := ?_) rfl (by kernel_rfl) (by kernel_rfl) (by kernel_rfl) (fun _ _ _ h => h) (Or.inl ⟨by rfl, ?_⟩) (by assumption) ?_; rotate_left; (focus (intro w' hSw; go_simp; try with_reducible rfl)); (try simp only [List.getElem_toArray]); (try simp only [List.getElem_cons_succ]); (try simp only [List.getElem_cons_zero]); (try simp only [Act.put]); (try simp only [List.setIfInBounds_toArray]); (try simp only [List.set_cons_succ]); (try simp only [List.set_cons_zero]))
      (refine wpAnyH_take (i := 2) (v := ?_) rfl (by kernel_rfl) (by kernel_rfl) (by kernel_rfl) (fun _ _ _ h => h) (Or.inl ⟨by rfl, ?_⟩) (by assumption) ?_; rotate_left; (focus (intro w' hSw; go_simp; try with_reducible rfl)); (try simp only [List.getElem_toArray]); (try simp only [List.getElem_cons_succ]); (try simp only [List.getElem_cons_zero]); (try simp only [Act.put]); (try simp only [List.setIfInBounds_toArray]); (try simp only [List.set_cons_succ]); (try simp only [List.set_cons_zero]))
      (refine wpAnyH_take (i := 3) (v := ?_) rfl (by kernel_rfl) (by kernel_rfl) (by kernel_rfl) (fun _ _ _ h => h) (Or.inl ⟨by rfl, ?_⟩) (by assumption) ?_; rotate_left; (focus (intro w' hSw; go_simp; try with_reducible rfl)); (try simp only [List.getElem_toArray]); (try simp only [List.getElem_cons_succ]); (try simp only [List.getElem_cons_zero]); (try simp only [Act.put]); (try simp only [List.setIfInBounds_toArray]); (try simp only [List.set_cons_succ]); (try simp only [List.set_cons_zero]))
      (refine wpAnyH_take (i := 4) (v := ?_) rfl (by kernel_rfl) (by kernel_rfl) (by kernel_rfl) (fun _ _ _ h => h) (Or.inl ⟨by rfl, ?_⟩) (by assumption) ?_; rotate_left; (focus (intro w' hSw; go_simp; try with_reducible rfl)); (try simp only [List.getElem_toArray]); (try simp only [List.getElem_cons_succ]); (try simp only [List.getElem_cons_zero]); (try simp only [Act.put]); (try simp only [List.setIfInBounds_toArray]); (try simp only [List.set_cons_succ]); (try simp only [List.set_cons_zero]))
      (refine wpAnyH_ready (rs := [5]) (by kernel_rfl) (by simp) ?_; refine AllReadyH.cons rfl (fun K hK => ?_) AllReadyH.nil; go_simp; go_at_call 12; refine (HQ.out _ (RdN.ext HR.out (by repeat (first | with_reducible exact Ext.refl _ | refine Ext.drewN ?_ _ | refine Ext.drew ?_ | refine Ext.alloc ?_ _ | assumption | (refine Below.trans ?_ (by assumption)) | (refine Ext.trans ?_ (by assumption)) | (refine Below.trans ?_ (Below.mono (by assumption) (by omega))))))).mono ?_; rintro e w3 ⟨A3, n3, c3, l3, rfl, o3, E3⟩; (try dsimp only); refine hK.out _ _ (by repeat (first | with_reducible exact Ext.refl _ | refine Ext.drewN ?_ _ | refine Ext.drew ?_ | refine Ext.alloc ?_ _ | assumption | (refine Below.trans ?_ (by assumption)) | (refine Ext.trans ?_ (by assumption)) | (refine Below.trans ?_ (Below.mono (by assumption) (by omega))))) (fun hHeld => ?_); clear hK K; (try simp only [Act.put]); (try simp only [List.getElem_toArray]); (try simp only [List.getElem_cons_succ]); (try simp only [List.getElem_cons_zero]); (try simp only [List.setIfInBounds_toArray]); (try simp only [List.set_cons_succ]); (try simp only [List.set_cons_zero]))
      (refine wpAnyH_take (i := 6) (v := ?_) rfl (by kernel_rfl) (by kernel_rfl) (by kernel_rfl) (fun _ _ _ h => h) (Or.inl ⟨by rfl, ?_⟩) (by assumption) ?_; rotate_left; (focus (intro w' hSw; go_simp; try with_reducible rfl)); (try simp only [List.getElem_toArray]); (try simp only [List.getElem_cons_succ]); (try simp only [List.getElem_cons_zero]); (try simp only [Act.put]); (try simp only [List.setIfInBounds_toArray]); (try simp only [List.set_cons_succ]); (try simp only [List.set_cons_zero]))
      (refine wpAnyH_take (i := 7) (v := ?_) rfl (by kernel_rfl) (by kernel_rfl) (by kernel_rfl) (fun _ _ _ h => h) (Or.inl ⟨by rfl, ?_⟩) (by assumption) ?_; rotate_left; (focus (intro w' hSw; go_simp; try with_reducible rfl)); (try simp only [List.getElem_toArray]); (try simp only [List.getElem_cons_succ]); (try simp only [List.getElem_cons_zero]); (try simp only [Act.put]); (try simp only [List.setIfInBounds_toArray]); (try simp only [List.set_cons_succ]); (try simp only [List.set_cons_zero]))
      (refine wpAnyH_take (i := 8) (v := ?_) rfl (by kernel_rfl) (by kernel_rfl) (by kernel_rfl) (fun _ _ _ h => h) (Or.inl ⟨by rfl, ?_⟩) (by assumption) ?_; rotate_left; (focus (intro w' hSw; go_simp; try with_reducible rfl)); (try simp only [List.getElem_toArray]); (try simp only [List.getElem_cons_succ]); (try simp only [List.getElem_cons_zero]); (try simp only [Act.put]); (try simp only [List.setIfInBounds_toArray]); (try simp only [List.set_cons_succ]); (try simp only [List.set_cons_zero]))
      (refine wpAnyH_take (i := 9) (v := ?_) rfl (by kernel_rfl) (by kernel_rfl) (by kernel_rfl) (fun _ _ _ h => h) (Or.inl ⟨by rfl, ?_⟩) (by assumption) ?_; rotate_left; (focus (intro w' hSw; go_simp; try with_reducible rfl)); (try simp only [List.getElem_toArray]); (try simp only [List.getElem_cons_succ]); (try simp only [List.getElem_cons_zero]); (try simp only [Act.put]); (try simp only [List.setIfInBounds_toArray]); (try simp only [List.set_cons_succ]); (try simp only [List.set_cons_zero]))
      (refine wpAnyH_take (i := 10) (v := ?_) rfl (by kernel_rfl) (by kernel_rfl) (by kernel_rfl) (fun _ _ _ h => h) (Or.inl ⟨by rfl, ?_⟩) (by assumption) ?_; rotate_left; (focus (intro w' hSw; go_simp; try with_reducible rfl)); (try simp only [List.getElem_toArray]); (try simp only [List.getElem_cons_succ]); (try simp only [List.getElem_cons_zero]); (try simp only [Act.put]); (try simp only [List.setIfInBounds_toArray]); (try simp only [List.set_cons_succ]); (try simp only [List.set_cons_zero]))
      have L3 := Lib.hid l3
      clear l3 o3
      refine wpAnyH_done (by kernel_rfl) ?_ _
      have E4 : Ext w w3 := Ext.trans E0 (by repeat (first | with_reducible exact Ext.refl _ | refine Ext.drewN ?_ _ | refine Ext.drew ?_ | refine Ext.alloc ?_ _ | assumption | (refine Below.trans ?_ (by assumption)) | (refine Ext.trans ?_ (by assumption)) | (refine Below.trans ?_ (Below.mono (by assumption) (by omega)))))
      by_cases hro : (n3 : Int) ≤ room
      · go_wp2
        go_ret
        exact ⟨m1, ⟨hk, .inr (by rw [HZ.out]; show (zo.length : Int) ≤ room; rw [L3.out]; exact hro), HM.out⟩, rfl, E4⟩
      · go_wp2
        go_roundw
        case rel => exact ⟨m, by have := HMM.out; omega, by simp, Lib.hid (.inr (by rw [HMM.out, HZ.out]; show room < (zo.length : Int); rw [L3.out]; omega)), hE.trans (by repeat (first | with_reducible exact Ext.refl _ | refine Ext.drewN ?_ _ | refine Ext.drew ?_ | refine Ext.alloc ?_ _ | assumption | (refine Below.trans ?_ (by assumption)) | (refine Ext.trans ?_ (by assumption)) | (refine Below.trans ?_ (Below.mono (by assumption) (by omega)))))⟩
        case measure => simp [intOf]; have := HMM.out; omega
end Go.Proofs.Ytafkjjfempmidaa
