/- Written by chain.py of C12[-pbyte_any,-FPost,-pfit_any]. No condition. -/
import Derived.Test.YtfnicinnjkbedaaGreatDoorPB17
namespace Go.Proofs.YtfnicinnjkbedaaGreatDoor
open Go.RowKit Go.Kb
set_option maxRecDepth 100000

/-- bytes that went out, and the column -/
def BPost (w : World) (l : List Int) (col : Int) (e : Ending) (w' : World) : Prop :=
  ∃ A n c, l.length = n ∧ e = .returned (.tuple #[.slice A n c, .int .i64 col]) ∧ OwnS Ub 5 w.heap.size (fun _ => False) w' (.slice A n c) l ∧ Ext w w'
theorem pen0 {cs : Array Value} {g B : Nat} {w : World} {p : Pf} {col : Int} {l : List Int} (h : Pen cs g B w (colL col) []) : Pen cs g B w (bytesL p col (l.take 0)).2 (bytesL p col (l.take 0)).1 := h
set_option maxHeartbeats 800000 in
theorem pbytes_any (t : Tm) (col : Int) (v : Value) (l : List Int) (w : World) (ht : t.Ok) (hl : RI .u8 w v l) (hB : Bs l) (hlen : l.length ≤ 10000000) :
    Calls Tryz.prog 16 #[.agg t.arr, .int .i64 col, v] w (BPost w (bytesL (pfL t) col l).1 (bytesL (pfL t) col l).2) := by
  have hn := t.size ht
  have hW := fun g B col out c w' h hBg hcol hc hl => write_any (g := g) (B := B) (col := col) (out := out) t c w' ht h hBg hcol hc hl
  generalize pfL t = p at *
  generalize t.arr = cs at *
  obtain ⟨Ad, c, rfl, h1, h2⟩ := hl.shape
  have H := Lib.hid hl
  have HB := Lib.hid hB
  have HW := Lib.hid hW
  clear hl hB hW ht
  have hi : (Tryz.prog.info? 26).map (·.size) = some cs.size := by rw [hn]; kernel_rfl
  have hT := Lib.hid (Blk.new w 26 cs)
  go_enter Tryz.func16, Tryz.ntmps16
  go_wp2
  refine wp_region_held_drew (S := fun w' => Ext (w.alloc (.cells cs 26)) w') (by kernel_rfl) (by repeat (first | with_reducible exact Ext.refl _ | refine Ext.drewN ?_ _ | refine Ext.drew ?_ | refine Ext.alloc ?_ _ | assumption | (refine Below.trans ?_ (by assumption)) | (refine Ext.trans ?_ (by assumption)) | (refine Below.trans ?_ (Below.mono (by assumption) (by omega))))) (fun hHeld => ?_)
  (refine wpAnyH_take (i := 0) (v := .agg cs) rfl (by kernel_rfl) (by kernel_rfl) (by kernel_rfl) (fun _ _ _ h => h) (yieldsIf_load_row (by rfl) 26 _ rfl _ rfl 26 cs _ _ (fun w' hw' => Blk.ext hT.out hw') Tryz.underlying26 rfl hi) (by assumption) ?_; (try simp only [Act.put]); (try simp only [List.getElem_toArray]); (try simp only [List.getElem_cons_succ]); (try simp only [List.getElem_cons_zero]); (try simp only [List.setIfInBounds_toArray]); (try simp only [List.set_cons_succ]); (try simp only [List.set_cons_zero]))
  (refine wpAnyH_take (i := 1) (v := ?_) rfl (by kernel_rfl) (by kernel_rfl) (by kernel_rfl) (fun _ _ _ h => h) (Or.inl ⟨by rfl, ?_⟩) (by assumption) ?_; rotate_left; (focus (intro w' hSw; go_simp; try with_reducible rfl)); (try simp only [List.getElem_toArray]); (try simp only [List.getElem_cons_succ]); (try simp only [List.getElem_cons_zero]); (try simp only [Act.put]); (try simp only [List.setIfInBounds_toArray]); (try simp only [List.set_cons_succ]); (try simp only [List.set_cons_zero]))
  (refine wpAnyH_ready (rs := [2]) (by kernel_rfl) (by simp) ?_; refine AllReadyH.cons rfl (fun K hK => ?_) AllReadyH.nil; go_simp; go_at_call 30; refine (within_any _ _).mono ?_; rintro e w1 ⟨rfl, rfl⟩; (try dsimp only); refine hK.out _ _ (by repeat (first | with_reducible exact Ext.refl _ | refine Ext.drewN ?_ _ | refine Ext.drew ?_ | refine Ext.alloc ?_ _ | assumption | (refine Below.trans ?_ (by assumption)) | (refine Ext.trans ?_ (by assumption)) | (refine Below.trans ?_ (Below.mono (by assumption) (by omega))))) (fun hHeld => ?_); clear hK K; (try simp only [Act.put]); (try simp only [List.getElem_toArray]); (try simp only [List.getElem_cons_succ]); (try simp only [List.getElem_cons_zero]); (try simp only [List.setIfInBounds_toArray]); (try simp only [List.set_cons_succ]); (try simp only [List.set_cons_zero]))
  (refine wpAnyH_take (i := 3) (v := .agg (penA cs (colL col) (.slice none 0 0))) rfl (by kernel_rfl) (by kernel_rfl) (by kernel_rfl) (fun _ _ _ h => h) (yieldsIf_build (by rfl) 86 _ rfl (by simp [go_sem]; exact (built_pen (colL col) cs hn))) (by assumption) ?_; (try simp only [List.getElem_toArray]); (try simp only [List.getElem_cons_succ]); (try simp only [List.getElem_cons_zero]); (try simp only [Act.put]); (try simp only [List.setIfInBounds_toArray]); (try simp only [List.set_cons_succ]); (try simp only [List.set_cons_zero]))
  (refine wpAnyH_ready (rs := [4]) (by kernel_rfl) (by simp) ?_; refine AllReadyH.cons rfl (fun K hK => ?_) AllReadyH.nil; go_simp; refine hK.out _ _ (by repeat (first | with_reducible exact Ext.refl _ | refine Ext.drewN ?_ _ | refine Ext.drew ?_ | refine Ext.alloc ?_ _ | assumption | (refine Below.trans ?_ (by assumption)) | (refine Ext.trans ?_ (by assumption)) | (refine Below.trans ?_ (Below.mono (by assumption) (by omega))))) (fun hHeld => ?_); clear hK K; (try simp only [Act.put]); (try simp only [List.getElem_toArray]); (try simp only [List.getElem_cons_succ]); (try simp only [List.getElem_cons_zero]); (try simp only [List.setIfInBounds_toArray]); (try simp only [List.set_cons_succ]); (try simp only [List.set_cons_zero]))
  (refine wpAnyH_take (i := 5) (v := ?_) rfl (by kernel_rfl) (by kernel_rfl) (by kernel_rfl) (fun _ _ _ h => h) (Or.inl ⟨by rfl, ?_⟩) (by assumption) ?_; rotate_left; (focus (intro w' hSw; go_simp; try with_reducible rfl)); (try simp only [List.getElem_toArray]); (try simp only [List.getElem_cons_succ]); (try simp only [List.getElem_cons_zero]); (try simp only [Act.put]); (try simp only [List.setIfInBounds_toArray]); (try simp only [List.set_cons_succ]); (try simp only [List.set_cons_zero]))
  refine wpAnyH_done (by kernel_rfl) ?_ _
  go_wp2
  go_loopw [10, 18] (fun _ i wr => ∃ k : Nat, k ≤ l.length ∧ i = .int .i64 k ∧ Hid (Pen cs (w.heap.size + 1) w.heap.size wr (bytesL p col (l.take k)).2 (bytesL p col (l.take k)).1) ∧ Ext w wr) (fun _ i _ => l.length - (intOf i).toNat)
  case atStart => exact ⟨0, Nat.zero_le _, rfl, Lib.hid (pen0 (Pen.mk2 (by repeat (first | ((with_reducible refine Blk.at_ _ _ ?_); simp; done) | with_reducible refine Blk.drew ?_ | with_reducible refine Blk.alloc ?_ _ | refine Blk.ext ?_ (by assumption))))), (by repeat (first | with_reducible exact Ext.refl _ | refine Ext.drewN ?_ _ | refine Ext.drew ?_ | refine Ext.alloc ?_ _ | assumption | (refine Below.trans ?_ (by assumption)) | (refine Ext.trans ?_ (by assumption)) | (refine Below.trans ?_ (Below.mono (by assumption) (by omega)))))⟩
  case round =>
    obtain ⟨k, hk, rfl, HP, hE⟩ := hrel
    by_cases hlt : k < l.length
    · obtain ⟨b, off, x, rfl, hx, hd⟩ := (H.out.ext hE).icell hlt
      have hxb := HB.out x (List.mem_of_getElem? hd.out)
      have hbl := bytesL_len p col (l.take k)
      have htl : (l.take k).length = k := by rw [List.length_take]; omega
      have hcb := bytesL_bd p col (l.take k)
      have hol : (bytesL p col (l.take k)).1.length ≤ 99999999 := by omega
      have HQ := Lib.hid (fun w' h => HW.out (w.heap.size + 1) w.heap.size _ _ x w' h (Nat.le_succ _) hcb hxb hol)
      clear hbl htl hcb hol
      go_wp2_with fail
      refine (HQ.out _ HP.out).mono ?_
      rintro e w3 ⟨rfl, P3, B3⟩
      have P3 := Lib.hid P3
      go_wp2
      go_roundw
      case rel => exact ⟨k + 1, by omega, by go_num, by rw [bytesL_succ hd.out]; exact P3, Below.trans hE B3⟩
      case measure => simp [intOf]; omega
    · obtain rfl : k = l.length := by omega
      have HP := HP.out
      rw [List.take_length] at HP
      obtain ⟨A1, n1, c1, l1, b1, o1⟩ := HP
      obtain ⟨k24, k25, f24, f25⟩ := pen_cells b1 hn
      have HO := Lib.hid o1
      have HL := Lib.hid l1
      clear b1 o1 l1
      generalize bytesL p col l = z at *
      obtain ⟨zo, zc⟩ := z
      go_wp2
      go_quiet (fail)
      go_wp2
      refine bodyPost_ret (v := .tuple #[.slice A1 n1 c1, .int .i64 zc]) (by simp [results, Tryz.results16, go_sem]) rfl ?_
      exact ⟨A1, n1, c1, HL.out, rfl, HO.out.ext (by repeat (first | with_reducible exact Ext.refl _ | refine Ext.drewN ?_ _ | refine Ext.drew ?_ | refine Ext.alloc ?_ _ | assumption | (refine Below.trans ?_ (by assumption)) | (refine Ext.trans ?_ (by assumption)) | (refine Below.trans ?_ (Below.mono (by assumption) (by omega))))), (by repeat (first | with_reducible exact Ext.refl _ | refine Ext.drewN ?_ _ | refine Ext.drew ?_ | refine Ext.alloc ?_ _ | assumption | (refine Below.trans ?_ (by assumption)) | (refine Ext.trans ?_ (by assumption)) | (refine Below.trans ?_ (Below.mono (by assumption) (by omega)))))⟩
end Go.Proofs.YtfnicinnjkbedaaGreatDoor
