/- Processes freed, by contract. Condition: few processes. -/
import Derived.Test.YtmpmnikgbepphaaR20
namespace Go.Proofs.Ytmpmnikgbepphaa
open Go.RowKit Go.Kb

def freeN : Nat → List Pr → List Pr
  | 0, l => l
  | n + 1, l => match l.findIdx? (idleL l) with
    | none => l
    | some i => freeN n (l.eraseIdx i)
def freeL (l : List Pr) : List Pr := freeN l.length l
theorem freeL_none {l : List Pr} (h : l.any (idleL l) = false) : freeL l = l := by
  unfold freeL
  cases hn : l.length with
  | zero => rfl
  | succ n =>
    have : l.findIdx? (idleL l) = none := by
      rw [List.findIdx?_eq_none_iff]
      rw [List.any_eq_false] at h
      intro x hx
      simpa using h x hx
    simp only [freeN, this]
theorem freeL_some {l : List Pr} {j : Nat} (h : idxL (idleL l) l = j) (hj : j < l.length) : freeL l = freeL (l.eraseIdx j) := by
  unfold freeL
  have hf : l.findIdx? (idleL l) = some j := by
    unfold idxL at h
    split at h
    · rename_i i hi
      rw [hi]
      congr 1
      omega
    · omega
  obtain ⟨n, hn⟩ : ∃ n, l.length = n + 1 := ⟨l.length - 1, by omega⟩
  rw [List.length_eraseIdx_of_lt hj, hn]
  simp only [freeN, hf, Nat.add_sub_cancel]
/-- the length of the slice in a cell -/
def lenAt (w : World) (g : Nat) : Nat := match w.cell? ⟨g, 0, none⟩ with
  | some (.slice _ n _) => n
  | _ => 0
set_option maxRecDepth 100000 in
set_option maxHeartbeats 800000 in
theorem free_any {base : Nat} (Ad : Option Addr) (c : Nat) (l : List Pr) (nx : Int) (w : World) (h : OwnS Rp 43 base (fun _ => False) w (.slice Ad l.length c) l) (hn : l.length ≤ 100000) (hb : base ≤ w.heap.size) :
    Calls Try.prog 52 #[tv Ad l.length c nx] w fun e w' => ∃ A' c', e = .returned (tv A' (freeL l).length c' nx) ∧ OwnS Rp 43 base (fun _ => False) w' (.slice A' (freeL l).length c') (freeL l) ∧ Below base w w' := by
  obtain ⟨W, hW⟩ : ∃ W, W = (w.alloc (.cells #[.slice Ad l.length c, .int .i64 nx] 29)).alloc (.cells #[.slice none 0 0, .int .i64 0] 29) := ⟨_, rfl⟩
  have hres := Lib.hid (show Blk W (w.heap.size + 1) 29 #[.slice none 0 0, .int .i64 0] by rw [hW]; exact Blk.at_ _ _ (by simp))
  have hbox := Lib.hid (show Blk W w.heap.size 29 #[.slice Ad l.length c, .int .i64 nx] by rw [hW]; exact (Blk.new w _ _).alloc _)
  have E0 : Ext w W := by rw [hW]; exact (by repeat (first | with_reducible exact Ext.refl _ | refine Ext.drewN ?_ _ | refine Ext.drew ?_ | refine Ext.alloc ?_ _ | assumption | (refine Below.trans ?_ (by assumption)) | (refine Ext.trans ?_ (by assumption)) | (refine Below.trans ?_ (Below.mono (by assumption) (by omega)))))
  have H := Lib.hid (h.ext E0)
  have hrw := Lib.hid h.row
  have HW := Lib.hid hW
  clear h hW
  go_enter Try.func52, Try.ntmps52
  go_wp2
  go_loopw [3] (fun _ wr => ∃ (A : Option Addr) (c' : Nat) (l' : List Pr), l'.length ≤ 100000 ∧ Hid (Blk wr w.heap.size 29 #[.slice A l'.length c', .int .i64 nx]) ∧ Hid (Blk wr (w.heap.size + 1) 29 #[.slice none 0 0, .int .i64 0]) ∧ Hid (OwnS Rp 43 base (fun _ => False) wr (.slice A l'.length c') l') ∧ Hid (freeL l = freeL l') ∧ Hid (Below base w wr)) (fun _ wr => lenAt wr w.heap.size)
  case atStart => exact ⟨Ad, c, l, hn, by rw [← HW.out]; exact hbox, by rw [← HW.out]; exact hres, by rw [← HW.out]; exact H, Lib.hid rfl, by rw [← HW.out]; exact Lib.hid (E0.mono hb)⟩
  case round =>
    clear hbox hres H HW E0 W
    obtain ⟨A, c', l', hn', hbox, hres, H, HF, HB⟩ := hrel
    have kb := hbox.out.two
    have hmz : lenAt wr w.heap.size = l'.length := by unfold lenAt; rw [kb.1]
    have hsz := HB.out.size
    have hbr : base ≤ wr.heap.size := Nat.le_trans hb hsz
    clear hsz
    go_wp2_with fail
    refine (contains_any _ _ _ (idleL l') _ l' _ (rdy_pr (B := fun _ => False) H.out.y) (asks_idle (rdy_pr (B := fun _ => False) H.out.y))).mono ?_
    rintro e w2 ⟨rfl, E2⟩
    cases ha : l'.any (idleL l')
    · have HX := Lib.hid (freeL_none ha)
      clear ha kb
      have kb := (hbox.out.ext E2).two
      have S2 := hres.out.ext E2
      have ks := S2.two
      have hM7 : Mod (fun k => k = w.heap.size + 1) w2 _ := ((Mod.refl _ w2).set1 (.slice A l'.length c') (o := 0)).set1 (.int .i64 nx) (o := 1)
      obtain ⟨q0, q1, _, _⟩ := (S2.put2 (.slice A l'.length c') (.int .i64 nx)).two
      go_wp2
      refine bodyPost_ret (v := tv A l'.length c' nx) (by simp [results, Try.results52, go_sem, q0, q1]) rfl ?_
      have hne := fun he => own_blk_ne (H.out.ext E2).choose_spec.1 S2 (by decide) he
      rw [HF.out, HX.out]
      refine ⟨A, c', rfl, (H.out.ext E2).mod hM7 (fun k hk he => hne (by rw [← he]; exact hk)) (fun k _ hk _ => hk), ?_⟩
      exact Below.trans HB.out (Below.trans (E2.mono hbr) (hM7.below (Nat.le_trans hbr E2.size) (by intro k hk he; omega)))
    · obtain ⟨h1, h2⟩ | ⟨j, p, h1, h2, h3, h4, h5⟩ := idx_any (f := idleL l') (l := l')
      · rw [h2] at ha; cases ha
      have hj : j < l'.length := (List.getElem?_eq_some_iff.1 h2).1
      have HX := Lib.hid (freeL_some h1 hj)
      have HI := Lib.hid h1
      clear h1 h2 h3 h4 h5 ha kb
      have kb := (hbox.out.ext E2).two
      have hlen := List.length_eraseIdx_of_lt hj
      go_wp2_with fail
      refine (index_any _ _ _ (idleL l') _ l' _ (rdy_pr (B := fun _ => False) (H.out.ext E2).y) (asks_idle (rdy_pr (B := fun _ => False) (H.out.ext E2).y))).mono ?_
      rintro e w3 ⟨rfl, E3⟩
      rw [HI.out]
      have O3 := H.out.ext (E2.trans E3)
      obtain ⟨g, rfl, hg, _⟩ := O3.addr (by omega)
      have kb := (hbox.out.ext (E2.trans E3)).two
      have hjw : IntKind.i64.wrap ((j : Int) + 1) = (j : Int) + 1 := IntWalk.i64_in _ (by omega)
      have HLen := Lib.hid hlen
      clear hlen
      go_wp2_with fail
      refine (delete_any g c' l'.length j l' _ O3 hj hn').mono ?_
      rintro e w4 ⟨rfl, O4, M4⟩
      have hne1 : g ≠ w.heap.size := fun he => own_blk_ne O3.choose_spec.1 (hbox.out.ext (E2.trans E3)) (by decide) (by rw [he]; rfl)
      have hne2 : g ≠ w.heap.size + 1 := fun he => own_blk_ne O3.choose_spec.1 (hres.out.ext (E2.trans E3)) (by decide) (by rw [he]; rfl)
      have B4 := (hbox.out.ext (E2.trans E3)).mod M4 (by show ¬ _ = _; omega)
      have S4 := (hres.out.ext (E2.trans E3)).mod M4 (by show ¬ _ = _; omega)
      have kb := B4.two
      have M5 : Mod (fun k => k = w.heap.size) w4 _ := (Mod.refl _ w4).set1 (.slice (some ⟨g, 0, none⟩) (l'.length - 1) c') (o := 0)
      have B5 : Blk (w4.setCell ⟨w.heap.size, 0, none⟩ (.slice (some ⟨g, 0, none⟩) (l'.length - 1) c')) w.heap.size 29 #[.slice (some ⟨g, 0, none⟩) (l'.length - 1) c', .int .i64 nx] := by simpa using B4.set_ 0 (.slice (some ⟨g, 0, none⟩) (l'.length - 1) c')
      have S5 := S4.mod M5 (by show ¬ _ = _; omega)
      have O5 := O4.mod M5 (fun k hk he => by have : g = k := by simpa [Value.ownBlock] using hk
                                              omega) (fun k _ hk _ => hk)
      have hb3 := (E2.trans E3).size
      have hb4 := M4.size
      have D5 : Below base w (w4.setCell ⟨w.heap.size, 0, none⟩ (.slice (some ⟨g, 0, none⟩) (l'.length - 1) c')) := Below.trans HB.out (Below.trans ((E2.trans E3).mono hbr) (Below.trans (M4.below (by omega) (by intro k hk he; omega)) (M5.below (by omega) (by intro k hk he; omega))))
      have hl5 : lenAt (w4.setCell ⟨w.heap.size, 0, none⟩ (.slice (some ⟨g, 0, none⟩) (l'.length - 1) c')) w.heap.size = l'.length - 1 := by unfold lenAt; rw [B5.two.1]
      have B5 := Lib.hid B5
      have S5 := Lib.hid S5
      have O5 := Lib.hid O5
      have D5 := Lib.hid D5
      have HL5 := Lib.hid hl5
      have HMZ := Lib.hid hmz
      clear hl5 B4 S4 O4 M4 M5 hmz hb3 hb4
      go_wp2
      go_roundw
      case rel =>
        exact ⟨some ⟨g, 0, none⟩, c', l'.eraseIdx j, by rw [HLen.out]; omega, by rw [HLen.out]; exact B5, S5, by rw [HLen.out]; exact O5, Lib.hid (by rw [HF.out, HX.out]), D5⟩
      case measure => rw [HL5.out, HMZ.out]; omega
end Go.Proofs.Ytmpmnikgbepphaa
