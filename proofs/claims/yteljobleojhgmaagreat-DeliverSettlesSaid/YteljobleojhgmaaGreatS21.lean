/- Written by chain.py of S20 T20. No condition. -/
import Derived.Test.YteljobleojhgmaaGreatR21
namespace Go.Proofs.YteljobleojhgmaaGreat
open Go.RowKit Go.Kb

def freeN : Nat → List Pr → List Pr
  | 0, l => l
  | n + 1, l => match l.findIdx? (idleL l) with
    | none => l
    | some i => freeN n (l.eraseIdx i)
def freeL (l : List Pr) : List Pr := freeN l.length l
theorem freeL_none {l : List Pr} (h : l.any (idleL l) = false) : freeL l = l := by
  unfold freeL
  cases hn : l.length with
  | zero => rfl
  | succ n =>
    have : l.findIdx? (idleL l) = none := by
      rw [List.findIdx?_eq_none_iff]
      rw [List.any_eq_false] at h
      intro x hx
      simpa using h x hx
    simp only [freeN, this]
theorem freeL_some {l : List Pr} {j : Nat} (h : idxL (idleL l) l = j) (hj : j < l.length) : freeL l = freeL (l.eraseIdx j) := by
  unfold freeL
  have hf : l.findIdx? (idleL l) = some j := by
    unfold idxL at h
    split at h
    · rename_i i hi
      rw [hi]
      congr 1
      omega
    · omega
  obtain ⟨n, hn⟩ : ∃ n, l.length = n + 1 := ⟨l.length - 1, by omega⟩
  rw [List.length_eraseIdx_of_lt hj, hn]
  simp only [freeN, hf, Nat.add_sub_cancel]
/-- the length of the slice in a cell -/
def lenAt (w : World) (g : Nat) : Nat := match w.cell? ⟨g, 0, none⟩ with
  | some (.slice _ n _) => n
  | _ => 0
set_option maxRecDepth 100000 in
set_option maxHeartbeats 800000 in
theorem free_any {base : Nat} (Ad : Option Addr) (c : Nat) (l : List Pr) (nx : Int) (w : World) (h : OwnS Rp 42 base (fun _ => False) w (.slice Ad l.length c) l) (hn : l.length ≤ 100000) (hb : base ≤ w.heap.size) :
    Calls Tryz.prog 76 #[tv Ad l.length c nx] w fun e w' => ∃ A' c', e = .returned (tv A' (freeL l).length c' nx) ∧ OwnS Rp 42 base (fun _ => False) w' (.slice A' (freeL l).length c') (freeL l) ∧ Below base w w' := by
  obtain ⟨W, hW⟩ : ∃ W, W = (w.alloc (.cells #[.slice Ad l.length c, .int .i64 nx] 29)).alloc (.cells #[.slice none 0 0, .int .i64 0] 29) := ⟨_, rfl⟩
  have hres := Lib.hid (show Blk W (w.heap.size + 1) 29 #[.slice none 0 0, .int .i64 0] by rw [hW]; exact Blk.at_ _ _ (by simp))
  have hbox := Lib.hid (show Blk W w.heap.size 29 #[.slice Ad l.length c, .int .i64 nx] by rw [hW]; exact (Blk.new w _ _).alloc _)
  have E0 : Ext w W := by rw [hW]; exact (by repeat (first | with_reducible exact Ext.refl _ | refine Ext.drewN ?_ _ | refine Ext.drew ?_ | refine Ext.alloc ?_ _ | assumption | (refine Below.trans ?_ (by assumption)) | (refine Ext.trans ?_ (by assumption)) | (refine Below.trans ?_ (Below.mono (by assumption) (by omega)))))
  have H := Lib.hid (h.ext E0)
  have hrw := Lib.hid h.row
  have HW := Lib.hid hW
  clear h hW
  go_enter Tryz.func76, Tryz.ntmps76
  go_wp2
  go_loopw [3] (fun _ wr => ∃ (A : Option Addr) (c' : Nat) (l' : List Pr), l'.length ≤ 100000 ∧ Hid (Blk wr w.heap.size 29 #[.slice A l'.length c', .int .i64 nx]) ∧ Hid (Blk wr (w.heap.size + 1) 29 #[.slice none 0 0, .int .i64 0]) ∧ Hid (OwnS Rp 42 base (fun _ => False) wr (.slice A l'.length c') l') ∧ Hid (freeL l = freeL l') ∧ Hid (Below base w wr)) (fun _ wr => lenAt wr w.heap.size)
  case atStart => exact ⟨Ad, c, l, hn, by rw [← HW.out]; exact hbox, by rw [← HW.out]; exact hres, by rw [← HW.out]; exact H, Lib.hid rfl, by rw [← HW.out]; exact Lib.hid (E0.mono hb)⟩
  case round =>
    clear hbox hres H HW E0 W
    obtain ⟨A, c', l', hn', hbox, hres, H, HF, HB⟩ := hrel
    have kb := hbox.out.two
    have hmz : lenAt wr w.heap.size = l'.length := by unfold lenAt; rw [kb.1]
    have hsz := HB.out.size
    have hbr : base ≤ wr.heap.size := Nat.le_trans hb hsz
    clear hsz
    go_wp2_with fail
    refine (contains_any _ _ _ (idleL l') _ l' _ (rdy_pr (B := fun _ => False) H.out.y) (asks_idle (rdy_pr (B := fun _ => False) H.out.y))).mono ?_
    rintro e w2 ⟨rfl, E2⟩
    cases ha : l'.any (idleL l')
    · have HX := Lib.hid (freeL_none ha)
      clear ha kb
      have kb := (hbox.out.ext E2).two
      have S2 := hres.out.ext E2
      have ks := S2.two
      have hM7 : Mod (fun k => k = w.heap.size + 1) w2 _ := ((Mod.refl _ w2).set1 (.slice A l'.length c') (o := 0)).set1 (.int .i64 nx) (o := 1)
      obtain ⟨q0, q1, _, _⟩ := (S2.put2 (.slice A l'.length c') (.int .i64 nx)).two
      go_wp2
      refine bodyPost_ret (v := tv A l'.length c' nx) (by simp [results, Tryz.results76, go_sem, q0, q1]) rfl ?_
      have hne := fun he => own_blk_ne (H.out.ext E2).choose_spec.1 S2 (by decide) he
      rw [HF.out, HX.out]
      refine ⟨A, c', rfl, (H.out.ext E2).mod hM7 (fun k hk he => hne (by rw [← he]; exact hk)) (fun k _ hk _ => hk), ?_⟩
      exact Below.trans HB.out (Below.trans (E2.mono hbr) (hM7.below (Nat.le_trans hbr E2.size) (by intro k hk he; omega)))
    · obtain ⟨h1, h2⟩ | ⟨j, p, h1, h2, h3, h4, h5⟩ := idx_any (f := idleL l') (l := l')
      · rw [h2] at ha; cases ha
      have hj : j < l'.length := (List.getElem?_eq_some_iff.1 h2).1
      have HX := Lib.hid (freeL_some h1 hj)
      have HI := Lib.hid h1
      clear h1 h2 h3 h4 h5 ha kb
      have kb := (hbox.out.ext E2).two
      have hlen := List.length_eraseIdx_of_lt hj
      go_wp2_with fail
      refine (index_any _ _ _ (idleL l') _ l' _ (rdy_pr (B := fun _ => False) (H.out.ext E2).y) (asks_idle (rdy_pr (B := fun _ => False) (H.out.ext E2).y))).mono ?_
      rintro e w3 ⟨rfl, E3⟩
      rw [HI.out]
      have O3 := H.out.ext (E2.trans E3)
      obtain ⟨g, rfl, hg, _⟩ := O3.addr (by omega)
      have kb := (hbox.out.ext (E2.trans E3)).two
      have hjw : IntKind.i64.wrap ((j : Int) + 1) = (j : Int) + 1 := IntWalk.i64_in _ (by omega)
      have HLen := Lib.hid hlen
      clear hlen
      go_wp2_with fail
      refine (delete_any g c' l'.length j l' _ O3 hj hn').mono ?_
      rintro e w4 ⟨rfl, O4, M4⟩
      have hne1 : g ≠ w.heap.size := fun he => own_blk_ne O3.choose_spec.1 (hbox.out.ext (E2.trans E3)) (by decide) (by rw [he]; rfl)
      have hne2 : g ≠ w.heap.size + 1 := fun he => own_blk_ne O3.choose_spec.1 (hres.out.ext (E2.trans E3)) (by decide) (by rw [he]; rfl)
      have B4 := (hbox.out.ext (E2.trans E3)).mod M4 (by show ¬ _ = _; omega)
      have S4 := (hres.out.ext (E2.trans E3)).mod M4 (by show ¬ _ = _; omega)
      have kb := B4.two
      have M5 : Mod (fun k => k = w.heap.size) w4 _ := (Mod.refl _ w4).set1 (.slice (some ⟨g, 0, none⟩) (l'.length - 1) c') (o := 0)
      have B5 : Blk (w4.setCell ⟨w.heap.size, 0, none⟩ (.slice (some ⟨g, 0, none⟩) (l'.length - 1) c')) w.heap.size 29 #[.slice (some ⟨g, 0, none⟩) (l'.length - 1) c', .int .i64 nx] := by simpa using B4.set_ 0 (.slice (some ⟨g, 0, none⟩) (l'.length - 1) c')
      have S5 := S4.mod M5 (by show ¬ _ = _; omega)
      have O5 := O4.mod M5 (fun k hk he => by have : g = k := by simpa [Value.ownBlock] using hk
                                              omega) (fun k _ hk _ => hk)
      have hb3 := (E2.trans E3).size
      have hb4 := M4.size
      have D5 : Below base w (w4.setCell ⟨w.heap.size, 0, none⟩ (.slice (some ⟨g, 0, none⟩) (l'.length - 1) c')) := Below.trans HB.out (Below.trans ((E2.trans E3).mono hbr) (Below.trans (M4.below (by omega) (by intro k hk he; omega)) (M5.below (by omega) (by intro k hk he; omega))))
      have hl5 : lenAt (w4.setCell ⟨w.heap.size, 0, none⟩ (.slice (some ⟨g, 0, none⟩) (l'.length - 1) c')) w.heap.size = l'.length - 1 := by unfold lenAt; rw [B5.two.1]
      have B5 := Lib.hid B5
      have S5 := Lib.hid S5
      have O5 := Lib.hid O5
      have D5 := Lib.hid D5
      have HL5 := Lib.hid hl5
      have HMZ := Lib.hid hmz
      clear hl5 B4 S4 O4 M4 M5 hmz hb3 hb4
      go_wp2
      go_roundw
      case rel =>
        exact ⟨some ⟨g, 0, none⟩, c', l'.eraseIdx j, by rw [HLen.out]; omega, by rw [HLen.out]; exact B5, S5, by rw [HLen.out]; exact O5, Lib.hid (by rw [HF.out, HX.out]), D5⟩
      case measure => rw [HL5.out, HMZ.out]; omega
end Go.Proofs.YteljobleojhgmaaGreat
namespace Go.Proofs.YteljobleojhgmaaGreat
open Go.RowKit Go.Kb

/-- a process whose parent is gone -/
def orphan (pid : Int) (p : Pr) : Pr := if p.parent == pid then { p with parent := 0 } else p
theorem orphan_ok {pid : Int} {p : Pr} (h : p.ok) : (orphan pid p).ok := by
  unfold orphan; split <;> exact h
/-- the parent told -/
def tellUp (gp : Int) (l : List Pr) : List Pr :=
  match l.findIdx? (fun p => p.pid == gp && liveP p) with
  | none => l
  | some k => match l[k]? with
    | none => l
    | some up => l.set k { up with pending := orL up.pending 17 }
def endL (l : List Pr) (pid st : Int) : List Pr :=
  let l2 := (changeL (endP st) pid l).map (orphan pid)
  let gp := match l2.find? (fun p => p.pid == pid) with | none => 0 | some p => p.parent
  freeL (tellUp gp l2)
/-- the loop over the children, m of them done -/
def orphN (pid : Int) (l : List Pr) (m : Nat) : List Pr := (l.take m).map (orphan pid) ++ l.drop m
theorem orphN_len {pid : Int} {l : List Pr} {m : Nat} : (orphN pid l m).length = l.length := by simp [orphN]; omega
theorem orphN_at {pid : Int} {l : List Pr} {m : Nat} {p : Pr} (h : l[m]? = some p) : (orphN pid l m)[m]? = some p ∧ (orphN pid l m).set m (orphan pid p) = orphN pid l (m + 1) := by
  obtain ⟨hlt, hx⟩ := List.getElem?_eq_some_iff.1 h
  have hl : ((l.take m).map (orphan pid)).length = m := by simp; omega
  unfold orphN
  constructor
  · rw [List.getElem?_append_right (by omega), hl, Nat.sub_self, List.getElem?_drop, Nat.add_zero]
    exact h
  · rw [List.set_append_right _ _ (by omega), hl, Nat.sub_self, List.drop_eq_getElem_cons hlt, hx, List.set_cons_zero, List.take_add_one, h]
    simp
theorem orphN_end {pid : Int} {l : List Pr} {m : Nat} (h : l.length ≤ m) : orphN pid l m = l.map (orphan pid) := by
  unfold orphN
  rw [List.take_of_length_le h, List.drop_of_length_le h, List.append_nil]
theorem find_orph {pid : Int} {l1 L2 : List Pr} {j : Nat} {q : Pr} (h : idxL (fun p => p.pid == pid) l1 = j) (h2 : l1.map (orphan pid) = L2) (h3 : L2[j]? = some q) : L2.find? (fun p => p.pid == pid) = some q := by
  have hp : ∀ p, (orphan pid p).pid = p.pid := fun p => by unfold orphan; split <;> rfl
  have h4 : idxL (fun p => p.pid == pid) L2 = j := by
    rw [← h, ← h2]
    unfold idxL
    rw [List.findIdx?_map]
    have : ((fun p : Pr => p.pid == pid) ∘ orphan pid) = fun p => p.pid == pid := by funext p; simp [hp]
    rw [this]
  rcases idx_any (f := fun p => p.pid == pid) (l := L2) with ⟨h5, _⟩ | ⟨j', p, h5, h6, _, _, h7⟩
  · omega
  · obtain rfl : j' = j := by omega
    rw [h3] at h6
    cases h6
    exact h7
theorem tellUp_none {gp : Int} {l : List Pr} (h : idxL (fun p => p.pid == gp && liveP p) l = -1) : tellUp gp l = l := by
  unfold tellUp
  unfold idxL at h
  split at h
  · omega
  · rename_i hn; rw [hn]
theorem tellUp_some {gp : Int} {l : List Pr} {j : Nat} {p : Pr} (h : idxL (fun p => p.pid == gp && liveP p) l = j) (hp : l[j]? = some p) : tellUp gp l = l.set j { p with pending := orL p.pending 17 } := by
  unfold tellUp
  unfold idxL at h
  split at h
  · rename_i i hi
    obtain rfl : i = j := by omega
    simp only [hi, hp]
  · omega
theorem endL_eq {l l1 L2 : List Pr} {pid st : Int} {q : Pr} (h1 : l1 = changeL (endP st) pid l) (h2 : l1.map (orphan pid) = L2) (h3 : L2.find? (fun p => p.pid == pid) = some q) : endL l pid st = freeL (tellUp q.parent L2) := by
  subst h1 h2
  unfold endL
  simp only [h3]
def EndPost (l : List Pr) (nx pid st : Int) (Ad : Option Addr) (c : Nat) (w : World) (e : Ending) (w' : World) : Prop :=
  Ext w w' ∧ ((askL l nx [pid] ≠ 0 ∧ e = .returned (.tuple #[tv Ad l.length c nx, .int .i64 (askL l nx [pid])])) ∨
   (askL l nx [pid] = 0 ∧ ∃ A' c', e = .returned (.tuple #[tv A' (endL l pid st).length c' nx, .int .i64 0]) ∧ OwnS Rp 42 w.heap.size (fun _ => False) w' (.slice A' (endL l pid st).length c') (endL l pid st)))
set_option maxRecDepth 100000 in
set_option maxHeartbeats 800000 in
theorem end_any {A : Nat → Prop} (Ad : Option Addr) (c : Nat) (l : List Pr) (nx pid st : Int) (w : World) (h : RdY Rp A w (.slice Ad l.length c) l) :
    Calls Tryz.prog 45 #[tv Ad l.length c nx, .int .i64 pid, .int .i64 st] w (EndPost l nx pid st Ad c w) := by
  have H := Lib.hid (rdy_pr (B := fun _ => False) h)
  obtain ⟨W, hW⟩ : ∃ W, W = ((w.alloc (.cells #[.slice Ad l.length c, .int .i64 nx] 29)).alloc (.cells #[.int .i64 st] 3)).alloc (.cells #[.slice none 0 0, .int .i64 0] 29) := ⟨_, rfl⟩
  have hres := Lib.hid (show Blk W (w.heap.size + 1 + 1) 29 #[.slice none 0 0, .int .i64 0] by rw [hW]; exact Blk.at_ _ _ (by simp))
  have hst := Lib.hid (show Blk W (w.heap.size + 1) 3 #[.int .i64 st] by rw [hW]; exact (Blk.at_ _ _ (by simp)).alloc _)
  have hbox := Lib.hid (show Blk W w.heap.size 29 #[.slice Ad l.length c, .int .i64 nx] by rw [hW]; exact ((Blk.new w _ _).alloc _).alloc _)
  have E0 : Ext w W := by rw [hW]; exact (by repeat (first | with_reducible exact Ext.refl _ | refine Ext.drewN ?_ _ | refine Ext.drew ?_ | refine Ext.alloc ?_ _ | assumption | (refine Below.trans ?_ (by assumption)) | (refine Ext.trans ?_ (by assumption)) | (refine Below.trans ?_ (Below.mono (by assumption) (by omega)))))
  have hsz := Lib.hid (show W.heap.size = w.heap.size + 3 by rw [hW]; simp)
  have HW := Lib.hid hW
  obtain ⟨e0, he0⟩ : ∃ e0, askL l nx [pid] = e0 := ⟨_, rfl⟩
  have HE := Lib.hid he0
  clear h hW he0
  go_enter Tryz.func45, Tryz.ntmps45
  go_wp2_with fail
  rw [← HW.out]
  refine (ask_any (B := fun _ => True) Ad _ c _ l nx [pid] _ (H.out.ext (E0.alloc _)) (RdY.singleB (e := Ib) (cs := [.int .i64 pid]) rfl (Blk.at_ _ _ (by first | rfl | (rw [HW.out]; simp))))).mono ?_
  rintro e w1 ⟨rfl, E1⟩
  rw [HE.out]
  have EW1 : Ext W w1 := Ext.trans ((Ext.refl W).alloc _) E1
  have E01 : Ext w w1 := E0.trans EW1
  clear E1
  by_cases hz : e0 = 0
  · subst hz
    obtain ⟨hr, p0, hg0, hpl, hpid⟩ := askL_live HE.out
    have hl := (right_len hr).1
    have kb := (hbox.out.ext EW1).two
    have hz0 := hsz.out
    have hz1 := EW1.size
    clear hr hg0
    go_wp2_with fail
    refine (change_any Ad c l nx pid w1 (H.out.ext E01) (by omega) (turns_end w1 (hst.out.ext EW1))).mono ?_
    rintro e w2 ⟨A2, c2, rfl, o2, E2⟩
    have EW2 : Ext W w2 := EW1.trans E2
    have E02 : Ext w w2 := E01.trans E2
    obtain ⟨l1, hl1⟩ : ∃ l1, l1 = changeL (endP st) pid l := ⟨_, rfl⟩
    have hln : l1.length = l.length := by rw [hl1]; exact changeL_len
    rw [← hl1, ← hln] at o2
    rw [← hln]
    have HL1 := Lib.hid hl1
    have hr2 := o2.row
    have kb := (hbox.out.ext EW2).two
    have hMz : Mod (fun k => k = w.heap.size) w2 _ := ((Mod.refl _ w2).set1 (.slice A2 l1.length c2) (o := 0)).set1 (.int .i64 nx) (o := 1)
    have BW := Lib.hid ((hbox.out.ext EW2).put2 (.slice A2 l1.length c2) (.int .i64 nx))
    have S3 := Lib.hid ((hres.out.ext EW2).mod hMz (by show ¬ _ = _; omega))
    have O3 := Lib.hid (o2.mod hMz (fun k hk he => by have := (hr2 k hk).1; omega) (fun k _ hk he => hk))
    have E03 : Ext w _ := Mod.toExt E02 hMz (by intro k hk he; omega)
    have hs3 := hMz.size
    have hw3 : w1.heap.size ≤ _ := Nat.le_trans E2.size hs3
    have HLn := Lib.hid hln
    clear hMz hl1 o2 hr2 hs3 hln
    go_wp2
    clear kb
    generalize (w2.setCell _ _).setCell _ _ = W3 at *
    refine wp_region_held_drew (S := fun w' => Ext W3 w') (by kernel_rfl) (Ext.drew (Ext.refl _)) (fun hHeld => ?_)
    (refine wpAnyH_take (i := 0) (v := ?_) rfl (by kernel_rfl) (by kernel_rfl) (by kernel_rfl) (fun _ _ _ h => h) (Or.inl ⟨by rfl, ?_⟩) (by assumption) ?_; rotate_left; (focus (intro w' hSw; have kc := (BW.out.ext hSw).two; go_simp; try with_reducible rfl)); (try simp only [List.getElem_toArray]); (try simp only [List.getElem_cons_succ]); (try simp only [List.getElem_cons_zero]); (try simp only [Act.put]); (try simp only [List.setIfInBounds_toArray]); (try simp only [List.set_cons_succ]); (try simp only [List.set_cons_zero]))
    (refine wpAnyH_take (i := 1) (v := ?_) rfl (by kernel_rfl) (by kernel_rfl) (by kernel_rfl) (fun _ _ _ h => h) (Or.inl ⟨by rfl, ?_⟩) (by assumption) ?_; rotate_left; (focus (intro w' hSw; go_simp; try with_reducible rfl)); (try simp only [List.getElem_toArray]); (try simp only [List.getElem_cons_succ]); (try simp only [List.getElem_cons_zero]); (try simp only [Act.put]); (try simp only [List.setIfInBounds_toArray]); (try simp only [List.set_cons_succ]); (try simp only [List.set_cons_zero]))
    (refine wpAnyH_ready (rs := [2]) (by kernel_rfl) (by simp) ?_; refine AllReadyH.cons rfl (fun K hK => ?_) AllReadyH.nil; go_simp; go_at_call 44; refine (is_any pid _).mono ?_; rintro e w4 ⟨n2, rfl, F2, E4⟩; (try dsimp only); refine hK.out _ _ (by repeat (first | with_reducible exact Ext.refl _ | refine Ext.drewN ?_ _ | refine Ext.drew ?_ | refine Ext.alloc ?_ _ | assumption | (refine Below.trans ?_ (by assumption)) | (refine Ext.trans ?_ (by assumption)) | (refine Below.trans ?_ (Below.mono (by assumption) (by omega))))) (fun hHeld => ?_); clear hK K; (try simp only [Act.put]); (try simp only [List.getElem_toArray]); (try simp only [List.getElem_cons_succ]); (try simp only [List.getElem_cons_zero]); (try simp only [List.setIfInBounds_toArray]); (try simp only [List.set_cons_succ]); (try simp only [List.set_cons_zero]))
    have E34 : Ext W3 w4 := by assumption
    have hfind := find_any A2 c2 l1 nx w4 (RdY.ext (rdy_pr (B := fun _ => False) O3.out.y) E34) F2
    (refine wpAnyH_ready (rs := [3]) (by kernel_rfl) (by simp) ?_; refine AllReadyH.cons rfl (fun K hK => ?_) AllReadyH.nil; go_simp; go_at_call 34; refine (hfind).mono ?_; rintro e w5 ⟨E5, (⟨hx, m0, rfl, hm0, hz⟩ | ⟨j, b, off, hx, hlt, rfl, rfl⟩)⟩; all_goals ((try dsimp only); refine hK.out _ _ (by repeat (first | with_reducible exact Ext.refl _ | refine Ext.drewN ?_ _ | refine Ext.drew ?_ | refine Ext.alloc ?_ _ | assumption | (refine Below.trans ?_ (by assumption)) | (refine Ext.trans ?_ (by assumption)) | (refine Below.trans ?_ (Below.mono (by assumption) (by omega))))) (fun hHeld => ?_); clear hK K; (try simp only [Act.put]); (try simp only [List.getElem_toArray]); (try simp only [List.getElem_cons_succ]); (try simp only [List.getElem_cons_zero]); (try simp only [List.setIfInBounds_toArray]); (try simp only [List.set_cons_succ]); (try simp only [List.set_cons_zero])))
    · exfalso
      have hi1 := idx_any (f := fun p => p.pid == pid) (l := l)
      rcases hi1 with ⟨_, h2⟩ | ⟨j, p, h1, h2, h3, _, _⟩
      · rw [List.any_eq_false] at h2
        exact h2 p0 hpl (by simpa using hpid)
      · have hch := changeL_some (g := endP st) h1 h2
        rw [← HL1.out] at hch
        have hjl : j < l.length := (List.getElem?_eq_some_iff.1 h2).1
        have hmem : l1[j]? = some (endP st p) := by rw [hch]; exact List.getElem?_set_self hjl
        rcases idx_any (f := fun p => p.pid == pid) (l := l1) with ⟨_, h4⟩ | ⟨j', p', h4, _⟩
        · rw [List.any_eq_false] at h4
          exact h4 _ (List.mem_of_getElem? hmem) h3
        · rw [h4] at hx; omega
    · (refine wpAnyH_take (i := 4) (v := ?_) rfl (by kernel_rfl) (by kernel_rfl) (by kernel_rfl) (fun _ _ _ h => h) (Or.inl ⟨by rfl, ?_⟩) (by assumption) ?_; rotate_left; (focus (intro w' hSw; go_simp; try with_reducible rfl)); (try simp only [List.getElem_toArray]); (try simp only [List.getElem_cons_succ]); (try simp only [List.getElem_cons_zero]); (try simp only [Act.put]); (try simp only [List.setIfInBounds_toArray]); (try simp only [List.set_cons_succ]); (try simp only [List.set_cons_zero]))
      (refine wpAnyH_take (i := 5) (v := ?_) rfl (by kernel_rfl) (by kernel_rfl) (by kernel_rfl) (fun _ _ _ h => h) (Or.inl ⟨by rfl, ?_⟩) (by assumption) ?_; rotate_left; (focus (intro w' hSw; go_simp; try with_reducible rfl)); (try simp only [List.getElem_toArray]); (try simp only [List.getElem_cons_succ]); (try simp only [List.getElem_cons_zero]); (try simp only [Act.put]); (try simp only [List.setIfInBounds_toArray]); (try simp only [List.set_cons_succ]); (try simp only [List.set_cons_zero]))
      (refine wpAnyH_take (i := 6) (v := ?_) rfl (by kernel_rfl) (by kernel_rfl) (by kernel_rfl) (fun _ _ _ h => h) (Or.inl ⟨by rfl, ?_⟩) (by assumption) ?_; rotate_left; (focus (intro w' hSw; go_simp; try with_reducible rfl)); (try simp only [List.getElem_toArray]); (try simp only [List.getElem_cons_succ]); (try simp only [List.getElem_cons_zero]); (try simp only [Act.put]); (try simp only [List.setIfInBounds_toArray]); (try simp only [List.set_cons_succ]); (try simp only [List.set_cons_zero]))
      (refine wpAnyH_take (i := 7) (v := ?_) rfl (by kernel_rfl) (by kernel_rfl) (by kernel_rfl) (fun _ _ _ h => h) (Or.inl ⟨by rfl, ?_⟩) (by assumption) ?_; rotate_left; (focus (intro w' hSw; go_simp; try with_reducible rfl)); (try simp only [List.getElem_toArray]); (try simp only [List.getElem_cons_succ]); (try simp only [List.getElem_cons_zero]); (try simp only [Act.put]); (try simp only [List.setIfInBounds_toArray]); (try simp only [List.set_cons_succ]); (try simp only [List.set_cons_zero]))
      (refine wpAnyH_take (i := 8) (v := ?_) rfl (by kernel_rfl) (by kernel_rfl) (by kernel_rfl) (fun _ _ _ h => h) (Or.inl ⟨by rfl, ?_⟩) (by assumption) ?_; rotate_left; (focus (intro w' hSw; go_simp; try with_reducible rfl)); (try simp only [List.getElem_toArray]); (try simp only [List.getElem_cons_succ]); (try simp only [List.getElem_cons_zero]); (try simp only [Act.put]); (try simp only [List.setIfInBounds_toArray]); (try simp only [List.set_cons_succ]); (try simp only [List.set_cons_zero]))
      refine wpAnyH_done (by kernel_rfl) ?_ _
      have E35 : Ext W3 w5 := E34.trans E5
      have E05 : Ext w w5 := E03.trans E35
      have O5 := Lib.hid (O3.out.ext E35)
      have B5 := Lib.hid (BW.out.ext E35)
      have S5 := Lib.hid (S3.out.ext E35)
      have hw5 : w1.heap.size ≤ w5.heap.size := Nat.le_trans hw3 E35.size
      clear O3 BW S3 F2 hfind hbox hst hres E34 E35 E5 E03 E02 EW2
      obtain ⟨b', hb', hbase, _⟩ := O5.out.addr (by omega)
      simp only [Option.some.injEq, Addr.mk.injEq, and_true] at hb'
      obtain ⟨rfl, rfl⟩ := hb'
      have kb := B5.out.two
      obtain ⟨N, hN⟩ : ∃ N, l1.length = N := ⟨_, rfl⟩
      rw [hN] at kb hlt B5 O5
      have HNN := Lib.hid hN
      have HX := Lib.hid hx
      have hN2 : N ≤ 32 := by have := HLn.out; omega
      rw [hN]
      clear hN hx
      go_wp2
      go_loopw [36] (fun i wr => ∃ m : Nat, m ≤ N ∧ i = .int .i64 m ∧ Hid (Blk wr w.heap.size 29 #[.slice (some ⟨b, 0, none⟩) N c2, .int .i64 nx]) ∧ Hid (Blk wr (w.heap.size + 1 + 1) 29 #[.slice none 0 0, .int .i64 0]) ∧ Hid (OwnS Rp 42 w1.heap.size (fun _ => False) wr (.slice (some ⟨b, 0, none⟩) N c2) (orphN pid l1 m)) ∧ Hid (Ext w wr) ∧ w1.heap.size ≤ wr.heap.size) (fun i _ => N - (intOf i).toNat)
      case atStart => exact ⟨0, Nat.zero_le _, rfl, B5, S5, O5, Lib.hid E05, hw5⟩
      case round =>
        clear B5 S5 O5 E05 hw5 kb
        obtain ⟨m, hm, rfl, B6, S6, O6, HE6, hw6⟩ := hrel
        by_cases hmn : m < N
        · obtain ⟨p, hp⟩ : ∃ p, l1[m]? = some p := ⟨_, List.getElem?_eq_getElem (by have := HNN.out; omega)⟩
          obtain ⟨ho1, ho2⟩ := orphN_at (pid := pid) hp
          obtain ⟨hok, hG, hGlt, hat, hfr, _⟩ := own_at O6.out ho1
          have c1 := hat.c1
          have kb := B6.out.two
          by_cases hpar : p.parent = pid
          · have hq : orphan pid p = { p with parent := 0 } := by unfold orphan; rw [if_pos (by simpa using hpar)]
            have O7 := own_put (p' := { p with parent := 0 }) (i := 1) (x := .int .i64 0) O6.out ho1 (by omega) (by simp [Pr.cells]) hok
            rw [← hq, ho2] at O7
            have M7 : Mod (fun k => k = b) wr _ := (Mod.refl _ wr).set1 (.int .i64 0) (o := m * 43 + 1)
            have B7 := Lib.hid (B6.out.mod M7 (by show ¬ _ = _; omega))
            have S7 := Lib.hid (S6.out.mod M7 (by show ¬ _ = _; omega))
            have E7 := Lib.hid (Mod.toExt HE6.out M7 (by intro k hk he; omega))
            have hw7 := Nat.le_trans hw6 M7.size
            have O7 := Lib.hid O7
            have hpb : (p.parent == pid) = true := by simpa using hpar
            clear ho1 ho2 hat hq M7 hok
            go_wp2
            go_roundw
            case rel => exact ⟨m + 1, by omega, by go_num, B7, S7, O7, E7, hw7⟩
            case measure => simp [intOf]; omega
          · have hq : orphan pid p = p := by unfold orphan; rw [if_neg (by simpa using hpar)]
            have ho3 : orphN pid l1 (m + 1) = orphN pid l1 m := by
              rw [← ho2, hq]
              apply List.ext_getElem?; intro t; rw [List.getElem?_set]; split
              · rename_i h; subst h; split
                · exact ho1.symm
                · rename_i h2; rw [List.getElem?_eq_none (by omega)]
              · rfl
            have hpb : (p.parent == pid) = false := by simpa using hpar
            have O7 : Hid (OwnS Rp 42 w1.heap.size (fun _ => False) wr (.slice (some ⟨b, 0, none⟩) N c2) (orphN pid l1 (m + 1))) := by rw [ho3]; exact O6
            clear ho1 ho2 ho3 hat hq hok
            go_wp2
            go_roundw
            case rel => exact ⟨m + 1, by omega, by go_num, B6, S6, O7, HE6, hw6⟩
            case measure => simp [intOf]; omega
        · have hml : orphN pid l1 m = l1.map (orphan pid) := orphN_end (by have := HNN.out; omega)
          rw [hml] at O6
          obtain ⟨L2, hL2⟩ : ∃ L2, l1.map (orphan pid) = L2 := ⟨_, rfl⟩
          rw [hL2] at O6
          have hL2n : L2.length = N := by rw [← hL2, List.length_map]; exact HNN.out
          obtain ⟨q, hq⟩ : ∃ q, L2[j]? = some q := ⟨_, List.getElem?_eq_getElem (by omega)⟩
          obtain ⟨hqok, hG, hGlt, hat, _, _⟩ := own_at O6.out hq
          have HAT := Lib.hid hat.c1
          have HL2 := Lib.hid hL2
          have HQ := Lib.hid hq
          rw [← hL2n] at B6 O6
          have HN2 := Lib.hid hL2n
          clear hml hL2 hq hat hL2n
          go_wp2
          refine wp_region_held_drew (S := fun w' => Ext wr w') (by kernel_rfl) (Ext.drew (Ext.refl _)) (fun hHeld => ?_)
          (refine wpAnyH_take (i := 0) (v := ?_) rfl (by kernel_rfl) (by kernel_rfl) (by kernel_rfl) (fun _ _ _ h => h) (Or.inl ⟨by rfl, ?_⟩) (by assumption) ?_; rotate_left; (focus (intro w' hSw; have kc := (B6.out.ext hSw).two; go_simp; try with_reducible rfl)); (try simp only [List.getElem_toArray]); (try simp only [List.getElem_cons_succ]); (try simp only [List.getElem_cons_zero]); (try simp only [Act.put]); (try simp only [List.setIfInBounds_toArray]); (try simp only [List.set_cons_succ]); (try simp only [List.set_cons_zero]))
          (refine wpAnyH_take (i := 1) (v := ?_) rfl (by kernel_rfl) (by kernel_rfl) (by kernel_rfl) (fun _ _ _ h => h) (Or.inl ⟨by rfl, ?_⟩) (by assumption) ?_; rotate_left; (focus (intro w' hSw; go_simp; try with_reducible rfl)); (try simp only [List.getElem_toArray]); (try simp only [List.getElem_cons_succ]); (try simp only [List.getElem_cons_zero]); (try simp only [Act.put]); (try simp only [List.setIfInBounds_toArray]); (try simp only [List.set_cons_succ]); (try simp only [List.set_cons_zero]))
          (refine wpAnyH_take (i := 2) (v := ?_) rfl (by kernel_rfl) (by kernel_rfl) (by kernel_rfl) (fun _ _ _ h => h) (Or.inl ⟨by rfl, ?_⟩) (by assumption) ?_; rotate_left; (focus (intro w' hSw; go_simp; try with_reducible rfl)); (try simp only [List.getElem_toArray]); (try simp only [List.getElem_cons_succ]); (try simp only [List.getElem_cons_zero]); (try simp only [Act.put]); (try simp only [List.setIfInBounds_toArray]); (try simp only [List.set_cons_succ]); (try simp only [List.set_cons_zero]))
          (refine wpAnyH_take (i := 3) (v := ?_) rfl (by kernel_rfl) (by kernel_rfl) (by kernel_rfl) (fun _ _ _ h => h) (Or.inl ⟨by rfl, ?_⟩) (by assumption) ?_; rotate_left; (focus (intro w' hSw; go_simp; try with_reducible rfl)); (try simp only [List.getElem_toArray]); (try simp only [List.getElem_cons_succ]); (try simp only [List.getElem_cons_zero]); (try simp only [Act.put]); (try simp only [List.setIfInBounds_toArray]); (try simp only [List.set_cons_succ]); (try simp only [List.set_cons_zero]))
          (refine wpAnyH_take (i := 4) (v := ?_) rfl (by kernel_rfl) (by kernel_rfl) (by kernel_rfl) (fun _ _ _ h => h) (Or.inl ⟨by rfl, ?_⟩) (by assumption) ?_; rotate_left; (focus (intro w' hSw; have kc := cell_ext hSw HAT.out; go_simp; try with_reducible rfl)); (try simp only [List.getElem_toArray]); (try simp only [List.getElem_cons_succ]); (try simp only [List.getElem_cons_zero]); (try simp only [Act.put]); (try simp only [List.setIfInBounds_toArray]); (try simp only [List.set_cons_succ]); (try simp only [List.set_cons_zero]))
          (refine wpAnyH_ready (rs := [5]) (by kernel_rfl) (by simp) ?_; refine AllReadyH.cons rfl (fun K hK => ?_) AllReadyH.nil; go_simp; go_at_call 44; refine (is_any q.parent _).mono ?_; rintro e w7 ⟨n7, rfl, F7, E7⟩; (try dsimp only); refine hK.out _ _ (by repeat (first | with_reducible exact Ext.refl _ | refine Ext.drewN ?_ _ | refine Ext.drew ?_ | refine Ext.alloc ?_ _ | assumption | (refine Below.trans ?_ (by assumption)) | (refine Ext.trans ?_ (by assumption)) | (refine Below.trans ?_ (Below.mono (by assumption) (by omega))))) (fun hHeld => ?_); clear hK K; (try simp only [Act.put]); (try simp only [List.getElem_toArray]); (try simp only [List.getElem_cons_succ]); (try simp only [List.getElem_cons_zero]); (try simp only [List.setIfInBounds_toArray]); (try simp only [List.set_cons_succ]); (try simp only [List.set_cons_zero]))
          (refine wpAnyH_ready (rs := [6]) (by kernel_rfl) (by simp) ?_; refine AllReadyH.cons rfl (fun K hK => ?_) AllReadyH.nil; go_simp; refine hK.out _ _ (by repeat (first | with_reducible exact Ext.refl _ | refine Ext.drewN ?_ _ | refine Ext.drew ?_ | refine Ext.alloc ?_ _ | assumption | (refine Below.trans ?_ (by assumption)) | (refine Ext.trans ?_ (by assumption)) | (refine Below.trans ?_ (Below.mono (by assumption) (by omega))))) (fun hHeld => ?_); clear hK K; (try simp only [Act.put]); (try simp only [List.getElem_toArray]); (try simp only [List.getElem_cons_succ]); (try simp only [List.getElem_cons_zero]); (try simp only [List.setIfInBounds_toArray]); (try simp only [List.set_cons_succ]); (try simp only [List.set_cons_zero]))
          (refine wpAnyH_ready (rs := [7]) (by kernel_rfl) (by simp) ?_; refine AllReadyH.cons rfl (fun K hK => ?_) AllReadyH.nil; go_simp; go_at_call 35; refine (all_any (t1 := fun p => p.pid == q.parent) (t2 := liveP) _ _ (Blk.at_ _ _ rfl) (F7.ext ((Ext.refl _).alloc _)) (asks_lives _)).mono ?_; rintro e w8 ⟨n8, rfl, F8, E8⟩; (try dsimp only); refine hK.out _ _ (by repeat (first | with_reducible exact Ext.refl _ | refine Ext.drewN ?_ _ | refine Ext.drew ?_ | refine Ext.alloc ?_ _ | assumption | (refine Below.trans ?_ (by assumption)) | (refine Ext.trans ?_ (by assumption)) | (refine Below.trans ?_ (Below.mono (by assumption) (by omega))))) (fun hHeld => ?_); clear hK K; (try simp only [Act.put]); (try simp only [List.getElem_toArray]); (try simp only [List.getElem_cons_succ]); (try simp only [List.getElem_cons_zero]); (try simp only [List.setIfInBounds_toArray]); (try simp only [List.set_cons_succ]); (try simp only [List.set_cons_zero]))
          have Er8 : Ext wr w8 := by assumption
          have hfind2 := find_any (some ⟨b, 0, none⟩) c2 L2 nx w8 (rdy_pr (B := fun _ => False) (O6.out.ext Er8).y) F8
          (refine wpAnyH_ready (rs := [8]) (by kernel_rfl) (by simp) ?_; refine AllReadyH.cons rfl (fun K hK => ?_) AllReadyH.nil; go_simp; go_at_call 34; refine (hfind2).mono ?_; rintro e w9 ⟨E9, (⟨hx9, m9, rfl, hm9, hz9⟩ | ⟨jj, b9, off9, hx9, hlt9, hAd9, rfl⟩)⟩; all_goals ((try cases hAd9); (try dsimp only); refine hK.out _ _ (by repeat (first | with_reducible exact Ext.refl _ | refine Ext.drewN ?_ _ | refine Ext.drew ?_ | refine Ext.alloc ?_ _ | assumption | (refine Below.trans ?_ (by assumption)) | (refine Ext.trans ?_ (by assumption)) | (refine Below.trans ?_ (Below.mono (by assumption) (by omega))))) (fun hHeld => ?_); clear hK K; (try simp only [Act.put]); (try simp only [List.getElem_toArray]); (try simp only [List.getElem_cons_succ]); (try simp only [List.getElem_cons_zero]); (try simp only [List.setIfInBounds_toArray]); (try simp only [List.set_cons_succ]); (try simp only [List.set_cons_zero])))
          all_goals
            (refine wpAnyH_take (i := 9) (v := ?_) rfl (by kernel_rfl) (by kernel_rfl) (by kernel_rfl) (fun _ _ _ h => h) (Or.inl ⟨by rfl, ?_⟩) (by assumption) ?_; rotate_left; (focus (intro w' hSw; go_simp; try with_reducible rfl)); (try simp only [List.getElem_toArray]); (try simp only [List.getElem_cons_succ]); (try simp only [List.getElem_cons_zero]); (try simp only [Act.put]); (try simp only [List.setIfInBounds_toArray]); (try simp only [List.set_cons_succ]); (try simp only [List.set_cons_zero]))
            (refine wpAnyH_take (i := 10) (v := ?_) rfl (by kernel_rfl) (by kernel_rfl) (by kernel_rfl) (fun _ _ _ h => h) (Or.inl ⟨by rfl, ?_⟩) (by assumption) ?_; rotate_left; (focus (intro w' hSw; go_simp; try with_reducible rfl)); (try simp only [List.getElem_toArray]); (try simp only [List.getElem_cons_succ]); (try simp only [List.getElem_cons_zero]); (try simp only [Act.put]); (try simp only [List.setIfInBounds_toArray]); (try simp only [List.set_cons_succ]); (try simp only [List.set_cons_zero]))
            (refine wpAnyH_take (i := 11) (v := ?_) rfl (by kernel_rfl) (by kernel_rfl) (by kernel_rfl) (fun _ _ _ h => h) (Or.inl ⟨by rfl, ?_⟩) (by assumption) ?_; rotate_left; (focus (intro w' hSw; go_simp; try with_reducible rfl)); (try simp only [List.getElem_toArray]); (try simp only [List.getElem_cons_succ]); (try simp only [List.getElem_cons_zero]); (try simp only [Act.put]); (try simp only [List.setIfInBounds_toArray]); (try simp only [List.set_cons_succ]); (try simp only [List.set_cons_zero]))
            (refine wpAnyH_take (i := 12) (v := ?_) rfl (by kernel_rfl) (by kernel_rfl) (by kernel_rfl) (fun _ _ _ h => h) (Or.inl ⟨by rfl, ?_⟩) (by assumption) ?_; rotate_left; (focus (intro w' hSw; go_simp; try with_reducible rfl)); (try simp only [List.getElem_toArray]); (try simp only [List.getElem_cons_succ]); (try simp only [List.getElem_cons_zero]); (try simp only [Act.put]); (try simp only [List.setIfInBounds_toArray]); (try simp only [List.set_cons_succ]); (try simp only [List.set_cons_zero]))
            (refine wpAnyH_take (i := 13) (v := ?_) rfl (by kernel_rfl) (by kernel_rfl) (by kernel_rfl) (fun _ _ _ h => h) (Or.inl ⟨by rfl, ?_⟩) (by assumption) ?_; rotate_left; (focus (intro w' hSw; go_simp; try with_reducible rfl)); (try simp only [List.getElem_toArray]); (try simp only [List.getElem_cons_succ]); (try simp only [List.getElem_cons_zero]); (try simp only [Act.put]); (try simp only [List.setIfInBounds_toArray]); (try simp only [List.set_cons_succ]); (try simp only [List.set_cons_zero]))
            refine wpAnyH_done (by kernel_rfl) ?_ _
            have Er9 : Ext wr w9 := Er8.trans E9
            have O9 := Lib.hid (O6.out.ext Er9)
            have B9 := Lib.hid (B6.out.ext Er9)
            have S9 := Lib.hid (S6.out.ext Er9)
            have E09 := Lib.hid (HE6.out.trans Er9)
            have hw9 : w1.heap.size ≤ w9.heap.size := Nat.le_trans hw6 Er9.size
            clear O6 B6 S6 HE6 F7 F8 hfind2 Er8
            have kb := B9.out.two
          · have HT := Lib.hid (tellUp_none hx9)
            clear hx9 hm9 hz9
            go_wp2_with fail
            refine (free_any (some ⟨b, 0, none⟩) c2 L2 nx _ O9.out (by have := HN2.out; skip; omega) hw9).mono ?_
            rintro e w20 ⟨A20, c20, rfl, O20, D20⟩
            have hdl := hw9
            have S20 : Blk w20 (w.heap.size + 1 + 1) 29 #[.slice none 0 0, .int .i64 0] := (D20.block _ (by omega)).trans S9.out
            have ks := S20.two
            have M20 : Mod (fun k => k = w.heap.size + 1 + 1) w20 _ := ((Mod.refl _ w20).set1 (.slice A20 (freeL L2).length c20) (o := 0)).set1 (.int .i64 nx) (o := 1)
            obtain ⟨q0, q1, _, _⟩ := (S20.put2 (.slice A20 (freeL L2).length c20) (.int .i64 nx)).two
            have hr20 := Lib.hid O20.row
            have hws := Lib.hid (show w.heap.size + 3 ≤ w1.heap.size by omega)
            have O20 := Lib.hid O20
            clear hdl
            go_wp2
            refine bodyPost_ret (v := .tuple #[tv A20 (freeL L2).length c20 nx, .int .i64 0]) (by simp [results, Tryz.results45, go_sem, q0, q1]) rfl ?_
            have hws := hws.out
            have HEND : endL l pid st = freeL L2 := (endL_eq HL1.out HL2.out (find_orph HX.out HL2.out HQ.out)).trans (congrArg freeL HT.out)
            refine ⟨Mod.toExt (Below.trans E09.out (D20.mono (by omega))) M20 (by intro k hk he; omega), .inr ⟨HE.out, A20, c20, by rw [HEND], ?_⟩⟩
            rw [HEND]
            exact (O20.out.mod M20 (fun k hk he => by have := (hr20.out k hk).1; omega) (fun k _ hk _ => hk)).lower (by omega)
          · obtain ⟨up, hup⟩ : ∃ up, L2[jj]? = some up := ⟨_, List.getElem?_eq_getElem hlt9⟩
            have HT := Lib.hid (tellUp_some hx9 hup)
            obtain ⟨huok, hG9, hGlt9, hat9, _, _⟩ := own_at O9.out hup
            have c7 := hat9.c7
            clear hx9 hat9
            go_wp2_with fail
            refine (add_any up.pending 17 _).mono ?_
            rintro e w10 ⟨rfl, E10⟩
            have O10 := O9.out.ext E10
            obtain ⟨_, _, hGlt10, hat10, hfr10, _⟩ := own_at O10 hup
            have c7 := hat10.c7
            have B10 := B9.out.ext E10
            have S10 := S9.out.ext E10
            have O11 := own_put (p' := { up with pending := orL up.pending 17 }) (i := 7) (x := .int .u64 (orL up.pending 17)) O10 hup (by omega) (by simp [Pr.cells]) huok
            have M11 : Mod (fun k => k = b) w10 _ := (Mod.refl _ w10).set1 (.int .u64 (orL up.pending 17)) (o := jj * 43 + 7)
            have B11 := Lib.hid (B10.mod M11 (by show ¬ _ = _; omega))
            have S11 := Lib.hid (S10.mod M11 (by show ¬ _ = _; omega))
            have E011 := Lib.hid (Mod.toExt (E09.out.trans E10) M11 (by intro k hk he; omega))
            have hw11 := Nat.le_trans (Nat.le_trans hw9 E10.size) M11.size
            obtain ⟨L3, hL3⟩ : ∃ L3, L3 = L2.set jj { up with pending := orL up.pending 17 } := ⟨_, rfl⟩
            have hL3n : L3.length = L2.length := by rw [hL3, List.length_set]
            rw [← hL3, ← hL3n] at O11
            rw [← hL3n] at B11 B10
            have HT3 := Lib.hid (HT.out.trans hL3.symm)
            have O11 := Lib.hid O11
            have HL3 := Lib.hid hL3n
            have kb := B10.two
            have kb11 := B11.out.two
            clear hat10 M11 hL3 B10 S10 O10 hup hL3n
            go_wp2_with fail
            refine (free_any (some ⟨b, 0, none⟩) c2 L3 nx _ O11.out (by have := HN2.out; have := HL3.out; omega) hw11).mono ?_
            rintro e w20 ⟨A20, c20, rfl, O20, D20⟩
            have hdl := hw11
            have S20 : Blk w20 (w.heap.size + 1 + 1) 29 #[.slice none 0 0, .int .i64 0] := (D20.block _ (by omega)).trans S11.out
            have ks := S20.two
            have M20 : Mod (fun k => k = w.heap.size + 1 + 1) w20 _ := ((Mod.refl _ w20).set1 (.slice A20 (freeL L3).length c20) (o := 0)).set1 (.int .i64 nx) (o := 1)
            obtain ⟨q0, q1, _, _⟩ := (S20.put2 (.slice A20 (freeL L3).length c20) (.int .i64 nx)).two
            have hr20 := Lib.hid O20.row
            have hws := Lib.hid (show w.heap.size + 3 ≤ w1.heap.size by omega)
            have O20 := Lib.hid O20
            clear hdl
            go_wp2
            refine bodyPost_ret (v := .tuple #[tv A20 (freeL L3).length c20 nx, .int .i64 0]) (by simp [results, Tryz.results45, go_sem, q0, q1]) rfl ?_
            have hws := hws.out
            have HEND : endL l pid st = freeL L3 := (endL_eq HL1.out HL2.out (find_orph HX.out HL2.out HQ.out)).trans (congrArg freeL HT3.out)
            refine ⟨Mod.toExt (Below.trans E011.out (D20.mono (by omega))) M20 (by intro k hk he; omega), .inr ⟨HE.out, A20, c20, by rw [HEND], ?_⟩⟩
            rw [HEND]
            exact (O20.out.mod M20 (fun k hk he => by have := (hr20.out k hk).1; omega) (fun k _ hk _ => hk)).lower (by omega)
  · have hz2 : (e0 != 0) = true := by simpa using hz
    have kb := (hbox.out.ext EW1).two
    have ks := (hres.out.ext EW1).two
    have hM7 : Mod (fun k => k = w.heap.size + 1 + 1) w1 _ := ((Mod.refl _ w1).set1 (.slice Ad l.length c) (o := 0)).set1 (.int .i64 nx) (o := 1)
    obtain ⟨q0, q1, _, _⟩ := ((hres.out.ext EW1).put2 (.slice Ad l.length c) (.int .i64 nx)).two
    go_wp2
    refine bodyPost_ret (v := .tuple #[tv Ad l.length c nx, .int .i64 e0]) (by simp [results, Tryz.results45, go_sem, q0, q1]) rfl ?_
    exact ⟨Mod.toExt E01 hM7 (by intro k hk he; omega), .inl ⟨by rw [HE.out]; exact hz, by rw [HE.out]⟩⟩
end Go.Proofs.YteljobleojhgmaaGreat
