/- The document's Finish, by contract. Condition: pending signals have 64 bits. -/
import Derived.Test.YteljobleojhgmaaGreatWA21
import Derived.Test.YteljobleojhgmaaGreatXA21
import Derived.Test.YteljobleojhgmaaGreatYA21
namespace Go.Proofs.YteljobleojhgmaaGreat
open Go.RowKit Go.Kb

theorem getL_of {l : List Pr} {nx : Int} (hr : rightL l nx = true) {p : Pr} (hp : p ∈ l) : getL l nx p.pid = (p, true) := by
  unfold getL
  rw [if_pos hr]
  cases h : l.find? (fun q => q.pid == p.pid) with
  | none => exact absurd (List.find?_eq_none.1 h p hp) (by simp)
  | some q =>
    have h1 := List.mem_of_find?_eq_some h
    have h2 : q.pid = p.pid := by simpa using List.find?_some h
    rw [rise_one (right_rise hr).2.2 h1 hp h2]
theorem haltN_eq {u : List Pr} {nx g : Int} (hr : rightL u nx = true) : haltN u nx (memL u nx g) = u.any (haltP g) := by
  unfold haltN memL
  rw [if_pos hr, Bool.eq_iff_iff, List.any_eq_true, List.any_eq_true]
  constructor
  · rintro ⟨k, hk, hs⟩
    obtain ⟨p, hp, rfl⟩ := List.mem_map.1 hk
    obtain ⟨hp1, hp2⟩ := List.mem_filter.1 hp
    rw [getL_of hr hp1] at hs
    unfold ofP at hp2
    simp only [Bool.and_eq_true] at hp2
    refine ⟨p, hp1, ?_⟩
    unfold haltP
    rw [hp2.2, hs]
    rfl
  · rintro ⟨p, hp, hh⟩
    unfold haltP at hh
    simp only [Bool.and_eq_true, beq_iff_eq] at hh
    refine ⟨p.pid, List.mem_map.2 ⟨p, List.mem_filter.2 ⟨hp, ?_⟩, rfl⟩, by rw [getL_of hr hp]; simpa using hh.2⟩
    unfold ofP liveP
    rw [hh.1, hh.2]
    simp
theorem haltN_take {u : List Pr} {nx x : Int} {ms : List Int} {m : Nat} (h : ms[m]? = some x) : haltN u nx (ms.take (m + 1)) = (haltN u nx (ms.take m) || (getL u nx x).1.state == 2) := by
  unfold haltN
  rw [List.take_add_one, h, List.any_append]
  simp
theorem memL_len {l : List Pr} {nx g : Int} : (memL l nx g).length ≤ 32 := by
  unfold memL
  split
  · rename_i hr
    have := (right_len hr).1
    have := List.length_filter_le (ofP g) l
    simp only [List.length_map]
    omega
  · simp
def RFinPost (Ad : Option Addr) (c : Nat) (l : List Pr) (nx pid st : Int) (w : World) (e : Ending) (w' : World) : Prop :=
  ∃ A' c', e = .returned (.tuple #[tv A' (finL l nx pid st).1.length c' nx, .int .i64 (finL l nx pid st).2]) ∧ TabR Ad c l w.heap.size w' A' c' (finL l nx pid st).1 ∧ Ext w w'
set_option maxRecDepth 100000 in
set_option maxHeartbeats 3000000 in
theorem rfinish_any {A : Nat → Prop} (Ad : Option Addr) (c : Nat) (l : List Pr) (nx pid st : Int) (w : World) (h : RdY Rp A w (.slice Ad l.length c) l) (hb : ∀ p ∈ l, Sig.U64 p.pending) :
    Calls Tryz.prog 62 #[tv Ad l.length c nx, .int .i64 pid, .int .i64 st] w (RFinPost Ad c l nx pid st w) := by
  have H := Lib.hid (rdy_pr (B := fun _ => False) h)
  obtain ⟨W, hW⟩ : ∃ W, W = (w.alloc (.cells #[.slice Ad l.length c, .int .i64 nx] 33)).alloc (.cells #[.slice none 0 0, .int .i64 0] 33) := ⟨_, rfl⟩
  have hres := Lib.hid (show Blk W (w.heap.size + 1) 33 #[.slice none 0 0, .int .i64 0] by rw [hW]; exact Blk.at_ _ _ (by simp))
  have hbox := Lib.hid (show Blk W w.heap.size 33 #[.slice Ad l.length c, .int .i64 nx] by rw [hW]; exact (Blk.new w _ _).alloc _)
  have E0 : Ext w W := by rw [hW]; exact (by repeat (first | with_reducible exact Ext.refl _ | refine Ext.drewN ?_ _ | refine Ext.drew ?_ | refine Ext.alloc ?_ _ | assumption | (refine Below.trans ?_ (by assumption)) | (refine Ext.trans ?_ (by assumption)) | (refine Below.trans ?_ (Below.mono (by assumption) (by omega)))))
  have HW2 := Lib.hid (show W.heap.size = w.heap.size + 2 by rw [hW]; simp)
  have HW := Lib.hid hW
  have HEND := Lib.hid (rend_any (A := fun _ => False) Ad c l nx pid st W (H.out.ext E0) hb)
  obtain ⟨e0, he0⟩ : ∃ e0, askL l nx [pid] = e0 := ⟨_, rfl⟩
  have HE := Lib.hid he0
  have HB := Lib.hid hb
  have HF := Lib.hid (show finL l nx pid st = if e0 = 0 then (tellL l (endL l pid st) nx (endL l pid st) (groupsL l), 0) else (l, e0) by unfold finL; rw [he0])
  obtain ⟨FL, hFL⟩ : ∃ FL, finL l nx pid st = FL := ⟨_, rfl⟩
  rw [hFL] at HF
  unfold RFinPost
  rw [hFL]
  unfold REndPost at HEND
  rw [he0] at HEND
  clear h hW he0 hb hFL
  go_enter Tryz.func62, Tryz.ntmps62
  go_wp2_with fail
  rw [← HW.out]
  have kb := hbox.out.two
  go_wp2_with fail
  refine HEND.out.mono ?_
  rintro e w1 ⟨E1, (⟨hne, rfl⟩ | ⟨hz, A1, c1, rfl, O1⟩)⟩
  · have HF := Lib.hid (HF.out.trans (if_neg hne))
    have hnb : (e0 != 0) = true := by simpa using hne
    have E01 := E0.trans E1
    have kb := (hbox.out.ext E1).two
    have ks := (hres.out.ext E1).two
    clear HEND
    go_upto_region 2 with fail
    obtain ⟨W2, hW2⟩ : ∃ W2, W2 = w1.alloc (.cells #[.slice Ad l.length c, .int .i64 nx] 33) := ⟨_, rfl⟩
    rw [← hW2]
    have E12 : Ext w1 W2 := by rw [hW2]; exact (Ext.refl w1).alloc _
    have kb := ((hbox.out.ext E1).ext E12).two
    have ks := ((hres.out.ext E1).ext E12).two
    have hM8 : Mod (fun k => k = w.heap.size + 1) W2 _ := ((Mod.refl _ W2).set1 (.slice Ad l.length c) (o := 0)).set1 (.int .i64 nx) (o := 1)
    obtain ⟨q0, q1, _, _⟩ := (((hres.out.ext E1).ext E12).put2 (.slice Ad l.length c) (.int .i64 nx)).two
    have E02 := E01.trans E12
    have HX := Lib.hid hne
    clear hne hW2
    go_wp2
    refine bodyPost_ret (v := .tuple #[tv Ad l.length c nx, .int .i64 e0]) (by simp [results, Tryz.results62, go_sem, q0, q1]) rfl ?_
    rw [HF.out]
    have EE : Ext w _ := Mod.toExt E02 hM8 (by intro k hk he; omega)
    exact ⟨Ad, c, rfl, .inl ⟨rfl, rfl, rfl⟩, EE⟩
  subst hz
  have HF0 := Lib.hid (show FL = (tellL l (endL l pid st) nx (endL l pid st) (groupsL l), 0) from HF.out.trans (if_pos rfl))
  clear HF
  obtain ⟨hr, p0, h0g, hpl, h0p⟩ := askL_live HE.out
  have hl := Lib.hid (right_len hr).1
  obtain ⟨U, hU⟩ : ∃ U, endL l pid st = U := ⟨_, rfl⟩
  have HUB := Lib.hid (show ∀ p ∈ U, Sig.U64 p.pending by rw [← hU]; exact endL_bd HB.out)
  rw [hU] at O1 HF0 ⊢
  obtain ⟨n, hn⟩ : ∃ n, U.length = n := ⟨_, rfl⟩
  rw [hn] at O1 ⊢
  have HN := Lib.hid hn
  have E01 := E0.trans E1
  have O1 := Lib.hid O1
  clear HEND hr hpl h0g h0p p0 hU hn HB kb
  go_upto_region 2 with fail
  obtain ⟨W2, hW2⟩ : ∃ W2, W2 = w1.alloc (.cells #[.slice A1 n c1, .int .i64 nx] 33) := ⟨_, rfl⟩
  rw [← hW2]
  have E12 : Ext w1 W2 := by rw [hW2]; exact (Ext.refl w1).alloc _
  have B8 := Lib.hid (show Blk W2 w1.heap.size 33 #[.slice A1 n c1, .int .i64 nx] by rw [hW2]; exact Blk.at_ (w := w1) _ _ rfl)
  have E02 := E01.trans E12
  have EW2 := E1.trans E12
  have hbox2 := Lib.hid (hbox.out.ext EW2)
  have hres2 := Lib.hid (hres.out.ext EW2)
  have RL2 := Lib.hid (H.out.ext E02)
  have OU := Lib.hid (O1.out.ext E12)
  obtain ⟨n8, hn8⟩ : ∃ n8, w1.heap.size = n8 := ⟨_, rfl⟩
  rw [hn8] at B8 ⊢
  have hlt1 := (hres.out.ext E1).lt
  rw [hn8] at hlt1
  have HLT := Lib.hid hlt1
  obtain ⟨N, hlN⟩ : ∃ N, l.length = N := ⟨_, rfl⟩
  rw [hlN] at hl hbox2 RL2 ⊢
  have HLN := Lib.hid hlN
  have E02 := Lib.hid E02
  have kb := hbox2.out.two
  clear hW2 O1 hn8 hbox hres HW E0 E1 E01 E12 EW2 H hlt1 hlN
  go_wp2
  clear kb
  have HN32 := hl.out
  go_loopw [10, 36] (fun g i wr => ∃ (m : Nat) (A' : Option Addr) (c' : Nat), m ≤ N ∧ i = .int .i64 m ∧ g = .slice A' (gsN l m).length c' ∧ Hid (OwnS Ib 3 W2.heap.size (fun _ => False) wr (.slice A' (gsN l m).length c') (gsN l m)) ∧ Hid (Ext W2 wr)) (fun _ i _ => N - (intOf i).toNat)
  case atStart => exact ⟨0, none, 0, Nat.zero_le _, rfl, rfl, Lib.hid (OwnS.nil _ _ _ _ _), Lib.hid (Ext.refl _)⟩
  case round =>
    obtain ⟨m, A', c', hm, rfl, rfl, OG, hE⟩ := hrel
    by_cases hmn : m < N
    · obtain ⟨b, off, p, rfl, hd, hok, hcell⟩ := pr_at (RL2.out.ext hE.out) hmn
      have HNX := Lib.hid (gsN_succ hd.out)
      have hgl : (gsN l m).length ≤ 32 := by have := gsN_len (l := l) (m := m); omega
      obtain ⟨GS, hGS⟩ : ∃ GS, gsN l m = GS := ⟨_, rfl⟩
      rw [hGS] at HNX OG hgl ⊢
      obtain ⟨Q, hQ⟩ : ∃ Q, GS.length = Q := ⟨_, rfl⟩
      rw [hQ] at OG hgl ⊢
      have HQ := Lib.hid hQ
      clear hGS hQ hd
      go_upto_region 8 with (first
        | (refine wpList_load_mid rfl 64 _ rfl b (off + m * 43) rfl p.cells _ hcell.out Tryz.underlying64 rfl (i43r' hok) ?_)
        | ((refine wpList_store_A rfl 64 _ _ rfl (wr.heap.size) _ rfl rfl 64 _ (zero_rowR wr _ rfl) (by rw [List.size_toArray]; exact i43r' hok) (Eq.trans (b := 43) (by rfl) (Eq.symm (show (p).cells.toArray.size = 43 from Pr.size hok))) (Pr.one hok) ?_); intro w4 H2 E4; have E4 : Ext wr w4 := E4 wr.heap.size wr ((Ext.refl wr).alloc _) (Nat.le_refl _); have P4 := Lib.hid H2))
      have OG4 := Lib.hid (OG.out.ext E4)
      have EW4 := Lib.hid (hE.out.trans E4)
      obtain ⟨n12, hn12⟩ : ∃ n12, wr.heap.size = n12 := ⟨_, rfl⟩
      rw [hn12] at P4 ⊢
      clear OG E4 hn12 hcell
      go_upto_block 2 with fail
      go_cut [13] (fun s wx => ∃ m2 : Nat, m2 ≤ Q ∧ s = .int .i64 m2 ∧ Hid (insG GS p.group = if GS[m2]? = some p.group then GS else GS.take m2 ++ [p.group] ++ GS.drop m2) ∧ Hid (Ext w4 wx))
      case first =>
        go_wp2
        go_loopw [13] (fun t wx => ∃ m2 : Nat, m2 ≤ Q ∧ t = .int .i64 m2 ∧ Hid (∀ x ∈ GS.take m2, x < p.group) ∧ Hid (Ext w4 wx)) (fun t _ => Q - (intOf t).toNat)
        case atStart => exact ⟨0, Nat.zero_le _, rfl, Lib.hid (by simp), Lib.hid (Ext.refl _)⟩
        case round =>
          obtain ⟨m2, hm2, rfl, HS, HX⟩ := hrel
          have pc2 := (prAt_blk hok (P4.out.ext HX.out)).c2
          rw [Nat.zero_add] at pc2
          by_cases hmq : m2 < Q
          · obtain ⟨bg, og, u, x, rfl, hc, hdx, hu⟩ := RdY.at1 (OG4.out.ext HX.out).y rfl hmq
            have hu : [u] = [Value.int .i64 x] := hu.out
            cases hu
            have i1 : (m2 : Int) < (Q : Int) := by omega
            by_cases hx : x < p.group
            · have HSN := Lib.hid (show ∀ y ∈ GS.take (m2 + 1), y < p.group by
                intro y hy
                rw [List.take_add_one, hdx.out] at hy
                rcases List.mem_append.1 hy with h1 | h1
                · exact HS.out y h1
                · simp at h1; rw [h1]; exact hx)
              clear HS hdx
              go_upto_region 9 with fail
              refine wp_region_held_drew (S := fun w' => Ext wr w') (by kernel_rfl) (Ext.drew (Ext.refl _)) (fun hHeld => ?_)
              (refine wpAnyH_take (i := 0) (v := ?_) rfl (by kernel_rfl) (by kernel_rfl) (by kernel_rfl) (fun _ _ _ h => h) (Or.inl ⟨by rfl, ?_⟩) (by assumption) ?_; rotate_left; (focus (intro w' hSw; go_simp; try with_reducible rfl)); (try simp only [List.getElem_toArray]); (try simp only [List.getElem_cons_succ]); (try simp only [List.getElem_cons_zero]); (try simp only [Act.put]); (try simp only [List.setIfInBounds_toArray]); (try simp only [List.set_cons_succ]); (try simp only [List.set_cons_zero]))
              (refine wpAnyH_take (i := 1) (v := ?_) rfl (by kernel_rfl) (by kernel_rfl) (by kernel_rfl) (fun _ _ _ h => h) (Or.inl ⟨by rfl, ?_⟩) (by assumption) ?_; rotate_left; (focus (intro w' hSw; go_simp; try with_reducible rfl)); (try simp only [List.getElem_toArray]); (try simp only [List.getElem_cons_succ]); (try simp only [List.getElem_cons_zero]); (try simp only [Act.put]); (try simp only [List.setIfInBounds_toArray]); (try simp only [List.set_cons_succ]); (try simp only [List.set_cons_zero]))
              (refine wpAnyH_take (i := 2) (v := ?_) rfl (by kernel_rfl) (by kernel_rfl) (by kernel_rfl) (fun _ _ _ h => h) (Or.inl ⟨by rfl, ?_⟩) (by assumption) ?_; rotate_left; (focus (intro w' hSw; go_simp; try with_reducible rfl)); (try simp only [List.getElem_toArray]); (try simp only [List.getElem_cons_succ]); (try simp only [List.getElem_cons_zero]); (try simp only [Act.put]); (try simp only [List.setIfInBounds_toArray]); (try simp only [List.set_cons_succ]); (try simp only [List.set_cons_zero]))
              (refine wpAnyH_take (i := 3) (v := ?_) rfl (by kernel_rfl) (by kernel_rfl) (by kernel_rfl) (fun _ _ _ h => h) (Or.inl ⟨by rfl, ?_⟩) (by assumption) ?_; rotate_left; (focus (intro w' hSw; go_simp; try with_reducible rfl)); (try simp only [List.getElem_toArray]); (try simp only [List.getElem_cons_succ]); (try simp only [List.getElem_cons_zero]); (try simp only [Act.put]); (try simp only [List.setIfInBounds_toArray]); (try simp only [List.set_cons_succ]); (try simp only [List.set_cons_zero]))
              (refine wpAnyH_take (i := 4) (v := ?_) rfl (by kernel_rfl) (by kernel_rfl) (by kernel_rfl) (fun _ _ _ h => h) (Or.inl ⟨by rfl, ?_⟩) (by assumption) ?_; rotate_left; (focus (intro w' hSw; go_simp; try with_reducible rfl)); (try simp only [List.getElem_toArray]); (try simp only [List.getElem_cons_succ]); (try simp only [List.getElem_cons_zero]); (try simp only [Act.put]); (try simp only [List.setIfInBounds_toArray]); (try simp only [List.set_cons_succ]); (try simp only [List.set_cons_zero]))
              (refine wpAnyH_take (i := 5) (v := ?_) rfl (by kernel_rfl) (by kernel_rfl) (by kernel_rfl) (fun _ _ _ h => h) (Or.inl ⟨by rfl, ?_⟩) (by assumption) ?_; rotate_left; (focus (intro w' hSw; go_simp; try with_reducible rfl)); (try simp only [List.getElem_toArray]); (try simp only [List.getElem_cons_succ]); (try simp only [List.getElem_cons_zero]); (try simp only [Act.put]); (try simp only [List.setIfInBounds_toArray]); (try simp only [List.set_cons_succ]); (try simp only [List.set_cons_zero]))
              (refine wpAnyH_take (i := 6) (v := ?_) rfl (by kernel_rfl) (by kernel_rfl) (by kernel_rfl) (fun _ _ _ h => h) (Or.inl ⟨by rfl, ?_⟩) (by assumption) ?_; rotate_left; (focus (intro w' hSw; go_simp; try with_reducible rfl)); (try simp only [List.getElem_toArray]); (try simp only [List.getElem_cons_succ]); (try simp only [List.getElem_cons_zero]); (try simp only [Act.put]); (try simp only [List.setIfInBounds_toArray]); (try simp only [List.set_cons_succ]); (try simp only [List.set_cons_zero]))
              (refine wpAnyH_take (i := 7) (v := ?_) rfl (by kernel_rfl) (by kernel_rfl) (by kernel_rfl) (fun _ _ _ h => h) (Or.inl ⟨by rfl, ?_⟩) (by assumption) ?_; rotate_left; (focus (intro w' hSw; go_simp; try with_reducible rfl)); (try simp only [List.getElem_toArray]); (try simp only [List.getElem_cons_succ]); (try simp only [List.getElem_cons_zero]); (try simp only [Act.put]); (try simp only [List.setIfInBounds_toArray]); (try simp only [List.set_cons_succ]); (try simp only [List.set_cons_zero]))
              (refine wpAnyH_take (i := 8) (v := ?_) rfl (by kernel_rfl) (by kernel_rfl) (by kernel_rfl) (fun _ _ _ h => h) (Or.inl ⟨by rfl, ?_⟩) (by assumption) ?_; rotate_left; (focus (intro w' hSw; have kc := cell_ext hSw hc; go_simp; try with_reducible rfl)); (try simp only [List.getElem_toArray]); (try simp only [List.getElem_cons_succ]); (try simp only [List.getElem_cons_zero]); (try simp only [Act.put]); (try simp only [List.setIfInBounds_toArray]); (try simp only [List.set_cons_succ]); (try simp only [List.set_cons_zero]))
              (refine wpAnyH_take (i := 9) (v := ?_) rfl (by kernel_rfl) (by kernel_rfl) (by kernel_rfl) (fun _ _ _ h => h) (Or.inl ⟨by rfl, ?_⟩) (by assumption) ?_; rotate_left; (focus (intro w' hSw; go_simp; try with_reducible rfl)); (try simp only [List.getElem_toArray]); (try simp only [List.getElem_cons_succ]); (try simp only [List.getElem_cons_zero]); (try simp only [Act.put]); (try simp only [List.setIfInBounds_toArray]); (try simp only [List.set_cons_succ]); (try simp only [List.set_cons_zero]))
              (refine wpAnyH_take (i := 10) (v := ?_) rfl (by kernel_rfl) (by kernel_rfl) (by kernel_rfl) (fun _ _ _ h => h) (Or.inl ⟨by rfl, ?_⟩) (by assumption) ?_; rotate_left; (focus (intro w' hSw; have kc := cell_ext hSw pc2; go_simp; try with_reducible rfl)); (try simp only [List.getElem_toArray]); (try simp only [List.getElem_cons_succ]); (try simp only [List.getElem_cons_zero]); (try simp only [Act.put]); (try simp only [List.setIfInBounds_toArray]); (try simp only [List.set_cons_succ]); (try simp only [List.set_cons_zero]))
              (refine wpAnyH_take (i := 11) (v := ?_) rfl (by kernel_rfl) (by kernel_rfl) (by kernel_rfl) (fun _ _ _ h => h) (Or.inl ⟨by rfl, ?_⟩) (by assumption) ?_; rotate_left; (focus (intro w' hSw; go_simp; try with_reducible rfl)); (try simp only [List.getElem_toArray]); (try simp only [List.getElem_cons_succ]); (try simp only [List.getElem_cons_zero]); (try simp only [Act.put]); (try simp only [List.setIfInBounds_toArray]); (try simp only [List.set_cons_succ]); (try simp only [List.set_cons_zero]))
              (refine wpAnyH_take (i := 12) (v := ?_) rfl (by kernel_rfl) (by kernel_rfl) (by kernel_rfl) (fun _ _ _ h => h) (Or.inl ⟨by rfl, ?_⟩) (by assumption) ?_; rotate_left; (focus (intro w' hSw; go_simp; try with_reducible rfl)); (try simp only [List.getElem_toArray]); (try simp only [List.getElem_cons_succ]); (try simp only [List.getElem_cons_zero]); (try simp only [Act.put]); (try simp only [List.setIfInBounds_toArray]); (try simp only [List.set_cons_succ]); (try simp only [List.set_cons_zero]))
              refine wpAnyH_done (by kernel_rfl) ?_ _
              have HX1 := Lib.hid (HX.out.trans hHeld)
              clear hHeld
              go_wp2
              go_roundw
              case rel => exact ⟨m2 + 1, by omega, by go_num, HSN, HX1⟩
              case measure => simp [intOf]; omega
            · have HI := Lib.hid (insG_at (g := p.group) HS.out (fun y hy => by rw [hdx.out] at hy; cases hy; exact hx) (by rw [HQ.out]; omega))
              clear HS hdx
              go_upto_region 9 with fail
              refine wp_region_held_drew (S := fun w' => Ext wr w') (by kernel_rfl) (Ext.drew (Ext.refl _)) (fun hHeld => ?_)
              (refine wpAnyH_take (i := 0) (v := ?_) rfl (by kernel_rfl) (by kernel_rfl) (by kernel_rfl) (fun _ _ _ h => h) (Or.inl ⟨by rfl, ?_⟩) (by assumption) ?_; rotate_left; (focus (intro w' hSw; go_simp; try with_reducible rfl)); (try simp only [List.getElem_toArray]); (try simp only [List.getElem_cons_succ]); (try simp only [List.getElem_cons_zero]); (try simp only [Act.put]); (try simp only [List.setIfInBounds_toArray]); (try simp only [List.set_cons_succ]); (try simp only [List.set_cons_zero]))
              (refine wpAnyH_take (i := 1) (v := ?_) rfl (by kernel_rfl) (by kernel_rfl) (by kernel_rfl) (fun _ _ _ h => h) (Or.inl ⟨by rfl, ?_⟩) (by assumption) ?_; rotate_left; (focus (intro w' hSw; go_simp; try with_reducible rfl)); (try simp only [List.getElem_toArray]); (try simp only [List.getElem_cons_succ]); (try simp only [List.getElem_cons_zero]); (try simp only [Act.put]); (try simp only [List.setIfInBounds_toArray]); (try simp only [List.set_cons_succ]); (try simp only [List.set_cons_zero]))
              (refine wpAnyH_take (i := 2) (v := ?_) rfl (by kernel_rfl) (by kernel_rfl) (by kernel_rfl) (fun _ _ _ h => h) (Or.inl ⟨by rfl, ?_⟩) (by assumption) ?_; rotate_left; (focus (intro w' hSw; go_simp; try with_reducible rfl)); (try simp only [List.getElem_toArray]); (try simp only [List.getElem_cons_succ]); (try simp only [List.getElem_cons_zero]); (try simp only [Act.put]); (try simp only [List.setIfInBounds_toArray]); (try simp only [List.set_cons_succ]); (try simp only [List.set_cons_zero]))
              (refine wpAnyH_take (i := 3) (v := ?_) rfl (by kernel_rfl) (by kernel_rfl) (by kernel_rfl) (fun _ _ _ h => h) (Or.inl ⟨by rfl, ?_⟩) (by assumption) ?_; rotate_left; (focus (intro w' hSw; go_simp; try with_reducible rfl)); (try simp only [List.getElem_toArray]); (try simp only [List.getElem_cons_succ]); (try simp only [List.getElem_cons_zero]); (try simp only [Act.put]); (try simp only [List.setIfInBounds_toArray]); (try simp only [List.set_cons_succ]); (try simp only [List.set_cons_zero]))
              (refine wpAnyH_take (i := 4) (v := ?_) rfl (by kernel_rfl) (by kernel_rfl) (by kernel_rfl) (fun _ _ _ h => h) (Or.inl ⟨by rfl, ?_⟩) (by assumption) ?_; rotate_left; (focus (intro w' hSw; go_simp; try with_reducible rfl)); (try simp only [List.getElem_toArray]); (try simp only [List.getElem_cons_succ]); (try simp only [List.getElem_cons_zero]); (try simp only [Act.put]); (try simp only [List.setIfInBounds_toArray]); (try simp only [List.set_cons_succ]); (try simp only [List.set_cons_zero]))
              (refine wpAnyH_take (i := 5) (v := ?_) rfl (by kernel_rfl) (by kernel_rfl) (by kernel_rfl) (fun _ _ _ h => h) (Or.inl ⟨by rfl, ?_⟩) (by assumption) ?_; rotate_left; (focus (intro w' hSw; go_simp; try with_reducible rfl)); (try simp only [List.getElem_toArray]); (try simp only [List.getElem_cons_succ]); (try simp only [List.getElem_cons_zero]); (try simp only [Act.put]); (try simp only [List.setIfInBounds_toArray]); (try simp only [List.set_cons_succ]); (try simp only [List.set_cons_zero]))
              (refine wpAnyH_take (i := 6) (v := ?_) rfl (by kernel_rfl) (by kernel_rfl) (by kernel_rfl) (fun _ _ _ h => h) (Or.inl ⟨by rfl, ?_⟩) (by assumption) ?_; rotate_left; (focus (intro w' hSw; go_simp; try with_reducible rfl)); (try simp only [List.getElem_toArray]); (try simp only [List.getElem_cons_succ]); (try simp only [List.getElem_cons_zero]); (try simp only [Act.put]); (try simp only [List.setIfInBounds_toArray]); (try simp only [List.set_cons_succ]); (try simp only [List.set_cons_zero]))
              (refine wpAnyH_take (i := 7) (v := ?_) rfl (by kernel_rfl) (by kernel_rfl) (by kernel_rfl) (fun _ _ _ h => h) (Or.inl ⟨by rfl, ?_⟩) (by assumption) ?_; rotate_left; (focus (intro w' hSw; go_simp; try with_reducible rfl)); (try simp only [List.getElem_toArray]); (try simp only [List.getElem_cons_succ]); (try simp only [List.getElem_cons_zero]); (try simp only [Act.put]); (try simp only [List.setIfInBounds_toArray]); (try simp only [List.set_cons_succ]); (try simp only [List.set_cons_zero]))
              (refine wpAnyH_take (i := 8) (v := ?_) rfl (by kernel_rfl) (by kernel_rfl) (by kernel_rfl) (fun _ _ _ h => h) (Or.inl ⟨by rfl, ?_⟩) (by assumption) ?_; rotate_left; (focus (intro w' hSw; have kc := cell_ext hSw hc; go_simp; try with_reducible rfl)); (try simp only [List.getElem_toArray]); (try simp only [List.getElem_cons_succ]); (try simp only [List.getElem_cons_zero]); (try simp only [Act.put]); (try simp only [List.setIfInBounds_toArray]); (try simp only [List.set_cons_succ]); (try simp only [List.set_cons_zero]))
              (refine wpAnyH_take (i := 9) (v := ?_) rfl (by kernel_rfl) (by kernel_rfl) (by kernel_rfl) (fun _ _ _ h => h) (Or.inl ⟨by rfl, ?_⟩) (by assumption) ?_; rotate_left; (focus (intro w' hSw; go_simp; try with_reducible rfl)); (try simp only [List.getElem_toArray]); (try simp only [List.getElem_cons_succ]); (try simp only [List.getElem_cons_zero]); (try simp only [Act.put]); (try simp only [List.setIfInBounds_toArray]); (try simp only [List.set_cons_succ]); (try simp only [List.set_cons_zero]))
              (refine wpAnyH_take (i := 10) (v := ?_) rfl (by kernel_rfl) (by kernel_rfl) (by kernel_rfl) (fun _ _ _ h => h) (Or.inl ⟨by rfl, ?_⟩) (by assumption) ?_; rotate_left; (focus (intro w' hSw; have kc := cell_ext hSw pc2; go_simp; try with_reducible rfl)); (try simp only [List.getElem_toArray]); (try simp only [List.getElem_cons_succ]); (try simp only [List.getElem_cons_zero]); (try simp only [Act.put]); (try simp only [List.setIfInBounds_toArray]); (try simp only [List.set_cons_succ]); (try simp only [List.set_cons_zero]))
              (refine wpAnyH_take (i := 11) (v := ?_) rfl (by kernel_rfl) (by kernel_rfl) (by kernel_rfl) (fun _ _ _ h => h) (Or.inl ⟨by rfl, ?_⟩) (by assumption) ?_; rotate_left; (focus (intro w' hSw; go_simp; try with_reducible rfl)); (try simp only [List.getElem_toArray]); (try simp only [List.getElem_cons_succ]); (try simp only [List.getElem_cons_zero]); (try simp only [Act.put]); (try simp only [List.setIfInBounds_toArray]); (try simp only [List.set_cons_succ]); (try simp only [List.set_cons_zero]))
              (refine wpAnyH_take (i := 12) (v := ?_) rfl (by kernel_rfl) (by kernel_rfl) (by kernel_rfl) (fun _ _ _ h => h) (Or.inl ⟨by rfl, ?_⟩) (by assumption) ?_; rotate_left; (focus (intro w' hSw; go_simp; try with_reducible rfl)); (try simp only [List.getElem_toArray]); (try simp only [List.getElem_cons_succ]); (try simp only [List.getElem_cons_zero]); (try simp only [Act.put]); (try simp only [List.setIfInBounds_toArray]); (try simp only [List.set_cons_succ]); (try simp only [List.set_cons_zero]))
              refine wpAnyH_done (by kernel_rfl) ?_ _
              have HX1 := Lib.hid (HX.out.trans hHeld)
              clear hHeld
              go_wp2
              go_meet
              exact ⟨m2, hm2, by first | rfl | trivial, HI, HX1⟩
          · have HI := Lib.hid (insG_at (g := p.group) HS.out (fun y hy => by rw [List.getElem?_eq_none (by rw [HQ.out]; omega)] at hy; cases hy) (by rw [HQ.out]; omega))
            clear HS
            have i1 : ¬ ((m2 : Int) < (Q : Int)) := by omega
            go_upto_region 9 with fail
            refine wp_region_held_drew (S := fun w' => Ext wr w') (by kernel_rfl) (Ext.drew (Ext.refl _)) (fun hHeld => ?_)
            (refine wpAnyH_take (i := 0) (v := ?_) rfl (by kernel_rfl) (by kernel_rfl) (by kernel_rfl) (fun _ _ _ h => h) (Or.inl ⟨by rfl, ?_⟩) (by assumption) ?_; rotate_left; (focus (intro w' hSw; go_simp; try with_reducible rfl)); (try simp only [List.getElem_toArray]); (try simp only [List.getElem_cons_succ]); (try simp only [List.getElem_cons_zero]); (try simp only [Act.put]); (try simp only [List.setIfInBounds_toArray]); (try simp only [List.set_cons_succ]); (try simp only [List.set_cons_zero]))
            (refine wpAnyH_take (i := 1) (v := ?_) rfl (by kernel_rfl) (by kernel_rfl) (by kernel_rfl) (fun _ _ _ h => h) (Or.inl ⟨by rfl, ?_⟩) (by assumption) ?_; rotate_left; (focus (intro w' hSw; go_simp; try with_reducible rfl)); (try simp only [List.getElem_toArray]); (try simp only [List.getElem_cons_succ]); (try simp only [List.getElem_cons_zero]); (try simp only [Act.put]); (try simp only [List.setIfInBounds_toArray]); (try simp only [List.set_cons_succ]); (try simp only [List.set_cons_zero]))
            (refine wpAnyH_take (i := 2) (v := ?_) rfl (by kernel_rfl) (by kernel_rfl) (by kernel_rfl) (fun _ _ _ h => h) (Or.inl ⟨by rfl, ?_⟩) (by assumption) ?_; rotate_left; (focus (intro w' hSw; go_simp; try with_reducible rfl)); (try simp only [List.getElem_toArray]); (try simp only [List.getElem_cons_succ]); (try simp only [List.getElem_cons_zero]); (try simp only [Act.put]); (try simp only [List.setIfInBounds_toArray]); (try simp only [List.set_cons_succ]); (try simp only [List.set_cons_zero]))
            (refine wpAnyH_take (i := 3) (v := ?_) rfl (by kernel_rfl) (by kernel_rfl) (by kernel_rfl) (fun _ _ _ h => h) (Or.inl ⟨by rfl, ?_⟩) (by assumption) ?_; rotate_left; (focus (intro w' hSw; go_simp; try with_reducible rfl)); (try simp only [List.getElem_toArray]); (try simp only [List.getElem_cons_succ]); (try simp only [List.getElem_cons_zero]); (try simp only [Act.put]); (try simp only [List.setIfInBounds_toArray]); (try simp only [List.set_cons_succ]); (try simp only [List.set_cons_zero]))
            (refine wpAnyH_take (i := 4) (v := ?_) rfl (by kernel_rfl) (by kernel_rfl) (by kernel_rfl) (fun _ _ _ h => h) (Or.inl ⟨by rfl, ?_⟩) (by assumption) ?_; rotate_left; (focus (intro w' hSw; go_simp; try with_reducible rfl)); (try simp only [List.getElem_toArray]); (try simp only [List.getElem_cons_succ]); (try simp only [List.getElem_cons_zero]); (try simp only [Act.put]); (try simp only [List.setIfInBounds_toArray]); (try simp only [List.set_cons_succ]); (try simp only [List.set_cons_zero]))
            (refine wpAnyH_take (i := 5) (v := undef) rfl (by kernel_rfl) (by kernel_rfl) (by kernel_rfl) (fun _ _ _ h => h) (Or.inr ⟨by rfl, rfl⟩) (by assumption) ?_; (try simp only [List.getElem_toArray]); (try simp only [List.getElem_cons_succ]); (try simp only [List.getElem_cons_zero]); (try simp only [Act.put]); (try simp only [List.setIfInBounds_toArray]); (try simp only [List.set_cons_succ]); (try simp only [List.set_cons_zero]))
            (refine wpAnyH_take (i := 6) (v := undef) rfl (by kernel_rfl) (by kernel_rfl) (by kernel_rfl) (fun _ _ _ h => h) (Or.inr ⟨by rfl, rfl⟩) (by assumption) ?_; (try simp only [List.getElem_toArray]); (try simp only [List.getElem_cons_succ]); (try simp only [List.getElem_cons_zero]); (try simp only [Act.put]); (try simp only [List.setIfInBounds_toArray]); (try simp only [List.set_cons_succ]); (try simp only [List.set_cons_zero]))
            (refine wpAnyH_take (i := 7) (v := undef) rfl (by kernel_rfl) (by kernel_rfl) (by kernel_rfl) (fun _ _ _ h => h) (Or.inr ⟨by rfl, rfl⟩) (by assumption) ?_; (try simp only [List.getElem_toArray]); (try simp only [List.getElem_cons_succ]); (try simp only [List.getElem_cons_zero]); (try simp only [Act.put]); (try simp only [List.setIfInBounds_toArray]); (try simp only [List.set_cons_succ]); (try simp only [List.set_cons_zero]))
            (refine wpAnyH_take (i := 8) (v := undef) rfl (by kernel_rfl) (by kernel_rfl) (by kernel_rfl) (fun _ _ _ h => h) (Or.inr ⟨by rfl, rfl⟩) (by assumption) ?_; (try simp only [List.getElem_toArray]); (try simp only [List.getElem_cons_succ]); (try simp only [List.getElem_cons_zero]); (try simp only [Act.put]); (try simp only [List.setIfInBounds_toArray]); (try simp only [List.set_cons_succ]); (try simp only [List.set_cons_zero]))
            (refine wpAnyH_take (i := 9) (v := undef) rfl (by kernel_rfl) (by kernel_rfl) (by kernel_rfl) (fun _ _ _ h => h) (Or.inr ⟨by rfl, rfl⟩) (by assumption) ?_; (try simp only [List.getElem_toArray]); (try simp only [List.getElem_cons_succ]); (try simp only [List.getElem_cons_zero]); (try simp only [Act.put]); (try simp only [List.setIfInBounds_toArray]); (try simp only [List.set_cons_succ]); (try simp only [List.set_cons_zero]))
            (refine wpAnyH_take (i := 10) (v := undef) rfl (by kernel_rfl) (by kernel_rfl) (by kernel_rfl) (fun _ _ _ h => h) (Or.inr ⟨by rfl, rfl⟩) (by assumption) ?_; (try simp only [List.getElem_toArray]); (try simp only [List.getElem_cons_succ]); (try simp only [List.getElem_cons_zero]); (try simp only [Act.put]); (try simp only [List.setIfInBounds_toArray]); (try simp only [List.set_cons_succ]); (try simp only [List.set_cons_zero]))
            (refine wpAnyH_take (i := 11) (v := undef) rfl (by kernel_rfl) (by kernel_rfl) (by kernel_rfl) (fun _ _ _ h => h) (Or.inr ⟨by rfl, rfl⟩) (by assumption) ?_; (try simp only [List.getElem_toArray]); (try simp only [List.getElem_cons_succ]); (try simp only [List.getElem_cons_zero]); (try simp only [Act.put]); (try simp only [List.setIfInBounds_toArray]); (try simp only [List.set_cons_succ]); (try simp only [List.set_cons_zero]))
            (refine wpAnyH_take (i := 12) (v := ?_) rfl (by kernel_rfl) (by kernel_rfl) (by kernel_rfl) (fun _ _ _ h => h) (Or.inl ⟨by rfl, ?_⟩) (by assumption) ?_; rotate_left; (focus (intro w' hSw; go_simp; try with_reducible rfl)); (try simp only [List.getElem_toArray]); (try simp only [List.getElem_cons_succ]); (try simp only [List.getElem_cons_zero]); (try simp only [Act.put]); (try simp only [List.setIfInBounds_toArray]); (try simp only [List.set_cons_succ]); (try simp only [List.set_cons_zero]))
            refine wpAnyH_done (by kernel_rfl) ?_ _
            have HX1 := Lib.hid (HX.out.trans hHeld)
            clear hHeld
            go_wp2
            go_meet
            exact ⟨m2, hm2, by first | rfl | trivial, HI, HX1⟩
      case rest =>
        obtain ⟨m2, hm2, rfl, HI, HX⟩ := hcut
        have EWc := Lib.hid (EW4.out.trans HX.out)
        have OGc := Lib.hid (OG4.out.ext HX.out)
        have PGc := Lib.hid (prAt_blk hok (P4.out.ext HX.out)).c2
        rw [Nat.zero_add] at PGc
        obtain ⟨wv, hwv⟩ : ∃ wv, wv = wc := ⟨_, rfl⟩
        subst hwv
        clear HX EW4 OG4 P4
        obtain ⟨gq, hgq⟩ : ∃ gq, p.group = gq := ⟨_, rfl⟩
        rw [hgq] at HI HNX PGc
        obtain ⟨bb, hbb⟩ : ∃ bb, bb = decide (GS[m2]? = some gq) := ⟨_, rfl⟩
        have HBB := Lib.hid hbb
        clear hbb hgq
        go_upto_region 11 with fail
        go_cut [67] (fun s wx => s = .bool bb ∧ Hid (Ext wv wx))
        case first =>
          have pc2 := PGc.out
          by_cases hmq : m2 < Q
          · obtain ⟨bg, og, u, x, rfl, hc, hdx, hu⟩ := RdY.at1 OGc.out.y rfl hmq
            have hu : [u] = [Value.int .i64 x] := hu.out
            cases hu
            have i1 : (m2 : Int) < (Q : Int) := by omega
            rw [hdx.out] at HBB
            have hbx : (x == gq) = bb := by rw [HBB.out, Bool.eq_iff_iff]; simp
            clear hdx
            refine wp_region_held_drew (S := fun w' => Ext wv w') (by kernel_rfl) (Ext.drew (Ext.refl _)) (fun hHeld => ?_)
            (refine wpAnyH_take (i := 0) (v := ?_) rfl (by kernel_rfl) (by kernel_rfl) (by kernel_rfl) (fun _ _ _ h => h) (Or.inl ⟨by rfl, ?_⟩) (by assumption) ?_; rotate_left; (focus (intro w' hSw; go_simp; try with_reducible rfl)); (try simp only [List.getElem_toArray]); (try simp only [List.getElem_cons_succ]); (try simp only [List.getElem_cons_zero]); (try simp only [Act.put]); (try simp only [List.setIfInBounds_toArray]); (try simp only [List.set_cons_succ]); (try simp only [List.set_cons_zero]))
            (refine wpAnyH_take (i := 1) (v := ?_) rfl (by kernel_rfl) (by kernel_rfl) (by kernel_rfl) (fun _ _ _ h => h) (Or.inl ⟨by rfl, ?_⟩) (by assumption) ?_; rotate_left; (focus (intro w' hSw; go_simp; try with_reducible rfl)); (try simp only [List.getElem_toArray]); (try simp only [List.getElem_cons_succ]); (try simp only [List.getElem_cons_zero]); (try simp only [Act.put]); (try simp only [List.setIfInBounds_toArray]); (try simp only [List.set_cons_succ]); (try simp only [List.set_cons_zero]))
            (refine wpAnyH_take (i := 2) (v := ?_) rfl (by kernel_rfl) (by kernel_rfl) (by kernel_rfl) (fun _ _ _ h => h) (Or.inl ⟨by rfl, ?_⟩) (by assumption) ?_; rotate_left; (focus (intro w' hSw; go_simp; try with_reducible rfl)); (try simp only [List.getElem_toArray]); (try simp only [List.getElem_cons_succ]); (try simp only [List.getElem_cons_zero]); (try simp only [Act.put]); (try simp only [List.setIfInBounds_toArray]); (try simp only [List.set_cons_succ]); (try simp only [List.set_cons_zero]))
            (refine wpAnyH_take (i := 3) (v := ?_) rfl (by kernel_rfl) (by kernel_rfl) (by kernel_rfl) (fun _ _ _ h => h) (Or.inl ⟨by rfl, ?_⟩) (by assumption) ?_; rotate_left; (focus (intro w' hSw; go_simp; try with_reducible rfl)); (try simp only [List.getElem_toArray]); (try simp only [List.getElem_cons_succ]); (try simp only [List.getElem_cons_zero]); (try simp only [Act.put]); (try simp only [List.setIfInBounds_toArray]); (try simp only [List.set_cons_succ]); (try simp only [List.set_cons_zero]))
            (refine wpAnyH_take (i := 4) (v := ?_) rfl (by kernel_rfl) (by kernel_rfl) (by kernel_rfl) (fun _ _ _ h => h) (Or.inl ⟨by rfl, ?_⟩) (by assumption) ?_; rotate_left; (focus (intro w' hSw; go_simp; try with_reducible rfl)); (try simp only [List.getElem_toArray]); (try simp only [List.getElem_cons_succ]); (try simp only [List.getElem_cons_zero]); (try simp only [Act.put]); (try simp only [List.setIfInBounds_toArray]); (try simp only [List.set_cons_succ]); (try simp only [List.set_cons_zero]))
            (refine wpAnyH_take (i := 5) (v := ?_) rfl (by kernel_rfl) (by kernel_rfl) (by kernel_rfl) (fun _ _ _ h => h) (Or.inl ⟨by rfl, ?_⟩) (by assumption) ?_; rotate_left; (focus (intro w' hSw; go_simp; try with_reducible rfl)); (try simp only [List.getElem_toArray]); (try simp only [List.getElem_cons_succ]); (try simp only [List.getElem_cons_zero]); (try simp only [Act.put]); (try simp only [List.setIfInBounds_toArray]); (try simp only [List.set_cons_succ]); (try simp only [List.set_cons_zero]))
            (refine wpAnyH_take (i := 6) (v := ?_) rfl (by kernel_rfl) (by kernel_rfl) (by kernel_rfl) (fun _ _ _ h => h) (Or.inl ⟨by rfl, ?_⟩) (by assumption) ?_; rotate_left; (focus (intro w' hSw; go_simp; try with_reducible rfl)); (try simp only [List.getElem_toArray]); (try simp only [List.getElem_cons_succ]); (try simp only [List.getElem_cons_zero]); (try simp only [Act.put]); (try simp only [List.setIfInBounds_toArray]); (try simp only [List.set_cons_succ]); (try simp only [List.set_cons_zero]))
            (refine wpAnyH_take (i := 7) (v := ?_) rfl (by kernel_rfl) (by kernel_rfl) (by kernel_rfl) (fun _ _ _ h => h) (Or.inl ⟨by rfl, ?_⟩) (by assumption) ?_; rotate_left; (focus (intro w' hSw; go_simp; try with_reducible rfl)); (try simp only [List.getElem_toArray]); (try simp only [List.getElem_cons_succ]); (try simp only [List.getElem_cons_zero]); (try simp only [Act.put]); (try simp only [List.setIfInBounds_toArray]); (try simp only [List.set_cons_succ]); (try simp only [List.set_cons_zero]))
            (refine wpAnyH_take (i := 8) (v := ?_) rfl (by kernel_rfl) (by kernel_rfl) (by kernel_rfl) (fun _ _ _ h => h) (Or.inl ⟨by rfl, ?_⟩) (by assumption) ?_; rotate_left; (focus (intro w' hSw; have kc := cell_ext hSw hc; go_simp; try with_reducible rfl)); (try simp only [List.getElem_toArray]); (try simp only [List.getElem_cons_succ]); (try simp only [List.getElem_cons_zero]); (try simp only [Act.put]); (try simp only [List.setIfInBounds_toArray]); (try simp only [List.set_cons_succ]); (try simp only [List.set_cons_zero]))
            (refine wpAnyH_take (i := 9) (v := ?_) rfl (by kernel_rfl) (by kernel_rfl) (by kernel_rfl) (fun _ _ _ h => h) (Or.inl ⟨by rfl, ?_⟩) (by assumption) ?_; rotate_left; (focus (intro w' hSw; go_simp; try with_reducible rfl)); (try simp only [List.getElem_toArray]); (try simp only [List.getElem_cons_succ]); (try simp only [List.getElem_cons_zero]); (try simp only [Act.put]); (try simp only [List.setIfInBounds_toArray]); (try simp only [List.set_cons_succ]); (try simp only [List.set_cons_zero]))
            (refine wpAnyH_take (i := 10) (v := ?_) rfl (by kernel_rfl) (by kernel_rfl) (by kernel_rfl) (fun _ _ _ h => h) (Or.inl ⟨by rfl, ?_⟩) (by assumption) ?_; rotate_left; (focus (intro w' hSw; have kc := cell_ext hSw pc2; go_simp; try with_reducible rfl)); (try simp only [List.getElem_toArray]); (try simp only [List.getElem_cons_succ]); (try simp only [List.getElem_cons_zero]); (try simp only [Act.put]); (try simp only [List.setIfInBounds_toArray]); (try simp only [List.set_cons_succ]); (try simp only [List.set_cons_zero]))
            (refine wpAnyH_take (i := 11) (v := ?_) rfl (by kernel_rfl) (by kernel_rfl) (by kernel_rfl) (fun _ _ _ h => h) (Or.inl ⟨by rfl, ?_⟩) (by assumption) ?_; rotate_left; (focus (intro w' hSw; go_simp; try with_reducible rfl)); (try simp only [List.getElem_toArray]); (try simp only [List.getElem_cons_succ]); (try simp only [List.getElem_cons_zero]); (try simp only [Act.put]); (try simp only [List.setIfInBounds_toArray]); (try simp only [List.set_cons_succ]); (try simp only [List.set_cons_zero]))
            (refine wpAnyH_take (i := 12) (v := ?_) rfl (by kernel_rfl) (by kernel_rfl) (by kernel_rfl) (fun _ _ _ h => h) (Or.inl ⟨by rfl, ?_⟩) (by assumption) ?_; rotate_left; (focus (intro w' hSw; go_simp; try with_reducible rfl)); (try simp only [List.getElem_toArray]); (try simp only [List.getElem_cons_succ]); (try simp only [List.getElem_cons_zero]); (try simp only [Act.put]); (try simp only [List.setIfInBounds_toArray]); (try simp only [List.set_cons_succ]); (try simp only [List.set_cons_zero]))
            refine wpAnyH_done (by kernel_rfl) ?_ _
            have HX1 := Lib.hid hHeld
            clear hHeld
            go_wp2
            go_meet
            exact ⟨rfl, HX1⟩
          · have i1 : ¬ ((m2 : Int) < (Q : Int)) := by omega
            have hbx : bb = false := by rw [HBB.out, List.getElem?_eq_none (by rw [HQ.out]; omega)]; simp
            subst hbx
            refine wp_region_held_drew (S := fun w' => Ext wv w') (by kernel_rfl) (Ext.drew (Ext.refl _)) (fun hHeld => ?_)
            (refine wpAnyH_take (i := 0) (v := ?_) rfl (by kernel_rfl) (by kernel_rfl) (by kernel_rfl) (fun _ _ _ h => h) (Or.inl ⟨by rfl, ?_⟩) (by assumption) ?_; rotate_left; (focus (intro w' hSw; go_simp; try with_reducible rfl)); (try simp only [List.getElem_toArray]); (try simp only [List.getElem_cons_succ]); (try simp only [List.getElem_cons_zero]); (try simp only [Act.put]); (try simp only [List.setIfInBounds_toArray]); (try simp only [List.set_cons_succ]); (try simp only [List.set_cons_zero]))
            (refine wpAnyH_take (i := 1) (v := ?_) rfl (by kernel_rfl) (by kernel_rfl) (by kernel_rfl) (fun _ _ _ h => h) (Or.inl ⟨by rfl, ?_⟩) (by assumption) ?_; rotate_left; (focus (intro w' hSw; go_simp; try with_reducible rfl)); (try simp only [List.getElem_toArray]); (try simp only [List.getElem_cons_succ]); (try simp only [List.getElem_cons_zero]); (try simp only [Act.put]); (try simp only [List.setIfInBounds_toArray]); (try simp only [List.set_cons_succ]); (try simp only [List.set_cons_zero]))
            (refine wpAnyH_take (i := 2) (v := ?_) rfl (by kernel_rfl) (by kernel_rfl) (by kernel_rfl) (fun _ _ _ h => h) (Or.inl ⟨by rfl, ?_⟩) (by assumption) ?_; rotate_left; (focus (intro w' hSw; go_simp; try with_reducible rfl)); (try simp only [List.getElem_toArray]); (try simp only [List.getElem_cons_succ]); (try simp only [List.getElem_cons_zero]); (try simp only [Act.put]); (try simp only [List.setIfInBounds_toArray]); (try simp only [List.set_cons_succ]); (try simp only [List.set_cons_zero]))
            (refine wpAnyH_take (i := 3) (v := ?_) rfl (by kernel_rfl) (by kernel_rfl) (by kernel_rfl) (fun _ _ _ h => h) (Or.inl ⟨by rfl, ?_⟩) (by assumption) ?_; rotate_left; (focus (intro w' hSw; go_simp; try with_reducible rfl)); (try simp only [List.getElem_toArray]); (try simp only [List.getElem_cons_succ]); (try simp only [List.getElem_cons_zero]); (try simp only [Act.put]); (try simp only [List.setIfInBounds_toArray]); (try simp only [List.set_cons_succ]); (try simp only [List.set_cons_zero]))
            (refine wpAnyH_take (i := 4) (v := ?_) rfl (by kernel_rfl) (by kernel_rfl) (by kernel_rfl) (fun _ _ _ h => h) (Or.inl ⟨by rfl, ?_⟩) (by assumption) ?_; rotate_left; (focus (intro w' hSw; go_simp; try with_reducible rfl)); (try simp only [List.getElem_toArray]); (try simp only [List.getElem_cons_succ]); (try simp only [List.getElem_cons_zero]); (try simp only [Act.put]); (try simp only [List.setIfInBounds_toArray]); (try simp only [List.set_cons_succ]); (try simp only [List.set_cons_zero]))
            (refine wpAnyH_take (i := 5) (v := undef) rfl (by kernel_rfl) (by kernel_rfl) (by kernel_rfl) (fun _ _ _ h => h) (Or.inr ⟨by rfl, rfl⟩) (by assumption) ?_; (try simp only [List.getElem_toArray]); (try simp only [List.getElem_cons_succ]); (try simp only [List.getElem_cons_zero]); (try simp only [Act.put]); (try simp only [List.setIfInBounds_toArray]); (try simp only [List.set_cons_succ]); (try simp only [List.set_cons_zero]))
            (refine wpAnyH_take (i := 6) (v := undef) rfl (by kernel_rfl) (by kernel_rfl) (by kernel_rfl) (fun _ _ _ h => h) (Or.inr ⟨by rfl, rfl⟩) (by assumption) ?_; (try simp only [List.getElem_toArray]); (try simp only [List.getElem_cons_succ]); (try simp only [List.getElem_cons_zero]); (try simp only [Act.put]); (try simp only [List.setIfInBounds_toArray]); (try simp only [List.set_cons_succ]); (try simp only [List.set_cons_zero]))
            (refine wpAnyH_take (i := 7) (v := undef) rfl (by kernel_rfl) (by kernel_rfl) (by kernel_rfl) (fun _ _ _ h => h) (Or.inr ⟨by rfl, rfl⟩) (by assumption) ?_; (try simp only [List.getElem_toArray]); (try simp only [List.getElem_cons_succ]); (try simp only [List.getElem_cons_zero]); (try simp only [Act.put]); (try simp only [List.setIfInBounds_toArray]); (try simp only [List.set_cons_succ]); (try simp only [List.set_cons_zero]))
            (refine wpAnyH_take (i := 8) (v := undef) rfl (by kernel_rfl) (by kernel_rfl) (by kernel_rfl) (fun _ _ _ h => h) (Or.inr ⟨by rfl, rfl⟩) (by assumption) ?_; (try simp only [List.getElem_toArray]); (try simp only [List.getElem_cons_succ]); (try simp only [List.getElem_cons_zero]); (try simp only [Act.put]); (try simp only [List.setIfInBounds_toArray]); (try simp only [List.set_cons_succ]); (try simp only [List.set_cons_zero]))
            (refine wpAnyH_take (i := 9) (v := undef) rfl (by kernel_rfl) (by kernel_rfl) (by kernel_rfl) (fun _ _ _ h => h) (Or.inr ⟨by rfl, rfl⟩) (by assumption) ?_; (try simp only [List.getElem_toArray]); (try simp only [List.getElem_cons_succ]); (try simp only [List.getElem_cons_zero]); (try simp only [Act.put]); (try simp only [List.setIfInBounds_toArray]); (try simp only [List.set_cons_succ]); (try simp only [List.set_cons_zero]))
            (refine wpAnyH_take (i := 10) (v := undef) rfl (by kernel_rfl) (by kernel_rfl) (by kernel_rfl) (fun _ _ _ h => h) (Or.inr ⟨by rfl, rfl⟩) (by assumption) ?_; (try simp only [List.getElem_toArray]); (try simp only [List.getElem_cons_succ]); (try simp only [List.getElem_cons_zero]); (try simp only [Act.put]); (try simp only [List.setIfInBounds_toArray]); (try simp only [List.set_cons_succ]); (try simp only [List.set_cons_zero]))
            (refine wpAnyH_take (i := 11) (v := undef) rfl (by kernel_rfl) (by kernel_rfl) (by kernel_rfl) (fun _ _ _ h => h) (Or.inr ⟨by rfl, rfl⟩) (by assumption) ?_; (try simp only [List.getElem_toArray]); (try simp only [List.getElem_cons_succ]); (try simp only [List.getElem_cons_zero]); (try simp only [Act.put]); (try simp only [List.setIfInBounds_toArray]); (try simp only [List.set_cons_succ]); (try simp only [List.set_cons_zero]))
            (refine wpAnyH_take (i := 12) (v := ?_) rfl (by kernel_rfl) (by kernel_rfl) (by kernel_rfl) (fun _ _ _ h => h) (Or.inl ⟨by rfl, ?_⟩) (by assumption) ?_; rotate_left; (focus (intro w' hSw; go_simp; try with_reducible rfl)); (try simp only [List.getElem_toArray]); (try simp only [List.getElem_cons_succ]); (try simp only [List.getElem_cons_zero]); (try simp only [Act.put]); (try simp only [List.setIfInBounds_toArray]); (try simp only [List.set_cons_succ]); (try simp only [List.set_cons_zero]))
            refine wpAnyH_done (by kernel_rfl) ?_ _
            have HX1 := Lib.hid hHeld
            clear hHeld
            go_wp2
            go_meet
            exact ⟨rfl, HX1⟩
        case rest =>
          obtain ⟨rfl, HX⟩ := hcut
          have EWc := Lib.hid (EWc.out.trans HX.out)
          have OGc := Lib.hid (OGc.out.ext HX.out)
          have pc2 := cell_ext HX.out PGc.out
          clear HX PGc
          cases bb
          · have HNX2 := Lib.hid (show gsN l (m + 1) = GS.take m2 ++ [gq] ++ GS.drop m2 by rw [HNX.out, HI.out, if_neg (of_decide_eq_false HBB.out.symm)])
            obtain ⟨WW, hWW⟩ : ∃ WW, WW = wc := ⟨_, rfl⟩
            subst hWW
            obtain ⟨hc1, hc2⟩ : Q ≤ c' ∧ c' ≤ 9223372036854775807 := by
              obtain ⟨_, _, he, h1, h2⟩ := OGc.out.shapeN HQ.out
              cases he
              exact ⟨h1, h2⟩
            have HT := Lib.hid (show RdY Ib (fun _ => False) WW (.slice A' m2 c') (GS.take m2) from ((RdS.to_ (n := Q) OGc.out.rdT hm2).y : RdY Ib _ _ _ _))
            have HD := Lib.hid (show RdY Ib (fun _ => False) WW (.slice (if c' = m2 then A' else A'.map (·.add (m2 * 1))) (Q - m2) (c' - m2)) (GS.drop m2) from ((RdS.from_ (n := Q) OGc.out.rdT hm2).y : RdY Ib _ _ _ _))
            have HTL := Lib.hid (show (GS.take m2).length = m2 by rw [List.length_take, HQ.out]; omega)
            have HDL := Lib.hid (show (GS.drop m2).length = Q - m2 by rw [List.length_drop, HQ.out])
            have HNL2 := Lib.hid (show (GS.take m2 ++ [gq] ++ GS.drop m2).length = Q + 1 by rw [List.length_append, List.length_append, HTL.out, HDL.out, List.length_singleton]; omega)
            have i1 : (0 : Int) ≤ (m2 : Int) := by omega
            have i2 : (m2 : Int) ≤ (Q : Int) := by omega
            have i3 : (Q : Int) ≤ (c' : Int) := by omega
            have i4 : (m2 : Int) ≤ (c' : Int) := by omega
            have HWS := Lib.hid (show W2.heap.size ≤ WW.heap.size from EWc.out.size)
            clear OGc
            go_upto_region 12 with fail
            refine wp_region_held_drew (S := fun w' => Ext WW w') (by kernel_rfl) (Ext.drew (Ext.refl _)) (fun hHeld => ?_)
            (refine wpAnyH_take (i := 1) (v := ?_) rfl (by kernel_rfl) (by kernel_rfl) (by kernel_rfl) (fun _ _ _ h => h) (Or.inl ⟨by rfl, ?_⟩) (by assumption) ?_; rotate_left; (focus (intro w' hSw; go_simp; try with_reducible rfl)); (try simp only [List.getElem_toArray]); (try simp only [List.getElem_cons_succ]); (try simp only [List.getElem_cons_zero]); (try simp only [Act.put]); (try simp only [List.setIfInBounds_toArray]); (try simp only [List.set_cons_succ]); (try simp only [List.set_cons_zero]))
            (refine wpAnyH_take (i := 2) (v := ?_) rfl (by kernel_rfl) (by kernel_rfl) (by kernel_rfl) (fun _ _ _ h => h) (Or.inl ⟨by rfl, ?_⟩) (by assumption) ?_; rotate_left; (focus (intro w' hSw; go_simp; try with_reducible rfl)); (try simp only [List.getElem_toArray]); (try simp only [List.getElem_cons_succ]); (try simp only [List.getElem_cons_zero]); (try simp only [Act.put]); (try simp only [List.setIfInBounds_toArray]); (try simp only [List.set_cons_succ]); (try simp only [List.set_cons_zero]))
            (refine wpAnyH_take (i := 3) (v := ?_) rfl (by kernel_rfl) (by kernel_rfl) (by kernel_rfl) (fun _ _ _ h => h) (Or.inl ⟨by rfl, ?_⟩) (by assumption) ?_; rotate_left; (focus (intro w' hSw; go_simp; try with_reducible rfl)); (try simp only [List.getElem_toArray]); (try simp only [List.getElem_cons_succ]); (try simp only [List.getElem_cons_zero]); (try simp only [Act.put]); (try simp only [List.setIfInBounds_toArray]); (try simp only [List.set_cons_succ]); (try simp only [List.set_cons_zero]))
            (refine wpAnyH_take (i := 5) (v := ?_) rfl (by kernel_rfl) (by kernel_rfl) (by kernel_rfl) (fun _ _ _ h => h) (Or.inl ⟨by rfl, ?_⟩) (by assumption) ?_; rotate_left; (focus (intro w' hSw; go_simp; try with_reducible rfl)); (try simp only [List.getElem_toArray]); (try simp only [List.getElem_cons_succ]); (try simp only [List.getElem_cons_zero]); (try simp only [Act.put]); (try simp only [List.setIfInBounds_toArray]); (try simp only [List.set_cons_succ]); (try simp only [List.set_cons_zero]))
            (refine wpAnyH_take (i := 6) (v := ?_) rfl (by kernel_rfl) (by kernel_rfl) (by kernel_rfl) (fun _ _ _ h => h) (Or.inl ⟨by rfl, ?_⟩) (by assumption) ?_; rotate_left; (focus (intro w' hSw; have kc := cell_ext hSw pc2; go_simp; try with_reducible rfl)); (try simp only [List.getElem_toArray]); (try simp only [List.getElem_cons_succ]); (try simp only [List.getElem_cons_zero]); (try simp only [Act.put]); (try simp only [List.setIfInBounds_toArray]); (try simp only [List.set_cons_succ]); (try simp only [List.set_cons_zero]))
            (refine wpAnyH_take (i := 9) (v := ?_) rfl (by kernel_rfl) (by kernel_rfl) (by kernel_rfl) (fun _ _ _ h => h) (Or.inl ⟨by rfl, ?_⟩) (by assumption) ?_; rotate_left; (focus (intro w' hSw; go_simp; try with_reducible rfl)); (try simp only [List.getElem_toArray]); (try simp only [List.getElem_cons_succ]); (try simp only [List.getElem_cons_zero]); (try simp only [Act.put]); (try simp only [List.setIfInBounds_toArray]); (try simp only [List.set_cons_succ]); (try simp only [List.set_cons_zero]))
            (refine wpAnyH_take (i := 10) (v := ?_) rfl (by kernel_rfl) (by kernel_rfl) (by kernel_rfl) (fun _ _ _ h => h) (Or.inl ⟨by rfl, ?_⟩) (by assumption) ?_; rotate_left; (focus (intro w' hSw; go_simp; try with_reducible rfl)); (try simp only [List.getElem_toArray]); (try simp only [List.getElem_cons_succ]); (try simp only [List.getElem_cons_zero]); (try simp only [Act.put]); (try simp only [List.setIfInBounds_toArray]); (try simp only [List.set_cons_succ]); (try simp only [List.set_cons_zero]))
            (refine wpAnyH_take (i := 11) (v := ?_) rfl (by kernel_rfl) (by kernel_rfl) (by kernel_rfl) (fun _ _ _ h => h) (Or.inl ⟨by rfl, ?_⟩) (by assumption) ?_; rotate_left; (focus (intro w' hSw; go_simp; try with_reducible rfl)); (try simp only [List.getElem_toArray]); (try simp only [List.getElem_cons_succ]); (try simp only [List.getElem_cons_zero]); (try simp only [Act.put]); (try simp only [List.setIfInBounds_toArray]); (try simp only [List.set_cons_succ]); (try simp only [List.set_cons_zero]))
            simp only [Nat.mul_one] at HD
            generalize (if c' = m2 then A' else Option.map (fun x => x.add m2) A') = Bd at *
            have EX : Ext WW WW.drew := Ext.drew (Ext.refl _)
            have HT := Lib.hid (HT.out.ext EX)
            have HD := Lib.hid (HD.out.ext EX)
            have EX0 := Lib.hid EX
            have HS := Lib.hid EX.size
            clear hHeld EX
            generalize WW.drew = w19 at *
            have EX := Ext.refl w19
            have EXo := EX
            have HD0 := HD
            refine wpAnyH_ready (rs := [0, 7]) (by kernel_rfl) (by simp) ?_
            refine (AllReadyH.cons rfl (fun K hK => ?_) (AllReadyH.cons rfl (fun K hK => ?_) AllReadyH.nil))
            ·
              go_simp
              refine hK.out _ _ (EX0.out.trans (EX.alloc _)) (fun hHeld => ?_)
              clear hK K hHeld
              (try simp only [List.getElem_toArray]); (try simp only [List.getElem_cons_succ]); (try simp only [List.getElem_cons_zero]); (try simp only [Act.put]); (try simp only [List.setIfInBounds_toArray]); (try simp only [List.set_cons_succ]); (try simp only [List.set_cons_zero])
              have E3 := (Ext.refl w19).alloc (.cells #[] 3)
              have HT := Lib.hid (HT.out.ext E3)
              have HD := Lib.hid (HD.out.ext E3)
              have EX := EX.trans E3
              have B1e := Lib.hid (Blk.new w19 3 #[])
              obtain ⟨n1, hn1⟩ : ∃ n1, w19.heap.size = n1 := ⟨_, rfl⟩
              have hn1W : w19.heap.size ≤ n1 := by rw [← hn1]; exact EXo.size
              rw [hn1] at B1e ⊢
              have Zw20 := E3.size
              clear hn1 E3 EXo
              generalize w19.alloc _ = w20 at *
              have EXo := EX
              have Ln1 := B1e.out.lt
              refine wpAnyH_ready (rs := [4, 7]) (by kernel_rfl) (by simp) ?_
              refine (AllReadyH.cons rfl (fun K hK => ?_) (AllReadyH.cons rfl (fun K hK => ?_) AllReadyH.nil))
              ·
                refine step_app0 (e := Ib) (A := fun _ => False) (n := n1) rfl (.tmp 68) (.tmp 71) rfl Tryz.underlying62 info_i64 rfl B1e.out rfl HT.out rfl (fun _ _ h => h.elim) (by rw [HTL.out]; simp [maxLen]; omega) (by rw [HTL.out]; omega) ?_
                intro A5 c5 w21 o5 M5 D5
                rw [HTL.out]
                rw [HTL.out] at o5
                have E3 := (D5.mono (Nat.le_refl _))
                have EX5 : Ext w19 w21 := Below.trans EX (D5.mono hn1W)
                refine hK.out _ _ (EX0.out.trans EX5) (fun hHeld => ?_)
                clear hK K hHeld
                (try simp only [List.getElem_toArray]); (try simp only [List.getElem_cons_succ]); (try simp only [List.getElem_cons_zero]); (try simp only [Act.put]); (try simp only [List.setIfInBounds_toArray]); (try simp only [List.set_cons_succ]); (try simp only [List.set_cons_zero])
                have O5 := Lib.hid o5
                have HD := Lib.hid (HD0.out.ext EX5)
                have EX := EX5
                have EXo := EX
                have L1 := M5.size
                clear o5 M5 D5 E3 EX5
                refine wpAnyH_ready (rs := [7]) (by kernel_rfl) (by simp) ?_
                refine (AllReadyH.cons rfl (fun K hK => ?_) AllReadyH.nil)
                go_simp
                refine hK.out _ _ (EX0.out.trans (EX.alloc _)) (fun hHeld => ?_)
                clear hK K hHeld
                (try simp only [List.getElem_toArray]); (try simp only [List.getElem_cons_succ]); (try simp only [List.getElem_cons_zero]); (try simp only [Act.put]); (try simp only [List.setIfInBounds_toArray]); (try simp only [List.set_cons_succ]); (try simp only [List.set_cons_zero])
                have E3 := (Ext.refl w21).alloc (.cells #[.int .i64 gq] 3)
                have HD := Lib.hid (HD.out.ext E3)
                have O5 := Lib.hid (O5.out.ext E3)
                have EX := EX.trans E3
                have B7 := Lib.hid (Blk.new w21 3 #[.int .i64 gq])
                obtain ⟨n7, hn7⟩ : ∃ n7, w21.heap.size = n7 := ⟨_, rfl⟩
                have hn7W : w19.heap.size ≤ n7 := by rw [← hn7]; exact EXo.size
                rw [hn7] at B7 ⊢
                have hne_n1_n7 : n1 ≠ n7 := by have := Ln1; omega
                have hne_n7_n1 : n7 ≠ n1 := fun h => hne_n1_n7 h.symm
                have Zw22 := E3.size
                clear hn7 E3 EXo
                generalize w21.alloc _ = w22 at *
                have EXo := EX
                have Ln7 := B7.out.lt
                refine wpAnyH_ready (rs := [8]) (by kernel_rfl) (by simp) ?_
                refine AllReadyH.cons rfl (fun K hK => ?_) AllReadyH.nil
                refine step_app (e := Ib) (base := n1) (B := fun _ => False) (A := fun _ => False) rfl (.tmp 72) (.tmp 75) rfl Tryz.underlying62 info_i64 rfl O5.out rfl (RdY.singleB (e := Ib) (cs := [.int .i64 gq]) (d := gq) rfl B7.out) rfl (fun _ _ h => h.elim) (N := m2 + 1) (by rw [HTL.out]; rfl) (by simp [maxLen]; omega) (by omega) (by omega) ?_
                intro A8 c8 w30 o8 M8 D8
                have EX8 : Ext w19 w30 := Below.trans EX (D8.mono hn1W)
                refine hK.out _ _ (EX0.out.trans EX8) (fun hHeld => ?_)
                clear hK K hHeld
                (try simp only [List.getElem_toArray]); (try simp only [List.getElem_cons_succ]); (try simp only [List.getElem_cons_zero]); (try simp only [Act.put]); (try simp only [List.setIfInBounds_toArray]); (try simp only [List.set_cons_succ]); (try simp only [List.set_cons_zero])
                have O8 := Lib.hid o8
                have HD := Lib.hid (HD0.out.ext EX8)
                have hsz8 : n1 ≤ w30.heap.size := Nat.le_trans (by omega) M8.size
                clear o8 M8 D8
                refine wpAnyH_ready (rs := [12]) (by kernel_rfl) (by simp) ?_
                refine AllReadyH.cons rfl (fun K hK => ?_) AllReadyH.nil
                refine step_app (e := Ib) (base := n1) (B := fun _ => False) (A := fun _ => False) rfl (.tmp 76) (.tmp 79) rfl Tryz.underlying62 info_i64 rfl O8.out rfl HD.out rfl (fun _ _ h => h.elim) (N := Q + 1) (by rw [List.length_append, HTL.out, HDL.out, List.length_singleton]; omega) (by simp [maxLen]; omega) (by omega) hsz8 ?_
                intro A9 c9 w31 o9 M9 D9
                have EX9 : Ext w19 w31 := Below.trans EX8 (D9.mono hn1W)
                have EE9 := EX0.out.trans EX9
                refine hK.out _ _ EE9 (fun hHeld => ?_)
                clear hK K hHeld
                (try simp only [List.getElem_toArray]); (try simp only [List.getElem_cons_succ]); (try simp only [List.getElem_cons_zero]); (try simp only [Act.put]); (try simp only [List.setIfInBounds_toArray]); (try simp only [List.set_cons_succ]); (try simp only [List.set_cons_zero])
                have O9 := Lib.hid (o9.lower (base' := W2.heap.size) (by have := HWS.out; have := HS.out; omega))
                clear o9 M9 D9
                (refine wpAnyH_take (i := 13) (v := ?_) rfl (by kernel_rfl) (by kernel_rfl) (by kernel_rfl) (fun _ _ _ h => h) (Or.inl ⟨by rfl, ?_⟩) (by assumption) ?_; rotate_left; (focus (intro w' hSw; go_simp; try with_reducible rfl)); (try simp only [List.getElem_toArray]); (try simp only [List.getElem_cons_succ]); (try simp only [List.getElem_cons_zero]); (try simp only [Act.put]); (try simp only [List.setIfInBounds_toArray]); (try simp only [List.set_cons_succ]); (try simp only [List.set_cons_zero]))
                refine wpAnyH_done (by kernel_rfl) ?_ _
                have EF9 := Lib.hid (EWc.out.trans EE9)
                clear EE9 EX9 EX8 O8 HD EX0
                generalize Bd = Be at *
                go_wp2
                go_roundw
                case rel => exact ⟨m + 1, A9, c9, by omega, by go_num, by rw [HNX2.out, HNL2.out], by rw [HNX2.out, HNL2.out]; exact O9, EF9⟩
                case measure => simp [intOf]; omega
              ·
                go_simp
                refine hK.out _ _ (EX0.out.trans (EX.alloc _)) (fun hHeld => ?_)
                clear hK K hHeld
                (try simp only [List.getElem_toArray]); (try simp only [List.getElem_cons_succ]); (try simp only [List.getElem_cons_zero]); (try simp only [Act.put]); (try simp only [List.setIfInBounds_toArray]); (try simp only [List.set_cons_succ]); (try simp only [List.set_cons_zero])
                have E3 := (Ext.refl w20).alloc (.cells #[.int .i64 gq] 3)
                have HT := Lib.hid (HT.out.ext E3)
                have HD := Lib.hid (HD.out.ext E3)
                have B1e := Lib.hid (B1e.out.ext E3)
                have EX := EX.trans E3
                have B7 := Lib.hid (Blk.new w20 3 #[.int .i64 gq])
                obtain ⟨n7, hn7⟩ : ∃ n7, w20.heap.size = n7 := ⟨_, rfl⟩
                have hn7W : w19.heap.size ≤ n7 := by rw [← hn7]; exact EXo.size
                rw [hn7] at B7 ⊢
                have hne_n1_n7 : n1 ≠ n7 := by have := Ln1; omega
                have hne_n7_n1 : n7 ≠ n1 := fun h => hne_n1_n7 h.symm
                have Zw21 := E3.size
                clear hn7 E3 EXo
                generalize w20.alloc _ = w21 at *
                have EXo := EX
                have Ln1 := B1e.out.lt
                have Ln7 := B7.out.lt
                refine wpAnyH_ready (rs := [4]) (by kernel_rfl) (by simp) ?_
                refine (AllReadyH.cons rfl (fun K hK => ?_) AllReadyH.nil)
                refine step_app0 (e := Ib) (A := fun _ => False) (n := n1) rfl (.tmp 68) (.tmp 71) rfl Tryz.underlying62 info_i64 rfl B1e.out rfl HT.out rfl (fun _ _ h => h.elim) (by rw [HTL.out]; simp [maxLen]; omega) (by rw [HTL.out]; omega) ?_
                intro A5 c5 w22 o5 M5 D5
                rw [HTL.out]
                rw [HTL.out] at o5
                have E3 := (D5.mono (Nat.le_refl _))
                have EX5 : Ext w19 w22 := Below.trans EX (D5.mono hn1W)
                refine hK.out _ _ (EX0.out.trans EX5) (fun hHeld => ?_)
                clear hK K hHeld
                (try simp only [List.getElem_toArray]); (try simp only [List.getElem_cons_succ]); (try simp only [List.getElem_cons_zero]); (try simp only [Act.put]); (try simp only [List.setIfInBounds_toArray]); (try simp only [List.set_cons_succ]); (try simp only [List.set_cons_zero])
                have O5 := Lib.hid o5
                have HD := Lib.hid (HD0.out.ext EX5)
                have B7 := Lib.hid (B7.out.mod M5 hne_n7_n1)
                have Ln7 := B7.out.lt
                have EX := EX5
                have EXo := EX
                have L1 := M5.size
                clear o5 M5 D5 E3 EX5
                refine wpAnyH_ready (rs := [8]) (by kernel_rfl) (by simp) ?_
                refine AllReadyH.cons rfl (fun K hK => ?_) AllReadyH.nil
                refine step_app (e := Ib) (base := n1) (B := fun _ => False) (A := fun _ => False) rfl (.tmp 72) (.tmp 75) rfl Tryz.underlying62 info_i64 rfl O5.out rfl (RdY.singleB (e := Ib) (cs := [.int .i64 gq]) (d := gq) rfl B7.out) rfl (fun _ _ h => h.elim) (N := m2 + 1) (by rw [HTL.out]; rfl) (by simp [maxLen]; omega) (by omega) (by omega) ?_
                intro A8 c8 w30 o8 M8 D8
                have EX8 : Ext w19 w30 := Below.trans EX (D8.mono hn1W)
                refine hK.out _ _ (EX0.out.trans EX8) (fun hHeld => ?_)
                clear hK K hHeld
                (try simp only [List.getElem_toArray]); (try simp only [List.getElem_cons_succ]); (try simp only [List.getElem_cons_zero]); (try simp only [Act.put]); (try simp only [List.setIfInBounds_toArray]); (try simp only [List.set_cons_succ]); (try simp only [List.set_cons_zero])
                have O8 := Lib.hid o8
                have HD := Lib.hid (HD0.out.ext EX8)
                have hsz8 : n1 ≤ w30.heap.size := Nat.le_trans (by omega) M8.size
                clear o8 M8 D8
                refine wpAnyH_ready (rs := [12]) (by kernel_rfl) (by simp) ?_
                refine AllReadyH.cons rfl (fun K hK => ?_) AllReadyH.nil
                refine step_app (e := Ib) (base := n1) (B := fun _ => False) (A := fun _ => False) rfl (.tmp 76) (.tmp 79) rfl Tryz.underlying62 info_i64 rfl O8.out rfl HD.out rfl (fun _ _ h => h.elim) (N := Q + 1) (by rw [List.length_append, HTL.out, HDL.out, List.length_singleton]; omega) (by simp [maxLen]; omega) (by omega) hsz8 ?_
                intro A9 c9 w31 o9 M9 D9
                have EX9 : Ext w19 w31 := Below.trans EX8 (D9.mono hn1W)
                have EE9 := EX0.out.trans EX9
                refine hK.out _ _ EE9 (fun hHeld => ?_)
                clear hK K hHeld
                (try simp only [List.getElem_toArray]); (try simp only [List.getElem_cons_succ]); (try simp only [List.getElem_cons_zero]); (try simp only [Act.put]); (try simp only [List.setIfInBounds_toArray]); (try simp only [List.set_cons_succ]); (try simp only [List.set_cons_zero])
                have O9 := Lib.hid (o9.lower (base' := W2.heap.size) (by have := HWS.out; have := HS.out; omega))
                clear o9 M9 D9
                (refine wpAnyH_take (i := 13) (v := ?_) rfl (by kernel_rfl) (by kernel_rfl) (by kernel_rfl) (fun _ _ _ h => h) (Or.inl ⟨by rfl, ?_⟩) (by assumption) ?_; rotate_left; (focus (intro w' hSw; go_simp; try with_reducible rfl)); (try simp only [List.getElem_toArray]); (try simp only [List.getElem_cons_succ]); (try simp only [List.getElem_cons_zero]); (try simp only [Act.put]); (try simp only [List.setIfInBounds_toArray]); (try simp only [List.set_cons_succ]); (try simp only [List.set_cons_zero]))
                refine wpAnyH_done (by kernel_rfl) ?_ _
                have EF9 := Lib.hid (EWc.out.trans EE9)
                clear EE9 EX9 EX8 O8 HD EX0
                generalize Bd = Be at *
                go_wp2
                go_roundw
                case rel => exact ⟨m + 1, A9, c9, by omega, by go_num, by rw [HNX2.out, HNL2.out], by rw [HNX2.out, HNL2.out]; exact O9, EF9⟩
                case measure => simp [intOf]; omega
            ·
              go_simp
              refine hK.out _ _ (EX0.out.trans (EX.alloc _)) (fun hHeld => ?_)
              clear hK K hHeld
              (try simp only [List.getElem_toArray]); (try simp only [List.getElem_cons_succ]); (try simp only [List.getElem_cons_zero]); (try simp only [Act.put]); (try simp only [List.setIfInBounds_toArray]); (try simp only [List.set_cons_succ]); (try simp only [List.set_cons_zero])
              have E3 := (Ext.refl w19).alloc (.cells #[.int .i64 gq] 3)
              have HT := Lib.hid (HT.out.ext E3)
              have HD := Lib.hid (HD.out.ext E3)
              have EX := EX.trans E3
              have B7 := Lib.hid (Blk.new w19 3 #[.int .i64 gq])
              obtain ⟨n7, hn7⟩ : ∃ n7, w19.heap.size = n7 := ⟨_, rfl⟩
              have hn7W : w19.heap.size ≤ n7 := by rw [← hn7]; exact EXo.size
              rw [hn7] at B7 ⊢
              have Zw20 := E3.size
              clear hn7 E3 EXo
              generalize w19.alloc _ = w20 at *
              have EXo := EX
              have Ln7 := B7.out.lt
              refine wpAnyH_ready (rs := [0]) (by kernel_rfl) (by simp) ?_
              refine (AllReadyH.cons rfl (fun K hK => ?_) AllReadyH.nil)
              go_simp
              refine hK.out _ _ (EX0.out.trans (EX.alloc _)) (fun hHeld => ?_)
              clear hK K hHeld
              (try simp only [List.getElem_toArray]); (try simp only [List.getElem_cons_succ]); (try simp only [List.getElem_cons_zero]); (try simp only [Act.put]); (try simp only [List.setIfInBounds_toArray]); (try simp only [List.set_cons_succ]); (try simp only [List.set_cons_zero])
              have E3 := (Ext.refl w20).alloc (.cells #[] 3)
              have HT := Lib.hid (HT.out.ext E3)
              have HD := Lib.hid (HD.out.ext E3)
              have B7 := Lib.hid (B7.out.ext E3)
              have EX := EX.trans E3
              have B1e := Lib.hid (Blk.new w20 3 #[])
              obtain ⟨n1, hn1⟩ : ∃ n1, w20.heap.size = n1 := ⟨_, rfl⟩
              have hn1W : w19.heap.size ≤ n1 := by rw [← hn1]; exact EXo.size
              rw [hn1] at B1e ⊢
              have hne_n7_n1 : n7 ≠ n1 := by have := Ln7; omega
              have hne_n1_n7 : n1 ≠ n7 := fun h => hne_n7_n1 h.symm
              have Zw21 := E3.size
              clear hn1 E3 EXo
              generalize w20.alloc _ = w21 at *
              have EXo := EX
              have Ln7 := B7.out.lt
              have Ln1 := B1e.out.lt
              refine wpAnyH_ready (rs := [4]) (by kernel_rfl) (by simp) ?_
              refine (AllReadyH.cons rfl (fun K hK => ?_) AllReadyH.nil)
              refine step_app0 (e := Ib) (A := fun _ => False) (n := n1) rfl (.tmp 68) (.tmp 71) rfl Tryz.underlying62 info_i64 rfl B1e.out rfl HT.out rfl (fun _ _ h => h.elim) (by rw [HTL.out]; simp [maxLen]; omega) (by rw [HTL.out]; omega) ?_
              intro A5 c5 w22 o5 M5 D5
              rw [HTL.out]
              rw [HTL.out] at o5
              have E3 := (D5.mono (Nat.le_refl _))
              have EX5 : Ext w19 w22 := Below.trans EX (D5.mono hn1W)
              refine hK.out _ _ (EX0.out.trans EX5) (fun hHeld => ?_)
              clear hK K hHeld
              (try simp only [List.getElem_toArray]); (try simp only [List.getElem_cons_succ]); (try simp only [List.getElem_cons_zero]); (try simp only [Act.put]); (try simp only [List.setIfInBounds_toArray]); (try simp only [List.set_cons_succ]); (try simp only [List.set_cons_zero])
              have O5 := Lib.hid o5
              have HD := Lib.hid (HD0.out.ext EX5)
              have B7 := Lib.hid (B7.out.mod M5 hne_n7_n1)
              have Ln7 := B7.out.lt
              have EX := EX5
              have EXo := EX
              have L1 := M5.size
              clear o5 M5 D5 E3 EX5
              refine wpAnyH_ready (rs := [8]) (by kernel_rfl) (by simp) ?_
              refine AllReadyH.cons rfl (fun K hK => ?_) AllReadyH.nil
              refine step_app (e := Ib) (base := n1) (B := fun _ => False) (A := fun _ => False) rfl (.tmp 72) (.tmp 75) rfl Tryz.underlying62 info_i64 rfl O5.out rfl (RdY.singleB (e := Ib) (cs := [.int .i64 gq]) (d := gq) rfl B7.out) rfl (fun _ _ h => h.elim) (N := m2 + 1) (by rw [HTL.out]; rfl) (by simp [maxLen]; omega) (by omega) (by omega) ?_
              intro A8 c8 w30 o8 M8 D8
              have EX8 : Ext w19 w30 := Below.trans EX (D8.mono hn1W)
              refine hK.out _ _ (EX0.out.trans EX8) (fun hHeld => ?_)
              clear hK K hHeld
              (try simp only [List.getElem_toArray]); (try simp only [List.getElem_cons_succ]); (try simp only [List.getElem_cons_zero]); (try simp only [Act.put]); (try simp only [List.setIfInBounds_toArray]); (try simp only [List.set_cons_succ]); (try simp only [List.set_cons_zero])
              have O8 := Lib.hid o8
              have HD := Lib.hid (HD0.out.ext EX8)
              have hsz8 : n1 ≤ w30.heap.size := Nat.le_trans (by omega) M8.size
              clear o8 M8 D8
              refine wpAnyH_ready (rs := [12]) (by kernel_rfl) (by simp) ?_
              refine AllReadyH.cons rfl (fun K hK => ?_) AllReadyH.nil
              refine step_app (e := Ib) (base := n1) (B := fun _ => False) (A := fun _ => False) rfl (.tmp 76) (.tmp 79) rfl Tryz.underlying62 info_i64 rfl O8.out rfl HD.out rfl (fun _ _ h => h.elim) (N := Q + 1) (by rw [List.length_append, HTL.out, HDL.out, List.length_singleton]; omega) (by simp [maxLen]; omega) (by omega) hsz8 ?_
              intro A9 c9 w31 o9 M9 D9
              have EX9 : Ext w19 w31 := Below.trans EX8 (D9.mono hn1W)
              have EE9 := EX0.out.trans EX9
              refine hK.out _ _ EE9 (fun hHeld => ?_)
              clear hK K hHeld
              (try simp only [List.getElem_toArray]); (try simp only [List.getElem_cons_succ]); (try simp only [List.getElem_cons_zero]); (try simp only [Act.put]); (try simp only [List.setIfInBounds_toArray]); (try simp only [List.set_cons_succ]); (try simp only [List.set_cons_zero])
              have O9 := Lib.hid (o9.lower (base' := W2.heap.size) (by have := HWS.out; have := HS.out; omega))
              clear o9 M9 D9
              (refine wpAnyH_take (i := 13) (v := ?_) rfl (by kernel_rfl) (by kernel_rfl) (by kernel_rfl) (fun _ _ _ h => h) (Or.inl ⟨by rfl, ?_⟩) (by assumption) ?_; rotate_left; (focus (intro w' hSw; go_simp; try with_reducible rfl)); (try simp only [List.getElem_toArray]); (try simp only [List.getElem_cons_succ]); (try simp only [List.getElem_cons_zero]); (try simp only [Act.put]); (try simp only [List.setIfInBounds_toArray]); (try simp only [List.set_cons_succ]); (try simp only [List.set_cons_zero]))
              refine wpAnyH_done (by kernel_rfl) ?_ _
              have EF9 := Lib.hid (EWc.out.trans EE9)
              clear EE9 EX9 EX8 O8 HD EX0
              generalize Bd = Be at *
              go_wp2
              go_roundw
              case rel => exact ⟨m + 1, A9, c9, by omega, by go_num, by rw [HNX2.out, HNL2.out], by rw [HNX2.out, HNL2.out]; exact O9, EF9⟩
              case measure => simp [intOf]; omega
          · have HNX2 := Lib.hid (show gsN l (m + 1) = GS by rw [HNX.out, HI.out, if_pos (of_decide_eq_true HBB.out.symm)])
            clear pc2
            go_wp2
            go_roundw
            case rel => exact ⟨m + 1, A', c', by omega, by go_num, by rw [HNX2.out, HQ.out], by rw [HNX2.out, HQ.out]; exact OGc, EWc⟩
            case measure => simp [intOf]; omega
    · have hg : gsN l m = groupsL l := gsN_end (by have := HLN.out; omega)
      have i1 : ¬ ((m : Int) < (N : Int)) := by omega
      obtain ⟨GS, hGS⟩ : ∃ GS, groupsL l = GS := ⟨_, rfl⟩
      rw [hg, hGS] at OG ⊢
      rw [hGS] at HF0
      obtain ⟨K, hK⟩ : ∃ K, GS.length = K := ⟨_, rfl⟩
      rw [hK] at OG ⊢
      have HK := Lib.hid hK
      have hk32 : K ≤ 32 := by rw [← hK, ← hGS]; exact Nat.le_trans (groupsL_len l) (by rw [HLN.out]; exact hl.out)
      have HK32 := Lib.hid hk32
      have k8 := (B8.out.ext hE.out).two
      clear hg hGS hK hmn hm
      go_upto_region 15 with fail
      obtain ⟨W4, hW4⟩ : ∃ W4, W4 = wr.alloc (.cells #[.slice A1 n c1, .int .i64 nx] 33) := ⟨_, rfl⟩
      rw [← hW4]
      have Er4 : Ext wr W4 := by rw [hW4]; exact (Ext.refl wr).alloc _
      have B10 := Lib.hid (show Blk W4 wr.heap.size 33 #[.slice A1 n c1, .int .i64 nx] by rw [hW4]; exact Blk.at_ (w := wr) _ _ rfl)
      obtain ⟨n10, hn10⟩ : ∃ n10, wr.heap.size = n10 := ⟨_, rfl⟩
      have HN10 := Lib.hid (show W2.heap.size ≤ n10 by rw [← hn10]; exact hE.out.size)
      have HOG := Lib.hid (show ∀ k, _ from fun k hk => (OG.out.row k hk).2)
      rw [hn10] at B10 HOG ⊢
      have O5 := Lib.hid (OG.out.ext Er4)
      have HS4 := Lib.hid (show n10 < W4.heap.size from B10.out.lt)
      have E24 := Lib.hid (hE.out.trans Er4)
      have HT5 : Hid (TabS 64 A1 c1 U n10 W4 A1 c1 U) := Lib.hid (.inl ⟨rfl, rfl, rfl⟩)
      have HKb := Lib.hid (show K ≤ 9223372036854775807 by omega)
      have RU2 := Lib.hid (rdy_pr (B := fun _ => False) OU.out.y)
      clear hn10 hW4 k8 OG hE Er4
      go_wp2
      go_loopw [85] (fun i wr => ∃ (m3 : Nat) (A' : Option Addr) (c' : Nat), m3 ≤ K ∧ i = .int .i64 m3 ∧ Hid (Blk wr n10 33 #[.slice A' n c', .int .i64 nx]) ∧ Hid (TabS 64 A1 c1 U n10 wr A' c' (tellL l U nx U (GS.take m3))) ∧ Hid (Mod (fun k => k = n10) W4 wr)) (fun i _ => K - (intOf i).toNat)
      case atStart => exact ⟨0, A1, c1, Nat.zero_le _, rfl, B10, HT5, Lib.hid (Mod.refl _ _)⟩
      case round =>
        clear B10 HT5
        obtain ⟨m3, A', c', hm3, rfl, BR, HT, HM⟩ := hrel
        have hkb := HKb.out
        have E2q := Lib.hid (show Ext W2 _ from Mod.toExt E24.out HM.out (by intro k hk he; have := HN10.out; omega))
        have OQ := Lib.hid (O5.out.mod HM.out (fun k hk he => by have := HOG.out k hk; omega) (fun _ _ hk _ => hk))
        have HTL := Lib.hid (show (tellL l U nx U (GS.take m3)).length = U.length from tellL_len)
        by_cases hmn : m3 < K
        · obtain ⟨bg, og, u, x, rfl, hc, hd, hu⟩ := RdY.at1 OQ.out.y rfl hmn
          have hu : [u] = [Value.int .i64 x] := hu.out
          cases hu
          have kb := (hbox2.out.ext E2q.out).two
          have HNX := Lib.hid (tellL_take (l := l) (u := U) (nx := nx) (out := U) hd.out)
          have HTB := Lib.hid (show ∀ p ∈ tellL l U nx U (GS.take m3), Sig.U64 p.pending from tellL_bd HUB.out)
          obtain ⟨OUT, hOUT⟩ : ∃ OUT, tellL l U nx U (GS.take m3) = OUT := ⟨_, rfl⟩
          rw [hOUT] at HT HNX HTL HTB
          have HMM := Lib.hid (rmembers_any (A := fun _ => False) Ad c l nx x wr (by rw [HLN.out]; exact RL2.out.ext E2q.out))
          rw [HLN.out] at HMM
          have HSN := Lib.hid (show newP l U nx x = (seenL l nx x && (orphL U nx x && U.any (haltP x))) from rfl)
          have HSE := Lib.hid (show seenL l nx x = (decide (0 < (memL l nx x).length) && !orphL l nx x) from rfl)
          obtain ⟨ML, hML⟩ : ∃ ML, (memL l nx x).length = ML := ⟨_, rfl⟩
          rw [hML] at HMM HSE
          clear hd hOUT hML
          go_wp2_with fail
          refine HMM.out.mono ?_
          rintro e w6 ⟨A6, c6, rfl, _, E6⟩
          have kb := (hbox2.out.ext (E2q.out.trans E6)).two
          clear HMM
          by_cases hm0 : ML = 0
          · subst hm0
            have HNX := Lib.hid (HNX.out.trans (if_neg (by rw [HSN.out, HSE.out]; simp)))
            go_wp2
            go_roundw
            case rel => exact ⟨m3 + 1, A', c', by omega, by go_num, Lib.hid (BR.out.ext E6), Lib.hid (by rw [HNX.out]; exact HT.out.ext E6), Lib.hid (HM.out.ext E6)⟩
            case measure => simp [intOf]; omega
          have hmb : ((ML : Int) == 0) = false := by simpa using hm0
          have hmd : decide (0 < ML) = true := by simp; omega
          have HO1 := Lib.hid (rorphaned_any (A := fun _ => False) Ad c l nx x w6 (by rw [HLN.out]; exact RL2.out.ext (E2q.out.trans E6)))
          rw [HLN.out] at HO1
          clear hm0
          cases ho : orphL l nx x
          case true =>
            rw [ho] at HO1
            have HNX := Lib.hid (HNX.out.trans (if_neg (by rw [HSN.out, HSE.out, ho]; simp)))
            clear ho
            go_wp2_with fail
            refine HO1.out.mono ?_
            rintro e w7 ⟨rfl, E7⟩
            have E67 := E6.trans E7
            go_wp2
            go_roundw
            case rel => exact ⟨m3 + 1, A', c', by omega, by go_num, Lib.hid (BR.out.ext E67), Lib.hid (by rw [HNX.out]; exact HT.out.ext E67), Lib.hid (HM.out.ext E67)⟩
            case measure => simp [intOf]; omega
          rw [ho] at HO1
          have HSE := Lib.hid (show seenL l nx x = true by rw [HSE.out, ho, hmd]; rfl)
          clear ho hmd
          go_wp2_with fail
          refine HO1.out.mono ?_
          rintro e w7 ⟨rfl, E7⟩
          have E67 := E6.trans E7
          have k8 := (B8.out.ext (E2q.out.trans E67)).two
          have HO := Lib.hid (rorphaned_any (A := fun _ => False) A1 c1 U nx x w7 (by rw [HN.out]; exact RU2.out.ext (E2q.out.trans E67)))
          rw [HN.out] at HO
          clear HO1 E6 E7 kb
          cases ho : orphL U nx x
          case false =>
            rw [ho] at HO
            have HNX := Lib.hid (HNX.out.trans (if_neg (by rw [HSN.out, ho]; simp)))
            clear ho
            go_wp2_with fail
            refine HO.out.mono ?_
            rintro e w8 ⟨rfl, E8⟩
            have E68 := E67.trans E8
            go_wp2
            go_roundw
            case rel => exact ⟨m3 + 1, A', c', by omega, by go_num, Lib.hid (BR.out.ext E68), Lib.hid (by rw [HNX.out]; exact HT.out.ext E68), Lib.hid (HM.out.ext E68)⟩
            case measure => simp [intOf]; omega
          rw [ho] at HO
          have hur : rightL U nx = true := by
            unfold orphL at ho
            simp only [Bool.and_eq_true] at ho
            exact ho.1
          have HNX := Lib.hid (show _ = if haltN U nx (memL U nx x) = true then _ else _ from HNX.out.trans (by rw [HSN.out, HSE.out, ho, haltN_eq hur, Bool.true_and, Bool.true_and]))
          have HMU := Lib.hid fun w' (E : Ext w7 w') => rmembers_any (A := fun _ => False) A1 c1 U nx x w' (by rw [HN.out]; exact RU2.out.ext (E2q.out.trans (E67.trans E)))
          rw [HN.out] at HMU
          have hms := memL_len (l := U) (nx := nx) (g := x)
          obtain ⟨MS, hMS⟩ : ∃ MS, memL U nx x = MS := ⟨_, rfl⟩
          rw [hMS] at HMU HNX hms
          obtain ⟨K2, hK2⟩ : ∃ K2, MS.length = K2 := ⟨_, rfl⟩
          rw [hK2] at HMU hms
          have HK2 := Lib.hid hK2
          have HMS := Lib.hid hms
          clear ho hur hMS hK2 hms
          go_wp2_with fail
          refine HO.out.mono ?_
          rintro e w8 ⟨rfl, E8⟩
          have k8 := (B8.out.ext (E2q.out.trans (E67.trans E8))).two
          have HMU := Lib.hid (HMU.out w8 E8)
          clear HO
          go_wp2_with fail
          refine HMU.out.mono ?_
          rintro e w9 ⟨A9, c9, rfl, O9, E9⟩
          have E69 := E67.trans (E8.trans E9)
          have BR9 := Lib.hid (BR.out.ext E69)
          have HT9 := Lib.hid (HT.out.ext E69)
          have HM9 := Lib.hid (HM.out.ext E69)
          have E2r := Lib.hid (E2q.out.trans E69)
          have O9 := Lib.hid O9
          have hk2b : K2 ≤ 9223372036854775807 := by have := HMS.out; omega
          clear HMU E8 E9 E67 k8 BR HT HM E69
          go_wp2
          go_loopw [17, 109] (fun s i wr => ∃ m4 : Nat, m4 ≤ K2 ∧ i = .int .i64 m4 ∧ s = .bool (haltN U nx (MS.take m4)) ∧ Hid (Ext w9 wr)) (fun _ i _ => K2 - (intOf i).toNat)
          case atStart => exact ⟨0, Nat.zero_le _, rfl, rfl, Lib.hid (Ext.refl _)⟩
          case round =>
            obtain ⟨m4, hm4, rfl, rfl, H9⟩ := hrel
            by_cases hmq : m4 < K2
            · obtain ⟨b2, o2, u2, k2, rfl, hc2, hd2, hu2⟩ := RdY.at1 (O9.out.ext H9.out).y rfl hmq
              have hu2 : [u2] = [Value.int .i64 k2] := hu2.out
              cases hu2
              have HHT := Lib.hid (haltN_take (u := U) (nx := nx) hd2.out)
              have k8 := (B8.out.ext (E2r.out.trans H9.out)).two
              have HGT := Lib.hid (rget_any (A := fun _ => False) A1 c1 U nx k2 wr (by rw [HN.out]; exact RU2.out.ext (E2r.out.trans H9.out)))
              rw [HN.out] at HGT
              have hqok : (getL U nx k2).1.ok := getL_ok (RdY.oks RU2.out)
              obtain ⟨q, hq⟩ : ∃ q, (getL U nx k2).1 = q := ⟨_, rfl⟩
              obtain ⟨fd, hfd⟩ : ∃ fd, (getL U nx k2).2 = fd := ⟨_, rfl⟩
              rw [hq, hfd] at HGT
              rw [hq] at HHT hqok
              generalize haltN U nx (MS.take m4) = sb at *
              clear hd2 hq hfd
              go_wp2_with fail
              refine HGT.out.mono ?_
              rintro e w10 ⟨rfl, E10⟩
              obtain ⟨n20, hn20⟩ : ∃ n20, w10.heap.size = n20 := ⟨_, rfl⟩
              clear HGT k8
              go_upto_region 24 with ((refine wpList_store_A rfl 64 _ _ rfl (n20) _ rfl rfl 64 _ (zero_rowR w10 n20 hn20) (by rw [List.size_toArray]; exact i43r' hqok) (Eq.trans (b := 43) (by rfl) (Eq.symm (show (q).cells.toArray.size = 43 from Pr.size hqok))) (Pr.one hqok) ?_); intro w11 H11 E11; have E11 : Ext w10 w11 := E11 w10.heap.size w10 ((Ext.refl w10).alloc _) (by omega); have P11 := Lib.hid H11)
              have pc4 := (prAt_blk hqok P11.out).c4
              rw [Nat.zero_add] at pc4
              have H11 := Lib.hid (H9.out.trans (E10.trans E11))
              clear E10 E11 hn20
              cases sb
              · go_wp2
                go_roundw
                case rel => exact ⟨m4 + 1, by omega, by go_num, by rw [HHT.out]; rfl, H11⟩
                case measure => simp [intOf]; omega
              · go_wp2
                go_roundw
                case rel => exact ⟨m4 + 1, by omega, by go_num, by rw [HHT.out]; rfl, H11⟩
                case measure => simp [intOf]; omega
            · have HTK := Lib.hid (show haltN U nx (MS.take m4) = haltN U nx MS by rw [List.take_of_length_le (by have := HK2.out; omega)])
              rw [HTK.out]
              have HBR := Lib.hid (BR9.out.ext H9.out)
              have HTT := Lib.hid (HT9.out.ext H9.out)
              have HMM := Lib.hid (HM9.out.ext H9.out)
              have E2s := Lib.hid (E2r.out.trans H9.out)
              clear BR9 HT9 HM9 HTK
              cases hst : haltN U nx MS
              · have HNX := Lib.hid (HNX.out.trans (if_neg (by rw [hst]; simp)))
                clear hst
                go_wp2
                go_roundw
                case rel => exact ⟨m3 + 1, A', c', by omega, by go_num, HBR, Lib.hid (by rw [HNX.out]; exact HTT.out), HMM⟩
                case measure => simp [intOf]; omega
              · have HNX := Lib.hid (HNX.out.trans (if_pos hst))
                clear hst
                have k10 := HBR.out.two
                have hgl : OUT.length = n := by rw [HTL.out, HN.out]
                have hsd := rsgroup_any (A := fun _ => False) A' c' OUT nx x 1 (.inl rfl) wr (by rw [hgl, ← HN.out]; exact HTT.out.y (by rw [HN.out]; exact RU2.out) E2s.out) HTB.out
                rw [hgl] at hsd
                have HSD := Lib.hid hsd
                have HGL := Lib.hid hgl
                clear hsd hgl
                go_wp2_with fail
                refine HSD.out.mono ?_
                rintro e w12 ⟨A3, c3, k3, rfl, R3, E12⟩
                have B12 := HBR.out.ext E12
                have M12 : Mod (fun k => k = n10) w12 _ := ((Mod.refl _ w12).set1 (.slice A3 n c3) (o := 0)).set1 (.int .i64 nx) (o := 1)
                have HT12 := Lib.hid ((HTT.out.trans R3 (by rw [HGL.out, HN.out]) E12 (by have := HS4.out; have := HMM.out.size; omega)).mod M12 B12 (by decide))
                have k10 := B12.two
                have B13 := Lib.hid (B12.put2 (.slice A3 n c3) (.int .i64 nx))
                have HM13 := Lib.hid ((HMM.out.ext E12).trans M12)
                have E2t := Lib.hid (show Ext W2 _ from Mod.toExt E24.out HM13.out (by intro k hk he; have := HN10.out; omega))
                obtain ⟨O3, hO3⟩ : ∃ O3, sgrpL OUT nx x 1 = O3 := ⟨_, rfl⟩
                have HTB3 := Lib.hid (show ∀ p ∈ O3, Sig.U64 p.pending by rw [← hO3]; exact sgrpL_bd HTB.out)
                have HO3 := Lib.hid hO3
                have hgl3 : O3.length = n := by rw [← hO3, sgrpL_len, HGL.out]
                rw [hO3] at HT12
                have HGL3 := Lib.hid hgl3
                clear HSD R3 M12 B12 HBR HTT HMM E12 hO3 hgl3
                go_upto_region 28 with fail
                generalize (w12.setCell _ _).setCell _ _ = w13 at *
                have k10 := B13.out.two
                have hsd := rsgroup_any (A := fun _ => False) A3 c3 O3 nx x 18 (.inr (.inr rfl)) w13 (by rw [HGL3.out, ← HN.out]; exact HT12.out.y (by rw [HN.out]; exact RU2.out) E2t.out) HTB3.out
                rw [HGL3.out] at hsd
                have HSD := Lib.hid hsd
                clear hsd
                go_wp2_with fail
                refine HSD.out.mono ?_
                rintro e w14 ⟨A4, c4, k4, rfl, R4, E14⟩
                have B14 := B13.out.ext E14
                have M14 : Mod (fun k => k = n10) w14 _ := ((Mod.refl _ w14).set1 (.slice A4 n c4) (o := 0)).set1 (.int .i64 nx) (o := 1)
                have HT14 := Lib.hid ((HT12.out.trans R4 (by rw [HGL3.out, HN.out]) E14 (by have := HS4.out; have := HM13.out.size; omega)).mod M14 B14 (by decide))
                have k10 := B14.two
                have B15 := Lib.hid (B14.put2 (.slice A4 n c4) (.int .i64 nx))
                have HM15 := Lib.hid ((HM13.out.ext E14).trans M14)
                have HNX := Lib.hid (HNX.out.trans (show grpsL OUT nx x hupS = sgrpL O3 nx x 18 by rw [← HO3.out]; rfl))
                clear HSD R4 M14 B14 HT12 B13 HM13 E14
                go_wp2
                go_roundw
                case rel => exact ⟨m3 + 1, A4, c4, by omega, by go_num, B15, Lib.hid (by rw [HNX.out]; exact HT14.out), HM15⟩
                case measure => simp [intOf]; omega
        · obtain rfl : m3 = K := by omega
          have k10 := BR.out.two
          have ks := (hres2.out.ext E2q.out).two
          have hM7 : Mod (fun k => k = w.heap.size + 1) wr _ := ((Mod.refl _ wr).set1 (.slice A' n c') (o := 0)).set1 (.int .i64 nx) (o := 1)
          obtain ⟨q0, q1, _, _⟩ := ((hres2.out.ext E2q.out).put2 (.slice A' n c') (.int .i64 nx)).two
          have HF := Lib.hid (show FL = (tellL l U nx U (GS.take m3), 0) by rw [HF0.out, List.take_of_length_le (by have := HK.out; omega)])
          have S7 := hres2.out.ext E2q.out
          go_wp2
          refine bodyPost_ret (v := .tuple #[tv A' n c' nx, .int .i64 0]) (by simp [results, Tryz.results62, go_sem, q0, q1]) rfl ?_
          have EE : Ext w _ := Mod.toExt (E02.out.trans E2q.out) hM7 (by intro k hk he; omega)
          rw [HF.out]
          have hlen : (tellL l U nx U (GS.take m3)).length = n := by rw [HTL.out, HN.out]
          refine ⟨A', c', by rw [hlen], .inr ?_, EE⟩
          rw [hlen]
          have hw2 := HW2.out
          have hlt := HLT.out
          rcases HT.out with ⟨rfl, rfl, h3⟩ | h3
          · rw [h3]
            exact (own_tbl (OU.out.ext E2q.out) hM7 S7).lower (by omega)
          · rw [HN.out] at h3
            have hn10 := HN10.out
            exact (own_tbl h3 hM7 S7).lower (by have := E02.out.size; omega)
end Go.Proofs.YteljobleojhgmaaGreat
