/- Written by chain.py of KA20[-fromproc_any] LA20. No condition. -/
import Derived.Test.YteljobleojhgmaaGreatD21
namespace Go.Proofs.YteljobleojhgmaaGreat
open Go.RowKit Go.Kb

theorem i43r : (Tryz.prog.info? 64).map (·.size) = some 43 := by kernel_rfl
theorem i43r' {p : Pr} (h : p.ok) : (Tryz.prog.info? 64).map (·.size) = some p.cells.length := by rw [Pr.len h]; exact i43r
theorem i32r {p : Pr} (h : p.ok) : (Tryz.prog.info? 39).map (·.size) = some (p.acts.map (Value.int .i64)).length := by
  rw [List.length_map, show p.acts.length = 32 from h]
  kernel_rfl
theorem zero_rowR (w : World) (n : Nat) (hn : w.heap.size = n) : Blk (w.alloc (.cells #[.int .i64 0, .int .i64 0, .int .i64 0, .int .i64 0, .int .i64 0, .int .i64 0, .int .i64 0, .int .u64 0, .int .u64 0, .int .i64 0, .int .i64 0, .int .i64 0, .int .i64 0, .int .i64 0, .int .i64 0, .int .i64 0, .int .i64 0, .int .i64 0, .int .i64 0, .int .i64 0, .int .i64 0, .int .i64 0, .int .i64 0, .int .i64 0, .int .i64 0, .int .i64 0, .int .i64 0, .int .i64 0, .int .i64 0, .int .i64 0, .int .i64 0, .int .i64 0, .int .i64 0, .int .i64 0, .int .i64 0, .int .i64 0, .int .i64 0, .int .i64 0, .int .i64 0, .int .i64 0, .int .i64 0, .int .i64 0, .bool false] 64)) n 64 zeroP.cells.toArray := Blk.at_ _ _ hn
theorem from_built {p : Pr} (h : p.ok) : Tryz.prog.built 64 [(0, .int .i64 p.pid), (1, .int .i64 p.parent), (2, .int .i64 p.group), (3, .int .i64 p.session), (4, .int .i64 p.state), (5, .int .i64 p.prog), (6, .int .i64 p.pc), (7, .int .u64 p.pending), (8, .int .u64 p.mask), (9, .agg (p.acts.map (Value.int .i64)).toArray), (10, .int .i64 p.status), (11, .bool p.told)] = some p.cells.toArray := by
  unfold Pr.ok at h
  obtain ⟨pid0, parent, group, session, state, prog0, pc, pending, mask, acts, status, told⟩ := p
  simp only at h
  match acts, h with
  | [x0, x1, x2, x3, x4, x5, x6, x7, x8, x9, x10, x11, x12, x13, x14, x15, x16, x17, x18, x19, x20, x21, x22, x23, x24, x25, x26, x27, x28, x29, x30, x31], _ => (show Tryz.prog.built _ _ = some _; kernel_rfl)
theorem to_built {p : Pr} (h : p.ok) : Tryz.prog.built 42 [(0, .int .i64 p.pid), (1, .int .i64 p.parent), (2, .int .i64 p.group), (3, .int .i64 p.session), (4, .int .i64 p.state), (5, .int .i64 p.prog), (6, .int .i64 p.pc), (7, .int .u64 p.pending), (8, .int .u64 p.mask), (9, .agg (p.acts.map (Value.int .i64)).toArray), (10, .int .i64 p.status), (11, .bool p.told)] = some p.cells.toArray := by
  unfold Pr.ok at h
  obtain ⟨pid0, parent, group, session, state, prog0, pc, pending, mask, acts, status, told⟩ := p
  simp only at h
  match acts, h with
  | [x0, x1, x2, x3, x4, x5, x6, x7, x8, x9, x10, x11, x12, x13, x14, x15, x16, x17, x18, x19, x20, x21, x22, x23, x24, x25, x26, x27, x28, x29, x30, x31], _ => (show Tryz.prog.built _ _ = some _; kernel_rfl)
end Go.Proofs.YteljobleojhgmaaGreat
namespace Go.Proofs.YteljobleojhgmaaGreat
open Go.RowKit Go.Kb

theorem info_rp : (Tryz.prog.info? 64).map (fun i => (i.zero, i.size, i.bytes)) = some (some (.agg zeroP.cells.toArray), Rp.size, 344) := by kernel_rfl
theorem lpm32 {p : Pr} (hok : p.ok) : (Tryz.prog.info? 39).map (·.size) = some (p.acts.map (Value.int .i64)).length := i32r hok
theorem rpr_at {w : World} {g : Nat} {t : TypeId} {p : Pr} (hp : p.ok) (h : Blk w g t p.cells.toArray) : PrAt w g 0 p := prAt_blk hp h
set_option maxRecDepth 100000 in
set_option maxHeartbeats 800000 in
theorem to_any {A : Nat → Prop} (Ad : Option Addr) (c : Nat) (l : List Pr) (nx : Int) (w : World) (h : RdY Rp A w (.slice Ad l.length c) l) (hn : l.length ≤ 100000) :
    Calls Tryz.prog 24 #[tv Ad l.length c nx] w fun e w' => ∃ A' c', e = .returned (tv A' l.length c' nx) ∧ OwnS Rp 42 w.heap.size (fun _ => False) w' (.slice A' l.length c') l ∧ Ext w w' := by
  have H := Lib.hid (rdy_pr (B := fun _ => False) h)
  obtain ⟨_, _, hv, hc1, _⟩ := h.shape
  simp only [Value.slice.injEq] at hv
  obtain ⟨-, -, rfl⟩ := hv
  obtain ⟨N, hN⟩ : ∃ N, l.length = N := ⟨_, rfl⟩
  rw [hN] at H hn hc1 ⊢
  have HN := Lib.hid hN
  obtain ⟨W, hW⟩ : ∃ W, W = ((w.alloc (.cells #[.slice Ad N c, .int .i64 nx] 33)).alloc (.cells #[.slice none 0 0, .int .i64 0] 29)).alloc (.cells #[.slice none 0 0, .int .i64 nx] 29) := ⟨_, rfl⟩
  have hst := Lib.hid (show Blk W (w.heap.size + 1 + 1) 29 #[.slice none 0 0, .int .i64 nx] by rw [hW]; exact Blk.at_ _ _ (by simp))
  have hres := Lib.hid (show Blk W (w.heap.size + 1) 29 #[.slice none 0 0, .int .i64 0] by rw [hW]; exact (Blk.at_ _ _ (by simp)).alloc _)
  have hbox := Lib.hid (show Blk W w.heap.size 33 #[.slice Ad N c, .int .i64 nx] by rw [hW]; exact ((Blk.new w _ _).alloc _).alloc _)
  have E0 : Ext w W := by rw [hW]; exact (by repeat (first | with_reducible exact Ext.refl _ | refine Ext.drewN ?_ _ | refine Ext.drew ?_ | refine Ext.alloc ?_ _ | assumption | (refine Below.trans ?_ (by assumption)) | (refine Ext.trans ?_ (by assumption)) | (refine Below.trans ?_ (Below.mono (by assumption) (by omega)))))
  have hsz := Lib.hid (show W.heap.size = w.heap.size + 3 by rw [hW]; simp)
  have HW := Lib.hid hW
  clear h hN hW
  go_enter Tryz.func24, Tryz.ntmps24
  go_wp2
  rw [← HW.out]
  go_loopw [12] (fun i wr => ∃ (m c' : Nat) (A' : Option Addr), m ≤ N ∧ i = .int .i64 m ∧ Hid (Blk wr (w.heap.size + 1 + 1) 29 #[.slice A' m c', .int .i64 nx]) ∧ Hid (Blk wr (w.heap.size + 1) 29 #[.slice none 0 0, .int .i64 0]) ∧ Hid (OwnS Rp 42 (w.heap.size + 3) (fun _ => False) wr (.slice A' m c') (l.take m)) ∧ Hid (Ext w wr) ∧ w.heap.size + 3 ≤ wr.heap.size) (fun i _ => N - (intOf i).toNat)
  case atStart => exact ⟨0, 0, none, Nat.zero_le _, rfl, hst, hres, Lib.hid (OwnS.nil _ _ _ _ _), Lib.hid E0, by have := hsz.out; omega⟩
  case round =>
    clear hst hres
    obtain ⟨m, c', A', hm, rfl, hst, hres, O, hE, hws⟩ := hrel
    have hst2 := hst.out.two
    by_cases hmn : m < N
    · obtain ⟨b, off, p, rfl, hd, hok, hcell⟩ := pr_at (H.out.ext hE.out) hmn
      have HY := Lib.hid (show l.take (m + 1) = l.take m ++ [p] by rw [List.take_add_one, hd.out]; rfl)
      have HZ := Lib.hid (show (l.take m).length = m by rw [List.length_take]; have := HN.out; omega)
      have hp3 := Pr.len hok
      have hp4 := fold_pr hok
      clear hd
      go_wp2_with (first
        | (refine wpList_load_mid rfl 64 _ rfl b (off + m * 43) rfl p.cells _ hcell.out Tryz.underlying64 rfl (i43' hok) ?_)
        | ((refine wpList_store_A rfl 64 _ _ rfl (wr.heap.size) _ rfl rfl 64 _ (zero_rowR wr _ rfl) (by rw [List.size_toArray]; exact i43r' hok) (Eq.trans (b := 43) (by rfl) (Eq.symm (show (p).cells.toArray.size = 43 from Pr.size hok))) (Pr.one hok) ?_); intro w4 H2 E4; have E4 : Ext wr w4 := E4 wr.heap.size wr ((Ext.refl wr).alloc _) (Nat.le_refl _); have hp := rpr_at hok H2; have hws4 := E4.size; have hst2 := (hst.out.ext E4).two; have c0 := hp.c0; have c1 := hp.c1; have c2 := hp.c2; have c3 := hp.c3; have c4 := hp.c4; have c5 := hp.c5; have c6 := hp.c6; have c7 := hp.c7; have c8 := hp.c8; have c41 := hp.c41; have c42 := hp.c42)
        | (refine wpList_load_mid rfl 39 _ rfl wr.heap.size (0 + 9) rfl (p.acts.map (Value.int .i64)) _ (acts_at hp) Tryz.underlying39 rfl (i32r hok) ?_)
        | (refine wpList_build_eq rfl 42 _ rfl (L := p.cells.toArray) ?_ ?_; (focus ((try simp [go_sem]); exact to_built hok)))
        | (at_builtin; refine wpList_app (e := Rp) (base := w.heap.size + 3) (B := fun _ => False) (A := fun _ => False) rfl (.tmp 17) (.tmp 43) rfl Tryz.underlying27 info_pr rfl ((O.out.ext E4).alloc _) rfl (RdY.singleB (cs := p.cells) (rp_rel (fun _ => False) _ hok) (Blk.at_ _ _ rfl)) rfl (fun _ _ h => h.elim) (N := m + 1) (by rw [HZ.out]; rfl) (by simp [maxLen]; omega) (by omega) (by simp; omega) ?_; intro A5 c5 w5 o5 M5 D5; have hs5 : Blk w5 (w.heap.size + 1 + 1) 29 #[.slice A' m c', .int .i64 nx] := (D5.block _ (by omega)).trans ((hst.out.ext E4).alloc _); have hst2 := hs5.two; have hr5 : Blk w5 (w.heap.size + 1) 29 #[.slice none 0 0, .int .i64 0] := (D5.block _ (by omega)).trans ((hres.out.ext E4).alloc _); have E5 : Ext w w5 := Below.trans ((hE.out.trans E4).alloc _) (D5.mono (by omega)); have hz5 := D5.size; have hrw := o5.row; have M6 : Mod (fun k => k = w.heap.size + 1 + 1) w5 (w5.setCell ⟨w.heap.size + 1 + 1, 0, none⟩ (.slice A5 (m + 1) c5)) := (Mod.refl _ _).set1 _; have B6 := Lib.hid (hs5.set_ 0 (.slice A5 (m + 1) c5)); have R6 := Lib.hid (hr5.mod M6 (by show ¬ _ = _; omega)); have O6 := Lib.hid (o5.mod M6 (fun k hk he => by have := (hrw k hk).1; omega) (fun k _ hk he => hk)); have E6 := Lib.hid (Mod.toExt E5 M6 (by intro k hk he; omega)); have hz6 := M6.size; clear M5 D5 M6 hrw o5 E5 hr5 hs5))
      go_roundw
      case rel => exact ⟨m + 1, c5, A5, by omega, by go_num, B6, R6, by rw [HY.out]; exact O6, E6, by simp at hz5; omega⟩
      case measure => simp [intOf]; omega
    · obtain rfl : m = N := by omega
      have hf : l.take m = l := List.take_of_length_le (by have := HN.out; omega)
      rw [hf] at O
      have ks := hres.out.two
      have hrw := O.out.row
      have M6 : Mod (fun k => k = w.heap.size + 1) wr _ := ((Mod.refl _ wr).set1 (.slice A' m c') (o := 0)).set1 (.int .i64 nx) (o := 1)
      obtain ⟨q0, q1, _, _⟩ := (hres.out.put2 (.slice A' m c') (.int .i64 nx)).two
      have hrw := Lib.hid hrw
      clear hf
      go_wp2
      refine bodyPost_ret (v := tv A' m c' nx) (by simp [results, Tryz.results24, go_sem, q0, q1]) rfl ?_
      exact ⟨A', c', rfl, (O.out.mod M6 (fun k hk he => by have := (hrw.out k hk).1; omega) (fun k _ hk _ => hk)).lower (by omega), Mod.toExt hE.out M6 (by intro k hk he; omega)⟩
end Go.Proofs.YteljobleojhgmaaGreat
