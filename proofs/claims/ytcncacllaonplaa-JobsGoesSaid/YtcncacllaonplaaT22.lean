/- A group put in front, by contract: when it is done, and what is as it was. Conditions: sets have 64 bits. -/
import Derived.Test.YtcncacllaonplaaS22
namespace Go.Proofs.Ytcncacllaonplaa
open Go.RowKit Go.Kb

def frontP (group session : Int) (p : Pr) : Bool := liveP p && p.group == group && p.session == session
theorem enters_front1 (args : Array Value) (w : World) : (callFunc 52 args).run Try.prog w = .ok (.enter 52 args) w := by kernel_rfl
set_option maxHeartbeats 800000 in
theorem front1_any (group s g0 : Int) (ts : Bool) (n n2 : Nat) (p : Pr) (w : World) (hp : p.ok) (h : Blk w n 3 #[.int .i64 group]) (h2 : Blk w n2 33 #[.int .i64 s, .int .i64 g0, .bool ts]) :
    Calls Try.prog 52 #[.agg p.cells.toArray, .pointer (some ⟨n, 0, none⟩), .pointer (some ⟨n2, 0, none⟩)] w fun e w' => e = .returned (.bool (frontP group s p)) ∧ Ext w w' := by
  have c2 := (pr_new w 40 hp).c2
  have c3 := (pr_new w 40 hp).c3
  have c4 := (pr_new w 40 hp).c4
  have d0 := (h.alloc (.cells p.cells.toArray 40)).cell0
  have d3 := (h2.alloc (.cells p.cells.toArray 40)).cell 0
  unfold frontP liveP
  generalize p.cells.toArray = cs at c2 c3 c4 d0 d3 ⊢
  clear hp h h2
  cases hl : (p.state != 3)
  · go_enter Try.func52, Try.ntmps52
    go_wp2
    go_ret
    exact ⟨by simp, (by repeat (first | with_reducible exact Ext.refl _ | refine Ext.drewN ?_ _ | refine Ext.drew ?_ | refine Ext.alloc ?_ _ | assumption | (refine Below.trans ?_ (by assumption)) | (refine Ext.trans ?_ (by assumption)) | (refine Below.trans ?_ (Below.mono (by assumption) (by omega)))))⟩
  · cases hg : (p.group == group)
    · go_enter Try.func52, Try.ntmps52
      go_wp2
      go_ret
      exact ⟨by simp, (by repeat (first | with_reducible exact Ext.refl _ | refine Ext.drewN ?_ _ | refine Ext.drew ?_ | refine Ext.alloc ?_ _ | assumption | (refine Below.trans ?_ (by assumption)) | (refine Ext.trans ?_ (by assumption)) | (refine Below.trans ?_ (Below.mono (by assumption) (by omega)))))⟩
    · go_enter Try.func52, Try.ntmps52
      go_wp2
      go_ret
      exact ⟨by simp, (by repeat (first | with_reducible exact Ext.refl _ | refine Ext.drewN ?_ _ | refine Ext.drew ?_ | refine Ext.alloc ?_ _ | assumption | (refine Below.trans ?_ (by assumption)) | (refine Ext.trans ?_ (by assumption)) | (refine Below.trans ?_ (Below.mono (by assumption) (by omega)))))⟩
theorem asks_front {group s g0 : Int} {ts : Bool} {n n2 : Nat} {w : World} (h : Blk w n 3 #[.int .i64 group]) (h2 : Blk w n2 33 #[.int .i64 s, .int .i64 g0, .bool ts]) : Asks 52 #[] #[.pointer (some ⟨n, 0, none⟩), .pointer (some ⟨n2, 0, none⟩)] (frontP group s) w :=
  ⟨enters_front1, fun p w' hp hE => front1_any group s g0 ts n n2 p w' hp (h.ext hE) (h2.ext hE)⟩
/-- a call that is done leaves the table, and puts the group in front -/
def FrontPost (Ad : Option Addr) (c : Nat) (l : List Pr) (nx s g0 : Int) (ts : Bool) (pid group : Int) (w : World) (e : Ending) (w' : World) : Prop :=
  Ext w w' ∧ ((liveL l nx pid = true ∧ (getL l nx pid).1.session = s ∧ e = .returned (.tuple #[tv Ad l.length c nx, .agg #[.int .i64 s, .int .i64 group, .bool ts], .int .i64 0])) ∨
    ∃ A' c' l' x, (x == 0) = false ∧ e = .returned (.tuple #[tv A' l.length c' nx, .agg #[.int .i64 s, .int .i64 g0, .bool ts], .int .i64 x]) ∧ TabS 40 Ad c l w.heap.size w' A' c' l')
set_option maxRecDepth 100000 in
set_option maxHeartbeats 3000000 in
theorem front_any {A : Nat → Prop} (Ad : Option Addr) (c : Nat) (l : List Pr) (nx s g0 : Int) (ts : Bool) (pid group : Int) (w : World) (h : RdY Rp A w (.slice Ad l.length c) l) (hm : ∀ p ∈ l, Sig.U64 p.mask) (hb : ∀ p ∈ l, Sig.U64 p.pending) :
    Calls Try.prog 21 #[tv Ad l.length c nx, .agg #[.int .i64 s, .int .i64 g0, .bool ts], .int .i64 pid, .int .i64 group] w (FrontPost Ad c l nx s g0 ts pid group w) := by
  have H := Lib.hid (rdy_pr (B := fun _ => False) h)
  have hoks := Lib.hid (RdY.oks h)
  obtain ⟨N, hN⟩ : ∃ N, l.length = N := ⟨_, rfl⟩
  have hfl := fun n w h hB => fellows_any (A := fun _ => False) Ad c l nx pid 22 (.inr (.inr rfl)) n w h hb hB
  obtain ⟨W, hW⟩ : ∃ W, W = ((((w.alloc (.cells #[.slice Ad N c, .int .i64 nx] 28)).alloc (.cells #[.int .i64 s, .int .i64 g0, .bool ts] 33)).alloc (.cells #[.int .i64 group] 3)).alloc (.cells #[.slice none 0 0, .int .i64 0] 28)).alloc (.cells #[.int .i64 0, .int .i64 0, .bool false] 33) := ⟨_, rfl⟩
  have E0 : Ext w W := by rw [hW]; exact (by repeat (first | with_reducible exact Ext.refl _ | refine Ext.drewN ?_ _ | refine Ext.drew ?_ | refine Ext.alloc ?_ _ | assumption | (refine Below.trans ?_ (by assumption)) | (refine Ext.trans ?_ (by assumption)) | (refine Below.trans ?_ (Below.mono (by assumption) (by omega)))))
  have hL := live_any (A := fun _ => False) Ad c l nx pid W (H.out.ext E0)
  have hgt := fun w h => get_any (A := fun _ => False) Ad c l nx pid w h
  have hor := fun g w h => orphaned_any (A := fun _ => False) Ad c l nx g w h
  unfold FrontPost
  rw [hN] at H hfl hL hgt hor ⊢
  have HFL := Lib.hid hfl
  have HN := Lib.hid hN
  have HL := Lib.hid hL
  have HGT := Lib.hid hgt
  have HOR := Lib.hid hor
  have HM := Lib.hid hm
  have hr2 := Lib.hid (show Blk W (w.heap.size + 1 + 1 + 1 + 1) 33 #[.int .i64 0, .int .i64 0, .bool false] by rw [hW]; exact Blk.at_ _ _ (by simp))
  have hres := Lib.hid (show Blk W (w.heap.size + 1 + 1 + 1) 28 #[.slice none 0 0, .int .i64 0] by rw [hW]; exact (Blk.at_ _ _ (by simp)).alloc _)
  have hgr := Lib.hid (show Blk W (w.heap.size + 1 + 1) 3 #[.int .i64 group] by rw [hW]; exact ((Blk.at_ _ _ (by simp)).alloc _).alloc _)
  have hty := Lib.hid (show Blk W (w.heap.size + 1) 33 #[.int .i64 s, .int .i64 g0, .bool ts] by rw [hW]; exact (((Blk.at_ _ _ (by simp)).alloc _).alloc _).alloc _)
  have hbox := Lib.hid (show Blk W w.heap.size 28 #[.slice Ad N c, .int .i64 nx] by rw [hW]; exact ((((Blk.new w _ _).alloc _).alloc _).alloc _).alloc _)
  have HW := Lib.hid hW
  have kb := hbox.out.two
  clear hW h hm hb hN hfl hL hgt hor
  go_enter Try.func21, Try.ntmps21
  go_upto_region 1 with fail
  rw [← HW.out]
  go_wp2_with fail
  refine HL.out.mono ?_
  rintro e w1 ⟨rfl, E1⟩
  have E01 := E0.trans E1
  have hr2 := Lib.hid (hr2.out.ext E1)
  have hres := Lib.hid (hres.out.ext E1)
  have hgr := Lib.hid (hgr.out.ext E1)
  have hty := Lib.hid (hty.out.ext E1)
  have hbox := Lib.hid (hbox.out.ext E1)
  clear HW HL kb
  cases hl : liveL l nx pid
  · clear hl
    go_wp2
    refine wp_region_held_drew (S := fun w' => Mod (fun k => k = w.heap.size + 1 + 1 + 1 ∨ k = w.heap.size + 1 + 1 + 1 + 1) w1 w') (by kernel_rfl) ((Mod.refl _ _).drew) (fun hHeld => ?_)
    (refine wpAnyH_take (i := 0) (v := ?_) rfl (by kernel_rfl) (by kernel_rfl) (by kernel_rfl) (fun _ _ _ h => h) (Or.inl ⟨by rfl, ?_⟩) (by assumption) ?_; rotate_left; (focus (intro w' hSw; have kc := (hbox.out.mod hSw (by omega)).two; go_simp; try with_reducible rfl)); (try simp only [List.getElem_toArray]); (try simp only [List.getElem_cons_succ]); (try simp only [List.getElem_cons_zero]); (try simp only [Act.put]); (try simp only [List.setIfInBounds_toArray]); (try simp only [List.set_cons_succ]); (try simp only [List.set_cons_zero]))
    (refine wpAnyH_take (i := 1) (v := ?_) rfl (by kernel_rfl) (by kernel_rfl) (by kernel_rfl) (fun _ _ _ h => h) (Or.inl ⟨by rfl, ?_⟩) (by assumption) ?_; rotate_left; (focus (intro w' hSw; have y0 := (hty.out.mod hSw (by omega)).cell 0; have y1 := (hty.out.mod hSw (by omega)).cell 1; have y2 := (hty.out.mod hSw (by omega)).cell 2; go_simp; try with_reducible rfl)); (try simp only [List.getElem_toArray]); (try simp only [List.getElem_cons_succ]); (try simp only [List.getElem_cons_zero]); (try simp only [Act.put]); (try simp only [List.setIfInBounds_toArray]); (try simp only [List.set_cons_succ]); (try simp only [List.set_cons_zero]))
    obtain ⟨D, hD⟩ : ∃ D, D = w1.drew := ⟨_, rfl⟩
    have ED : Ext w1 D := by rw [hD]; exact (Ext.refl _).drew
    have hHeld : Mod (fun k => k = w.heap.size + 1 + 1 + 1 ∨ k = w.heap.size + 1 + 1 + 1 + 1) w1 D := by rw [hD]; exact (Mod.refl _ _).drew
    rw [← hD]
    clear hD
    have hS0 := hres.out.ext ED
    have ks := hS0.two
    have M5 : Mod (fun k => k = w.heap.size + 1 + 1 + 1) D _ := ((Mod.refl _ D).set1 (.slice Ad N c) (o := 0)).set1 (.int .i64 nx) (o := 1)
    have N5 := hHeld.trans (M5.mono (T := fun k => k = w.heap.size + 1 + 1 + 1 ∨ k = w.heap.size + 1 + 1 + 1 + 1) fun _ _ h => .inl h)
    (refine wpAnyH_ready (rs := [2]) (by kernel_rfl) (by simp) ?_; refine AllReadyH.cons rfl (fun K hK => ?_) AllReadyH.nil; go_simp; refine hK.out _ _ N5 (fun hHeld => ?_); clear hK K; (try simp only [Act.put]); (try simp only [List.getElem_toArray]); (try simp only [List.getElem_cons_succ]); (try simp only [List.getElem_cons_zero]); (try simp only [List.setIfInBounds_toArray]); (try simp only [List.set_cons_succ]); (try simp only [List.set_cons_zero]))
    have hS1 := hS0.put2 (.slice Ad N c) (.int .i64 nx)
    have hY1 := (hr2.out.ext ED).mod M5 (by omega)
    have r0 := hY1.cell 0
    have r1 := hY1.cell 1
    have r2 := hY1.cell 2
    have f0 := hY1.frozen 0
    have f1 := hY1.frozen 1
    have f2 := hY1.frozen 2
    generalize World.setCell (World.setCell D _ _) _ _ = D1 at *
    have M6 : Mod (fun k => k = w.heap.size + 1 + 1 + 1 + 1) D1 _ := (((Mod.refl _ D1).set1 (.int .i64 s) (o := 0)).set1 (.int .i64 g0) (o := 1)).set1 (.bool ts) (o := 2)
    have M7 := N5.trans (M6.mono (T := fun k => k = w.heap.size + 1 + 1 + 1 ∨ k = w.heap.size + 1 + 1 + 1 + 1) fun _ _ h => .inr h)
    (refine wpAnyH_ready (rs := [3]) (by kernel_rfl) (by simp) ?_; refine AllReadyH.cons rfl (fun K hK => ?_) AllReadyH.nil; go_simp; refine hK.out _ _ M7 (fun hHeld => ?_); clear hK K; (try simp only [Act.put]); (try simp only [List.getElem_toArray]); (try simp only [List.getElem_cons_succ]); (try simp only [List.getElem_cons_zero]); (try simp only [List.setIfInBounds_toArray]); (try simp only [List.set_cons_succ]); (try simp only [List.set_cons_zero]))
    (refine wpAnyH_take (i := 4) (v := ?_) rfl (by kernel_rfl) (by kernel_rfl) (by kernel_rfl) (fun _ _ _ h => h) (Or.inl ⟨by rfl, ?_⟩) (by assumption) ?_; rotate_left; (focus (intro w' hSw; go_simp; try with_reducible rfl)); (try simp only [List.getElem_toArray]); (try simp only [List.getElem_cons_succ]); (try simp only [List.getElem_cons_zero]); (try simp only [Act.put]); (try simp only [List.setIfInBounds_toArray]); (try simp only [List.set_cons_succ]); (try simp only [List.set_cons_zero]))
    refine wpAnyH_done (by kernel_rfl) ?_ _
    have hS2 := Lib.hid (hS1.mod M6 (by omega))
    have hY2 := Lib.hid (show Blk _ _ _ #[.int .i64 s, .int .i64 g0, .bool ts] from ((hY1.set_ 0 (.int .i64 s)).set_ 1 (.int .i64 g0)).set_ 2 (.bool ts))
    have M7 := Lib.hid M7
    clear hY1 hS1 hS0 M6 M5 N5 r0 r1 r2 f0 f1 f2 ks
    generalize World.setCell (World.setCell (World.setCell D1 _ _) _ _) _ _ = Z at *
    obtain ⟨q0, q1, _, _⟩ := hS2.out.two
    have v0 := hY2.out.cell 0
    have v1 := hY2.out.cell 1
    have v2 := hY2.out.cell 2
    go_wp2
    refine bodyPost_ret (v := .tuple #[tv Ad N c nx, .agg #[.int .i64 s, .int .i64 g0, .bool ts], .int .i64 8]) (by simp [results, Try.results21, go_sem, q0, q1, v0, v1, v2]) rfl ?_
    exact ⟨Mod.toExt E01 M7.out (by intro k hk he; omega), .inr ⟨Ad, c, l, 8, rfl, rfl, .inl ⟨rfl, rfl, rfl⟩⟩⟩
  · obtain ⟨_, p, hgp, hpl, _⟩ := askL_live (live_ask hl)
    have hpok := hoks.out p hpl
    have HPM := Lib.hid (HM.out p hpl)
    have hg := HGT.out w1 (H.out.ext E01)
    rw [hgp] at hg
    have HG := Lib.hid hg
    have HGP := Lib.hid hgp
    have HLV := Lib.hid hl
    have kb := hbox.out.two
    clear hl hg hgp hpl
    go_wp2_with fail
    refine HG.out.mono ?_
    rintro e w2 ⟨rfl, E2⟩
    obtain ⟨n11, hn11⟩ : ∃ n11, w2.heap.size = n11 := ⟨_, rfl⟩
    have E02 := E01.trans E2
    have hr2 := Lib.hid (hr2.out.ext E2)
    have hres := Lib.hid (hres.out.ext E2)
    have hgr := Lib.hid (hgr.out.ext E2)
    have hty := Lib.hid (hty.out.ext E2)
    have hbox := Lib.hid (hbox.out.ext E2)
    clear kb HG
    go_upto_region 5 with ((refine wpList_store_A rfl 40 _ _ rfl (n11) _ rfl rfl 40 _ (zero_row w2 n11 hn11) (by rw [List.size_toArray]; exact i43' hpok) (Eq.trans (b := 43) (by rfl) (Eq.symm (show (p).cells.toArray.size = 43 from Pr.size hpok))) (Pr.one hpok) ?_); intro w3 H3 E3; have E23 : Ext w2 w3 := E3 w2.heap.size w2 ((Ext.refl w2).alloc _) (by omega); have P := Lib.hid H3; clear E3 H3)
    have E03 := E02.trans E23
    have hr2 := Lib.hid (hr2.out.ext E23)
    have hres := Lib.hid (hres.out.ext E23)
    have hgr := Lib.hid (hgr.out.ext E23)
    have hty := Lib.hid (hty.out.ext E23)
    have hbox := Lib.hid (hbox.out.ext E23)
    have y0 := hty.out.cell 0
    have p3 := (prAt_blk hpok P.out).c3
    by_cases hs0 : s = 0
    · have hs0b : (s == 0) = true := by simpa using hs0
      clear hs0
      go_wp2
      clear y0 p3 hs0b
      refine wp_region_held_drew (S := fun w' => Mod (fun k => k = w.heap.size + 1 + 1 + 1 ∨ k = w.heap.size + 1 + 1 + 1 + 1) w3 w') (by kernel_rfl) ((Mod.refl _ _).drew) (fun hHeld => ?_)
      (refine wpAnyH_take (i := 0) (v := ?_) rfl (by kernel_rfl) (by kernel_rfl) (by kernel_rfl) (fun _ _ _ h => h) (Or.inl ⟨by rfl, ?_⟩) (by assumption) ?_; rotate_left; (focus (intro w' hSw; have kc := (hbox.out.mod hSw (by omega)).two; go_simp; try with_reducible rfl)); (try simp only [List.getElem_toArray]); (try simp only [List.getElem_cons_succ]); (try simp only [List.getElem_cons_zero]); (try simp only [Act.put]); (try simp only [List.setIfInBounds_toArray]); (try simp only [List.set_cons_succ]); (try simp only [List.set_cons_zero]))
      (refine wpAnyH_take (i := 1) (v := ?_) rfl (by kernel_rfl) (by kernel_rfl) (by kernel_rfl) (fun _ _ _ h => h) (Or.inl ⟨by rfl, ?_⟩) (by assumption) ?_; rotate_left; (focus (intro w' hSw; have y0 := (hty.out.mod hSw (by omega)).cell 0; have y1 := (hty.out.mod hSw (by omega)).cell 1; have y2 := (hty.out.mod hSw (by omega)).cell 2; go_simp; try with_reducible rfl)); (try simp only [List.getElem_toArray]); (try simp only [List.getElem_cons_succ]); (try simp only [List.getElem_cons_zero]); (try simp only [Act.put]); (try simp only [List.setIfInBounds_toArray]); (try simp only [List.set_cons_succ]); (try simp only [List.set_cons_zero]))
      obtain ⟨D, hD⟩ : ∃ D, D = w3.drew := ⟨_, rfl⟩
      have ED : Ext w3 D := by rw [hD]; exact (Ext.refl _).drew
      have hHeld : Mod (fun k => k = w.heap.size + 1 + 1 + 1 ∨ k = w.heap.size + 1 + 1 + 1 + 1) w3 D := by rw [hD]; exact (Mod.refl _ _).drew
      rw [← hD]
      clear hD
      have hS0 := hres.out.ext ED
      have ks := hS0.two
      have M5 : Mod (fun k => k = w.heap.size + 1 + 1 + 1) D _ := ((Mod.refl _ D).set1 (.slice Ad N c) (o := 0)).set1 (.int .i64 nx) (o := 1)
      have N5 := hHeld.trans (M5.mono (T := fun k => k = w.heap.size + 1 + 1 + 1 ∨ k = w.heap.size + 1 + 1 + 1 + 1) fun _ _ h => .inl h)
      (refine wpAnyH_ready (rs := [2]) (by kernel_rfl) (by simp) ?_; refine AllReadyH.cons rfl (fun K hK => ?_) AllReadyH.nil; go_simp; refine hK.out _ _ N5 (fun hHeld => ?_); clear hK K; (try simp only [Act.put]); (try simp only [List.getElem_toArray]); (try simp only [List.getElem_cons_succ]); (try simp only [List.getElem_cons_zero]); (try simp only [List.setIfInBounds_toArray]); (try simp only [List.set_cons_succ]); (try simp only [List.set_cons_zero]))
      have hS1 := hS0.put2 (.slice Ad N c) (.int .i64 nx)
      have hY1 := (hr2.out.ext ED).mod M5 (by omega)
      have r0 := hY1.cell 0
      have r1 := hY1.cell 1
      have r2 := hY1.cell 2
      have f0 := hY1.frozen 0
      have f1 := hY1.frozen 1
      have f2 := hY1.frozen 2
      generalize World.setCell (World.setCell D _ _) _ _ = D1 at *
      have M6 : Mod (fun k => k = w.heap.size + 1 + 1 + 1 + 1) D1 _ := (((Mod.refl _ D1).set1 (.int .i64 s) (o := 0)).set1 (.int .i64 g0) (o := 1)).set1 (.bool ts) (o := 2)
      have M7 := N5.trans (M6.mono (T := fun k => k = w.heap.size + 1 + 1 + 1 ∨ k = w.heap.size + 1 + 1 + 1 + 1) fun _ _ h => .inr h)
      (refine wpAnyH_ready (rs := [3]) (by kernel_rfl) (by simp) ?_; refine AllReadyH.cons rfl (fun K hK => ?_) AllReadyH.nil; go_simp; refine hK.out _ _ M7 (fun hHeld => ?_); clear hK K; (try simp only [Act.put]); (try simp only [List.getElem_toArray]); (try simp only [List.getElem_cons_succ]); (try simp only [List.getElem_cons_zero]); (try simp only [List.setIfInBounds_toArray]); (try simp only [List.set_cons_succ]); (try simp only [List.set_cons_zero]))
      (refine wpAnyH_take (i := 4) (v := ?_) rfl (by kernel_rfl) (by kernel_rfl) (by kernel_rfl) (fun _ _ _ h => h) (Or.inl ⟨by rfl, ?_⟩) (by assumption) ?_; rotate_left; (focus (intro w' hSw; go_simp; try with_reducible rfl)); (try simp only [List.getElem_toArray]); (try simp only [List.getElem_cons_succ]); (try simp only [List.getElem_cons_zero]); (try simp only [Act.put]); (try simp only [List.setIfInBounds_toArray]); (try simp only [List.set_cons_succ]); (try simp only [List.set_cons_zero]))
      refine wpAnyH_done (by kernel_rfl) ?_ _
      have hS2 := Lib.hid (hS1.mod M6 (by omega))
      have hY2 := Lib.hid (show Blk _ _ _ #[.int .i64 s, .int .i64 g0, .bool ts] from ((hY1.set_ 0 (.int .i64 s)).set_ 1 (.int .i64 g0)).set_ 2 (.bool ts))
      have M7 := Lib.hid M7
      clear hY1 hS1 hS0 M6 M5 N5 r0 r1 r2 f0 f1 f2 ks
      generalize World.setCell (World.setCell (World.setCell D1 _ _) _ _) _ _ = Z at *
      obtain ⟨q0, q1, _, _⟩ := hS2.out.two
      have v0 := hY2.out.cell 0
      have v1 := hY2.out.cell 1
      have v2 := hY2.out.cell 2
      go_wp2
      refine bodyPost_ret (v := .tuple #[tv Ad N c nx, .agg #[.int .i64 s, .int .i64 g0, .bool ts], .int .i64 11]) (by simp [results, Try.results21, go_sem, q0, q1, v0, v1, v2]) rfl ?_
      exact ⟨Mod.toExt E03 M7.out (by intro k hk he; omega), .inr ⟨Ad, c, l, 11, rfl, rfl, .inl ⟨rfl, rfl, rfl⟩⟩⟩
    have hs0b : (s == 0) = false := by simpa using hs0
    by_cases hs1 : p.session = s
    · have hs1b : (p.session != s) = false := by simpa using hs1
      have HS1 := Lib.hid hs1
      clear hs1 hs0
      have kb := hbox.out.two
      have hfr := asks_front (group := group) (s := s) (g0 := g0) (ts := ts) hgr.out hty.out
      have HFR := Lib.hid hfr
      have HCN := Lib.hid (contains_any (A := fun _ => False) _ _ _ (frontP group s) _ l w3 (H.out.ext E03) HFR.out)
      clear hfr HFR
      go_wp2_with fail
      refine HCN.out.mono ?_
      rintro e w4 ⟨rfl, E4⟩
      clear y0 p3 hs0b hs1b HCN kb
      have P := Lib.hid (P.out.ext E4)
      have E04 := E03.trans E4
      have hr2 := Lib.hid (hr2.out.ext E4)
      have hres := Lib.hid (hres.out.ext E4)
      have hgr := Lib.hid (hgr.out.ext E4)
      have hty := Lib.hid (hty.out.ext E4)
      have hbox := Lib.hid (hbox.out.ext E4)
      cases hc : l.any (frontP group s)
      · clear hc
        go_wp2
        refine wp_region_held_drew (S := fun w' => Mod (fun k => k = w.heap.size + 1 + 1 + 1 ∨ k = w.heap.size + 1 + 1 + 1 + 1) w4 w') (by kernel_rfl) ((Mod.refl _ _).drew) (fun hHeld => ?_)
        (refine wpAnyH_take (i := 0) (v := ?_) rfl (by kernel_rfl) (by kernel_rfl) (by kernel_rfl) (fun _ _ _ h => h) (Or.inl ⟨by rfl, ?_⟩) (by assumption) ?_; rotate_left; (focus (intro w' hSw; have kc := (hbox.out.mod hSw (by omega)).two; go_simp; try with_reducible rfl)); (try simp only [List.getElem_toArray]); (try simp only [List.getElem_cons_succ]); (try simp only [List.getElem_cons_zero]); (try simp only [Act.put]); (try simp only [List.setIfInBounds_toArray]); (try simp only [List.set_cons_succ]); (try simp only [List.set_cons_zero]))
        (refine wpAnyH_take (i := 1) (v := ?_) rfl (by kernel_rfl) (by kernel_rfl) (by kernel_rfl) (fun _ _ _ h => h) (Or.inl ⟨by rfl, ?_⟩) (by assumption) ?_; rotate_left; (focus (intro w' hSw; have y0 := (hty.out.mod hSw (by omega)).cell 0; have y1 := (hty.out.mod hSw (by omega)).cell 1; have y2 := (hty.out.mod hSw (by omega)).cell 2; go_simp; try with_reducible rfl)); (try simp only [List.getElem_toArray]); (try simp only [List.getElem_cons_succ]); (try simp only [List.getElem_cons_zero]); (try simp only [Act.put]); (try simp only [List.setIfInBounds_toArray]); (try simp only [List.set_cons_succ]); (try simp only [List.set_cons_zero]))
        obtain ⟨D, hD⟩ : ∃ D, D = w4.drew := ⟨_, rfl⟩
        have ED : Ext w4 D := by rw [hD]; exact (Ext.refl _).drew
        have hHeld : Mod (fun k => k = w.heap.size + 1 + 1 + 1 ∨ k = w.heap.size + 1 + 1 + 1 + 1) w4 D := by rw [hD]; exact (Mod.refl _ _).drew
        rw [← hD]
        clear hD
        have hS0 := hres.out.ext ED
        have ks := hS0.two
        have M5 : Mod (fun k => k = w.heap.size + 1 + 1 + 1) D _ := ((Mod.refl _ D).set1 (.slice Ad N c) (o := 0)).set1 (.int .i64 nx) (o := 1)
        have N5 := hHeld.trans (M5.mono (T := fun k => k = w.heap.size + 1 + 1 + 1 ∨ k = w.heap.size + 1 + 1 + 1 + 1) fun _ _ h => .inl h)
        (refine wpAnyH_ready (rs := [2]) (by kernel_rfl) (by simp) ?_; refine AllReadyH.cons rfl (fun K hK => ?_) AllReadyH.nil; go_simp; refine hK.out _ _ N5 (fun hHeld => ?_); clear hK K; (try simp only [Act.put]); (try simp only [List.getElem_toArray]); (try simp only [List.getElem_cons_succ]); (try simp only [List.getElem_cons_zero]); (try simp only [List.setIfInBounds_toArray]); (try simp only [List.set_cons_succ]); (try simp only [List.set_cons_zero]))
        have hS1 := hS0.put2 (.slice Ad N c) (.int .i64 nx)
        have hY1 := (hr2.out.ext ED).mod M5 (by omega)
        have r0 := hY1.cell 0
        have r1 := hY1.cell 1
        have r2 := hY1.cell 2
        have f0 := hY1.frozen 0
        have f1 := hY1.frozen 1
        have f2 := hY1.frozen 2
        generalize World.setCell (World.setCell D _ _) _ _ = D1 at *
        have M6 : Mod (fun k => k = w.heap.size + 1 + 1 + 1 + 1) D1 _ := (((Mod.refl _ D1).set1 (.int .i64 s) (o := 0)).set1 (.int .i64 g0) (o := 1)).set1 (.bool ts) (o := 2)
        have M7 := N5.trans (M6.mono (T := fun k => k = w.heap.size + 1 + 1 + 1 ∨ k = w.heap.size + 1 + 1 + 1 + 1) fun _ _ h => .inr h)
        (refine wpAnyH_ready (rs := [3]) (by kernel_rfl) (by simp) ?_; refine AllReadyH.cons rfl (fun K hK => ?_) AllReadyH.nil; go_simp; refine hK.out _ _ M7 (fun hHeld => ?_); clear hK K; (try simp only [Act.put]); (try simp only [List.getElem_toArray]); (try simp only [List.getElem_cons_succ]); (try simp only [List.getElem_cons_zero]); (try simp only [List.setIfInBounds_toArray]); (try simp only [List.set_cons_succ]); (try simp only [List.set_cons_zero]))
        (refine wpAnyH_take (i := 4) (v := ?_) rfl (by kernel_rfl) (by kernel_rfl) (by kernel_rfl) (fun _ _ _ h => h) (Or.inl ⟨by rfl, ?_⟩) (by assumption) ?_; rotate_left; (focus (intro w' hSw; go_simp; try with_reducible rfl)); (try simp only [List.getElem_toArray]); (try simp only [List.getElem_cons_succ]); (try simp only [List.getElem_cons_zero]); (try simp only [Act.put]); (try simp only [List.setIfInBounds_toArray]); (try simp only [List.set_cons_succ]); (try simp only [List.set_cons_zero]))
        refine wpAnyH_done (by kernel_rfl) ?_ _
        have hS2 := Lib.hid (hS1.mod M6 (by omega))
        have hY2 := Lib.hid (show Blk _ _ _ #[.int .i64 s, .int .i64 g0, .bool ts] from ((hY1.set_ 0 (.int .i64 s)).set_ 1 (.int .i64 g0)).set_ 2 (.bool ts))
        have M7 := Lib.hid M7
        clear hY1 hS1 hS0 M6 M5 N5 r0 r1 r2 f0 f1 f2 ks
        generalize World.setCell (World.setCell (World.setCell D1 _ _) _ _) _ _ = Z at *
        obtain ⟨q0, q1, _, _⟩ := hS2.out.two
        have v0 := hY2.out.cell 0
        have v1 := hY2.out.cell 1
        have v2 := hY2.out.cell 2
        go_wp2
        refine bodyPost_ret (v := .tuple #[tv Ad N c nx, .agg #[.int .i64 s, .int .i64 g0, .bool ts], .int .i64 12]) (by simp [results, Try.results21, go_sem, q0, q1, v0, v1, v2]) rfl ?_
        exact ⟨Mod.toExt E04 M7.out (by intro k hk he; omega), .inr ⟨Ad, c, l, 12, rfl, rfl, .inl ⟨rfl, rfl, rfl⟩⟩⟩
      · clear hc
        have y0 := hty.out.cell 0
        have y1 := hty.out.cell 1
        have y2 := hty.out.cell 2
        have HBH := Lib.hid fun w' => behind_any s g0 ts p w' hpok
        go_wp2_with (refine wpList_load_row rfl 40 _ rfl _ rfl 40 _ _ _ P.out Try.underlying40 rfl (by rw [List.size_toArray]; exact i43' hpok) ?_)
        refine (HBH.out _).mono ?_
        rintro e w5 ⟨rfl, E5⟩
        clear y0 y1 y2 HBH
        have P := Lib.hid (P.out.ext E5)
        have E05 := E04.trans E5
        have hr2 := Lib.hid (hr2.out.ext E5)
        have hres := Lib.hid (hres.out.ext E5)
        have hgr := Lib.hid (hgr.out.ext E5)
        have hty := Lib.hid (hty.out.ext E5)
        have hbox := Lib.hid (hbox.out.ext E5)
        cases hbh : behP s g0 p
        · clear hbh
          have g0c := hgr.out.cell0
          have y1 := hty.out.cell 1
          have f1 := hty.out.frozen 1
          go_upto_region 11 with fail
          have MY : Mod (fun k => k = w.heap.size + 1) w5 (w5.setCell ⟨w.heap.size + 1, 1, none⟩ (.int .i64 group)) := (Mod.refl _ w5).set1 _
          have hty := Lib.hid (show Blk (w5.setCell ⟨w.heap.size + 1, 1, none⟩ (.int .i64 group)) (w.heap.size + 1) 33 #[.int .i64 s, .int .i64 group, .bool ts] from hty.out.set_ 1 (.int .i64 group))
          have hbox := Lib.hid (hbox.out.mod MY (by omega))
          have hres := Lib.hid (hres.out.mod MY (by omega))
          have hr2 := Lib.hid (hr2.out.mod MY (by omega))
          have EY := Mod.toExt E05 MY (by intro k hk he; omega)
          clear MY g0c y1 f1 P
          generalize World.setCell w5 _ _ = wy at *
          refine wp_region_held_drew (S := fun w' => Mod (fun k => k = w.heap.size + 1 + 1 + 1 ∨ k = w.heap.size + 1 + 1 + 1 + 1) wy w') (by kernel_rfl) ((Mod.refl _ _).drew) (fun hHeld => ?_)
          (refine wpAnyH_take (i := 0) (v := ?_) rfl (by kernel_rfl) (by kernel_rfl) (by kernel_rfl) (fun _ _ _ h => h) (Or.inl ⟨by rfl, ?_⟩) (by assumption) ?_; rotate_left; (focus (intro w' hSw; have kc := (hbox.out.mod hSw (by omega)).two; go_simp; try with_reducible rfl)); (try simp only [List.getElem_toArray]); (try simp only [List.getElem_cons_succ]); (try simp only [List.getElem_cons_zero]); (try simp only [Act.put]); (try simp only [List.setIfInBounds_toArray]); (try simp only [List.set_cons_succ]); (try simp only [List.set_cons_zero]))
          (refine wpAnyH_take (i := 1) (v := ?_) rfl (by kernel_rfl) (by kernel_rfl) (by kernel_rfl) (fun _ _ _ h => h) (Or.inl ⟨by rfl, ?_⟩) (by assumption) ?_; rotate_left; (focus (intro w' hSw; have y0 := (hty.out.mod hSw (by omega)).cell 0; have y1 := (hty.out.mod hSw (by omega)).cell 1; have y2 := (hty.out.mod hSw (by omega)).cell 2; go_simp; try with_reducible rfl)); (try simp only [List.getElem_toArray]); (try simp only [List.getElem_cons_succ]); (try simp only [List.getElem_cons_zero]); (try simp only [Act.put]); (try simp only [List.setIfInBounds_toArray]); (try simp only [List.set_cons_succ]); (try simp only [List.set_cons_zero]))
          obtain ⟨D, hD⟩ : ∃ D, D = wy.drew := ⟨_, rfl⟩
          have ED : Ext wy D := by rw [hD]; exact (Ext.refl _).drew
          have hHeld : Mod (fun k => k = w.heap.size + 1 + 1 + 1 ∨ k = w.heap.size + 1 + 1 + 1 + 1) wy D := by rw [hD]; exact (Mod.refl _ _).drew
          rw [← hD]
          clear hD
          have hS0 := hres.out.ext ED
          have ks := hS0.two
          have M5 : Mod (fun k => k = w.heap.size + 1 + 1 + 1) D _ := ((Mod.refl _ D).set1 (.slice Ad N c) (o := 0)).set1 (.int .i64 nx) (o := 1)
          have N5 := hHeld.trans (M5.mono (T := fun k => k = w.heap.size + 1 + 1 + 1 ∨ k = w.heap.size + 1 + 1 + 1 + 1) fun _ _ h => .inl h)
          (refine wpAnyH_ready (rs := [2]) (by kernel_rfl) (by simp) ?_; refine AllReadyH.cons rfl (fun K hK => ?_) AllReadyH.nil; go_simp; refine hK.out _ _ N5 (fun hHeld => ?_); clear hK K; (try simp only [Act.put]); (try simp only [List.getElem_toArray]); (try simp only [List.getElem_cons_succ]); (try simp only [List.getElem_cons_zero]); (try simp only [List.setIfInBounds_toArray]); (try simp only [List.set_cons_succ]); (try simp only [List.set_cons_zero]))
          have hS1 := hS0.put2 (.slice Ad N c) (.int .i64 nx)
          have hY1 := (hr2.out.ext ED).mod M5 (by omega)
          have r0 := hY1.cell 0
          have r1 := hY1.cell 1
          have r2 := hY1.cell 2
          have f0 := hY1.frozen 0
          have f1 := hY1.frozen 1
          have f2 := hY1.frozen 2
          generalize World.setCell (World.setCell D _ _) _ _ = D1 at *
          have M6 : Mod (fun k => k = w.heap.size + 1 + 1 + 1 + 1) D1 _ := (((Mod.refl _ D1).set1 (.int .i64 s) (o := 0)).set1 (.int .i64 group) (o := 1)).set1 (.bool ts) (o := 2)
          have M7 := N5.trans (M6.mono (T := fun k => k = w.heap.size + 1 + 1 + 1 ∨ k = w.heap.size + 1 + 1 + 1 + 1) fun _ _ h => .inr h)
          (refine wpAnyH_ready (rs := [3]) (by kernel_rfl) (by simp) ?_; refine AllReadyH.cons rfl (fun K hK => ?_) AllReadyH.nil; go_simp; refine hK.out _ _ M7 (fun hHeld => ?_); clear hK K; (try simp only [Act.put]); (try simp only [List.getElem_toArray]); (try simp only [List.getElem_cons_succ]); (try simp only [List.getElem_cons_zero]); (try simp only [List.setIfInBounds_toArray]); (try simp only [List.set_cons_succ]); (try simp only [List.set_cons_zero]))
          (refine wpAnyH_take (i := 4) (v := ?_) rfl (by kernel_rfl) (by kernel_rfl) (by kernel_rfl) (fun _ _ _ h => h) (Or.inl ⟨by rfl, ?_⟩) (by assumption) ?_; rotate_left; (focus (intro w' hSw; go_simp; try with_reducible rfl)); (try simp only [List.getElem_toArray]); (try simp only [List.getElem_cons_succ]); (try simp only [List.getElem_cons_zero]); (try simp only [Act.put]); (try simp only [List.setIfInBounds_toArray]); (try simp only [List.set_cons_succ]); (try simp only [List.set_cons_zero]))
          refine wpAnyH_done (by kernel_rfl) ?_ _
          have hS2 := Lib.hid (hS1.mod M6 (by omega))
          have hY2 := Lib.hid (show Blk _ _ _ #[.int .i64 s, .int .i64 group, .bool ts] from ((hY1.set_ 0 (.int .i64 s)).set_ 1 (.int .i64 group)).set_ 2 (.bool ts))
          have M7 := Lib.hid M7
          clear hY1 hS1 hS0 M6 M5 N5 r0 r1 r2 f0 f1 f2 ks
          generalize World.setCell (World.setCell (World.setCell D1 _ _) _ _) _ _ = Z at *
          obtain ⟨q0, q1, _, _⟩ := hS2.out.two
          have v0 := hY2.out.cell 0
          have v1 := hY2.out.cell 1
          have v2 := hY2.out.cell 2
          go_wp2
          refine bodyPost_ret (v := .tuple #[tv Ad N c nx, .agg #[.int .i64 s, .int .i64 group, .bool ts], .int .i64 0]) (by simp [results, Try.results21, go_sem, q0, q1, v0, v1, v2]) rfl ?_
          exact ⟨Mod.toExt EY M7.out (by intro k hk he; omega), .inl ⟨HLV.out, by rw [HGP.out]; exact HS1.out, rfl⟩⟩
        · clear hbh
          have HDF := Lib.hid fun w' => deaf_any p 22 (.inr rfl) w' hpok HPM.out
          go_wp2_with (first | (refine wpList_load_row rfl 40 _ rfl _ rfl 40 _ _ _ P.out Try.underlying40 rfl (by rw [List.size_toArray]; exact i43' hpok) ?_) | (refine wpList_openG rfl rfl ?_; (refine wpList_load_row rfl 40 _ rfl _ rfl 40 _ _ _ P.out Try.underlying40 rfl (by rw [List.size_toArray]; exact i43' hpok) ?_)))
          refine (HDF.out _).mono ?_
          rintro e w6 ⟨rfl, E6⟩
          clear HDF
          have P := Lib.hid (P.out.ext E6)
          have E06 := E05.trans E6
          have hr2 := Lib.hid (hr2.out.ext E6)
          have hres := Lib.hid (hres.out.ext E6)
          have hgr := Lib.hid (hgr.out.ext E6)
          have hty := Lib.hid (hty.out.ext E6)
          have hbox := Lib.hid (hbox.out.ext E6)
          cases hdf : deafP p 22
          · clear hdf
            have p2 := (prAt_blk hpok P.out).c2
            have kb := hbox.out.two
            have HO := Lib.hid (HOR.out p.group w6 (H.out.ext E06))
            go_wp2_with fail
            refine HO.out.mono ?_
            rintro e w7 ⟨rfl, E7⟩
            clear HO p2 kb
            have E07 := E06.trans E7
            have hr2 := Lib.hid (hr2.out.ext E7)
            have hres := Lib.hid (hres.out.ext E7)
            have hgr := Lib.hid (hgr.out.ext E7)
            have hty := Lib.hid (hty.out.ext E7)
            have hbox := Lib.hid (hbox.out.ext E7)
            cases ho : orphL l nx p.group
            · clear ho
              have kb := hbox.out.two
              go_upto_region 15 with fail
              obtain ⟨V, hV⟩ : ∃ V, V = w7.alloc (.cells #[.slice Ad N c, .int .i64 nx] 93) := ⟨_, rfl⟩
              obtain ⟨n, hn⟩ : ∃ n, n = w7.heap.size := ⟨_, rfl⟩
              rw [← hn, ← hV]
              have EV : Ext w7 V := by rw [hV]; exact (by repeat (first | with_reducible exact Ext.refl _ | refine Ext.drewN ?_ _ | refine Ext.drew ?_ | refine Ext.alloc ?_ _ | assumption | (refine Below.trans ?_ (by assumption)) | (refine Ext.trans ?_ (by assumption)) | (refine Below.trans ?_ (Below.mono (by assumption) (by omega)))))
              have hsnd := Lib.hid (show Blk V n 93 #[.slice Ad N c, .int .i64 nx] by rw [hV]; exact Blk.at_ _ _ hn.symm)
              have hlt := hr2.out.lt
              have HNW := Lib.hid (show w.heap.size + 1 + 1 + 1 + 1 < n by rw [hn]; exact hlt)
              have E0V := E07.trans EV
              have hr2 := Lib.hid (hr2.out.ext EV)
              have hres := Lib.hid (hres.out.ext EV)
              have hgr := Lib.hid (hgr.out.ext EV)
              have hty := Lib.hid (hty.out.ext EV)
              have hbox := Lib.hid (hbox.out.ext EV)
              clear hV hn kb hlt P
              go_wp2_with fail
              refine (HFL.out n V (H.out.ext E0V) hsnd.out).mono ?_
              rintro e w8 ⟨rfl, ⟨A2, c2, B2, T2⟩, M2⟩
              rw [HN.out] at B2
              have hsnd := Lib.hid B2
              have hty := Lib.hid (hty.out.mod M2 (by have := HNW.out; omega))
              have hres := Lib.hid (hres.out.mod M2 (by have := HNW.out; omega))
              have hr2 := Lib.hid (hr2.out.mod M2 (by have := HNW.out; omega))
              have E08 : Ext w w8 := Mod.toExt E0V M2 (by intro k hk he; have := HNW.out; omega)
              have T2 := Lib.hid (T2.lower E0V.size)
              clear M2 B2
              go_wp2
              refine wp_region_held_drew (S := fun w' => Mod (fun k => k = w.heap.size + 1 + 1 + 1 ∨ k = w.heap.size + 1 + 1 + 1 + 1) w8 w') (by kernel_rfl) ((Mod.refl _ _).drew) (fun hHeld => ?_)
              (refine wpAnyH_take (i := 0) (v := ?_) rfl (by kernel_rfl) (by kernel_rfl) (by kernel_rfl) (fun _ _ _ h => h) (Or.inl ⟨by rfl, ?_⟩) (by assumption) ?_; rotate_left; (focus (intro w' hSw; go_simp; try with_reducible rfl)); (try simp only [List.getElem_toArray]); (try simp only [List.getElem_cons_succ]); (try simp only [List.getElem_cons_zero]); (try simp only [Act.put]); (try simp only [List.setIfInBounds_toArray]); (try simp only [List.set_cons_succ]); (try simp only [List.set_cons_zero]))
              (refine wpAnyH_take (i := 1) (v := ?_) rfl (by kernel_rfl) (by kernel_rfl) (by kernel_rfl) (fun _ _ _ h => h) (Or.inl ⟨by rfl, ?_⟩) (by assumption) ?_; rotate_left; (focus (intro w' hSw; go_simp; try with_reducible rfl)); (try simp only [List.getElem_toArray]); (try simp only [List.getElem_cons_succ]); (try simp only [List.getElem_cons_zero]); (try simp only [Act.put]); (try simp only [List.setIfInBounds_toArray]); (try simp only [List.set_cons_succ]); (try simp only [List.set_cons_zero]))
              (refine wpAnyH_take (i := 2) (v := ?_) rfl (by kernel_rfl) (by kernel_rfl) (by kernel_rfl) (fun _ _ _ h => h) (Or.inl ⟨by rfl, ?_⟩) (by assumption) ?_; rotate_left; (focus (intro w' hSw; go_simp; try with_reducible rfl)); (try simp only [List.getElem_toArray]); (try simp only [List.getElem_cons_succ]); (try simp only [List.getElem_cons_zero]); (try simp only [Act.put]); (try simp only [List.setIfInBounds_toArray]); (try simp only [List.set_cons_succ]); (try simp only [List.set_cons_zero]))
              (refine wpAnyH_take (i := 3) (v := ?_) rfl (by kernel_rfl) (by kernel_rfl) (by kernel_rfl) (fun _ _ _ h => h) (Or.inl ⟨by rfl, ?_⟩) (by assumption) ?_; rotate_left; (focus (intro w' hSw; have kc := (hsnd.out.mod hSw (by have := HNW.out; omega)).two; go_simp; try with_reducible rfl)); (try simp only [List.getElem_toArray]); (try simp only [List.getElem_cons_succ]); (try simp only [List.getElem_cons_zero]); (try simp only [Act.put]); (try simp only [List.setIfInBounds_toArray]); (try simp only [List.set_cons_succ]); (try simp only [List.set_cons_zero]))
              (refine wpAnyH_take (i := 4) (v := ?_) rfl (by kernel_rfl) (by kernel_rfl) (by kernel_rfl) (fun _ _ _ h => h) (Or.inl ⟨by rfl, ?_⟩) (by assumption) ?_; rotate_left; (focus (intro w' hSw; have y0 := (hty.out.mod hSw (by omega)).cell 0; have y1 := (hty.out.mod hSw (by omega)).cell 1; have y2 := (hty.out.mod hSw (by omega)).cell 2; go_simp; try with_reducible rfl)); (try simp only [List.getElem_toArray]); (try simp only [List.getElem_cons_succ]); (try simp only [List.getElem_cons_zero]); (try simp only [Act.put]); (try simp only [List.setIfInBounds_toArray]); (try simp only [List.set_cons_succ]); (try simp only [List.set_cons_zero]))
              obtain ⟨D, hD⟩ : ∃ D, D = w8.drew := ⟨_, rfl⟩
              have ED : Ext w8 D := by rw [hD]; exact (Ext.refl _).drew
              have hHeld : Mod (fun k => k = w.heap.size + 1 + 1 + 1 ∨ k = w.heap.size + 1 + 1 + 1 + 1) w8 D := by rw [hD]; exact (Mod.refl _ _).drew
              rw [← hD]
              clear hD
              have hS0 := hres.out.ext ED
              have ks := hS0.two
              have M5 : Mod (fun k => k = w.heap.size + 1 + 1 + 1) D _ := ((Mod.refl _ D).set1 (.slice A2 N c2) (o := 0)).set1 (.int .i64 nx) (o := 1)
              have N5 := hHeld.trans (M5.mono (T := fun k => k = w.heap.size + 1 + 1 + 1 ∨ k = w.heap.size + 1 + 1 + 1 + 1) fun _ _ h => .inl h)
              (refine wpAnyH_ready (rs := [5]) (by kernel_rfl) (by simp) ?_; refine AllReadyH.cons rfl (fun K hK => ?_) AllReadyH.nil; go_simp; refine hK.out _ _ N5 (fun hHeld => ?_); clear hK K; (try simp only [Act.put]); (try simp only [List.getElem_toArray]); (try simp only [List.getElem_cons_succ]); (try simp only [List.getElem_cons_zero]); (try simp only [List.setIfInBounds_toArray]); (try simp only [List.set_cons_succ]); (try simp only [List.set_cons_zero]))
              have hS1 := hS0.put2 (.slice A2 N c2) (.int .i64 nx)
              have hY1 := (hr2.out.ext ED).mod M5 (by omega)
              have r0 := hY1.cell 0
              have r1 := hY1.cell 1
              have r2 := hY1.cell 2
              have f0 := hY1.frozen 0
              have f1 := hY1.frozen 1
              have f2 := hY1.frozen 2
              generalize World.setCell (World.setCell D _ _) _ _ = D1 at *
              have M6 : Mod (fun k => k = w.heap.size + 1 + 1 + 1 + 1) D1 _ := (((Mod.refl _ D1).set1 (.int .i64 s) (o := 0)).set1 (.int .i64 g0) (o := 1)).set1 (.bool ts) (o := 2)
              have M7 := N5.trans (M6.mono (T := fun k => k = w.heap.size + 1 + 1 + 1 ∨ k = w.heap.size + 1 + 1 + 1 + 1) fun _ _ h => .inr h)
              (refine wpAnyH_ready (rs := [6]) (by kernel_rfl) (by simp) ?_; refine AllReadyH.cons rfl (fun K hK => ?_) AllReadyH.nil; go_simp; refine hK.out _ _ M7 (fun hHeld => ?_); clear hK K; (try simp only [Act.put]); (try simp only [List.getElem_toArray]); (try simp only [List.getElem_cons_succ]); (try simp only [List.getElem_cons_zero]); (try simp only [List.setIfInBounds_toArray]); (try simp only [List.set_cons_succ]); (try simp only [List.set_cons_zero]))
              (refine wpAnyH_take (i := 7) (v := ?_) rfl (by kernel_rfl) (by kernel_rfl) (by kernel_rfl) (fun _ _ _ h => h) (Or.inl ⟨by rfl, ?_⟩) (by assumption) ?_; rotate_left; (focus (intro w' hSw; go_simp; try with_reducible rfl)); (try simp only [List.getElem_toArray]); (try simp only [List.getElem_cons_succ]); (try simp only [List.getElem_cons_zero]); (try simp only [Act.put]); (try simp only [List.setIfInBounds_toArray]); (try simp only [List.set_cons_succ]); (try simp only [List.set_cons_zero]))
              refine wpAnyH_done (by kernel_rfl) ?_ _
              have hS2 := Lib.hid (hS1.mod M6 (by omega))
              have hY2 := Lib.hid (show Blk _ _ _ #[.int .i64 s, .int .i64 g0, .bool ts] from ((hY1.set_ 0 (.int .i64 s)).set_ 1 (.int .i64 g0)).set_ 2 (.bool ts))
              have M7 := Lib.hid M7
              clear hY1 hS1 hS0 M6 M5 N5 r0 r1 r2 f0 f1 f2 ks
              generalize World.setCell (World.setCell (World.setCell D1 _ _) _ _) _ _ = Z at *
              obtain ⟨q0, q1, _, _⟩ := hS2.out.two
              have v0 := hY2.out.cell 0
              have v1 := hY2.out.cell 1
              have v2 := hY2.out.cell 2
              go_wp2
              refine bodyPost_ret (v := .tuple #[tv A2 N c2 nx, .agg #[.int .i64 s, .int .i64 g0, .bool ts], .int .i64 14]) (by simp [results, Try.results21, go_sem, q0, q1, v0, v1, v2]) rfl ?_
              exact ⟨Mod.toExt E08 M7.out (by intro k hk he; omega), .inr ⟨A2, c2, _, 14, rfl, rfl, T2.out.mods M7.out (fun j hj => hj.elim (fun he => ⟨_, _, he ▸ hres.out, by decide⟩) (fun he => ⟨_, _, he ▸ hr2.out, by decide⟩))⟩⟩
            · clear ho
              go_wp2
              refine wp_region_held_drew (S := fun w' => Mod (fun k => k = w.heap.size + 1 + 1 + 1 ∨ k = w.heap.size + 1 + 1 + 1 + 1) w7 w') (by kernel_rfl) ((Mod.refl _ _).drew) (fun hHeld => ?_)
              (refine wpAnyH_take (i := 0) (v := ?_) rfl (by kernel_rfl) (by kernel_rfl) (by kernel_rfl) (fun _ _ _ h => h) (Or.inl ⟨by rfl, ?_⟩) (by assumption) ?_; rotate_left; (focus (intro w' hSw; have kc := (hbox.out.mod hSw (by omega)).two; go_simp; try with_reducible rfl)); (try simp only [List.getElem_toArray]); (try simp only [List.getElem_cons_succ]); (try simp only [List.getElem_cons_zero]); (try simp only [Act.put]); (try simp only [List.setIfInBounds_toArray]); (try simp only [List.set_cons_succ]); (try simp only [List.set_cons_zero]))
              (refine wpAnyH_take (i := 1) (v := ?_) rfl (by kernel_rfl) (by kernel_rfl) (by kernel_rfl) (fun _ _ _ h => h) (Or.inl ⟨by rfl, ?_⟩) (by assumption) ?_; rotate_left; (focus (intro w' hSw; have y0 := (hty.out.mod hSw (by omega)).cell 0; have y1 := (hty.out.mod hSw (by omega)).cell 1; have y2 := (hty.out.mod hSw (by omega)).cell 2; go_simp; try with_reducible rfl)); (try simp only [List.getElem_toArray]); (try simp only [List.getElem_cons_succ]); (try simp only [List.getElem_cons_zero]); (try simp only [Act.put]); (try simp only [List.setIfInBounds_toArray]); (try simp only [List.set_cons_succ]); (try simp only [List.set_cons_zero]))
              obtain ⟨D, hD⟩ : ∃ D, D = w7.drew := ⟨_, rfl⟩
              have ED : Ext w7 D := by rw [hD]; exact (Ext.refl _).drew
              have hHeld : Mod (fun k => k = w.heap.size + 1 + 1 + 1 ∨ k = w.heap.size + 1 + 1 + 1 + 1) w7 D := by rw [hD]; exact (Mod.refl _ _).drew
              rw [← hD]
              clear hD
              have hS0 := hres.out.ext ED
              have ks := hS0.two
              have M5 : Mod (fun k => k = w.heap.size + 1 + 1 + 1) D _ := ((Mod.refl _ D).set1 (.slice Ad N c) (o := 0)).set1 (.int .i64 nx) (o := 1)
              have N5 := hHeld.trans (M5.mono (T := fun k => k = w.heap.size + 1 + 1 + 1 ∨ k = w.heap.size + 1 + 1 + 1 + 1) fun _ _ h => .inl h)
              (refine wpAnyH_ready (rs := [2]) (by kernel_rfl) (by simp) ?_; refine AllReadyH.cons rfl (fun K hK => ?_) AllReadyH.nil; go_simp; refine hK.out _ _ N5 (fun hHeld => ?_); clear hK K; (try simp only [Act.put]); (try simp only [List.getElem_toArray]); (try simp only [List.getElem_cons_succ]); (try simp only [List.getElem_cons_zero]); (try simp only [List.setIfInBounds_toArray]); (try simp only [List.set_cons_succ]); (try simp only [List.set_cons_zero]))
              have hS1 := hS0.put2 (.slice Ad N c) (.int .i64 nx)
              have hY1 := (hr2.out.ext ED).mod M5 (by omega)
              have r0 := hY1.cell 0
              have r1 := hY1.cell 1
              have r2 := hY1.cell 2
              have f0 := hY1.frozen 0
              have f1 := hY1.frozen 1
              have f2 := hY1.frozen 2
              generalize World.setCell (World.setCell D _ _) _ _ = D1 at *
              have M6 : Mod (fun k => k = w.heap.size + 1 + 1 + 1 + 1) D1 _ := (((Mod.refl _ D1).set1 (.int .i64 s) (o := 0)).set1 (.int .i64 g0) (o := 1)).set1 (.bool ts) (o := 2)
              have M7 := N5.trans (M6.mono (T := fun k => k = w.heap.size + 1 + 1 + 1 ∨ k = w.heap.size + 1 + 1 + 1 + 1) fun _ _ h => .inr h)
              (refine wpAnyH_ready (rs := [3]) (by kernel_rfl) (by simp) ?_; refine AllReadyH.cons rfl (fun K hK => ?_) AllReadyH.nil; go_simp; refine hK.out _ _ M7 (fun hHeld => ?_); clear hK K; (try simp only [Act.put]); (try simp only [List.getElem_toArray]); (try simp only [List.getElem_cons_succ]); (try simp only [List.getElem_cons_zero]); (try simp only [List.setIfInBounds_toArray]); (try simp only [List.set_cons_succ]); (try simp only [List.set_cons_zero]))
              (refine wpAnyH_take (i := 4) (v := ?_) rfl (by kernel_rfl) (by kernel_rfl) (by kernel_rfl) (fun _ _ _ h => h) (Or.inl ⟨by rfl, ?_⟩) (by assumption) ?_; rotate_left; (focus (intro w' hSw; go_simp; try with_reducible rfl)); (try simp only [List.getElem_toArray]); (try simp only [List.getElem_cons_succ]); (try simp only [List.getElem_cons_zero]); (try simp only [Act.put]); (try simp only [List.setIfInBounds_toArray]); (try simp only [List.set_cons_succ]); (try simp only [List.set_cons_zero]))
              refine wpAnyH_done (by kernel_rfl) ?_ _
              have hS2 := Lib.hid (hS1.mod M6 (by omega))
              have hY2 := Lib.hid (show Blk _ _ _ #[.int .i64 s, .int .i64 g0, .bool ts] from ((hY1.set_ 0 (.int .i64 s)).set_ 1 (.int .i64 g0)).set_ 2 (.bool ts))
              have M7 := Lib.hid M7
              clear hY1 hS1 hS0 M6 M5 N5 r0 r1 r2 f0 f1 f2 ks
              generalize World.setCell (World.setCell (World.setCell D1 _ _) _ _) _ _ = Z at *
              obtain ⟨q0, q1, _, _⟩ := hS2.out.two
              have v0 := hY2.out.cell 0
              have v1 := hY2.out.cell 1
              have v2 := hY2.out.cell 2
              go_wp2
              refine bodyPost_ret (v := .tuple #[tv Ad N c nx, .agg #[.int .i64 s, .int .i64 g0, .bool ts], .int .i64 11]) (by simp [results, Try.results21, go_sem, q0, q1, v0, v1, v2]) rfl ?_
              exact ⟨Mod.toExt E07 M7.out (by intro k hk he; omega), .inr ⟨Ad, c, l, 11, rfl, rfl, .inl ⟨rfl, rfl, rfl⟩⟩⟩
          · clear hdf
            have g0c := hgr.out.cell0
            have y1 := hty.out.cell 1
            have f1 := hty.out.frozen 1
            go_upto_region 11 with fail
            have MY : Mod (fun k => k = w.heap.size + 1) w6 (w6.setCell ⟨w.heap.size + 1, 1, none⟩ (.int .i64 group)) := (Mod.refl _ w6).set1 _
            have hty := Lib.hid (show Blk (w6.setCell ⟨w.heap.size + 1, 1, none⟩ (.int .i64 group)) (w.heap.size + 1) 33 #[.int .i64 s, .int .i64 group, .bool ts] from hty.out.set_ 1 (.int .i64 group))
            have hbox := Lib.hid (hbox.out.mod MY (by omega))
            have hres := Lib.hid (hres.out.mod MY (by omega))
            have hr2 := Lib.hid (hr2.out.mod MY (by omega))
            have EY := Mod.toExt E06 MY (by intro k hk he; omega)
            clear MY g0c y1 f1 P
            generalize World.setCell w6 _ _ = wy at *
            refine wp_region_held_drew (S := fun w' => Mod (fun k => k = w.heap.size + 1 + 1 + 1 ∨ k = w.heap.size + 1 + 1 + 1 + 1) wy w') (by kernel_rfl) ((Mod.refl _ _).drew) (fun hHeld => ?_)
            (refine wpAnyH_take (i := 0) (v := ?_) rfl (by kernel_rfl) (by kernel_rfl) (by kernel_rfl) (fun _ _ _ h => h) (Or.inl ⟨by rfl, ?_⟩) (by assumption) ?_; rotate_left; (focus (intro w' hSw; have kc := (hbox.out.mod hSw (by omega)).two; go_simp; try with_reducible rfl)); (try simp only [List.getElem_toArray]); (try simp only [List.getElem_cons_succ]); (try simp only [List.getElem_cons_zero]); (try simp only [Act.put]); (try simp only [List.setIfInBounds_toArray]); (try simp only [List.set_cons_succ]); (try simp only [List.set_cons_zero]))
            (refine wpAnyH_take (i := 1) (v := ?_) rfl (by kernel_rfl) (by kernel_rfl) (by kernel_rfl) (fun _ _ _ h => h) (Or.inl ⟨by rfl, ?_⟩) (by assumption) ?_; rotate_left; (focus (intro w' hSw; have y0 := (hty.out.mod hSw (by omega)).cell 0; have y1 := (hty.out.mod hSw (by omega)).cell 1; have y2 := (hty.out.mod hSw (by omega)).cell 2; go_simp; try with_reducible rfl)); (try simp only [List.getElem_toArray]); (try simp only [List.getElem_cons_succ]); (try simp only [List.getElem_cons_zero]); (try simp only [Act.put]); (try simp only [List.setIfInBounds_toArray]); (try simp only [List.set_cons_succ]); (try simp only [List.set_cons_zero]))
            obtain ⟨D, hD⟩ : ∃ D, D = wy.drew := ⟨_, rfl⟩
            have ED : Ext wy D := by rw [hD]; exact (Ext.refl _).drew
            have hHeld : Mod (fun k => k = w.heap.size + 1 + 1 + 1 ∨ k = w.heap.size + 1 + 1 + 1 + 1) wy D := by rw [hD]; exact (Mod.refl _ _).drew
            rw [← hD]
            clear hD
            have hS0 := hres.out.ext ED
            have ks := hS0.two
            have M5 : Mod (fun k => k = w.heap.size + 1 + 1 + 1) D _ := ((Mod.refl _ D).set1 (.slice Ad N c) (o := 0)).set1 (.int .i64 nx) (o := 1)
            have N5 := hHeld.trans (M5.mono (T := fun k => k = w.heap.size + 1 + 1 + 1 ∨ k = w.heap.size + 1 + 1 + 1 + 1) fun _ _ h => .inl h)
            (refine wpAnyH_ready (rs := [2]) (by kernel_rfl) (by simp) ?_; refine AllReadyH.cons rfl (fun K hK => ?_) AllReadyH.nil; go_simp; refine hK.out _ _ N5 (fun hHeld => ?_); clear hK K; (try simp only [Act.put]); (try simp only [List.getElem_toArray]); (try simp only [List.getElem_cons_succ]); (try simp only [List.getElem_cons_zero]); (try simp only [List.setIfInBounds_toArray]); (try simp only [List.set_cons_succ]); (try simp only [List.set_cons_zero]))
            have hS1 := hS0.put2 (.slice Ad N c) (.int .i64 nx)
            have hY1 := (hr2.out.ext ED).mod M5 (by omega)
            have r0 := hY1.cell 0
            have r1 := hY1.cell 1
            have r2 := hY1.cell 2
            have f0 := hY1.frozen 0
            have f1 := hY1.frozen 1
            have f2 := hY1.frozen 2
            generalize World.setCell (World.setCell D _ _) _ _ = D1 at *
            have M6 : Mod (fun k => k = w.heap.size + 1 + 1 + 1 + 1) D1 _ := (((Mod.refl _ D1).set1 (.int .i64 s) (o := 0)).set1 (.int .i64 group) (o := 1)).set1 (.bool ts) (o := 2)
            have M7 := N5.trans (M6.mono (T := fun k => k = w.heap.size + 1 + 1 + 1 ∨ k = w.heap.size + 1 + 1 + 1 + 1) fun _ _ h => .inr h)
            (refine wpAnyH_ready (rs := [3]) (by kernel_rfl) (by simp) ?_; refine AllReadyH.cons rfl (fun K hK => ?_) AllReadyH.nil; go_simp; refine hK.out _ _ M7 (fun hHeld => ?_); clear hK K; (try simp only [Act.put]); (try simp only [List.getElem_toArray]); (try simp only [List.getElem_cons_succ]); (try simp only [List.getElem_cons_zero]); (try simp only [List.setIfInBounds_toArray]); (try simp only [List.set_cons_succ]); (try simp only [List.set_cons_zero]))
            (refine wpAnyH_take (i := 4) (v := ?_) rfl (by kernel_rfl) (by kernel_rfl) (by kernel_rfl) (fun _ _ _ h => h) (Or.inl ⟨by rfl, ?_⟩) (by assumption) ?_; rotate_left; (focus (intro w' hSw; go_simp; try with_reducible rfl)); (try simp only [List.getElem_toArray]); (try simp only [List.getElem_cons_succ]); (try simp only [List.getElem_cons_zero]); (try simp only [Act.put]); (try simp only [List.setIfInBounds_toArray]); (try simp only [List.set_cons_succ]); (try simp only [List.set_cons_zero]))
            refine wpAnyH_done (by kernel_rfl) ?_ _
            have hS2 := Lib.hid (hS1.mod M6 (by omega))
            have hY2 := Lib.hid (show Blk _ _ _ #[.int .i64 s, .int .i64 group, .bool ts] from ((hY1.set_ 0 (.int .i64 s)).set_ 1 (.int .i64 group)).set_ 2 (.bool ts))
            have M7 := Lib.hid M7
            clear hY1 hS1 hS0 M6 M5 N5 r0 r1 r2 f0 f1 f2 ks
            generalize World.setCell (World.setCell (World.setCell D1 _ _) _ _) _ _ = Z at *
            obtain ⟨q0, q1, _, _⟩ := hS2.out.two
            have v0 := hY2.out.cell 0
            have v1 := hY2.out.cell 1
            have v2 := hY2.out.cell 2
            go_wp2
            refine bodyPost_ret (v := .tuple #[tv Ad N c nx, .agg #[.int .i64 s, .int .i64 group, .bool ts], .int .i64 0]) (by simp [results, Try.results21, go_sem, q0, q1, v0, v1, v2]) rfl ?_
            exact ⟨Mod.toExt EY M7.out (by intro k hk he; omega), .inl ⟨HLV.out, by rw [HGP.out]; exact HS1.out, rfl⟩⟩
    · have hs1b : (p.session != s) = true := by simpa using hs1
      clear hs0 hs1
      go_wp2
      clear y0 p3 hs0b hs1b
      refine wp_region_held_drew (S := fun w' => Mod (fun k => k = w.heap.size + 1 + 1 + 1 ∨ k = w.heap.size + 1 + 1 + 1 + 1) w3 w') (by kernel_rfl) ((Mod.refl _ _).drew) (fun hHeld => ?_)
      (refine wpAnyH_take (i := 0) (v := ?_) rfl (by kernel_rfl) (by kernel_rfl) (by kernel_rfl) (fun _ _ _ h => h) (Or.inl ⟨by rfl, ?_⟩) (by assumption) ?_; rotate_left; (focus (intro w' hSw; have kc := (hbox.out.mod hSw (by omega)).two; go_simp; try with_reducible rfl)); (try simp only [List.getElem_toArray]); (try simp only [List.getElem_cons_succ]); (try simp only [List.getElem_cons_zero]); (try simp only [Act.put]); (try simp only [List.setIfInBounds_toArray]); (try simp only [List.set_cons_succ]); (try simp only [List.set_cons_zero]))
      (refine wpAnyH_take (i := 1) (v := ?_) rfl (by kernel_rfl) (by kernel_rfl) (by kernel_rfl) (fun _ _ _ h => h) (Or.inl ⟨by rfl, ?_⟩) (by assumption) ?_; rotate_left; (focus (intro w' hSw; have y0 := (hty.out.mod hSw (by omega)).cell 0; have y1 := (hty.out.mod hSw (by omega)).cell 1; have y2 := (hty.out.mod hSw (by omega)).cell 2; go_simp; try with_reducible rfl)); (try simp only [List.getElem_toArray]); (try simp only [List.getElem_cons_succ]); (try simp only [List.getElem_cons_zero]); (try simp only [Act.put]); (try simp only [List.setIfInBounds_toArray]); (try simp only [List.set_cons_succ]); (try simp only [List.set_cons_zero]))
      obtain ⟨D, hD⟩ : ∃ D, D = w3.drew := ⟨_, rfl⟩
      have ED : Ext w3 D := by rw [hD]; exact (Ext.refl _).drew
      have hHeld : Mod (fun k => k = w.heap.size + 1 + 1 + 1 ∨ k = w.heap.size + 1 + 1 + 1 + 1) w3 D := by rw [hD]; exact (Mod.refl _ _).drew
      rw [← hD]
      clear hD
      have hS0 := hres.out.ext ED
      have ks := hS0.two
      have M5 : Mod (fun k => k = w.heap.size + 1 + 1 + 1) D _ := ((Mod.refl _ D).set1 (.slice Ad N c) (o := 0)).set1 (.int .i64 nx) (o := 1)
      have N5 := hHeld.trans (M5.mono (T := fun k => k = w.heap.size + 1 + 1 + 1 ∨ k = w.heap.size + 1 + 1 + 1 + 1) fun _ _ h => .inl h)
      (refine wpAnyH_ready (rs := [2]) (by kernel_rfl) (by simp) ?_; refine AllReadyH.cons rfl (fun K hK => ?_) AllReadyH.nil; go_simp; refine hK.out _ _ N5 (fun hHeld => ?_); clear hK K; (try simp only [Act.put]); (try simp only [List.getElem_toArray]); (try simp only [List.getElem_cons_succ]); (try simp only [List.getElem_cons_zero]); (try simp only [List.setIfInBounds_toArray]); (try simp only [List.set_cons_succ]); (try simp only [List.set_cons_zero]))
      have hS1 := hS0.put2 (.slice Ad N c) (.int .i64 nx)
      have hY1 := (hr2.out.ext ED).mod M5 (by omega)
      have r0 := hY1.cell 0
      have r1 := hY1.cell 1
      have r2 := hY1.cell 2
      have f0 := hY1.frozen 0
      have f1 := hY1.frozen 1
      have f2 := hY1.frozen 2
      generalize World.setCell (World.setCell D _ _) _ _ = D1 at *
      have M6 : Mod (fun k => k = w.heap.size + 1 + 1 + 1 + 1) D1 _ := (((Mod.refl _ D1).set1 (.int .i64 s) (o := 0)).set1 (.int .i64 g0) (o := 1)).set1 (.bool ts) (o := 2)
      have M7 := N5.trans (M6.mono (T := fun k => k = w.heap.size + 1 + 1 + 1 ∨ k = w.heap.size + 1 + 1 + 1 + 1) fun _ _ h => .inr h)
      (refine wpAnyH_ready (rs := [3]) (by kernel_rfl) (by simp) ?_; refine AllReadyH.cons rfl (fun K hK => ?_) AllReadyH.nil; go_simp; refine hK.out _ _ M7 (fun hHeld => ?_); clear hK K; (try simp only [Act.put]); (try simp only [List.getElem_toArray]); (try simp only [List.getElem_cons_succ]); (try simp only [List.getElem_cons_zero]); (try simp only [List.setIfInBounds_toArray]); (try simp only [List.set_cons_succ]); (try simp only [List.set_cons_zero]))
      (refine wpAnyH_take (i := 4) (v := ?_) rfl (by kernel_rfl) (by kernel_rfl) (by kernel_rfl) (fun _ _ _ h => h) (Or.inl ⟨by rfl, ?_⟩) (by assumption) ?_; rotate_left; (focus (intro w' hSw; go_simp; try with_reducible rfl)); (try simp only [List.getElem_toArray]); (try simp only [List.getElem_cons_succ]); (try simp only [List.getElem_cons_zero]); (try simp only [Act.put]); (try simp only [List.setIfInBounds_toArray]); (try simp only [List.set_cons_succ]); (try simp only [List.set_cons_zero]))
      refine wpAnyH_done (by kernel_rfl) ?_ _
      have hS2 := Lib.hid (hS1.mod M6 (by omega))
      have hY2 := Lib.hid (show Blk _ _ _ #[.int .i64 s, .int .i64 g0, .bool ts] from ((hY1.set_ 0 (.int .i64 s)).set_ 1 (.int .i64 g0)).set_ 2 (.bool ts))
      have M7 := Lib.hid M7
      clear hY1 hS1 hS0 M6 M5 N5 r0 r1 r2 f0 f1 f2 ks
      generalize World.setCell (World.setCell (World.setCell D1 _ _) _ _) _ _ = Z at *
      obtain ⟨q0, q1, _, _⟩ := hS2.out.two
      have v0 := hY2.out.cell 0
      have v1 := hY2.out.cell 1
      have v2 := hY2.out.cell 2
      go_wp2
      refine bodyPost_ret (v := .tuple #[tv Ad N c nx, .agg #[.int .i64 s, .int .i64 g0, .bool ts], .int .i64 11]) (by simp [results, Try.results21, go_sem, q0, q1, v0, v1, v2]) rfl ?_
      exact ⟨Mod.toExt E03 M7.out (by intro k hk he; omega), .inr ⟨Ad, c, l, 11, rfl, rfl, .inl ⟨rfl, rfl, rfl⟩⟩⟩
end Go.Proofs.Ytcncacllaonplaa
