/- Written by chain.py of V20 EA20[find_none,find_some] Y20 Z20 AA20 BA20 CA20 NB20[askL_two,groupP] TA20[rise_mem,rise_find,right_rise,right_get,changeL_nil,changeL_cons,rise_change,right_change,find_change,get_change] Q20[idxL_any,contains_any] BB20[live_get] WA20. No condition. -/
import Derived.Test.YteljobleojhgmaaGreatC21
import Derived.Deep.DeepCutAuto
import Derived.Deep.CutBlock
namespace Go.Proofs.YteljobleojhgmaaGreat
open Go.RowKit Go.Kb

theorem mid_take (cur L : List Value) (a b N : Nat) (hL : L.length = b) (h : a + b ≤ N) (hN : N ≤ cur.length) : ((cur.take a ++ L) ++ cur.drop (a + b)).take N = (cur.take N).take a ++ (L ++ (cur.take N).drop (a + b)) := by
  have h1 : (cur.take a).length = a := by simp; omega
  rw [List.take_append, List.take_append, List.length_append, h1, hL, List.take_take, List.take_take, List.drop_take, Nat.min_eq_right (by omega : a ≤ N), Nat.min_eq_left (by omega : a ≤ N), List.take_of_length_le (l := L) (by omega), List.append_assoc]
theorem own_row {base G n c j : Nat} {w : World} {l : List Pr} {p' : Pr} (h : OwnS Rp 42 base (fun _ => False) w (.slice (some ⟨G, 0, none⟩) n c) l) (hj : j < n) (hk : p'.ok) :
    OwnS Rp 42 base (fun _ => False) (w.setCells G (j * 43) p'.cells) (.slice (some ⟨G, 0, none⟩) n c) (l.set j p') := by
  obtain ⟨us, ho, he⟩ := h
  have hln := own_len ho
  obtain ⟨hul, ⟨hv, _⟩ | ⟨g', cap, cur, hv, hb0, hb, hcap, hmax, hcs, htk⟩⟩ := ho
  · cases hv
  cases hv
  clear hln
  have hul : us.length = l.length * 43 := hul
  have hcs : cur.size = c * 43 := hcs
  have htk : List.take (l.length * 43) cur.toList = us := htk
  have hb : Blk w G 42 cur := hb
  have hpl := Pr.len hk
  have hB := Blk.setCells p'.cells (j * 43) w cur hb (by rw [hpl, hcs]; omega)
  have htl : (cur.toList.take (j * 43)).length = j * 43 := by simp; omega
  have hset : l.set j p' = l.take j ++ ([p'] ++ l.drop (j + 1)) := by rw [List.set_eq_take_append_cons_drop, if_pos hj]; rfl
  refine ⟨us.take (j * 43) ++ (p'.cells ++ us.drop ((j + 1) * 43)), ⟨?_, .inr ⟨G, c, _, by rw [List.length_set], hb0, hB, by rw [List.length_set]; exact hcap, hmax, ?_, ?_⟩⟩, ?_⟩
  · rw [List.length_set, List.length_append, List.length_append, List.length_take, List.length_drop, hpl, hul]
    show _ = l.length * 43
    omega
  · rw [List.size_toArray, List.length_append, List.length_append, htl, hpl, List.length_drop, Array.length_toList, hcs]
    show _ = c * 43
    omega
  · rw [List.length_set]
    show ((cur.toList.take (j * 43) ++ p'.cells) ++ cur.toList.drop (j * 43 + p'.cells.length)).take (l.length * 43) = _
    rw [← htk, hpl, mid_take cur.toList p'.cells (j * 43) 43 (l.length * 43) hpl (by omega) (by have : cur.toList.length = cur.size := rfl; omega), Nat.add_mul, Nat.one_mul]
  · rw [hset]
    have e1 := he.take j (by omega)
    have e2 := he.drop (j + 1)
    exact RdE.keep (RdE.append e1 (RdE.append (RdE.single (rp_rel _ w hk)) e2)) fun k _ hk => hk.1.elim
end Go.Proofs.YteljobleojhgmaaGreat
namespace Go.Proofs.YteljobleojhgmaaGreat
open Go.RowKit Go.Kb

theorem find_none {f : Pr → Bool} {l : List Pr} (h : idxL f l = -1) : l.find? f = none := by
  rcases idx_any (f := f) (l := l) with ⟨_, h2⟩ | ⟨j, p, h1, _⟩
  · rw [List.find?_eq_none]; rw [List.any_eq_false] at h2; exact h2
  · omega
theorem find_some {f : Pr → Bool} {l : List Pr} {j : Nat} {p : Pr} (h : idxL f l = j) (hp : l[j]? = some p) : l.find? f = some p := by
  rcases idx_any (f := f) (l := l) with ⟨h1, _⟩ | ⟨j', p', h1, h2, _, _, h5⟩
  · omega
  · obtain rfl : j' = j := by omega
    rw [hp] at h2; cases h2; exact h5
end Go.Proofs.YteljobleojhgmaaGreat
namespace Go.Proofs.YteljobleojhgmaaGreat
open Go.RowKit Go.Kb

theorem enters_set1 (args : Array Value) (w : World) : (callFunc 73 args).run Tryz.prog w = .ok (.enter 73 args) w := by kernel_rfl
set_option maxRecDepth 100000 in
set_option maxHeartbeats 800000 in
theorem turns_set {m : Nat} {q : Pr} (w : World) (hq : q.ok) (h : Blk w m 42 q.cells.toArray) : Turns 73 #[] #[.pointer (some ⟨m, 0, none⟩)] (fun _ => q) w := by
  refine ⟨enters_set1, fun G base n c j l p w0 hE hb O hp => ?_⟩
  obtain ⟨hok, hG, hlt, hat, hfr, hc⟩ := own_at O hp
  have hB := Lib.hid (h.ext hE)
  have hj : j < n := by
    obtain ⟨_, _, hv, _⟩ := O.shape
    simp only [Value.slice.injEq] at hv
    have := (List.getElem?_eq_some_iff.1 hp).1
    omega
  have hth : w0.there G (j * 43) 43 := fun t ht => ⟨by rw [hc t _ (List.getElem?_eq_getElem (by rw [Pr.len hok]; exact ht))]; rfl, hfr _⟩
  have O2 := Lib.hid (own_row O hj hq)
  have M2 := Lib.hid (Mod.setCells q.cells (j * 43) w0 w0 (Mod.refl (fun k => k = G) w0))
  have hq3 := Pr.len hq
  clear O hp hat hok hc
  show Calls Tryz.prog _ #[.pointer (some ⟨G, j * 43, none⟩), .pointer (some ⟨m, 0, none⟩)] w0 _
  go_enter Tryz.func73, Tryz.ntmps73
  go_wp2_with (first
    | (refine wpList_load_row rfl 42 _ rfl _ rfl 42 _ _ _ hB.out Tryz.underlying42 rfl (by rw [List.size_toArray]; exact i43' hq) ?_)
    | (refine wpList_store_mid rfl 42 _ _ rfl G (j * 43) q.cells.toArray rfl rfl (by rw [List.size_toArray, hq3]; exact hth) (by rw [List.size_toArray]; exact i43' hq) (Pr.one hq) ?_))
  go_end0
  exact ⟨rfl, O2.out, M2.out⟩
end Go.Proofs.YteljobleojhgmaaGreat
namespace Go.Proofs.YteljobleojhgmaaGreat
open Go.RowKit Go.Kb

def fellowP (group session : Int) (p : Pr) : Bool := p.group == group && p.session == session
theorem enters_group1 (args : Array Value) (w : World) : (callFunc 33 args).run Tryz.prog w = .ok (.enter 33 args) w := by kernel_rfl
set_option maxHeartbeats 800000 in
theorem group1_any (group : Int) (n n2 : Nat) (q p : Pr) (w : World) (hp : p.ok) (hq : q.ok) (h : Blk w n 3 #[.int .i64 group]) (h2 : Blk w n2 42 q.cells.toArray) :
    Calls Tryz.prog 33 #[.agg p.cells.toArray, .pointer (some ⟨n, 0, none⟩), .pointer (some ⟨n2, 0, none⟩)] w fun e w' => e = .returned (.bool (fellowP group q.session p)) ∧ Ext w w' := by
  have c2 := (pr_new w 42 hp).c2
  have c3 := (pr_new w 42 hp).c3
  have d0 := (h.alloc (.cells p.cells.toArray 42)).cell0
  have d3 := (prAt_blk hq (h2.alloc (.cells p.cells.toArray 42))).c3
  unfold fellowP
  generalize p.cells.toArray = cs at c2 c3 d0 d3 ⊢
  clear hp hq h h2
  cases hg : (p.group == group)
  · go_enter Tryz.func33, Tryz.ntmps33
    go_wp2
    go_ret
    exact ⟨by simp, (by repeat (first | with_reducible exact Ext.refl _ | refine Ext.drewN ?_ _ | refine Ext.drew ?_ | refine Ext.alloc ?_ _ | assumption | (refine Below.trans ?_ (by assumption)) | (refine Ext.trans ?_ (by assumption)) | (refine Below.trans ?_ (Below.mono (by assumption) (by omega)))))⟩
  · go_enter Tryz.func33, Tryz.ntmps33
    go_wp2
    go_ret
    exact ⟨by simp, (by repeat (first | with_reducible exact Ext.refl _ | refine Ext.drewN ?_ _ | refine Ext.drew ?_ | refine Ext.alloc ?_ _ | assumption | (refine Below.trans ?_ (by assumption)) | (refine Ext.trans ?_ (by assumption)) | (refine Below.trans ?_ (Below.mono (by assumption) (by omega)))))⟩
theorem asks_fellow {group : Int} {n n2 : Nat} {q : Pr} {w : World} (hq : q.ok) (h : Blk w n 3 #[.int .i64 group]) (h2 : Blk w n2 42 q.cells.toArray) : Asks 33 #[] #[.pointer (some ⟨n, 0, none⟩), .pointer (some ⟨n2, 0, none⟩)] (fellowP group q.session) w :=
  ⟨enters_group1, fun p w' hp hE => group1_any group n n2 q p w' hp hq (h.ext hE) (h2.ext hE)⟩
end Go.Proofs.YteljobleojhgmaaGreat
namespace Go.Proofs.YteljobleojhgmaaGreat
open Go.RowKit Go.Kb

def SetPost (l : List Pr) (nx : Int) (q : Pr) (w : World) (e : Ending) (w' : World) : Prop :=
  Ext w w' ∧ ((rightL l nx = false ∧ e = .returned (tv none 0 0 0)) ∨ (rightL l nx = true ∧ ∃ A' c', e = .returned (tv A' l.length c' nx) ∧ OwnS Rp 42 w.heap.size (fun _ => False) w' (.slice A' l.length c') (changeL (fun _ => q) q.pid l)))
set_option maxRecDepth 100000 in
set_option maxHeartbeats 800000 in
theorem set_any {A : Nat → Prop} (Ad : Option Addr) (c : Nat) (l : List Pr) (nx : Int) (q : Pr) (w : World) (h : RdY Rp A w (.slice Ad l.length c) l) (hq : q.ok) :
    Calls Tryz.prog 43 #[tv Ad l.length c nx, .agg q.cells.toArray] w (SetPost l nx q w) := by
  have H := Lib.hid (rdy_pr (B := fun _ => False) h)
  obtain ⟨W, hW⟩ : ∃ W, W = ((w.alloc (.cells #[.slice Ad l.length c, .int .i64 nx] 29)).alloc (.cells q.cells.toArray 42)).alloc (.cells #[.slice none 0 0, .int .i64 0] 29) := ⟨_, rfl⟩
  have hres := Lib.hid (show Blk W (w.heap.size + 1 + 1) 29 #[.slice none 0 0, .int .i64 0] by rw [hW]; exact Blk.at_ _ _ (by simp))
  have hp := Lib.hid (show Blk W (w.heap.size + 1) 42 q.cells.toArray by rw [hW]; exact (Blk.at_ _ _ (by simp)).alloc _)
  have hbox := Lib.hid (show Blk W w.heap.size 29 #[.slice Ad l.length c, .int .i64 nx] by rw [hW]; exact ((Blk.new w _ _).alloc _).alloc _)
  have E0 : Ext w W := by rw [hW]; exact (by repeat (first | with_reducible exact Ext.refl _ | refine Ext.drewN ?_ _ | refine Ext.drew ?_ | refine Ext.alloc ?_ _ | assumption | (refine Below.trans ?_ (by assumption)) | (refine Ext.trans ?_ (by assumption)) | (refine Below.trans ?_ (Below.mono (by assumption) (by omega)))))
  have hsz := Lib.hid (show W.heap.size = w.heap.size + 3 by rw [hW]; simp)
  have HW := Lib.hid hW
  clear h hW
  go_enter Tryz.func43, Tryz.ntmps43
  go_wp2_with fail
  rw [← HW.out]
  refine (right_any Ad c l nx _ (H.out.ext E0)).mono ?_
  rintro e w1 ⟨rfl, E1⟩
  have E01 : Ext w w1 := E0.trans E1
  have kb := (hbox.out.ext E1).two
  have ks := (hres.out.ext E1).two
  have kp := (prAt_blk hq (hp.out.ext E1)).c0
  cases hr : rightL l nx
  · have HR := Lib.hid hr
    clear hr
    have hM7 : Mod (fun k => k = w.heap.size + 1 + 1) w1 _ := ((Mod.refl _ w1).set1 (.slice none 0 0) (o := 0)).set1 (.int .i64 0) (o := 1)
    obtain ⟨q0, q1, _, _⟩ := ((hres.out.ext E1).put2 (.slice none 0 0) (.int .i64 0)).two
    go_wp2
    refine bodyPost_ret (v := tv none 0 0 0) (by simp [results, Tryz.results43, go_sem, q0, q1]) rfl ?_
    exact ⟨Mod.toExt E01 hM7 (by intro k hk he; omega), .inl ⟨HR.out, rfl⟩⟩
  · have HR := Lib.hid hr
    have hl := (right_len hr).1
    clear hr
    go_wp2_with fail
    refine (change_any Ad c l nx q.pid w1 (H.out.ext E01) (by omega) (turns_set w1 hq (hp.out.ext E1))).mono ?_
    rintro e w2 ⟨A2, c2, rfl, O2, E2⟩
    have S2 := hres.out.ext (E1.trans E2)
    have ks := S2.two
    have hz := hsz.out
    have hz1 := E1.size
    have hr2 := Lib.hid O2.row
    have hM7 : Mod (fun k => k = w.heap.size + 1 + 1) w2 _ := ((Mod.refl _ w2).set1 (.slice A2 l.length c2) (o := 0)).set1 (.int .i64 nx) (o := 1)
    obtain ⟨q0, q1, _, _⟩ := (S2.put2 (.slice A2 l.length c2) (.int .i64 nx)).two
    have HZ := Lib.hid (show w.heap.size + 3 ≤ w1.heap.size by omega)
    clear hz hz1
    go_wp2
    refine bodyPost_ret (v := tv A2 l.length c2 nx) (by simp [results, Tryz.results43, go_sem, q0, q1]) rfl ?_
    have hz := HZ.out
    exact ⟨Mod.toExt (E01.trans E2) hM7 (by intro k hk he; omega), .inr ⟨HR.out, A2, c2, rfl, (O2.mod hM7 (fun k hk he => by have := (hr2.out k hk).1; omega) (fun k _ hk _ => hk)).lower (by omega)⟩⟩
end Go.Proofs.YteljobleojhgmaaGreat
namespace Go.Proofs.YteljobleojhgmaaGreat
open Go.RowKit Go.Kb

def ofP (group : Int) (p : Pr) : Bool := liveP p && p.group == group
def ofN (group : Int) (l : List Pr) (m : Nat) : List Pr := (l.take m).filter (ofP group)
theorem ofN_le {group : Int} {l : List Pr} {m : Nat} : (ofN group l m).length ≤ m := Nat.le_trans (List.length_filter_le _ _) (by simp; omega)
theorem ofN_no {group : Int} {l : List Pr} {m : Nat} {p : Pr} (hp : l[m]? = some p) (h : ofP group p = false) : ofN group l (m + 1) = ofN group l m := by
  unfold ofN
  rw [List.take_add_one, hp, List.filter_append]
  simp [h]
theorem ofN_yes {group : Int} {l : List Pr} {m : Nat} {p : Pr} (hp : l[m]? = some p) (h : ofP group p = true) : ofN group l (m + 1) = ofN group l m ++ [p] := by
  unfold ofN
  rw [List.take_add_one, hp, List.filter_append]
  simp [h]
set_option maxRecDepth 100000 in
set_option maxHeartbeats 800000 in
theorem of_any {A : Nat → Prop} (Ad : Option Addr) (c : Nat) (l : List Pr) (nx group : Int) (w : World) (h : RdY Rp A w (.slice Ad l.length c) l) (hn : l.length ≤ 100000) :
    Calls Tryz.prog 81 #[tv Ad l.length c nx, .int .i64 group] w fun e w' => ∃ A' c', e = .returned (.slice A' (l.filter (ofP group)).length c') ∧ OwnS Rp 42 w.heap.size (fun _ => False) w' (.slice A' (l.filter (ofP group)).length c') (l.filter (ofP group)) ∧ Ext w w' := by
  have H := Lib.hid (rdy_pr (B := fun _ => False) h)
  obtain ⟨_, _, hv, hc1, _⟩ := h.shape
  simp only [Value.slice.injEq] at hv
  obtain ⟨-, -, rfl⟩ := hv
  obtain ⟨N, hN⟩ : ∃ N, l.length = N := ⟨_, rfl⟩
  rw [hN] at H hn hc1 ⊢
  have HN := Lib.hid hN
  clear h hN
  go_enter Tryz.func81, Tryz.ntmps81
  go_wp2
  go_loopw [5, 11] (fun o i wr => ∃ (m k c' : Nat) (A' : Option Addr), m ≤ N ∧ i = .int .i64 m ∧ o = .slice A' k c' ∧ k ≤ m ∧ Hid ((ofN group l m).length = k) ∧ Hid (OwnS Rp 42 w.heap.size (fun _ => False) wr (.slice A' k c') (ofN group l m)) ∧ Ext w wr) (fun _ i _ => N - (intOf i).toNat)
  case atStart => exact ⟨0, 0, 0, none, Nat.zero_le _, rfl, rfl, Nat.le_refl _, Lib.hid rfl, Lib.hid (OwnS.nil _ _ _ _ _), (by repeat (first | with_reducible exact Ext.refl _ | refine Ext.drewN ?_ _ | refine Ext.drew ?_ | refine Ext.alloc ?_ _ | assumption | (refine Below.trans ?_ (by assumption)) | (refine Ext.trans ?_ (by assumption)) | (refine Below.trans ?_ (Below.mono (by assumption) (by omega)))))⟩
  case round =>
    obtain ⟨m, k, c', A', hm, rfl, rfl, hk, HK, O, hE⟩ := hrel
    by_cases hmn : m < N
    · obtain ⟨b, off, p, rfl, hd, hok, hcell⟩ := pr_at (H.out.ext hE) hmn
      have hp3 := Pr.len hok
      have hp4 := fold_pr hok
      have hws := hE.size
      cases hlv : ofP group p
      · have HY := Lib.hid (ofN_no hd.out hlv)
        have hlp := hlv
        unfold ofP at hlp
        cases hl1 : liveP p
        · have HL1 := Lib.hid hl1
          clear hlv hlp hl1
          go_wp2_with (first
            | (refine wpList_load_mid rfl 42 _ rfl b (off + m * 43) rfl p.cells _ hcell.out Tryz.underlying42 rfl (i43' hok) ?_)
            | ((refine wpList_store_A rfl 42 _ _ rfl (wr.heap.size) _ rfl rfl 42 _ (zero_row wr _ rfl) (by rw [List.size_toArray]; exact i43' hok) (Eq.trans (b := 43) (by rfl) (Eq.symm (show (p).cells.toArray.size = 43 from Pr.size hok))) (Pr.one hok) ?_); intro w2 H2 E2; have E2 : Ext wr w2 := E2 wr.heap.size wr ((Ext.refl wr).alloc _) (Nat.le_refl _); have c2 := (prAt_blk hok H2).c2)
            | (refine wpList_load_row rfl 42 _ rfl _ rfl 42 _ _ _ H2 Tryz.underlying42 rfl (by rw [List.size_toArray]; exact i43' hok) ?_)
            | (refine (lives_any p _ hok).mono ?_; rintro e w3 ⟨rfl, E3⟩; rw [HL1.out]; have E03 : Ext wr w3 := E2.trans E3))
          go_roundw
          case rel => exact ⟨m + 1, k, c', A', by omega, by go_num, rfl, by omega, Lib.hid (by rw [HY.out, HK.out]), Lib.hid (by rw [HY.out]; exact O.out.ext E03), hE.trans E03⟩
          case measure => simp [intOf]; omega
        · have HL1 := Lib.hid hl1
          have hgb : (p.group == group) = false := by rw [hl1] at hlp; simpa using hlp
          clear hlv hlp hl1
          go_wp2_with (first
            | (refine wpList_load_mid rfl 42 _ rfl b (off + m * 43) rfl p.cells _ hcell.out Tryz.underlying42 rfl (i43' hok) ?_)
            | ((refine wpList_store_A rfl 42 _ _ rfl (wr.heap.size) _ rfl rfl 42 _ (zero_row wr _ rfl) (by rw [List.size_toArray]; exact i43' hok) (Eq.trans (b := 43) (by rfl) (Eq.symm (show (p).cells.toArray.size = 43 from Pr.size hok))) (Pr.one hok) ?_); intro w2 H2 E2; have E2 : Ext wr w2 := E2 wr.heap.size wr ((Ext.refl wr).alloc _) (Nat.le_refl _); have c2 := (prAt_blk hok H2).c2)
            | (refine wpList_load_row rfl 42 _ rfl _ rfl 42 _ _ _ H2 Tryz.underlying42 rfl (by rw [List.size_toArray]; exact i43' hok) ?_)
            | (refine (lives_any p _ hok).mono ?_; rintro e w3 ⟨rfl, E3⟩; rw [HL1.out]; have c2 := cell_ext E3 c2; have E03 : Ext wr w3 := E2.trans E3))
          go_roundw
          case rel => exact ⟨m + 1, k, c', A', by omega, by go_num, rfl, by omega, Lib.hid (by rw [HY.out, HK.out]), Lib.hid (by rw [HY.out]; exact O.out.ext E03), hE.trans E03⟩
          case measure => simp [intOf]; omega
      · have hlp := hlv
        unfold ofP at hlp
        simp only [Bool.and_eq_true, beq_iff_eq] at hlp
        obtain ⟨hl1, hl2⟩ := hlp
        have HL1 := Lib.hid hl1
        have HY := Lib.hid (ofN_yes hd.out hlv)
        have hgb : (p.group == group) = true := by simpa using hl2
        clear hlv hl1
        go_wp2_with (first
          | (refine wpList_load_mid rfl 42 _ rfl b (off + m * 43) rfl p.cells _ hcell.out Tryz.underlying42 rfl (i43' hok) ?_)
          | ((refine wpList_store_A rfl 42 _ _ rfl (wr.heap.size) _ rfl rfl 42 _ (zero_row wr _ rfl) (by rw [List.size_toArray]; exact i43' hok) (Eq.trans (b := 43) (by rfl) (Eq.symm (show (p).cells.toArray.size = 43 from Pr.size hok))) (Pr.one hok) ?_); intro w2 H2 E2; have E2 : Ext wr w2 := E2 wr.heap.size wr ((Ext.refl wr).alloc _) (Nat.le_refl _); have c2 := (prAt_blk hok H2).c2)
          | (refine wpList_load_row rfl 42 _ rfl _ rfl 42 _ _ _ H2 Tryz.underlying42 rfl (by rw [List.size_toArray]; exact i43' hok) ?_)
          | (refine wpList_load_row rfl 42 _ rfl _ rfl 42 _ _ _ (Blk.ext H2 E3) Tryz.underlying42 rfl (by rw [List.size_toArray]; exact i43' hok) ?_)
          | (refine (lives_any p _ hok).mono ?_; rintro e w3 ⟨rfl, E3⟩; rw [HL1.out]; have c2 := cell_ext E3 c2; have E03 : Ext wr w3 := E2.trans E3; have hws3 := E03.size)
          | (at_builtin; refine wpList_app (e := Rp) (base := w.heap.size) (B := fun _ => False) (A := fun _ => False) rfl (.tmp 23) (.tmp 25) rfl Tryz.underlying27 info_pr rfl ((O.out.ext E03).alloc _) rfl (RdY.singleB (cs := p.cells) (rp_rel (fun _ => False) _ hok) (Blk.at_ _ _ rfl)) rfl (fun _ _ h => h.elim) (N := k + 1) (by have := HK.out; rw [this]; rfl) (by simp [maxLen]; omega) (by omega) (by simp; omega) ?_; intro A5 c5 w5 o5 M5 D5))
        have E5 : Ext w w5 := Below.trans ((hE.trans E03).alloc _) D5
        have o5 := Lib.hid o5
        clear M5 D5
        go_roundw
        case rel => exact ⟨m + 1, k + 1, c5, A5, by omega, by go_num, rfl, by omega, Lib.hid (by rw [HY.out, List.length_append, HK.out]; rfl), Lib.hid (by rw [HY.out]; exact o5.out), E5⟩
        case measure => simp [intOf]; omega
    · obtain rfl : m = N := by omega
      have hf : ofN group l m = l.filter (ofP group) := by unfold ofN; rw [← HN.out, List.take_length]
      have O2 := O.out
      have hk2 := HK.out
      rw [hf] at O2 hk2
      have O2 := Lib.hid O2
      have HK2 := Lib.hid hk2
      clear hk2 hf
      go_wp2
      go_ret
      rw [HK2.out]
      exact ⟨A', c', rfl, O2.out, hE⟩
end Go.Proofs.YteljobleojhgmaaGreat
namespace Go.Proofs.YteljobleojhgmaaGreat
open Go.RowKit Go.Kb

theorem info_i64 : (Tryz.prog.info? 3).map (fun i => (i.zero, i.size, i.bytes)) = some (some (.int .i64 0), Ib.size, 8) := by kernel_rfl
def memL (l : List Pr) (nx group : Int) : List Int := if rightL l nx = true then (l.filter (ofP group)).map (·.pid) else []
set_option maxRecDepth 100000 in
set_option maxHeartbeats 800000 in
theorem members_any {A : Nat → Prop} (Ad : Option Addr) (c : Nat) (l : List Pr) (nx group : Int) (w : World) (h : RdY Rp A w (.slice Ad l.length c) l) :
    Calls Tryz.prog 79 #[tv Ad l.length c nx, .int .i64 group] w fun e w' => ∃ A' c', e = .returned (.slice A' (memL l nx group).length c') ∧ OwnS Ib 3 w.heap.size (fun _ => False) w' (.slice A' (memL l nx group).length c') (memL l nx group) ∧ Ext w w' := by
  have H := Lib.hid (rdy_pr (B := fun _ => False) h)
  have hbox := Lib.hid (Blk.new w 29 #[.slice Ad l.length c, .int .i64 nx])
  clear h
  cases hr : rightL l nx
  · have HR := Lib.hid hr
    have HM := Lib.hid (show memL l nx group = [] by unfold memL; rw [hr]; rfl)
    clear hr
    go_enter Tryz.func79, Tryz.ntmps79
    go_wp2_with fail
    refine (right_any Ad c l nx _ (H.out.ext (by repeat (first | with_reducible exact Ext.refl _ | refine Ext.drewN ?_ _ | refine Ext.drew ?_ | refine Ext.alloc ?_ _ | assumption | (refine Below.trans ?_ (by assumption)) | (refine Ext.trans ?_ (by assumption)) | (refine Below.trans ?_ (Below.mono (by assumption) (by omega))))))).mono ?_
    rintro e w1 ⟨rfl, E1⟩
    rw [HR.out]
    have E01 : Ext w w1 := (by repeat (first | with_reducible exact Ext.refl _ | refine Ext.drewN ?_ _ | refine Ext.drew ?_ | refine Ext.alloc ?_ _ | assumption | (refine Below.trans ?_ (by assumption)) | (refine Ext.trans ?_ (by assumption)) | (refine Below.trans ?_ (Below.mono (by assumption) (by omega)))))
    go_wp2
    go_ret
    rw [HM.out]
    exact ⟨none, 0, rfl, OwnS.nil _ _ _ _ _, E01⟩
  · have HR := Lib.hid hr
    have hl := (right_len hr).1
    have HM := Lib.hid (show memL l nx group = (l.filter (ofP group)).map (·.pid) by unfold memL; rw [hr]; rfl)
    clear hr
    go_enter Tryz.func79, Tryz.ntmps79
    go_wp2_with fail
    refine (right_any Ad c l nx _ (H.out.ext (by repeat (first | with_reducible exact Ext.refl _ | refine Ext.drewN ?_ _ | refine Ext.drew ?_ | refine Ext.alloc ?_ _ | assumption | (refine Below.trans ?_ (by assumption)) | (refine Ext.trans ?_ (by assumption)) | (refine Below.trans ?_ (Below.mono (by assumption) (by omega))))))).mono ?_
    rintro e w1 ⟨rfl, E1⟩
    rw [HR.out]
    have E01 : Ext w w1 := (by repeat (first | with_reducible exact Ext.refl _ | refine Ext.drewN ?_ _ | refine Ext.drew ?_ | refine Ext.alloc ?_ _ | assumption | (refine Below.trans ?_ (by assumption)) | (refine Ext.trans ?_ (by assumption)) | (refine Below.trans ?_ (Below.mono (by assumption) (by omega)))))
    have kb := (hbox.out.ext E1).two
    clear E1 hbox
    go_wp2_with fail
    refine (of_any Ad c l nx group _ (H.out.ext E01) (by omega)).mono ?_
    rintro e w2 ⟨A2, c2, rfl, O2, E2⟩
    have E02 : Ext w w2 := E01.trans E2
    obtain ⟨L, hL⟩ : ∃ L, l.filter (ofP group) = L := ⟨_, rfl⟩
    have hLn : L.length ≤ 32 := by rw [← hL]; exact Nat.le_trans (List.length_filter_le _ _) hl
    rw [hL] at O2 HM ⊢
    obtain ⟨_, _, hv, hc1, _⟩ := O2.shape
    simp only [Value.slice.injEq] at hv
    obtain ⟨-, -, rfl⟩ := hv
    obtain ⟨N, hN⟩ : ∃ N, L.length = N := ⟨_, rfl⟩
    rw [hN] at O2 hLn hc1 ⊢
    have HN := Lib.hid hN
    have HO := Lib.hid (rdy_pr (B := fun _ => False) O2.y)
    clear hN hL O2 kb
    go_wp2
    go_loopw [5, 15] (fun o i wr => ∃ (m c' : Nat) (A' : Option Addr), m ≤ N ∧ i = .int .i64 m ∧ o = .slice A' m c' ∧ Hid (OwnS Ib 3 w2.heap.size (fun _ => False) wr (.slice A' m c') ((L.take m).map (·.pid))) ∧ Hid (Ext w2 wr)) (fun _ i _ => N - (intOf i).toNat)
    case atStart => exact ⟨0, 0, none, Nat.zero_le _, rfl, rfl, Lib.hid (OwnS.nil _ _ _ _ _), Lib.hid (Ext.refl _)⟩
    case round =>
      obtain ⟨m, c', A', hm, rfl, rfl, O, hE⟩ := hrel
      by_cases hmn : m < N
      · obtain ⟨b, off, p, rfl, hd, hok, hcell⟩ := pr_at (HO.out.ext hE.out) hmn
        have hws := hE.out.size
        have HY := Lib.hid (show (L.take (m + 1)).map (·.pid) = (L.take m).map (·.pid) ++ [p.pid] by rw [List.take_add_one, hd.out]; simp)
        have HZ := Lib.hid (show ((L.take m).map (·.pid)).length = m by rw [List.length_map, List.length_take]; have := HN.out; omega)
        go_wp2_with (first
          | (refine wpList_load_mid rfl 42 _ rfl b (off + m * 43) rfl p.cells _ hcell.out Tryz.underlying42 rfl (i43' hok) ?_)
          | ((refine wpList_store_A rfl 42 _ _ rfl (wr.heap.size) _ rfl rfl 42 _ (zero_row wr _ rfl) (by rw [List.size_toArray]; exact i43' hok) (Eq.trans (b := 43) (by rfl) (Eq.symm (show (p).cells.toArray.size = 43 from Pr.size hok))) (Pr.one hok) ?_); intro w4 H2 E4; have E4 : Ext wr w4 := E4 wr.heap.size wr ((Ext.refl wr).alloc _) (Nat.le_refl _); have c0 := (prAt_blk hok H2).c0; have hws4 := E4.size)
          | (at_builtin; refine wpList_app (e := Ib) (base := w2.heap.size) (B := fun _ => False) (A := fun _ => False) rfl (.tmp 19) (.tmp 22) rfl Tryz.underlying62 info_i64 rfl ((O.out.ext E4).alloc _) rfl (RdY.singleB (e := Ib) (cs := [.int .i64 p.pid]) (d := p.pid) rfl (Blk.at_ _ _ rfl)) rfl (fun _ _ h => h.elim) (N := m + 1) (by rw [HZ.out]; rfl) (by simp [maxLen]; omega) (by omega) (by simp; omega) ?_; intro A5 c5 w5 o5 M5 D5))
        have E5 : Hid (Ext w2 w5) := Lib.hid (Below.trans ((hE.out.trans E4).alloc _) D5)
        have o5 := Lib.hid o5
        clear M5 D5
        go_roundw
        case rel => exact ⟨m + 1, c5, A5, by omega, by go_num, rfl, Lib.hid (by rw [HY.out]; exact o5.out), E5⟩
        case measure => simp [intOf]; omega
      · obtain rfl : m = N := by omega
        have hf : memL l nx group = (L.take m).map (·.pid) := by rw [HM.out, List.take_of_length_le (by have := HN.out; omega)]
        have HF := Lib.hid hf
        have HFL := Lib.hid (show ((L.take m).map (·.pid)).length = m by rw [List.length_map, List.length_take]; have := HN.out; omega)
        clear hf
        go_wp2
        go_ret
        rw [HF.out, HFL.out]
        exact ⟨A', c', rfl, O.out.lower E02.size, E02.trans hE.out⟩
end Go.Proofs.YteljobleojhgmaaGreat
/- Exec, by contract. No condition. -/
namespace Go.Proofs.YteljobleojhgmaaGreat
open Go.RowKit Go.Kb

end Go.Proofs.YteljobleojhgmaaGreat
/- SetGroup, by contract. No condition. -/
namespace Go.Proofs.YteljobleojhgmaaGreat
open Go.RowKit Go.Kb

theorem askL_two {l : List Pr} {nx a b : Int} (h : askL l nx [a, b] = 0) : askL l nx [a] = 0 ∧ askL l nx [b] = 0 := by
  unfold askL at h ⊢
  split at h
  · rename_i hr
    split at h
    · rename_i hl
      simp only [List.all_cons, List.all_nil, Bool.and_true, Bool.and_eq_true] at hl
      rw [if_pos hr, if_pos hr, if_pos (by simp [hl.1]), if_pos (by simp [hl.2])]
      exact ⟨rfl, rfl⟩
    · cases h
  · cases h
def groupP (group : Int) (p : Pr) : Pr := { p with group := group }
end Go.Proofs.YteljobleojhgmaaGreat
namespace Go.Proofs.YteljobleojhgmaaGreat
open Go.RowKit Go.Kb

end Go.Proofs.YteljobleojhgmaaGreat
namespace Go.Proofs.YteljobleojhgmaaGreat
open Go.RowKit Go.Kb

theorem rise_mem {nx : Int} : ∀ {l : List Pr} {last : Int}, rise nx last l = true → ∀ p ∈ l, last < p.pid ∧ p.pid < nx
  | [], _, _, p, hp => by cases hp
  | q :: r, last, h, p, hp => by
    simp only [rise, Bool.and_eq_true, decide_eq_true_eq] at h
    rcases List.mem_cons.1 hp with rfl | hp
    · exact ⟨h.1, h.2.1⟩
    · have := rise_mem h.2.2 p hp
      exact ⟨by omega, this.2⟩
theorem rise_find {nx : Int} : ∀ {l : List Pr} {last : Int}, rise nx last l = true → ∀ p ∈ l, l.find? (fun q => q.pid == p.pid) = some p
  | [], _, _, p, hp => by cases hp
  | q :: r, last, h, p, hp => by
    simp only [rise, Bool.and_eq_true, decide_eq_true_eq] at h
    rcases List.mem_cons.1 hp with rfl | hp
    · simp
    · have h1 := rise_mem h.2.2 p hp
      rw [List.find?_cons_of_neg (by simp; omega)]
      exact rise_find h.2.2 p hp
theorem right_rise {l : List Pr} {nx : Int} (h : rightL l nx = true) : 1 ≤ nx ∧ l.length ≤ 32 ∧ rise nx 0 l = true := by
  simpa only [rightL, Bool.and_eq_true, decide_eq_true_eq] using h
theorem right_get {l : List Pr} {nx : Int} (h : rightL l nx = true) {p : Pr} (hp : p ∈ l) : getL l nx p.pid = (p, true) := by
  unfold getL
  rw [h, rise_find (right_rise h).2.2 p hp]
  rfl
theorem changeL_nil {g : Pr → Pr} {k : Int} : changeL g k [] = [] := rfl
theorem changeL_cons {g : Pr → Pr} {k : Int} {p : Pr} {r : List Pr} : changeL g k (p :: r) = if p.pid = k then g p :: r else p :: changeL g k r := by
  unfold changeL
  rw [List.findIdx?_cons]
  by_cases h : p.pid = k
  · simp [h]
  · have : (p.pid == k) = false := by simpa using h
    rw [this, if_neg h]
    simp only [Bool.false_eq_true, if_false]
    cases r.findIdx? (fun p => p.pid == k) with
    | none => rfl
    | some j =>
      simp only [Option.map_some, List.getElem?_cons_succ]
      cases r[j]? with
      | none => rfl
      | some q => rfl
theorem rise_change {nx k : Int} {g : Pr → Pr} (hg : ∀ p, (g p).pid = p.pid) : ∀ {l : List Pr} {last : Int}, rise nx last (changeL g k l) = rise nx last l
  | [], _ => rfl
  | q :: r, last => by
    rw [changeL_cons]
    split
    · simp only [rise, hg]
    · simp only [rise, rise_change hg]
theorem right_change {nx k : Int} {g : Pr → Pr} (hg : ∀ p, (g p).pid = p.pid) {l : List Pr} : rightL (changeL g k l) nx = rightL l nx := by
  unfold rightL
  rw [rise_change hg, changeL_len]
theorem find_change {k : Int} {g : Pr → Pr} (hg : ∀ p, (g p).pid = p.pid) : ∀ {l : List Pr} {p : Pr}, l.find? (fun q => q.pid == k) = some p → (changeL g k l).find? (fun q => q.pid == k) = some (g p)
  | [], p, h => by simp at h
  | q :: r, p, h => by
    rw [changeL_cons]
    by_cases hq : q.pid = k
    · rw [List.find?_cons_of_pos (by simpa using hq)] at h
      cases h
      rw [if_pos hq, List.find?_cons_of_pos (by simpa [hg] using hq)]
    · rw [List.find?_cons_of_neg (by simpa using hq)] at h
      rw [if_neg hq, List.find?_cons_of_neg (by simpa using hq)]
      exact find_change hg h
theorem get_change {l : List Pr} {nx k : Int} {g : Pr → Pr} {p : Pr} (hg : ∀ p, (g p).pid = p.pid) (h : getL l nx k = (p, true)) : getL (changeL g k l) nx k = (g p, true) := by
  unfold getL at h ⊢
  rw [right_change hg]
  split at h
  · rename_i hr
    rw [if_pos hr]
    split at h
    · rename_i q hq
      cases h
      rw [find_change hg hq]
    · cases h
  · cases h
end Go.Proofs.YteljobleojhgmaaGreat
namespace Go.Proofs.YteljobleojhgmaaGreat
open Go.RowKit Go.Kb

theorem idxL_any {f : Pr → Bool} {l : List Pr} : decide (0 ≤ idxL f l) = l.any f := by
  rcases idx_any (f := f) (l := l) with ⟨h1, h2⟩ | ⟨j, p, h1, _, _, h4, _⟩
  · rw [h1, h2]; rfl
  · rw [h1, h4]; exact decide_eq_true (by omega)
set_option maxRecDepth 100000 in
set_option maxHeartbeats 800000 in
theorem contains_any {A : Nat → Prop} (k : Nat) (bs fs : Array Value) (f : Pr → Bool) (v : Value) (l : List Pr) (w : World) (h : RdY Rp A w v l) (hf : Asks k bs fs f w) :
    Calls Tryz.prog 80 #[v, .func (.func k) bs fs] w fun e w' => e = .returned (.bool (l.any f)) ∧ Ext w w' := by
  have HI := Lib.hid (index_any k bs fs f v l w h hf)
  rw [← idxL_any]
  generalize idxL f l = i at *
  clear h hf
  go_enter Tryz.func80, Tryz.ntmps80
  go_wp2_with fail
  refine HI.out.mono ?_
  rintro e w1 ⟨rfl, E1⟩
  go_wp2
  go_ret
  exact ⟨by first | rfl | simp, E1⟩
end Go.Proofs.YteljobleojhgmaaGreat
namespace Go.Proofs.YteljobleojhgmaaGreat
open Go.RowKit Go.Kb

theorem live_get {l : List Pr} {nx pid : Int} : liveL l nx pid = ((getL l nx pid).2 && liveP (getL l nx pid).1) := by
  unfold liveL getL
  cases hr : rightL l nx
  · rfl
  · simp only [Bool.true_and, if_true]
    obtain ⟨_, _, hri⟩ := right_rise hr
    cases hf : l.find? (fun p => p.pid == pid) with
    | none =>
      rw [List.find?_eq_none] at hf
      simp only [Bool.false_and, List.any_eq_false]
      intro p hp
      have := hf p hp
      simp at this
      simp [this]
    | some p =>
      have hm := List.mem_of_find?_eq_some hf
      have hp := List.find?_some hf
      simp only [beq_iff_eq] at hp
      simp only [Bool.true_and]
      cases hl : liveP p
      · rw [List.any_eq_false]
        intro q hq
        simp only [Bool.and_eq_true, beq_iff_eq, not_and, Bool.not_eq_true]
        intro hqp
        have h1 := rise_find hri q hq
        rw [hqp, hf] at h1
        cases h1
        exact hl
      · exact List.any_eq_true.2 ⟨p, hm, by simp [hp, hl]⟩
end Go.Proofs.YteljobleojhgmaaGreat
namespace Go.Proofs.YteljobleojhgmaaGreat
open Go.RowKit Go.Kb

/-- is there a living parent outside of the group, in the session? -/
def seenP (l : List Pr) (g : Int) (p : Pr) : Bool := match l.find? (fun q => q.pid == p.parent && liveP q) with
  | none => false
  | some up => up.session == p.session && up.group != g
theorem enters_orph (args : Array Value) (w : World) : (callFunc 82 args).run Tryz.prog w = .ok (.enter 82 args) w := by kernel_rfl
set_option maxRecDepth 100000 in
set_option maxHeartbeats 800000 in
theorem orph1_any {A : Nat → Prop} (Ad : Option Addr) (c : Nat) (l : List Pr) (nx g : Int) (n m : Nat) (p : Pr) (w : World) (hok : p.ok) (h : RdY Rp A w (.slice Ad l.length c) l) (hn : Blk w n 29 #[.slice Ad l.length c, .int .i64 nx]) (hm : Blk w m 3 #[.int .i64 g]) :
    Calls Tryz.prog 82 #[.agg p.cells.toArray, .pointer (some ⟨n, 0, none⟩), .pointer (some ⟨m, 0, none⟩)] w fun e w' => e = .returned (.bool (seenP l g p)) ∧ Ext w w' := by
  have H := Lib.hid (rdy_pr (B := fun _ => False) h)
  obtain ⟨N, hN⟩ : ∃ N, l.length = N := ⟨_, rfl⟩
  have hfa := fun A w h f => find_any (A := fun _ => False) (f := f) (k := 66) (bs := #[]) (fs := A) Ad c l nx w h
  rw [hN] at H hn hfa
  have HFA := Lib.hid hfa
  have HNN := Lib.hid hN
  obtain ⟨W, hW⟩ : ∃ W, W = w.alloc (.cells p.cells.toArray 42) := ⟨_, rfl⟩
  have hp := Lib.hid (show Blk W w.heap.size 42 p.cells.toArray by rw [hW]; exact Blk.new _ _ _)
  have E0 : Ext w W := by rw [hW]; exact (by repeat (first | with_reducible exact Ext.refl _ | refine Ext.drewN ?_ _ | refine Ext.drew ?_ | refine Ext.alloc ?_ _ | assumption | (refine Below.trans ?_ (by assumption)) | (refine Ext.trans ?_ (by assumption)) | (refine Below.trans ?_ (Below.mono (by assumption) (by omega)))))
  have hbn := Lib.hid (hn.ext E0)
  have hbm := Lib.hid (hm.ext E0)
  have HW := Lib.hid hW
  clear h hW hn hm hfa hN
  go_enter Tryz.func82, Tryz.ntmps82
  go_wp2
  rw [← HW.out]
  refine wp_region_held_drew (S := fun w' => Ext W w') (by kernel_rfl) (Ext.drew (Ext.refl _)) (fun hHeld => ?_)
  (refine wpAnyH_take (i := 0) (v := ?_) rfl (by kernel_rfl) (by kernel_rfl) (by kernel_rfl) (fun _ _ _ h => h) (Or.inl ⟨by rfl, ?_⟩) (by assumption) ?_; rotate_left; (focus (intro w' hSw; have kc := (hbn.out.ext hSw).two; go_simp; try with_reducible rfl)); (try simp only [List.getElem_toArray]); (try simp only [List.getElem_cons_succ]); (try simp only [List.getElem_cons_zero]); (try simp only [Act.put]); (try simp only [List.setIfInBounds_toArray]); (try simp only [List.set_cons_succ]); (try simp only [List.set_cons_zero]))
  (refine wpAnyH_take (i := 1) (v := ?_) rfl (by kernel_rfl) (by kernel_rfl) (by kernel_rfl) (fun _ _ _ h => h) (Or.inl ⟨by rfl, ?_⟩) (by assumption) ?_; rotate_left; (focus (intro w' hSw; go_simp; try with_reducible rfl)); (try simp only [List.getElem_toArray]); (try simp only [List.getElem_cons_succ]); (try simp only [List.getElem_cons_zero]); (try simp only [Act.put]); (try simp only [List.setIfInBounds_toArray]); (try simp only [List.set_cons_succ]); (try simp only [List.set_cons_zero]))
  (refine wpAnyH_take (i := 2) (v := ?_) rfl (by kernel_rfl) (by kernel_rfl) (by kernel_rfl) (fun _ _ _ h => h) (Or.inl ⟨by rfl, ?_⟩) (by assumption) ?_; rotate_left; (focus (intro w' hSw; have kc := (prAt_blk hok (hp.out.ext hSw)).c1; go_simp; try with_reducible rfl)); (try simp only [List.getElem_toArray]); (try simp only [List.getElem_cons_succ]); (try simp only [List.getElem_cons_zero]); (try simp only [Act.put]); (try simp only [List.setIfInBounds_toArray]); (try simp only [List.set_cons_succ]); (try simp only [List.set_cons_zero]))
  (refine wpAnyH_ready (rs := [3]) (by kernel_rfl) (by simp) ?_; refine AllReadyH.cons rfl (fun K hK => ?_) AllReadyH.nil; go_simp; go_at_call 44; refine (is_any p.parent _).mono ?_; rintro e w2 ⟨n2, rfl, F2, E2⟩; (try dsimp only); refine hK.out _ _ (Ext.trans (Ext.drew (Ext.refl W)) E2) (fun hHeld => ?_); clear hK K; (try simp only [Act.put]); (try simp only [List.getElem_toArray]); (try simp only [List.getElem_cons_succ]); (try simp only [List.getElem_cons_zero]); (try simp only [List.setIfInBounds_toArray]); (try simp only [List.set_cons_succ]); (try simp only [List.set_cons_zero]))
  have E12 : Ext W w2 := Ext.trans (Ext.drew (Ext.refl W)) E2
  (refine wpAnyH_ready (rs := [4]) (by kernel_rfl) (by simp) ?_; refine AllReadyH.cons rfl (fun K hK => ?_) AllReadyH.nil; go_simp; refine hK.out _ _ (E12.alloc _) (fun hHeld => ?_); clear hK K; (try simp only [Act.put]); (try simp only [List.getElem_toArray]); (try simp only [List.getElem_cons_succ]); (try simp only [List.getElem_cons_zero]); (try simp only [List.setIfInBounds_toArray]); (try simp only [List.set_cons_succ]); (try simp only [List.set_cons_zero]))
  (refine wpAnyH_ready (rs := [5]) (by kernel_rfl) (by simp) ?_; refine AllReadyH.cons rfl (fun K hK => ?_) AllReadyH.nil; go_simp; go_at_call 35; refine (all_any (t1 := fun q => q.pid == p.parent) (t2 := liveP) _ _ (Blk.at_ _ _ rfl) (F2.ext ((Ext.refl _).alloc _)) (asks_lives _)).mono ?_; rintro e w3 ⟨n3, rfl, F3, E3⟩; (try dsimp only); refine hK.out _ _ ((E12.alloc _).trans E3) (fun hHeld => ?_); clear hK K; (try simp only [Act.put]); (try simp only [List.getElem_toArray]); (try simp only [List.getElem_cons_succ]); (try simp only [List.getElem_cons_zero]); (try simp only [List.setIfInBounds_toArray]); (try simp only [List.set_cons_succ]); (try simp only [List.set_cons_zero]))
  have E13 : Ext W w3 := (E12.alloc _).trans E3
  have hfind := HFA.out _ w3 (H.out.ext (E0.trans E13)) _ F3
  (refine wpAnyH_ready (rs := [6]) (by kernel_rfl) (by simp) ?_; refine AllReadyH.cons rfl (fun K hK => ?_) AllReadyH.nil; go_simp; go_at_call 34; refine (hfind).mono ?_; rintro e w4 ⟨E4, (⟨hx, m0, rfl, hm0, hz⟩ | ⟨j, b, off, hx, hlt, rfl, rfl⟩)⟩; all_goals ((try dsimp only); refine hK.out _ _ (by repeat (first | with_reducible exact Ext.refl _ | refine Ext.drewN ?_ _ | refine Ext.drew ?_ | refine Ext.alloc ?_ _ | assumption | (refine Below.trans ?_ (by assumption)) | (refine Ext.trans ?_ (by assumption)) | (refine Below.trans ?_ (Below.mono (by assumption) (by omega))))) (fun hHeld => ?_); clear hK K; (try simp only [Act.put]); (try simp only [List.getElem_toArray]); (try simp only [List.getElem_cons_succ]); (try simp only [List.getElem_cons_zero]); (try simp only [List.setIfInBounds_toArray]); (try simp only [List.set_cons_succ]); (try simp only [List.set_cons_zero])))
  all_goals
    (refine wpAnyH_take (i := 7) (v := ?_) rfl (by kernel_rfl) (by kernel_rfl) (by kernel_rfl) (fun _ _ _ h => h) (Or.inl ⟨by rfl, ?_⟩) (by assumption) ?_; rotate_left; (focus (intro w' hSw; go_simp; try with_reducible rfl)); (try simp only [List.getElem_toArray]); (try simp only [List.getElem_cons_succ]); (try simp only [List.getElem_cons_zero]); (try simp only [Act.put]); (try simp only [List.setIfInBounds_toArray]); (try simp only [List.set_cons_succ]); (try simp only [List.set_cons_zero]))
    (refine wpAnyH_take (i := 8) (v := ?_) rfl (by kernel_rfl) (by kernel_rfl) (by kernel_rfl) (fun _ _ _ h => h) (Or.inl ⟨by rfl, ?_⟩) (by assumption) ?_; rotate_left; (focus (intro w' hSw; go_simp; try with_reducible rfl)); (try simp only [List.getElem_toArray]); (try simp only [List.getElem_cons_succ]); (try simp only [List.getElem_cons_zero]); (try simp only [Act.put]); (try simp only [List.setIfInBounds_toArray]); (try simp only [List.set_cons_succ]); (try simp only [List.set_cons_zero]))
    (refine wpAnyH_take (i := 9) (v := ?_) rfl (by kernel_rfl) (by kernel_rfl) (by kernel_rfl) (fun _ _ _ h => h) (Or.inl ⟨by rfl, ?_⟩) (by assumption) ?_; rotate_left; (focus (intro w' hSw; go_simp; try with_reducible rfl)); (try simp only [List.getElem_toArray]); (try simp only [List.getElem_cons_succ]); (try simp only [List.getElem_cons_zero]); (try simp only [Act.put]); (try simp only [List.setIfInBounds_toArray]); (try simp only [List.set_cons_succ]); (try simp only [List.set_cons_zero]))
    (refine wpAnyH_take (i := 10) (v := ?_) rfl (by kernel_rfl) (by kernel_rfl) (by kernel_rfl) (fun _ _ _ h => h) (Or.inl ⟨by rfl, ?_⟩) (by assumption) ?_; rotate_left; (focus (intro w' hSw; go_simp; try with_reducible rfl)); (try simp only [List.getElem_toArray]); (try simp only [List.getElem_cons_succ]); (try simp only [List.getElem_cons_zero]); (try simp only [Act.put]); (try simp only [List.setIfInBounds_toArray]); (try simp only [List.set_cons_succ]); (try simp only [List.set_cons_zero]))
    (refine wpAnyH_take (i := 11) (v := ?_) rfl (by kernel_rfl) (by kernel_rfl) (by kernel_rfl) (fun _ _ _ h => h) (Or.inl ⟨by rfl, ?_⟩) (by assumption) ?_; rotate_left; (focus (intro w' hSw; go_simp; try with_reducible rfl)); (try simp only [List.getElem_toArray]); (try simp only [List.getElem_cons_succ]); (try simp only [List.getElem_cons_zero]); (try simp only [Act.put]); (try simp only [List.setIfInBounds_toArray]); (try simp only [List.set_cons_succ]); (try simp only [List.set_cons_zero]))
    refine wpAnyH_done (by kernel_rfl) ?_ _
    have E14 : Ext W w4 := E13.trans E4
    have E04 : Ext w w4 := E0.trans E14
    have hp4 := Lib.hid (hp.out.ext E14)
    have hm4 := Lib.hid (hbm.out.ext E14)
    clear hfind F3 F2
  · have HS := Lib.hid (show seenP l g p = false by unfold seenP; rw [find_none hx])
    clear hx hm0 hz
    go_wp2
    refine wp_region_held_drew (S := fun w' => Ext w4 w') (by kernel_rfl) (Ext.drew (Ext.refl _)) (fun hHeld => ?_)
    (refine wpAnyH_take (i := 0) (v := ?_) rfl (by kernel_rfl) (by kernel_rfl) (by kernel_rfl) (fun _ _ _ h => h) (Or.inl ⟨by rfl, ?_⟩) (by assumption) ?_; rotate_left; (focus (intro w' hSw; go_simp; try with_reducible rfl)); (try simp only [List.getElem_toArray]); (try simp only [List.getElem_cons_succ]); (try simp only [List.getElem_cons_zero]); (try simp only [Act.put]); (try simp only [List.setIfInBounds_toArray]); (try simp only [List.set_cons_succ]); (try simp only [List.set_cons_zero]))
    (refine wpAnyH_take (i := 1) (v := ?_) rfl (by kernel_rfl) (by kernel_rfl) (by kernel_rfl) (fun _ _ _ h => h) (Or.inl ⟨by rfl, ?_⟩) (by assumption) ?_; rotate_left; (focus (intro w' hSw; go_simp; try with_reducible rfl)); (try simp only [List.getElem_toArray]); (try simp only [List.getElem_cons_succ]); (try simp only [List.getElem_cons_zero]); (try simp only [Act.put]); (try simp only [List.setIfInBounds_toArray]); (try simp only [List.set_cons_succ]); (try simp only [List.set_cons_zero]))
    (refine wpAnyH_take (i := 2) (v := undef) rfl (by kernel_rfl) (by kernel_rfl) (by kernel_rfl) (fun _ _ _ h => h) (Or.inr ⟨by rfl, rfl⟩) (by assumption) ?_; (try simp only [List.getElem_toArray]); (try simp only [List.getElem_cons_succ]); (try simp only [List.getElem_cons_zero]); (try simp only [Act.put]); (try simp only [List.setIfInBounds_toArray]); (try simp only [List.set_cons_succ]); (try simp only [List.set_cons_zero]))
    (refine wpAnyH_take (i := 3) (v := undef) rfl (by kernel_rfl) (by kernel_rfl) (by kernel_rfl) (fun _ _ _ h => h) (Or.inr ⟨by rfl, rfl⟩) (by assumption) ?_; (try simp only [List.getElem_toArray]); (try simp only [List.getElem_cons_succ]); (try simp only [List.getElem_cons_zero]); (try simp only [Act.put]); (try simp only [List.setIfInBounds_toArray]); (try simp only [List.set_cons_succ]); (try simp only [List.set_cons_zero]))
    (refine wpAnyH_take (i := 4) (v := undef) rfl (by kernel_rfl) (by kernel_rfl) (by kernel_rfl) (fun _ _ _ h => h) (Or.inr ⟨by rfl, rfl⟩) (by assumption) ?_; (try simp only [List.getElem_toArray]); (try simp only [List.getElem_cons_succ]); (try simp only [List.getElem_cons_zero]); (try simp only [Act.put]); (try simp only [List.setIfInBounds_toArray]); (try simp only [List.set_cons_succ]); (try simp only [List.set_cons_zero]))
    (refine wpAnyH_take (i := 5) (v := undef) rfl (by kernel_rfl) (by kernel_rfl) (by kernel_rfl) (fun _ _ _ h => h) (Or.inr ⟨by rfl, rfl⟩) (by assumption) ?_; (try simp only [List.getElem_toArray]); (try simp only [List.getElem_cons_succ]); (try simp only [List.getElem_cons_zero]); (try simp only [Act.put]); (try simp only [List.setIfInBounds_toArray]); (try simp only [List.set_cons_succ]); (try simp only [List.set_cons_zero]))
    (refine wpAnyH_take (i := 6) (v := undef) rfl (by kernel_rfl) (by kernel_rfl) (by kernel_rfl) (fun _ _ _ h => h) (Or.inr ⟨by rfl, rfl⟩) (by assumption) ?_; (try simp only [List.getElem_toArray]); (try simp only [List.getElem_cons_succ]); (try simp only [List.getElem_cons_zero]); (try simp only [Act.put]); (try simp only [List.setIfInBounds_toArray]); (try simp only [List.set_cons_succ]); (try simp only [List.set_cons_zero]))
    (refine wpAnyH_take (i := 7) (v := undef) rfl (by kernel_rfl) (by kernel_rfl) (by kernel_rfl) (fun _ _ _ h => h) (Or.inr ⟨by rfl, rfl⟩) (by assumption) ?_; (try simp only [List.getElem_toArray]); (try simp only [List.getElem_cons_succ]); (try simp only [List.getElem_cons_zero]); (try simp only [Act.put]); (try simp only [List.setIfInBounds_toArray]); (try simp only [List.set_cons_succ]); (try simp only [List.set_cons_zero]))
    (refine wpAnyH_take (i := 8) (v := undef) rfl (by kernel_rfl) (by kernel_rfl) (by kernel_rfl) (fun _ _ _ h => h) (Or.inr ⟨by rfl, rfl⟩) (by assumption) ?_; (try simp only [List.getElem_toArray]); (try simp only [List.getElem_cons_succ]); (try simp only [List.getElem_cons_zero]); (try simp only [Act.put]); (try simp only [List.setIfInBounds_toArray]); (try simp only [List.set_cons_succ]); (try simp only [List.set_cons_zero]))
    (refine wpAnyH_take (i := 9) (v := ?_) rfl (by kernel_rfl) (by kernel_rfl) (by kernel_rfl) (fun _ _ _ h => h) (Or.inl ⟨by rfl, ?_⟩) (by assumption) ?_; rotate_left; (focus (intro w' hSw; go_simp; try with_reducible rfl)); (try simp only [List.getElem_toArray]); (try simp only [List.getElem_cons_succ]); (try simp only [List.getElem_cons_zero]); (try simp only [Act.put]); (try simp only [List.setIfInBounds_toArray]); (try simp only [List.set_cons_succ]); (try simp only [List.set_cons_zero]))
    (refine wpAnyH_take (i := 10) (v := ?_) rfl (by kernel_rfl) (by kernel_rfl) (by kernel_rfl) (fun _ _ _ h => h) (Or.inl ⟨by rfl, ?_⟩) (by assumption) ?_; rotate_left; (focus (intro w' hSw; go_simp; try with_reducible rfl)); (try simp only [List.getElem_toArray]); (try simp only [List.getElem_cons_succ]); (try simp only [List.getElem_cons_zero]); (try simp only [Act.put]); (try simp only [List.setIfInBounds_toArray]); (try simp only [List.set_cons_succ]); (try simp only [List.set_cons_zero]))
    (refine wpAnyH_take (i := 11) (v := undef) rfl (by kernel_rfl) (by kernel_rfl) (by kernel_rfl) (fun _ _ _ h => h) (Or.inr ⟨by rfl, rfl⟩) (by assumption) ?_; (try simp only [List.getElem_toArray]); (try simp only [List.getElem_cons_succ]); (try simp only [List.getElem_cons_zero]); (try simp only [Act.put]); (try simp only [List.setIfInBounds_toArray]); (try simp only [List.set_cons_succ]); (try simp only [List.set_cons_zero]))
    (refine wpAnyH_take (i := 12) (v := undef) rfl (by kernel_rfl) (by kernel_rfl) (by kernel_rfl) (fun _ _ _ h => h) (Or.inr ⟨by rfl, rfl⟩) (by assumption) ?_; (try simp only [List.getElem_toArray]); (try simp only [List.getElem_cons_succ]); (try simp only [List.getElem_cons_zero]); (try simp only [Act.put]); (try simp only [List.setIfInBounds_toArray]); (try simp only [List.set_cons_succ]); (try simp only [List.set_cons_zero]))
    (refine wpAnyH_take (i := 13) (v := undef) rfl (by kernel_rfl) (by kernel_rfl) (by kernel_rfl) (fun _ _ _ h => h) (Or.inr ⟨by rfl, rfl⟩) (by assumption) ?_; (try simp only [List.getElem_toArray]); (try simp only [List.getElem_cons_succ]); (try simp only [List.getElem_cons_zero]); (try simp only [Act.put]); (try simp only [List.setIfInBounds_toArray]); (try simp only [List.set_cons_succ]); (try simp only [List.set_cons_zero]))
    (refine wpAnyH_take (i := 14) (v := undef) rfl (by kernel_rfl) (by kernel_rfl) (by kernel_rfl) (fun _ _ _ h => h) (Or.inr ⟨by rfl, rfl⟩) (by assumption) ?_; (try simp only [List.getElem_toArray]); (try simp only [List.getElem_cons_succ]); (try simp only [List.getElem_cons_zero]); (try simp only [Act.put]); (try simp only [List.setIfInBounds_toArray]); (try simp only [List.set_cons_succ]); (try simp only [List.set_cons_zero]))
    (refine wpAnyH_take (i := 15) (v := undef) rfl (by kernel_rfl) (by kernel_rfl) (by kernel_rfl) (fun _ _ _ h => h) (Or.inr ⟨by rfl, rfl⟩) (by assumption) ?_; (try simp only [List.getElem_toArray]); (try simp only [List.getElem_cons_succ]); (try simp only [List.getElem_cons_zero]); (try simp only [Act.put]); (try simp only [List.setIfInBounds_toArray]); (try simp only [List.set_cons_succ]); (try simp only [List.set_cons_zero]))
    (refine wpAnyH_take (i := 16) (v := undef) rfl (by kernel_rfl) (by kernel_rfl) (by kernel_rfl) (fun _ _ _ h => h) (Or.inr ⟨by rfl, rfl⟩) (by assumption) ?_; (try simp only [List.getElem_toArray]); (try simp only [List.getElem_cons_succ]); (try simp only [List.getElem_cons_zero]); (try simp only [Act.put]); (try simp only [List.setIfInBounds_toArray]); (try simp only [List.set_cons_succ]); (try simp only [List.set_cons_zero]))
    (refine wpAnyH_take (i := 17) (v := ?_) rfl (by kernel_rfl) (by kernel_rfl) (by kernel_rfl) (fun _ _ _ h => h) (Or.inl ⟨by rfl, ?_⟩) (by assumption) ?_; rotate_left; (focus (intro w' hSw; go_simp; try with_reducible rfl)); (try simp only [List.getElem_toArray]); (try simp only [List.getElem_cons_succ]); (try simp only [List.getElem_cons_zero]); (try simp only [Act.put]); (try simp only [List.setIfInBounds_toArray]); (try simp only [List.set_cons_succ]); (try simp only [List.set_cons_zero]))
    (refine wpAnyH_take (i := 18) (v := ?_) rfl (by kernel_rfl) (by kernel_rfl) (by kernel_rfl) (fun _ _ _ h => h) (Or.inl ⟨by rfl, ?_⟩) (by assumption) ?_; rotate_left; (focus (intro w' hSw; go_simp; try with_reducible rfl)); (try simp only [List.getElem_toArray]); (try simp only [List.getElem_cons_succ]); (try simp only [List.getElem_cons_zero]); (try simp only [Act.put]); (try simp only [List.setIfInBounds_toArray]); (try simp only [List.set_cons_succ]); (try simp only [List.set_cons_zero]))
    refine wpAnyH_done (by kernel_rfl) ?_ _
    go_wp2
    go_ret
    exact ⟨by rw [HS.out]; rfl, E04.trans (Ext.drew (Ext.refl _))⟩
  · rw [HNN.out] at hlt
    obtain ⟨b', off', up, hAd, hd, huok, hcell⟩ := pr_at (H.out.ext E04) hlt
    simp only [Option.some.injEq, Addr.mk.injEq, and_true] at hAd
    obtain ⟨rfl, rfl⟩ := hAd
    have hs : seenP l g p = (up.session == p.session && up.group != g) := by unfold seenP; rw [find_some hx hd.out]
    have HS := Lib.hid hs
    have hat := prAt_of huok hcell.out
    have u2 := Lib.hid hat.c2
    have u3 := Lib.hid hat.c3
    clear hx hs hat hd hcell
    cases hss : (up.session == p.session)
    · go_wp2
      refine wp_region_held_drew (S := fun w' => Ext w4 w') (by kernel_rfl) (Ext.drew (Ext.refl _)) (fun hHeld => ?_)
      (refine wpAnyH_take (i := 0) (v := ?_) rfl (by kernel_rfl) (by kernel_rfl) (by kernel_rfl) (fun _ _ _ h => h) (Or.inl ⟨by rfl, ?_⟩) (by assumption) ?_; rotate_left; (focus (intro w' hSw; go_simp; try with_reducible rfl)); (try simp only [List.getElem_toArray]); (try simp only [List.getElem_cons_succ]); (try simp only [List.getElem_cons_zero]); (try simp only [Act.put]); (try simp only [List.setIfInBounds_toArray]); (try simp only [List.set_cons_succ]); (try simp only [List.set_cons_zero]))
      (refine wpAnyH_take (i := 1) (v := ?_) rfl (by kernel_rfl) (by kernel_rfl) (by kernel_rfl) (fun _ _ _ h => h) (Or.inl ⟨by rfl, ?_⟩) (by assumption) ?_; rotate_left; (focus (intro w' hSw; go_simp; try with_reducible rfl)); (try simp only [List.getElem_toArray]); (try simp only [List.getElem_cons_succ]); (try simp only [List.getElem_cons_zero]); (try simp only [Act.put]); (try simp only [List.setIfInBounds_toArray]); (try simp only [List.set_cons_succ]); (try simp only [List.set_cons_zero]))
      (refine wpAnyH_take (i := 2) (v := ?_) rfl (by kernel_rfl) (by kernel_rfl) (by kernel_rfl) (fun _ _ _ h => h) (Or.inl ⟨by rfl, ?_⟩) (by assumption) ?_; rotate_left; (focus (intro w' hSw; go_simp; try with_reducible rfl)); (try simp only [List.getElem_toArray]); (try simp only [List.getElem_cons_succ]); (try simp only [List.getElem_cons_zero]); (try simp only [Act.put]); (try simp only [List.setIfInBounds_toArray]); (try simp only [List.set_cons_succ]); (try simp only [List.set_cons_zero]))
      (refine wpAnyH_take (i := 3) (v := ?_) rfl (by kernel_rfl) (by kernel_rfl) (by kernel_rfl) (fun _ _ _ h => h) (Or.inl ⟨by rfl, ?_⟩) (by assumption) ?_; rotate_left; (focus (intro w' hSw; go_simp; try with_reducible rfl)); (try simp only [List.getElem_toArray]); (try simp only [List.getElem_cons_succ]); (try simp only [List.getElem_cons_zero]); (try simp only [Act.put]); (try simp only [List.setIfInBounds_toArray]); (try simp only [List.set_cons_succ]); (try simp only [List.set_cons_zero]))
      (refine wpAnyH_take (i := 4) (v := ?_) rfl (by kernel_rfl) (by kernel_rfl) (by kernel_rfl) (fun _ _ _ h => h) (Or.inl ⟨by rfl, ?_⟩) (by assumption) ?_; rotate_left; (focus (intro w' hSw; go_simp; try with_reducible rfl)); (try simp only [List.getElem_toArray]); (try simp only [List.getElem_cons_succ]); (try simp only [List.getElem_cons_zero]); (try simp only [Act.put]); (try simp only [List.setIfInBounds_toArray]); (try simp only [List.set_cons_succ]); (try simp only [List.set_cons_zero]))
      (refine wpAnyH_take (i := 5) (v := ?_) rfl (by kernel_rfl) (by kernel_rfl) (by kernel_rfl) (fun _ _ _ h => h) (Or.inl ⟨by rfl, ?_⟩) (by assumption) ?_; rotate_left; (focus (intro w' hSw; have kc := cell_ext hSw u3.out; go_simp; try with_reducible rfl)); (try simp only [List.getElem_toArray]); (try simp only [List.getElem_cons_succ]); (try simp only [List.getElem_cons_zero]); (try simp only [Act.put]); (try simp only [List.setIfInBounds_toArray]); (try simp only [List.set_cons_succ]); (try simp only [List.set_cons_zero]))
      (refine wpAnyH_take (i := 6) (v := ?_) rfl (by kernel_rfl) (by kernel_rfl) (by kernel_rfl) (fun _ _ _ h => h) (Or.inl ⟨by rfl, ?_⟩) (by assumption) ?_; rotate_left; (focus (intro w' hSw; go_simp; try with_reducible rfl)); (try simp only [List.getElem_toArray]); (try simp only [List.getElem_cons_succ]); (try simp only [List.getElem_cons_zero]); (try simp only [Act.put]); (try simp only [List.setIfInBounds_toArray]); (try simp only [List.set_cons_succ]); (try simp only [List.set_cons_zero]))
      (refine wpAnyH_take (i := 7) (v := ?_) rfl (by kernel_rfl) (by kernel_rfl) (by kernel_rfl) (fun _ _ _ h => h) (Or.inl ⟨by rfl, ?_⟩) (by assumption) ?_; rotate_left; (focus (intro w' hSw; have kc := (prAt_blk hok (hp4.out.ext hSw)).c3; go_simp; try with_reducible rfl)); (try simp only [List.getElem_toArray]); (try simp only [List.getElem_cons_succ]); (try simp only [List.getElem_cons_zero]); (try simp only [Act.put]); (try simp only [List.setIfInBounds_toArray]); (try simp only [List.set_cons_succ]); (try simp only [List.set_cons_zero]))
      (refine wpAnyH_take (i := 8) (v := ?_) rfl (by kernel_rfl) (by kernel_rfl) (by kernel_rfl) (fun _ _ _ h => h) (Or.inl ⟨by rfl, ?_⟩) (by assumption) ?_; rotate_left; (focus (intro w' hSw; go_simp; try with_reducible rfl)); (try simp only [List.getElem_toArray]); (try simp only [List.getElem_cons_succ]); (try simp only [List.getElem_cons_zero]); (try simp only [Act.put]); (try simp only [List.setIfInBounds_toArray]); (try simp only [List.set_cons_succ]); (try simp only [List.set_cons_zero]))
      (refine wpAnyH_take (i := 9) (v := ?_) rfl (by kernel_rfl) (by kernel_rfl) (by kernel_rfl) (fun _ _ _ h => h) (Or.inl ⟨by rfl, ?_⟩) (by assumption) ?_; rotate_left; (focus (intro w' hSw; go_simp; try with_reducible rfl)); (try simp only [List.getElem_toArray]); (try simp only [List.getElem_cons_succ]); (try simp only [List.getElem_cons_zero]); (try simp only [Act.put]); (try simp only [List.setIfInBounds_toArray]); (try simp only [List.set_cons_succ]); (try simp only [List.set_cons_zero]))
      (refine wpAnyH_take (i := 10) (v := ?_) rfl (by kernel_rfl) (by kernel_rfl) (by kernel_rfl) (fun _ _ _ h => h) (Or.inl ⟨by rfl, ?_⟩) (by assumption) ?_; rotate_left; (focus (intro w' hSw; go_simp; try with_reducible rfl)); (try simp only [List.getElem_toArray]); (try simp only [List.getElem_cons_succ]); (try simp only [List.getElem_cons_zero]); (try simp only [Act.put]); (try simp only [List.setIfInBounds_toArray]); (try simp only [List.set_cons_succ]); (try simp only [List.set_cons_zero]))
      (refine wpAnyH_take (i := 11) (v := undef) rfl (by kernel_rfl) (by kernel_rfl) (by kernel_rfl) (fun _ _ _ h => h) (Or.inr ⟨by rfl, rfl⟩) (by assumption) ?_; (try simp only [List.getElem_toArray]); (try simp only [List.getElem_cons_succ]); (try simp only [List.getElem_cons_zero]); (try simp only [Act.put]); (try simp only [List.setIfInBounds_toArray]); (try simp only [List.set_cons_succ]); (try simp only [List.set_cons_zero]))
      (refine wpAnyH_take (i := 12) (v := undef) rfl (by kernel_rfl) (by kernel_rfl) (by kernel_rfl) (fun _ _ _ h => h) (Or.inr ⟨by rfl, rfl⟩) (by assumption) ?_; (try simp only [List.getElem_toArray]); (try simp only [List.getElem_cons_succ]); (try simp only [List.getElem_cons_zero]); (try simp only [Act.put]); (try simp only [List.setIfInBounds_toArray]); (try simp only [List.set_cons_succ]); (try simp only [List.set_cons_zero]))
      (refine wpAnyH_take (i := 13) (v := undef) rfl (by kernel_rfl) (by kernel_rfl) (by kernel_rfl) (fun _ _ _ h => h) (Or.inr ⟨by rfl, rfl⟩) (by assumption) ?_; (try simp only [List.getElem_toArray]); (try simp only [List.getElem_cons_succ]); (try simp only [List.getElem_cons_zero]); (try simp only [Act.put]); (try simp only [List.setIfInBounds_toArray]); (try simp only [List.set_cons_succ]); (try simp only [List.set_cons_zero]))
      (refine wpAnyH_take (i := 14) (v := undef) rfl (by kernel_rfl) (by kernel_rfl) (by kernel_rfl) (fun _ _ _ h => h) (Or.inr ⟨by rfl, rfl⟩) (by assumption) ?_; (try simp only [List.getElem_toArray]); (try simp only [List.getElem_cons_succ]); (try simp only [List.getElem_cons_zero]); (try simp only [Act.put]); (try simp only [List.setIfInBounds_toArray]); (try simp only [List.set_cons_succ]); (try simp only [List.set_cons_zero]))
      (refine wpAnyH_take (i := 15) (v := undef) rfl (by kernel_rfl) (by kernel_rfl) (by kernel_rfl) (fun _ _ _ h => h) (Or.inr ⟨by rfl, rfl⟩) (by assumption) ?_; (try simp only [List.getElem_toArray]); (try simp only [List.getElem_cons_succ]); (try simp only [List.getElem_cons_zero]); (try simp only [Act.put]); (try simp only [List.setIfInBounds_toArray]); (try simp only [List.set_cons_succ]); (try simp only [List.set_cons_zero]))
      (refine wpAnyH_take (i := 16) (v := undef) rfl (by kernel_rfl) (by kernel_rfl) (by kernel_rfl) (fun _ _ _ h => h) (Or.inr ⟨by rfl, rfl⟩) (by assumption) ?_; (try simp only [List.getElem_toArray]); (try simp only [List.getElem_cons_succ]); (try simp only [List.getElem_cons_zero]); (try simp only [Act.put]); (try simp only [List.setIfInBounds_toArray]); (try simp only [List.set_cons_succ]); (try simp only [List.set_cons_zero]))
      (refine wpAnyH_take (i := 17) (v := ?_) rfl (by kernel_rfl) (by kernel_rfl) (by kernel_rfl) (fun _ _ _ h => h) (Or.inl ⟨by rfl, ?_⟩) (by assumption) ?_; rotate_left; (focus (intro w' hSw; go_simp; try with_reducible rfl)); (try simp only [List.getElem_toArray]); (try simp only [List.getElem_cons_succ]); (try simp only [List.getElem_cons_zero]); (try simp only [Act.put]); (try simp only [List.setIfInBounds_toArray]); (try simp only [List.set_cons_succ]); (try simp only [List.set_cons_zero]))
      (refine wpAnyH_take (i := 18) (v := ?_) rfl (by kernel_rfl) (by kernel_rfl) (by kernel_rfl) (fun _ _ _ h => h) (Or.inl ⟨by rfl, ?_⟩) (by assumption) ?_; rotate_left; (focus (intro w' hSw; go_simp; try with_reducible rfl)); (try simp only [List.getElem_toArray]); (try simp only [List.getElem_cons_succ]); (try simp only [List.getElem_cons_zero]); (try simp only [Act.put]); (try simp only [List.setIfInBounds_toArray]); (try simp only [List.set_cons_succ]); (try simp only [List.set_cons_zero]))
      refine wpAnyH_done (by kernel_rfl) ?_ _
      go_wp2
      go_ret
      exact ⟨by rw [HS.out, hss]; rfl, E04.trans (Ext.drew (Ext.refl _))⟩
    · go_wp2
      refine wp_region_held_drew (S := fun w' => Ext w4 w') (by kernel_rfl) (Ext.drew (Ext.refl _)) (fun hHeld => ?_)
      (refine wpAnyH_take (i := 0) (v := ?_) rfl (by kernel_rfl) (by kernel_rfl) (by kernel_rfl) (fun _ _ _ h => h) (Or.inl ⟨by rfl, ?_⟩) (by assumption) ?_; rotate_left; (focus (intro w' hSw; go_simp; try with_reducible rfl)); (try simp only [List.getElem_toArray]); (try simp only [List.getElem_cons_succ]); (try simp only [List.getElem_cons_zero]); (try simp only [Act.put]); (try simp only [List.setIfInBounds_toArray]); (try simp only [List.set_cons_succ]); (try simp only [List.set_cons_zero]))
      (refine wpAnyH_take (i := 1) (v := ?_) rfl (by kernel_rfl) (by kernel_rfl) (by kernel_rfl) (fun _ _ _ h => h) (Or.inl ⟨by rfl, ?_⟩) (by assumption) ?_; rotate_left; (focus (intro w' hSw; go_simp; try with_reducible rfl)); (try simp only [List.getElem_toArray]); (try simp only [List.getElem_cons_succ]); (try simp only [List.getElem_cons_zero]); (try simp only [Act.put]); (try simp only [List.setIfInBounds_toArray]); (try simp only [List.set_cons_succ]); (try simp only [List.set_cons_zero]))
      (refine wpAnyH_take (i := 2) (v := ?_) rfl (by kernel_rfl) (by kernel_rfl) (by kernel_rfl) (fun _ _ _ h => h) (Or.inl ⟨by rfl, ?_⟩) (by assumption) ?_; rotate_left; (focus (intro w' hSw; go_simp; try with_reducible rfl)); (try simp only [List.getElem_toArray]); (try simp only [List.getElem_cons_succ]); (try simp only [List.getElem_cons_zero]); (try simp only [Act.put]); (try simp only [List.setIfInBounds_toArray]); (try simp only [List.set_cons_succ]); (try simp only [List.set_cons_zero]))
      (refine wpAnyH_take (i := 3) (v := ?_) rfl (by kernel_rfl) (by kernel_rfl) (by kernel_rfl) (fun _ _ _ h => h) (Or.inl ⟨by rfl, ?_⟩) (by assumption) ?_; rotate_left; (focus (intro w' hSw; go_simp; try with_reducible rfl)); (try simp only [List.getElem_toArray]); (try simp only [List.getElem_cons_succ]); (try simp only [List.getElem_cons_zero]); (try simp only [Act.put]); (try simp only [List.setIfInBounds_toArray]); (try simp only [List.set_cons_succ]); (try simp only [List.set_cons_zero]))
      (refine wpAnyH_take (i := 4) (v := ?_) rfl (by kernel_rfl) (by kernel_rfl) (by kernel_rfl) (fun _ _ _ h => h) (Or.inl ⟨by rfl, ?_⟩) (by assumption) ?_; rotate_left; (focus (intro w' hSw; go_simp; try with_reducible rfl)); (try simp only [List.getElem_toArray]); (try simp only [List.getElem_cons_succ]); (try simp only [List.getElem_cons_zero]); (try simp only [Act.put]); (try simp only [List.setIfInBounds_toArray]); (try simp only [List.set_cons_succ]); (try simp only [List.set_cons_zero]))
      (refine wpAnyH_take (i := 5) (v := ?_) rfl (by kernel_rfl) (by kernel_rfl) (by kernel_rfl) (fun _ _ _ h => h) (Or.inl ⟨by rfl, ?_⟩) (by assumption) ?_; rotate_left; (focus (intro w' hSw; have kc := cell_ext hSw u3.out; go_simp; try with_reducible rfl)); (try simp only [List.getElem_toArray]); (try simp only [List.getElem_cons_succ]); (try simp only [List.getElem_cons_zero]); (try simp only [Act.put]); (try simp only [List.setIfInBounds_toArray]); (try simp only [List.set_cons_succ]); (try simp only [List.set_cons_zero]))
      (refine wpAnyH_take (i := 6) (v := ?_) rfl (by kernel_rfl) (by kernel_rfl) (by kernel_rfl) (fun _ _ _ h => h) (Or.inl ⟨by rfl, ?_⟩) (by assumption) ?_; rotate_left; (focus (intro w' hSw; go_simp; try with_reducible rfl)); (try simp only [List.getElem_toArray]); (try simp only [List.getElem_cons_succ]); (try simp only [List.getElem_cons_zero]); (try simp only [Act.put]); (try simp only [List.setIfInBounds_toArray]); (try simp only [List.set_cons_succ]); (try simp only [List.set_cons_zero]))
      (refine wpAnyH_take (i := 7) (v := ?_) rfl (by kernel_rfl) (by kernel_rfl) (by kernel_rfl) (fun _ _ _ h => h) (Or.inl ⟨by rfl, ?_⟩) (by assumption) ?_; rotate_left; (focus (intro w' hSw; have kc := (prAt_blk hok (hp4.out.ext hSw)).c3; go_simp; try with_reducible rfl)); (try simp only [List.getElem_toArray]); (try simp only [List.getElem_cons_succ]); (try simp only [List.getElem_cons_zero]); (try simp only [Act.put]); (try simp only [List.setIfInBounds_toArray]); (try simp only [List.set_cons_succ]); (try simp only [List.set_cons_zero]))
      (refine wpAnyH_take (i := 8) (v := ?_) rfl (by kernel_rfl) (by kernel_rfl) (by kernel_rfl) (fun _ _ _ h => h) (Or.inl ⟨by rfl, ?_⟩) (by assumption) ?_; rotate_left; (focus (intro w' hSw; go_simp; try with_reducible rfl)); (try simp only [List.getElem_toArray]); (try simp only [List.getElem_cons_succ]); (try simp only [List.getElem_cons_zero]); (try simp only [Act.put]); (try simp only [List.setIfInBounds_toArray]); (try simp only [List.set_cons_succ]); (try simp only [List.set_cons_zero]))
      (refine wpAnyH_take (i := 9) (v := ?_) rfl (by kernel_rfl) (by kernel_rfl) (by kernel_rfl) (fun _ _ _ h => h) (Or.inl ⟨by rfl, ?_⟩) (by assumption) ?_; rotate_left; (focus (intro w' hSw; go_simp; try with_reducible rfl)); (try simp only [List.getElem_toArray]); (try simp only [List.getElem_cons_succ]); (try simp only [List.getElem_cons_zero]); (try simp only [Act.put]); (try simp only [List.setIfInBounds_toArray]); (try simp only [List.set_cons_succ]); (try simp only [List.set_cons_zero]))
      (refine wpAnyH_take (i := 10) (v := ?_) rfl (by kernel_rfl) (by kernel_rfl) (by kernel_rfl) (fun _ _ _ h => h) (Or.inl ⟨by rfl, ?_⟩) (by assumption) ?_; rotate_left; (focus (intro w' hSw; go_simp; try with_reducible rfl)); (try simp only [List.getElem_toArray]); (try simp only [List.getElem_cons_succ]); (try simp only [List.getElem_cons_zero]); (try simp only [Act.put]); (try simp only [List.setIfInBounds_toArray]); (try simp only [List.set_cons_succ]); (try simp only [List.set_cons_zero]))
      (refine wpAnyH_take (i := 11) (v := ?_) rfl (by kernel_rfl) (by kernel_rfl) (by kernel_rfl) (fun _ _ _ h => h) (Or.inl ⟨by rfl, ?_⟩) (by assumption) ?_; rotate_left; (focus (intro w' hSw; go_simp; try with_reducible rfl)); (try simp only [List.getElem_toArray]); (try simp only [List.getElem_cons_succ]); (try simp only [List.getElem_cons_zero]); (try simp only [Act.put]); (try simp only [List.setIfInBounds_toArray]); (try simp only [List.set_cons_succ]); (try simp only [List.set_cons_zero]))
      (refine wpAnyH_take (i := 12) (v := ?_) rfl (by kernel_rfl) (by kernel_rfl) (by kernel_rfl) (fun _ _ _ h => h) (Or.inl ⟨by rfl, ?_⟩) (by assumption) ?_; rotate_left; (focus (intro w' hSw; go_simp; try with_reducible rfl)); (try simp only [List.getElem_toArray]); (try simp only [List.getElem_cons_succ]); (try simp only [List.getElem_cons_zero]); (try simp only [Act.put]); (try simp only [List.setIfInBounds_toArray]); (try simp only [List.set_cons_succ]); (try simp only [List.set_cons_zero]))
      (refine wpAnyH_take (i := 13) (v := ?_) rfl (by kernel_rfl) (by kernel_rfl) (by kernel_rfl) (fun _ _ _ h => h) (Or.inl ⟨by rfl, ?_⟩) (by assumption) ?_; rotate_left; (focus (intro w' hSw; go_simp; try with_reducible rfl)); (try simp only [List.getElem_toArray]); (try simp only [List.getElem_cons_succ]); (try simp only [List.getElem_cons_zero]); (try simp only [Act.put]); (try simp only [List.setIfInBounds_toArray]); (try simp only [List.set_cons_succ]); (try simp only [List.set_cons_zero]))
      (refine wpAnyH_take (i := 14) (v := ?_) rfl (by kernel_rfl) (by kernel_rfl) (by kernel_rfl) (fun _ _ _ h => h) (Or.inl ⟨by rfl, ?_⟩) (by assumption) ?_; rotate_left; (focus (intro w' hSw; have kc := cell_ext hSw u2.out; go_simp; try with_reducible rfl)); (try simp only [List.getElem_toArray]); (try simp only [List.getElem_cons_succ]); (try simp only [List.getElem_cons_zero]); (try simp only [Act.put]); (try simp only [List.setIfInBounds_toArray]); (try simp only [List.set_cons_succ]); (try simp only [List.set_cons_zero]))
      (refine wpAnyH_take (i := 15) (v := ?_) rfl (by kernel_rfl) (by kernel_rfl) (by kernel_rfl) (fun _ _ _ h => h) (Or.inl ⟨by rfl, ?_⟩) (by assumption) ?_; rotate_left; (focus (intro w' hSw; have kc := (hm4.out.ext hSw).cell0; go_simp; try with_reducible rfl)); (try simp only [List.getElem_toArray]); (try simp only [List.getElem_cons_succ]); (try simp only [List.getElem_cons_zero]); (try simp only [Act.put]); (try simp only [List.setIfInBounds_toArray]); (try simp only [List.set_cons_succ]); (try simp only [List.set_cons_zero]))
      (refine wpAnyH_take (i := 16) (v := ?_) rfl (by kernel_rfl) (by kernel_rfl) (by kernel_rfl) (fun _ _ _ h => h) (Or.inl ⟨by rfl, ?_⟩) (by assumption) ?_; rotate_left; (focus (intro w' hSw; go_simp; try with_reducible rfl)); (try simp only [List.getElem_toArray]); (try simp only [List.getElem_cons_succ]); (try simp only [List.getElem_cons_zero]); (try simp only [Act.put]); (try simp only [List.setIfInBounds_toArray]); (try simp only [List.set_cons_succ]); (try simp only [List.set_cons_zero]))
      (refine wpAnyH_take (i := 17) (v := ?_) rfl (by kernel_rfl) (by kernel_rfl) (by kernel_rfl) (fun _ _ _ h => h) (Or.inl ⟨by rfl, ?_⟩) (by assumption) ?_; rotate_left; (focus (intro w' hSw; go_simp; try with_reducible rfl)); (try simp only [List.getElem_toArray]); (try simp only [List.getElem_cons_succ]); (try simp only [List.getElem_cons_zero]); (try simp only [Act.put]); (try simp only [List.setIfInBounds_toArray]); (try simp only [List.set_cons_succ]); (try simp only [List.set_cons_zero]))
      (refine wpAnyH_take (i := 18) (v := ?_) rfl (by kernel_rfl) (by kernel_rfl) (by kernel_rfl) (fun _ _ _ h => h) (Or.inl ⟨by rfl, ?_⟩) (by assumption) ?_; rotate_left; (focus (intro w' hSw; go_simp; try with_reducible rfl)); (try simp only [List.getElem_toArray]); (try simp only [List.getElem_cons_succ]); (try simp only [List.getElem_cons_zero]); (try simp only [Act.put]); (try simp only [List.setIfInBounds_toArray]); (try simp only [List.set_cons_succ]); (try simp only [List.set_cons_zero]))
      refine wpAnyH_done (by kernel_rfl) ?_ _
      go_wp2
      go_ret
      exact ⟨by rw [HS.out, hss]; rfl, E04.trans (Ext.drew (Ext.refl _))⟩
theorem asks_orph {A : Nat → Prop} {Ad : Option Addr} {c : Nat} {l : List Pr} {nx g : Int} {n m : Nat} {w : World} (h : RdY Rp A w (.slice Ad l.length c) l) (hn : Blk w n 29 #[.slice Ad l.length c, .int .i64 nx]) (hm : Blk w m 3 #[.int .i64 g]) :
    Asks 82 #[] #[.pointer (some ⟨n, 0, none⟩), .pointer (some ⟨m, 0, none⟩)] (seenP l g) w :=
  ⟨enters_orph, fun p w' hp hE => orph1_any Ad c l nx g n m p w' hp (h.ext hE) (hn.ext hE) (hm.ext hE)⟩
/-- is a group orphaned? -/
def orphL (l : List Pr) (nx g : Int) : Bool := rightL l nx && !(l.filter (ofP g)).any (seenP l g)
set_option maxRecDepth 100000 in
set_option maxHeartbeats 800000 in
theorem orphaned_any {A : Nat → Prop} (Ad : Option Addr) (c : Nat) (l : List Pr) (nx g : Int) (w : World) (h : RdY Rp A w (.slice Ad l.length c) l) :
    Calls Tryz.prog 48 #[tv Ad l.length c nx, .int .i64 g] w fun e w' => e = .returned (.bool (orphL l nx g)) ∧ Ext w w' := by
  have H := Lib.hid (rdy_pr (B := fun _ => False) h)
  obtain ⟨W, hW⟩ : ∃ W, W = (w.alloc (.cells #[.slice Ad l.length c, .int .i64 nx] 29)).alloc (.cells #[.int .i64 g] 3) := ⟨_, rfl⟩
  have hb := Lib.hid (show Blk W (w.heap.size + 1) 3 #[.int .i64 g] by rw [hW]; exact Blk.at_ _ _ (by simp))
  have ha := Lib.hid (show Blk W w.heap.size 29 #[.slice Ad l.length c, .int .i64 nx] by rw [hW]; exact (Blk.new w _ _).alloc _)
  have E0 : Ext w W := by rw [hW]; exact (by repeat (first | with_reducible exact Ext.refl _ | refine Ext.drewN ?_ _ | refine Ext.drew ?_ | refine Ext.alloc ?_ _ | assumption | (refine Below.trans ?_ (by assumption)) | (refine Ext.trans ?_ (by assumption)) | (refine Below.trans ?_ (Below.mono (by assumption) (by omega)))))
  have HW := Lib.hid hW
  clear h hW
  go_enter Tryz.func48, Tryz.ntmps48
  go_wp2_with fail
  rw [← HW.out]
  refine (right_any Ad c l nx _ (H.out.ext E0)).mono ?_
  rintro e w1 ⟨rfl, E1⟩
  have ka := (ha.out.ext E1).two
  have kb := (hb.out.ext E1).cell0
  have E01 := E0.trans E1
  cases hr : rightL l nx
  · have HS := Lib.hid (show orphL l nx g = false by unfold orphL; rw [hr]; rfl)
    clear hr
    go_wp2
    go_ret
    exact ⟨by rw [HS.out]; rfl, E01⟩
  · have hl := (right_len hr).1
    have HS := Lib.hid (show orphL l nx g = !(l.filter (ofP g)).any (seenP l g) by unfold orphL; rw [hr]; rfl)
    have HL := Lib.hid hl
    clear hr hl
    go_wp2_with fail
    refine (of_any Ad c l nx g w1 (H.out.ext E01) (by have := HL.out; omega)).mono ?_
    rintro e w2 ⟨A2, c2, rfl, O2, E2⟩
    have E02 := E01.trans E2
    have ha2 := Lib.hid (ha.out.ext (E1.trans E2))
    have hb2 := Lib.hid (hb.out.ext (E1.trans E2))
    have O2 := Lib.hid O2
    obtain ⟨L, hL⟩ : ∃ L, l.filter (ofP g) = L := ⟨_, rfl⟩
    rw [hL] at O2 HS ⊢
    obtain ⟨N, hN⟩ : ∃ N, L.length = N := ⟨_, rfl⟩
    rw [hN] at O2 ⊢
    clear ka kb hL hN
    go_wp2_with fail
    refine (contains_any _ _ _ (seenP l g) _ L w2 (rdy_pr (B := fun _ => False) O2.out.y) (asks_orph (H.out.ext E02) ha2.out hb2.out)).mono ?_
    rintro e w3 ⟨rfl, E3⟩
    go_wp2
    go_ret
    exact ⟨by rw [HS.out]; rfl, E02.trans E3⟩
end Go.Proofs.YteljobleojhgmaaGreat
