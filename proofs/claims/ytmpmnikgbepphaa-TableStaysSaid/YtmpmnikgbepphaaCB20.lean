/- The document's answer: Members, Orphaned, Set; lists of numbers, by contract. No condition. -/
import Derived.Test.YtmpmnikgbepphaaBB20
namespace Go.Proofs.Ytmpmnikgbepphaa
open Go.RowKit Go.Kb

theorem own_atR {base G n c j : Nat} {B : Nat → Prop} {w : World} {l : List Pr} {p : Pr} (h : OwnS Rp 58 base B w (.slice (some ⟨G, 0, none⟩) n c) l) (hp : l[j]? = some p) : p.ok ∧ base ≤ G ∧ G < w.heap.size ∧ PrAt w G (j * 43) p ∧ (∀ o, w.frozen? ⟨G, o, none⟩ = false) ∧ ∀ i u, p.cells[i]? = some u → w.cell? ⟨G, j * 43 + i, none⟩ = some u := by
  have hj : j < l.length := (List.getElem?_eq_some_iff.1 hp).1
  obtain ⟨_, _, hv, _⟩ := h.shape
  simp only [Value.slice.injEq] at hv
  obtain ⟨-, hl, -⟩ := hv
  obtain ⟨b, off, q, hb, hd, hok, hc⟩ := pr_at h.y (show j < n by omega)
  cases hb
  rw [hp] at hd
  have hq : p = q := by have := hd.out; cases this; rfl
  subst hq
  have hc := hc.out
  simp only [Nat.zero_add] at hc
  have hf := (h.addr (by omega))
  obtain ⟨g, hg, _, hfr⟩ := hf
  cases hg
  obtain ⟨h1, h2⟩ := h.row G rfl
  exact ⟨hok, h1, h2, prAt_of hok hc, hfr, hc⟩
theorem own_rowR {base G n c j : Nat} {w : World} {l : List Pr} {p' : Pr} (h : OwnS Rp 58 base (fun _ => False) w (.slice (some ⟨G, 0, none⟩) n c) l) (hj : j < n) (hk : p'.ok) :
    OwnS Rp 58 base (fun _ => False) (w.setCells G (j * 43) p'.cells) (.slice (some ⟨G, 0, none⟩) n c) (l.set j p') := by
  obtain ⟨us, ho, he⟩ := h
  have hln := own_len ho
  obtain ⟨hul, ⟨hv, _⟩ | ⟨g', cap, cur, hv, hb0, hb, hcap, hmax, hcs, htk⟩⟩ := ho
  · cases hv
  cases hv
  clear hln
  have hul : us.length = l.length * 43 := hul
  have hcs : cur.size = c * 43 := hcs
  have htk : List.take (l.length * 43) cur.toList = us := htk
  have hb : Blk w G 58 cur := hb
  have hpl := Pr.len hk
  have hB := Blk.setCells p'.cells (j * 43) w cur hb (by rw [hpl, hcs]; omega)
  have htl : (cur.toList.take (j * 43)).length = j * 43 := by simp; omega
  have hset : l.set j p' = l.take j ++ ([p'] ++ l.drop (j + 1)) := by rw [List.set_eq_take_append_cons_drop, if_pos hj]; rfl
  refine ⟨us.take (j * 43) ++ (p'.cells ++ us.drop ((j + 1) * 43)), ⟨?_, .inr ⟨G, c, _, by rw [List.length_set], hb0, hB, by rw [List.length_set]; exact hcap, hmax, ?_, ?_⟩⟩, ?_⟩
  · rw [List.length_set, List.length_append, List.length_append, List.length_take, List.length_drop, hpl, hul]
    show _ = l.length * 43
    omega
  · rw [List.size_toArray, List.length_append, List.length_append, htl, hpl, List.length_drop, Array.length_toList, hcs]
    show _ = c * 43
    omega
  · rw [List.length_set]
    show ((cur.toList.take (j * 43) ++ p'.cells) ++ cur.toList.drop (j * 43 + p'.cells.length)).take (l.length * 43) = _
    rw [← htk, hpl, mid_take cur.toList p'.cells (j * 43) 43 (l.length * 43) hpl (by omega) (by have : cur.toList.length = cur.size := rfl; omega), Nat.add_mul, Nat.one_mul]
  · rw [hset]
    have e1 := he.take j (by omega)
    have e2 := he.drop (j + 1)
    exact RdE.keep (RdE.append e1 (RdE.append (RdE.single (rp_rel _ w hk)) e2)) fun k _ hk => hk.1.elim
theorem seen_get {l : List Pr} {nx g : Int} {p : Pr} (hr : rightL l nx = true) : seenP l g p = (liveL l nx p.parent && ((getL l nx p.parent).1.session == p.session && (getL l nx p.parent).1.group != g)) := by
  rw [live_get]
  unfold seenP getL
  rw [hr]
  simp only [if_true]
  obtain ⟨_, _, hri⟩ := right_rise hr
  cases hf : l.find? (fun q => q.pid == p.parent && liveP q) with
  | none =>
    rw [List.find?_eq_none] at hf
    cases hf2 : l.find? (fun q => q.pid == p.parent) with
    | none => rfl
    | some q =>
      have h1 := List.mem_of_find?_eq_some hf2
      have h2 := List.find?_some hf2
      have h3 := hf q h1
      simp only [h2, Bool.true_and, Bool.not_eq_true] at h3
      simp [h3]
  | some q =>
    have h1 := List.mem_of_find?_eq_some hf
    have h2 := List.find?_some hf
    simp only [Bool.and_eq_true, beq_iff_eq] at h2
    have h3 := rise_find hri q h1
    rw [h2.1] at h3
    rw [h3]
    simp [h2.2]
set_option maxRecDepth 100000 in
set_option maxHeartbeats 800000 in
theorem rmembers_any {A : Nat → Prop} (Ad : Option Addr) (c : Nat) (l : List Pr) (nx group : Int) (w : World) (h : RdY Rp A w (.slice Ad l.length c) l) :
    Calls Try.prog 28 #[tv Ad l.length c nx, .int .i64 group] w fun e w' => ∃ A' c', e = .returned (.slice A' (memL l nx group).length c') ∧ OwnS Ib 3 w.heap.size (fun _ => False) w' (.slice A' (memL l nx group).length c') (memL l nx group) ∧ Ext w w' := by
  have H := Lib.hid (rdy_pr (B := fun _ => False) h)
  have hbox := Lib.hid (Blk.new w 31 #[.slice Ad l.length c, .int .i64 nx])
  have E0 : Ext w (w.alloc (.cells #[.slice Ad l.length c, .int .i64 nx] 31)) := (by repeat (first | with_reducible exact Ext.refl _ | refine Ext.drewN ?_ _ | refine Ext.drew ?_ | refine Ext.alloc ?_ _ | assumption | (refine Below.trans ?_ (by assumption)) | (refine Ext.trans ?_ (by assumption)) | (refine Below.trans ?_ (Below.mono (by assumption) (by omega)))))
  obtain ⟨_, _, hv, hc1, _⟩ := h.shape
  simp only [Value.slice.injEq] at hv
  obtain ⟨-, -, rfl⟩ := hv
  clear h
  go_enter Try.func28, Try.ntmps28
  go_wp2_with fail
  refine (rright_any Ad c l nx _ (H.out.ext E0)).mono ?_
  rintro e w1 ⟨rfl, E1⟩
  have E01 : Ext w w1 := E0.trans E1
  have kb := (hbox.out.ext E1).two
  clear E1 E0
  cases hr : rightL l nx
  · have HM := Lib.hid (show memL l nx group = [] by unfold memL; rw [hr]; rfl)
    clear hr
    go_wp2
    go_ret
    rw [HM.out]
    exact ⟨none, 0, rfl, OwnS.nil _ _ _ _ _, E01⟩
  · have hl := (right_len hr).1
    have HM := Lib.hid (show memL l nx group = (l.filter (ofP group)).map (·.pid) by unfold memL; rw [hr]; rfl)
    obtain ⟨N, hN⟩ : ∃ N, l.length = N := ⟨_, rfl⟩
    rw [hN] at H hl hc1 kb ⊢
    have HN := Lib.hid hN
    have H1 := Lib.hid (H.out.ext E01)
    clear hr hN hbox
    go_wp2
    go_loopw [5, 14] (fun o i wr => ∃ (m k c' : Nat) (A' : Option Addr), m ≤ N ∧ i = .int .i64 m ∧ o = .slice A' k c' ∧ k ≤ m ∧ Hid (((ofN group l m).map (·.pid)).length = k) ∧ Hid (OwnS Ib 3 w1.heap.size (fun _ => False) wr (.slice A' k c') ((ofN group l m).map (·.pid))) ∧ Ext w1 wr) (fun _ i _ => N - (intOf i).toNat)
    case atStart => exact ⟨0, 0, 0, none, Nat.zero_le _, rfl, rfl, Nat.le_refl _, Lib.hid rfl, Lib.hid (OwnS.nil _ _ _ _ _), Ext.refl _⟩
    case round =>
      obtain ⟨m, k, c', A', hm, rfl, rfl, hk, HK, O, hE⟩ := hrel
      by_cases hmn : m < N
      · obtain ⟨b, off, p, rfl, hd, hok, hcell⟩ := pr_at (H1.out.ext hE) hmn
        have hws := hE.size
        obtain ⟨n7, hn7⟩ : ∃ n7, wr.heap.size = n7 := ⟨_, rfl⟩
        cases hlv : ofP group p
        · have HY := Lib.hid (show (ofN group l (m + 1)).map (·.pid) = (ofN group l m).map (·.pid) by rw [ofN_no hd.out hlv])
          have hlp := hlv
          unfold ofP at hlp
          clear hlv hd
          cases hg : (p.group == group)
          · clear hlp
            go_wp2_with (first
              | (refine wpList_load_mid rfl 58 _ rfl b (off + m * 43) rfl p.cells _ hcell.out Try.underlying58 rfl (i43r' hok) ?_)
              | ((refine wpList_store_A rfl 58 _ _ rfl (n7) _ rfl rfl 58 _ (zero_rowR wr n7 hn7) (by rw [List.size_toArray]; exact i43r' hok) (Eq.trans (b := 43) (by rfl) (Eq.symm (show (p).cells.toArray.size = 43 from Pr.size hok))) (Pr.one hok) ?_); intro w2 H2 E2; have E2 : Ext wr w2 := E2 wr.heap.size wr ((Ext.refl wr).alloc _) (by omega); have c2 := (prAt_blk hok H2).c2))
            go_roundw
            case rel => exact ⟨m + 1, k, c', A', by omega, by go_num, rfl, by omega, Lib.hid (by rw [HY.out, HK.out]), Lib.hid (by rw [HY.out]; exact O.out.ext E2), hE.trans E2⟩
            case measure => simp [intOf]; omega
          · have hst : (p.state != 3) = false := by rw [hg, Bool.and_true] at hlp; exact hlp
            clear hlp
            go_wp2_with (first
              | (refine wpList_load_mid rfl 58 _ rfl b (off + m * 43) rfl p.cells _ hcell.out Try.underlying58 rfl (i43r' hok) ?_)
              | ((refine wpList_store_A rfl 58 _ _ rfl (n7) _ rfl rfl 58 _ (zero_rowR wr n7 hn7) (by rw [List.size_toArray]; exact i43r' hok) (Eq.trans (b := 43) (by rfl) (Eq.symm (show (p).cells.toArray.size = 43 from Pr.size hok))) (Pr.one hok) ?_); intro w2 H2 E2; have E2 : Ext wr w2 := E2 wr.heap.size wr ((Ext.refl wr).alloc _) (by omega); have c2 := (prAt_blk hok H2).c2; have c4 := (prAt_blk hok H2).c4))
            go_roundw
            case rel => exact ⟨m + 1, k, c', A', by omega, by go_num, rfl, by omega, Lib.hid (by rw [HY.out, HK.out]), Lib.hid (by rw [HY.out]; exact O.out.ext E2), hE.trans E2⟩
            case measure => simp [intOf]; omega
        · have HY := Lib.hid (show (ofN group l (m + 1)).map (·.pid) = (ofN group l m).map (·.pid) ++ [p.pid] by rw [ofN_yes hd.out hlv]; simp)
          have hlp := hlv
          unfold ofP at hlp
          simp only [Bool.and_eq_true] at hlp
          obtain ⟨hst, hg⟩ := hlp
          have hst : (p.state != 3) = true := hst
          clear hlv hd
          go_wp2_with (first
            | (refine wpList_load_mid rfl 58 _ rfl b (off + m * 43) rfl p.cells _ hcell.out Try.underlying58 rfl (i43r' hok) ?_)
            | ((refine wpList_store_A rfl 58 _ _ rfl (n7) _ rfl rfl 58 _ (zero_rowR wr n7 hn7) (by rw [List.size_toArray]; exact i43r' hok) (Eq.trans (b := 43) (by rfl) (Eq.symm (show (p).cells.toArray.size = 43 from Pr.size hok))) (Pr.one hok) ?_); intro w4 H2 E4; have E4 : Ext wr w4 := E4 wr.heap.size wr ((Ext.refl wr).alloc _) (by omega); have c2 := (prAt_blk hok H2).c2; have c4 := (prAt_blk hok H2).c4; have c0 := (prAt_blk hok H2).c0; have hws4 := E4.size)
            | (at_builtin; refine wpList_app (e := Ib) (base := w1.heap.size) (B := fun _ => False) (A := fun _ => False) rfl (.tmp 27) (.tmp 30) rfl Try.underlying50 info_i64 rfl ((O.out.ext E4).alloc _) rfl (RdY.singleB (e := Ib) (cs := [.int .i64 p.pid]) (d := p.pid) rfl (Blk.at_ _ _ rfl)) rfl (fun _ _ h => h.elim) (N := k + 1) (by rw [HK.out]; rfl) (by simp [maxLen]; omega) (by omega) (by simp; omega) ?_; intro A5 c5 w5 o5 M5 D5))
          have E5 : Ext w1 w5 := Below.trans ((hE.trans E4).alloc _) D5
          have o5 := Lib.hid o5
          clear M5 D5
          go_roundw
          case rel => exact ⟨m + 1, k + 1, c5, A5, by omega, by go_num, rfl, by omega, Lib.hid (by rw [HY.out, List.length_append, HK.out]; rfl), Lib.hid (by rw [HY.out]; exact o5.out), E5⟩
          case measure => simp [intOf]; omega
      · obtain rfl : m = N := by omega
        have hf : (ofN group l m).map (·.pid) = memL l nx group := by rw [HM.out]; unfold ofN; rw [← HN.out, List.take_length]
        have O2 := O.out
        have hk2 := HK.out
        rw [hf] at O2 hk2
        have O2 := Lib.hid O2
        have HK2 := Lib.hid hk2
        clear hk2 hf
        go_wp2
        go_ret
        rw [HK2.out]
        exact ⟨A', c', rfl, O2.out.lower E01.size, E01.trans hE⟩
end Go.Proofs.Ytmpmnikgbepphaa
