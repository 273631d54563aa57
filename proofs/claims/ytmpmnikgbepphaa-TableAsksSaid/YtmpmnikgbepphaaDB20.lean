/- The document's answer: Orphaned, Set; lists of numbers that are the same; by contract. No condition. -/
import Derived.Test.YtmpmnikgbepphaaCB20
namespace Go.Proofs.Ytmpmnikgbepphaa
open Go.RowKit Go.Kb

/-- what the loop asks of a member -/
def seenK (l : List Pr) (g k : Int) : Bool := match l.find? (fun q => q.pid == k) with
  | none => false
  | some p => seenP l g p
theorem orph_mem {l : List Pr} {nx g : Int} (hr : rightL l nx = true) : orphL l nx g = !(memL l nx g).any (seenK l g) := by
  unfold orphL memL
  rw [hr]
  simp only [Bool.true_and, if_true, List.any_map]
  congr 1
  obtain ⟨_, _, hri⟩ := right_rise hr
  rw [Bool.eq_iff_iff, List.any_eq_true, List.any_eq_true]
  constructor
  · rintro ⟨p, hp, h⟩
    refine ⟨p, hp, ?_⟩
    show seenK l g p.pid = true
    unfold seenK
    rw [rise_find hri p (List.mem_filter.1 hp).1]
    exact h
  · rintro ⟨p, hp, h⟩
    refine ⟨p, hp, ?_⟩
    have h : seenK l g p.pid = true := h
    unfold seenK at h
    rw [rise_find hri p (List.mem_filter.1 hp).1] at h
    exact h
theorem mem_at {l : List Pr} {nx g : Int} (hr : rightL l nx = true) {m : Nat} {x : Int} (h : (memL l nx g)[m]? = some x) : ∃ p ∈ l, p.pid = x ∧ p.group = g ∧ liveP p = true ∧ getL l nx x = (p, true) ∧ seenK l g x = (liveL l nx p.parent && ((getL l nx p.parent).1.session == p.session && (getL l nx p.parent).1.group != p.group)) := by
  unfold memL at h
  rw [hr] at h
  simp only [if_true] at h
  have hx := List.mem_of_getElem? h
  obtain ⟨p, hp, rfl⟩ := List.mem_map.1 hx
  obtain ⟨h1, h2⟩ := List.mem_filter.1 hp
  unfold ofP at h2
  simp only [Bool.and_eq_true, beq_iff_eq] at h2
  obtain ⟨_, _, hri⟩ := right_rise hr
  refine ⟨p, h1, rfl, h2.2, h2.1, right_get hr h1, ?_⟩
  unfold seenK
  rw [rise_find hri p h1, ← h2.2]
  exact seen_get hr
set_option maxRecDepth 100000 in
set_option maxHeartbeats 800000 in
theorem rorphaned_any {A : Nat → Prop} (Ad : Option Addr) (c : Nat) (l : List Pr) (nx g : Int) (w : World) (h : RdY Rp A w (.slice Ad l.length c) l) :
    Calls Try.prog 29 #[tv Ad l.length c nx, .int .i64 g] w fun e w' => e = .returned (.bool (orphL l nx g)) ∧ Ext w w' := by
  have H := Lib.hid (rdy_pr (B := fun _ => False) h)
  have hoks := Lib.hid (RdY.oks h)
  have hbox := Lib.hid (Blk.new w 31 #[.slice Ad l.length c, .int .i64 nx])
  have E0 : Ext w (w.alloc (.cells #[.slice Ad l.length c, .int .i64 nx] 31)) := (by repeat (first | with_reducible exact Ext.refl _ | refine Ext.drewN ?_ _ | refine Ext.drew ?_ | refine Ext.alloc ?_ _ | assumption | (refine Below.trans ?_ (by assumption)) | (refine Ext.trans ?_ (by assumption)) | (refine Below.trans ?_ (Below.mono (by assumption) (by omega)))))
  clear h
  go_enter Try.func29, Try.ntmps29
  go_wp2_with fail
  refine (rright_any Ad c l nx _ (H.out.ext E0)).mono ?_
  rintro e w1 ⟨rfl, E1⟩
  have E01 : Ext w w1 := E0.trans E1
  have hb1 := Lib.hid (hbox.out.ext E1)
  have kb := hb1.out.two
  clear E1 E0 hbox
  cases hr : rightL l nx
  · have HM := Lib.hid (show orphL l nx g = false by unfold orphL; rw [hr]; rfl)
    clear hr
    go_wp2
    go_ret
    exact ⟨by rw [HM.out]; rfl, E01⟩
  · have HR := Lib.hid hr
    have HO := Lib.hid (orph_mem (g := g) hr)
    clear hr
    go_wp2_with fail
    refine (rmembers_any Ad c l nx g _ (H.out.ext E01)).mono ?_
    rintro e w2 ⟨A2, c2, rfl, O2, E2⟩
    have hb2 := Lib.hid (hb1.out.ext E2)
    have E02 := E01.trans E2
    obtain ⟨M, hM⟩ : ∃ M, memL l nx g = M := ⟨_, rfl⟩
    rw [hM] at O2 HO ⊢
    obtain ⟨K, hK⟩ : ∃ K, M.length = K := ⟨_, rfl⟩
    rw [hK] at O2 ⊢
    have HM := Lib.hid hM
    have HK := Lib.hid hK
    have O2 := Lib.hid O2
    have hg1 := Lib.hid (fun x w h => rget_any (A := fun _ => False) Ad c l nx x w h)
    have hg2 := Lib.hid (fun x w h => rlive_any (A := fun _ => False) Ad c l nx x w h)
    have hK32 : K ≤ 32 := by
      rw [← hK, ← hM]
      unfold memL
      rw [HR.out]
      simp only [if_true, List.length_map]
      exact Nat.le_trans (List.length_filter_le _ _) (right_len HR.out).1
    clear hM hK kb
    go_wp2
    go_loopw [18] (fun i wr => ∃ m : Nat, m ≤ K ∧ i = .int .i64 m ∧ Hid (∀ x ∈ M.take m, seenK l g x = false) ∧ Ext w2 wr) (fun i _ => K - (intOf i).toNat)
    case atStart => exact ⟨0, Nat.zero_le _, rfl, Lib.hid (by simp), Ext.refl _⟩
    case round =>
      obtain ⟨m, hm, rfl, HD, hE⟩ := hrel
      by_cases hmn : m < K
      · obtain ⟨b, off, u, x, rfl, hc, hd, hu⟩ := RdY.at1 (O2.out.ext hE).y rfl hmn
        have hu : [u] = [Value.int .i64 x] := hu.out
        cases hu
        obtain ⟨p, hpl, hpx, hpg, _, hget, hseen⟩ := mem_at (g := g) HR.out (show (memL l nx g)[m]? = some x by rw [HM.out]; exact hd.out)
        have hok := hoks.out p hpl
        have HX := Lib.hid hd.out
        have hb3 := Lib.hid (hb2.out.ext hE)
        have kb := hb3.out.two
        have Hw := Lib.hid (H.out.ext (E02.trans hE))
        have hgp := hg1.out x wr Hw.out
        rw [hget] at hgp
        have HGP := Lib.hid hgp
        obtain ⟨⟨up, ob⟩, hup⟩ : ∃ y, getL l nx p.parent = y := ⟨_, rfl⟩
        have huok : up.ok := by have := getL_ok (nx := nx) (pid := p.parent) hoks.out; rw [hup] at this; exact this
        rw [hup] at hseen
        have hg3 := fun w h => hg1.out p.parent w h
        simp only [hup] at hg3
        have HG3 := Lib.hid hg3
        have HS := Lib.hid hseen
        clear hd hget hgp hup hg3 hseen hpg hpx hpl
        have Hc := hc
        go_wp2_with fail
        refine HGP.out.mono ?_
        rintro e w3 ⟨rfl, E3⟩
        have kb := (hb3.out.ext E3).two
        obtain ⟨n7, hn7⟩ : ∃ n7, w3.heap.size = n7 := ⟨_, rfl⟩
        go_wp2_with ((refine wpList_store_A rfl 58 _ _ rfl (n7) _ rfl rfl 58 _ (zero_rowR w3 n7 hn7) (by rw [List.size_toArray]; exact i43r' hok) (Eq.trans (b := 43) (by rfl) (Eq.symm (show (p).cells.toArray.size = 43 from Pr.size hok))) (Pr.one hok) ?_); intro w4 H4 E4; have E34 : Ext w3 w4 := E4 w3.heap.size w3 ((Ext.refl w3).alloc _) (by omega); have H4 := Lib.hid H4; have kb := (hb3.out.ext (E3.trans E34)).two; have c1 := (prAt_blk hok H4.out).c1; clear E4)
        have Er4 := E3.trans E34
        refine (HG3.out _ (Hw.out.ext Er4)).mono ?_
        rintro e w5 ⟨rfl, E5⟩
        have Er5 := Er4.trans E5
        have kb := (hb3.out.ext Er5).two
        have c1 := cell_ext E5 c1
        obtain ⟨n9, hn9⟩ : ∃ n9, w5.heap.size = n9 := ⟨_, rfl⟩
        have h79 : n7 < n9 := by have := (H4.out.ext E5).lt; omega
        go_wp2_with ((refine wpList_store_A rfl 58 _ _ rfl (n9) _ rfl rfl 58 _ (zero_rowR w5 n9 hn9) (by rw [List.size_toArray]; exact i43r' huok) (Eq.trans (b := 43) (by rfl) (Eq.symm (show (up).cells.toArray.size = 43 from Pr.size huok))) (Pr.one huok) ?_); intro w6 H6 E6; have E56 : Ext w5 w6 := E6 w5.heap.size w5 ((Ext.refl w5).alloc _) (by omega); have H6 := Lib.hid H6; have kb := (hb3.out.ext (Er5.trans E56)).two; have c1 := cell_ext E56 c1; clear E6)
        have Er6 := Er5.trans E56
        refine (hg2.out p.parent _ (Hw.out.ext Er6)).mono ?_
        rintro e w7 ⟨rfl, E7⟩
        have hat := (prAt_blk hok H4.out).ext ((E5.trans E56).trans E7)
        have hau := (prAt_blk huok H6.out).ext E7
        have p2 := hat.c2
        have p3 := hat.c3
        have u2 := hau.c2
        have u3 := hau.c3
        have Er7 := Er6.trans E7
        have E07 := hE.trans Er7
        clear hat hau kb c1 hn7 hn9
        cases hlv : liveL l nx p.parent
        · have HF := Lib.hid (show seenK l g x = false by rw [HS.out, hlv]; rfl)
          clear hlv
          go_wp2
          go_roundw
          case rel => exact ⟨m + 1, by omega, by go_num, Lib.hid (by
            rw [List.take_add_one, HX.out]
            intro q hq
            rcases List.mem_append.1 hq with h | h
            · exact HD.out q h
            · simp at h; rw [h]; exact HF.out), E07⟩
          case measure => simp [intOf]; omega
        · cases hss : (up.session == p.session)
          · have HF := Lib.hid (show seenK l g x = false by rw [HS.out, hlv]; simp [hss])
            clear hlv
            go_wp2
            go_roundw
            case rel => exact ⟨m + 1, by omega, by go_num, Lib.hid (by
              rw [List.take_add_one, HX.out]
              intro q hq
              rcases List.mem_append.1 hq with h | h
              · exact HD.out q h
              · simp at h; rw [h]; exact HF.out), E07⟩
            case measure => simp [intOf]; omega
          · cases hgg : (up.group != p.group)
            · have HF := Lib.hid (show seenK l g x = false by rw [HS.out, hlv]; simp only [hss, hgg]; rfl)
              clear hlv
              go_wp2
              go_roundw
              case rel => exact ⟨m + 1, by omega, by go_num, Lib.hid (by
                rw [List.take_add_one, HX.out]
                intro q hq
                rcases List.mem_append.1 hq with h | h
                · exact HD.out q h
                · simp at h; rw [h]; exact HF.out), E07⟩
              case measure => simp [intOf]; omega
            · have HF := Lib.hid (show orphL l nx g = false by
                rw [HO.out, List.any_eq_true.2 ⟨x, List.mem_of_getElem? HX.out, by rw [HS.out, hlv]; simp only [hss, hgg]; rfl⟩]; rfl)
              clear hlv
              go_wp2
              go_ret
              exact ⟨by rw [HF.out]; rfl, E02.trans E07⟩
      · have HF := Lib.hid (show orphL l nx g = true by
          rw [HO.out]
          have : M.any (seenK l g) = false := by
            rw [List.any_eq_false]
            intro x hx
            have := HD.out x (by rw [List.take_of_length_le (by have := HK.out; omega)]; exact hx)
            simp [this]
          rw [this]; rfl)
        go_wp2
        go_ret
        exact ⟨by rw [HF.out]; rfl, E02.trans hE⟩
end Go.Proofs.Ytmpmnikgbepphaa
