/- Processes deleted by a test, in place (slices.DeleteFunc), by contract. Condition: few processes. -/
import Derived.Test.YtmpmnikgbepphaaW20
namespace Go.Proofs.Ytmpmnikgbepphaa
open Go.RowKit Go.Kb

/-- the front of a row whose rest was written over -/
theorem own_cut {base G n c i : Nat} {w : World} {l : List Pr} {L : List Value} (h : OwnS Rp 43 base (fun _ => False) w (.slice (some ⟨G, 0, none⟩) n c) l) (hi : i ≤ n) (hL : L.length = (n - i) * 43) :
    OwnS Rp 43 base (fun _ => False) (w.setCells G (i * 43) L) (.slice (some ⟨G, 0, none⟩) i c) (l.take i) := by
  obtain ⟨us, ho, he⟩ := h
  have hln := own_len ho
  obtain ⟨hul, ⟨hv, _⟩ | ⟨g', cap, cur, hv, hb0, hb, hcap, hmax, hcs, htk⟩⟩ := ho
  · cases hv
  cases hv
  clear hln
  have hul : us.length = l.length * 43 := hul
  have hcs : cur.size = c * 43 := hcs
  have htk : List.take (l.length * 43) cur.toList = us := htk
  have hb : Blk w G 43 cur := hb
  have hB := Blk.setCells L (i * 43) w cur hb (by rw [hL, hcs]; omega)
  have hsz : cur.toList.length = cur.size := rfl
  have htl : (cur.toList.take (i * 43)).length = i * 43 := by rw [List.length_take]; omega
  have hlt : (l.take i).length = i := by rw [List.length_take]; omega
  refine ⟨us.take (i * 43), ⟨?_, .inr ⟨G, c, _, by rw [hlt], hb0, hB, by omega, hmax, ?_, ?_⟩⟩, ?_⟩
  · rw [hlt, List.length_take, hul]
    show _ = i * 43
    omega
  · rw [List.size_toArray, List.length_append, List.length_append, htl, hL, List.length_drop, hsz, hcs]
    show _ = c * 43
    omega
  · rw [hlt]
    show ((cur.toList.take (i * 43) ++ L) ++ _).take (i * 43) = _
    rw [List.append_assoc, List.take_left' htl, ← htk, List.take_take, Nat.min_eq_left (by omega)]
  · exact RdE.keep (he.take i (by omega)) fun k _ hk => hk.1.elim
set_option maxRecDepth 100000 in
set_option maxHeartbeats 800000 in
theorem delf_any {base k : Nat} {bs fs : Array Value} {f : Pr → Bool} (g c : Nat) (l : List Pr) (w : World) (h : OwnS Rp 43 base (fun _ => False) w (.slice (some ⟨g, 0, none⟩) l.length c) l) (hn : l.length ≤ 100000) (hf : ∀ w', Mod (fun k => k = g) w w' → Asks k bs fs f w') :
    Calls Try.prog 39 #[.slice (some ⟨g, 0, none⟩) l.length c, .func (.func k) bs fs] w fun e w' => e = .returned (.slice (some ⟨g, 0, none⟩) (l.filter fun p => !f p).length c) ∧ OwnS Rp 43 base (fun _ => False) w' (.slice (some ⟨g, 0, none⟩) (l.filter fun p => !f p).length c) (l.filter fun p => !f p) ∧ Mod (fun k => k = g) w w' := by
  have H := Lib.hid h
  have HF := Lib.hid hf
  obtain ⟨N, hN⟩ : ∃ N, l.length = N := ⟨_, rfl⟩
  rw [hN] at H hn ⊢
  have HN := Lib.hid hN
  have HI := Lib.hid (index_any k bs fs f _ l w (rdy_pr (B := fun _ => False) h.y) (hf w (Mod.refl _ w)))
  rw [hN] at HI
  clear h hf
  rcases idx_any (f := f) (l := l) with ⟨h1, _⟩ | ⟨j, p0, h1, h2, h3, _, _⟩
  · have HX := Lib.hid h1
    have HFN := Lib.hid (filter_none h1)
    clear h1 hN
    go_enter Try.func39, Try.ntmps39
    go_wp2_with fail
    refine HI.out.mono ?_
    rintro e w1 ⟨rfl, E1⟩
    rw [HX.out]
    have O1 := Lib.hid (H.out.ext E1)
    go_wp2
    go_ret
    rw [HFN.out, HN.out]
    exact ⟨rfl, O1.out, Mod.of_ext E1⟩
  · have HX := Lib.hid h1
    have hj : j < N := by rw [← hN]; exact (List.getElem?_eq_some_iff.1 h2).1
    obtain ⟨hk1, hk2⟩ := keepN_idx h1 (by omega)
    have hmid : midN f l (j + 1) = l := by unfold midN; rw [hk2, hk1, List.take_append_drop]
    have HK2 := Lib.hid hk2
    have HMI := Lib.hid hmid
    clear h1 h2 h3 hN hk1 hk2 hmid
    go_enter Try.func39, Try.ntmps39
    go_wp2_with fail
    refine HI.out.mono ?_
    rintro e w1 ⟨rfl, E1⟩
    rw [HX.out]
    have O1 := Lib.hid (H.out.ext E1)
    have HM1 := Lib.hid (Mod.of_ext (S := fun k => k = g) E1)
    have hjw : IntKind.i64.wrap ((j : Int) + 1) = (j : Int) + 1 := IntWalk.i64_in _ (by omega)
    have hj1 : ((j : Int) = -1) = False := by simp
    clear E1 HI
    go_wp2
    rw [show ((j : Int) == -1) = false by simp]
    go_loopw [5, 6] (fun i jj wr => ∃ m : Nat, m ≤ N ∧ jj = .int .i64 m ∧ i = .int .i64 (keepN f l m).length ∧ (keepN f l m).length < m ∧ Hid (OwnS Rp 43 base (fun _ => False) wr (.slice (some ⟨g, 0, none⟩) N c) (midN f l m)) ∧ Hid (Mod (fun k => k = g) w wr)) (fun _ jj _ => N - (intOf jj).toNat)
    case atStart => exact ⟨j + 1, by omega, by first | rfl | go_num, by rw [HK2.out], by rw [HK2.out]; omega, by rw [HMI.out]; exact O1, HM1⟩
    case round =>
      clear O1 HM1
      obtain ⟨m, hm, rfl, rfl, hkm, O2, M2⟩ := hrel
      have HK := (HF.out w (Mod.refl _ w)).1
      have hwr := M2.out.size
      by_cases hmn : m < N
      · obtain ⟨p, hp⟩ : ∃ p, l[m]? = some p := ⟨_, List.getElem?_eq_getElem (by have := HN.out; omega)⟩
        obtain ⟨hok, hG, hGlt, _, hfr, hcell⟩ := own_at O2.out (midN_at (f := f) hp)
        have HC := Lib.hid hcell
        have HP := Lib.hid hp
        have hp3 := Pr.len hok
        clear hcell hp hjw hj1
        cases hfp : f p
        · have HFP := Lib.hid hfp
          have hkp := keepN_put HP.out hfp
          have hmp := midN_put HP.out hfp
          have hkl : (keepN f l (m + 1)).length = (keepN f l m).length + 1 := by rw [hkp, List.length_append]; rfl
          have HKL := Lib.hid hkl
          have HMP := Lib.hid hmp
          obtain ⟨i, hi⟩ : ∃ i, (keepN f l m).length = i := ⟨_, rfl⟩
          rw [hi] at hkm HKL HMP ⊢
          have hml : (midN f l m).length = N := by rw [midN_len (by have := HN.out; omega)]; exact HN.out
          obtain ⟨x, hx⟩ : ∃ x, (midN f l m)[i]? = some x := ⟨_, List.getElem?_eq_getElem (by omega)⟩
          have HXX := Lib.hid hx
          clear hfp hkp hmp hkl hi hx hml
          go_wp2_with (first
            | (refine wpList_load_mid rfl 43 _ rfl g (m * 43) rfl p.cells _ HC.out Try.underlying43 rfl (i43' hok) ?_)
            | ((refine wpList_store_A rfl 43 _ _ rfl (wr.heap.size) _ rfl rfl 43 _ (zero_row wr _ rfl) (by rw [List.size_toArray]; exact i43' hok) (Eq.trans (b := 43) (by rfl) (Eq.symm (show (p).cells.toArray.size = 43 from Pr.size hok))) (Pr.one hok) ?_); intro w2 H2 E2; have E2 : Ext wr w2 := E2 wr.heap.size wr ((Ext.refl wr).alloc _) (Nat.le_refl _); have M3 : Mod (fun k => k = g) w w2 := M2.out.trans (Mod.of_ext E2); have HA := Lib.hid ((HF.out w2 M3).2 p w2 hok (Ext.refl w2)))
            | (refine wpList_load_row rfl 43 _ rfl _ rfl 43 _ _ _ H2 Try.underlying43 rfl (by rw [List.size_toArray]; exact i43' hok) ?_)
            | (refine wpList_load_row rfl 43 _ rfl _ rfl 43 _ _ _ (Blk.ext H2 E3) Try.underlying43 rfl (by rw [List.size_toArray]; exact i43' hok) ?_)
            | (refine HA.out.mono ?_; rintro e w3 ⟨rfl, E3⟩; rw [HFP.out]; have O3 := O2.out.ext (E2.trans E3); obtain ⟨hxok, _, _, _, hfr3, hc3⟩ := own_at O3 HXX.out; have hth : w3.there g (i * 43) 43 := fun t ht => ⟨by rw [hc3 t _ (List.getElem?_eq_getElem (by rw [Pr.len hxok]; exact ht))]; rfl, hfr3 _⟩)
            | (refine wpList_store_mid rfl 43 _ _ rfl g (i * 43) p.cells.toArray rfl rfl (by rw [List.size_toArray, hp3]; exact hth) (by rw [List.size_toArray]; exact i43' hok) (Pr.one hok) ?_))
          have O4 := own_row O3 (show i < N by omega) hok
          rw [HMP.out] at O4
          have O4 := Lib.hid O4
          have M4 := Lib.hid (Mod.setCells p.cells (i * 43) w w3 (M3.trans (Mod.of_ext E3)))
          go_roundw
          case rel => exact ⟨m + 1, by omega, by go_num, by rw [HKL.out]; go_num, by rw [HKL.out]; omega, O4, M4⟩
          case measure => simp [intOf]; omega
        · have HFP := Lib.hid hfp
          have hkd := keepN_drop HP.out hfp
          have hmd : midN f l (m + 1) = midN f l m := by unfold midN; rw [hkd]
          have HKD := Lib.hid hkd
          have HMD := Lib.hid hmd
          clear hfp hkd hmd
          go_wp2_with (first
            | (refine wpList_load_mid rfl 43 _ rfl g (m * 43) rfl p.cells _ HC.out Try.underlying43 rfl (i43' hok) ?_)
            | ((refine wpList_store_A rfl 43 _ _ rfl (wr.heap.size) _ rfl rfl 43 _ (zero_row wr _ rfl) (by rw [List.size_toArray]; exact i43' hok) (Eq.trans (b := 43) (by rfl) (Eq.symm (show (p).cells.toArray.size = 43 from Pr.size hok))) (Pr.one hok) ?_); intro w2 H2 E2; have E2 : Ext wr w2 := E2 wr.heap.size wr ((Ext.refl wr).alloc _) (Nat.le_refl _); have M3 : Mod (fun k => k = g) w w2 := M2.out.trans (Mod.of_ext E2); have HA := Lib.hid ((HF.out w2 M3).2 p w2 hok (Ext.refl w2)))
            | (refine wpList_load_row rfl 43 _ rfl _ rfl 43 _ _ _ H2 Try.underlying43 rfl (by rw [List.size_toArray]; exact i43' hok) ?_)
            | (refine HA.out.mono ?_; rintro e w3 ⟨rfl, E3⟩; rw [HFP.out]))
          have O4 : Hid (OwnS Rp 43 base (fun _ => False) w3 (.slice (some ⟨g, 0, none⟩) N c) (midN f l (m + 1))) := by rw [HMD.out]; exact Lib.hid (O2.out.ext (E2.trans E3))
          have M4 := Lib.hid (M3.trans (Mod.of_ext E3))
          go_roundw
          case rel => exact ⟨m + 1, by omega, by go_num, by rw [HKD.out], by rw [HKD.out]; omega, O4, M4⟩
          case measure => simp [intOf]; omega
      · obtain rfl : m = N := by omega
        have hi := hkm
        have hend := midN_end (f := f) (l := l)
        rw [HN.out] at hend
        have HEND := Lib.hid hend
        obtain ⟨_, _, hv, hcp, _⟩ := O2.out.shape
        simp only [Value.slice.injEq] at hv
        obtain ⟨-, hml, rfl⟩ := hv
        rw [← hml] at hcp
        have hfl : (l.filter fun p => !f p).length = (keepN f l m).length := by unfold keepN; rw [← HN.out, List.take_length]
        have HFL := Lib.hid hfl
        obtain ⟨i, hi2⟩ : ∃ i, (keepN f l m).length = i := ⟨_, rfl⟩
        rw [hi2] at hkm hi HEND HFL ⊢
        obtain ⟨hLl, hL1⟩ := cleared_one (m - i)
        obtain ⟨L, hL⟩ : ∃ L, (Builtin.zeroCells (Value.agg zeroP.cells.toArray).cells (m - i)).toList = L := ⟨_, rfl⟩
        rw [hL] at hLl hL1
        have hci : (c = i) = False := by simp; omega
        have hpos : 0 < m - i := by omega
        have hlm : m - i ≤ c := by omega
        have hic : i ≤ c := by omega
        have him : i ≤ m := by omega
        have himi : (i : Int) ≤ (m : Int) := by omega
        obtain ⟨x, hx⟩ : ∃ x, (midN f l m)[i]? = some x := ⟨_, List.getElem?_eq_getElem (by omega)⟩
        have hat : ∀ t, t < L.length → (wr.cell? ⟨g, i * 43 + t, none⟩).isSome = true ∧ wr.frozen? ⟨g, i * 43 + t, none⟩ = false := by
          intro t ht
          obtain ⟨y, hy⟩ : ∃ y, (midN f l m)[i + t / 43]? = some y := ⟨_, List.getElem?_eq_getElem (by have := Nat.div_lt_of_lt_mul (m := t) (n := 43) (k := m - i) (by omega); omega)⟩
          obtain ⟨hyok, _, _, _, hfr, hc⟩ := own_at O2.out hy
          have h43 : t % 43 < 43 := Nat.mod_lt _ (by omega)
          have he : i * 43 + t = (i + t / 43) * 43 + t % 43 := by omega
          rw [he]
          exact ⟨by rw [hc _ _ (List.getElem?_eq_getElem (by rw [Pr.len hyok]; exact h43))]; rfl, hfr _⟩
        obtain ⟨i0, hi0, hz0, _, _⟩ := info_parts info_pr
        have hz := fun ty => run_clear_row wr 27 43 ty (.agg zeroP.cells.toArray) Try.underlying27 (fun w => by simp [zeroValue, typeInfo, hi0, hz0]) g (i * 43) (m - i) (c - i) hpos L hL hL1 (fun t ht => (hat t ht).1) (fun t ht => (hat t ht).2)
        have OC := own_cut (L := L) O2.out him hLl
        rw [HEND.out] at OC
        have OC := Lib.hid OC
        have MC := Lib.hid (Mod.setCells L (i * 43) w wr M2.out)
        clear hend hi2 hfl hj1 hjw hat hx hL hLl hL1 hml
        go_wp2
        go_ret
        rw [HFL.out]
        exact ⟨rfl, OC.out, MC.out⟩
end Go.Proofs.Ytmpmnikgbepphaa
