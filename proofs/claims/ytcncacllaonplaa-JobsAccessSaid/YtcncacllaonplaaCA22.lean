/- The document's answer: what a process may do with its terminal, and Ask; by contract. Conditions: sets have 64 bits. -/
import Derived.Test.YtcncacllaonplaaBA22
namespace Go.Proofs.Ytcncacllaonplaa
open Go.RowKit Go.Kb

set_option maxRecDepth 100000 in
set_option maxHeartbeats 800000 in
theorem rbehind_any (s g : Int) (ts : Bool) (p : Pr) (w : World) (hp : p.ok) :
    Calls Try.prog 45 #[.agg #[.int .i64 s, .int .i64 g, .bool ts], .agg p.cells.toArray] w fun e w' => e = .returned (.bool (behP s g p)) ∧ Ext w w' := by
  have ha := prAt_blk hp (show Blk ((w.alloc (.cells #[.int .i64 s, .int .i64 g, .bool ts] 51)).alloc (.cells p.cells.toArray 86)) (w.heap.size + 1) 86 p.cells.toArray from Blk.at_ _ _ (by simp))
  have c2 := ha.c2
  have c3 := ha.c3
  have kb := (show Blk ((w.alloc (.cells #[.int .i64 s, .int .i64 g, .bool ts] 51)).alloc (.cells p.cells.toArray 86)) w.heap.size 51 #[.int .i64 s, .int .i64 g, .bool ts] from (Blk.new w _ _).alloc _)
  have k0 := kb.cell 0
  have k1 := kb.cell 1
  unfold behP
  clear ha kb
  by_cases h1 : p.session = s
  · have h1b : (p.session == s) = true := by simpa using h1
    by_cases h2 : p.group = g
    · have h2b : (p.group == g) = true := by simpa using h2
      go_enter Try.func45, Try.ntmps45
      go_wp2
      go_ret
      exact ⟨by simp [*], (by repeat (first | with_reducible exact Ext.refl _ | refine Ext.drewN ?_ _ | refine Ext.drew ?_ | refine Ext.alloc ?_ _ | assumption | (refine Below.trans ?_ (by assumption)) | (refine Ext.trans ?_ (by assumption)) | (refine Below.trans ?_ (Below.mono (by assumption) (by omega)))))⟩
    · have h2b : (p.group == g) = false := by simpa using h2
      go_enter Try.func45, Try.ntmps45
      go_wp2
      go_ret
      exact ⟨by simp [*], (by repeat (first | with_reducible exact Ext.refl _ | refine Ext.drewN ?_ _ | refine Ext.drew ?_ | refine Ext.alloc ?_ _ | assumption | (refine Below.trans ?_ (by assumption)) | (refine Ext.trans ?_ (by assumption)) | (refine Below.trans ?_ (Below.mono (by assumption) (by omega)))))⟩
  · have h1b : (p.session == s) = false := by simpa using h1
    go_enter Try.func45, Try.ntmps45
    go_wp2
    go_ret
    exact ⟨by simp [*], (by repeat (first | with_reducible exact Ext.refl _ | refine Ext.drewN ?_ _ | refine Ext.drew ?_ | refine Ext.alloc ?_ _ | assumption | (refine Below.trans ?_ (by assumption)) | (refine Ext.trans ?_ (by assumption)) | (refine Below.trans ?_ (Below.mono (by assumption) (by omega)))))⟩
set_option maxRecDepth 100000 in
set_option maxHeartbeats 800000 in
theorem rdeaf_any (p : Pr) (sig : Int) (hs : sig = 21 ∨ sig = 22) (w : World) (hp : p.ok) (hm : Sig.U64 p.mask) :
    Calls Try.prog 46 #[.agg p.cells.toArray, .int .i64 sig] w fun e w' => e = .returned (.bool (deafP p sig)) ∧ Ext w w' := by
  have ha := pr_new w 86 hp
  have c8 := ha.c8
  obtain ⟨x21, h21⟩ : ∃ x, p.acts[21]? = some x := ⟨_, List.getElem?_eq_getElem (by rw [hp]; decide)⟩
  obtain ⟨x22, h22⟩ : ∃ x, p.acts[22]? = some x := ⟨_, List.getElem?_eq_getElem (by rw [hp]; decide)⟩
  have ca := ha.ca 21 _ h21
  have cb := ha.ca 22 _ h22
  have g21 : p.acts.getD 21 0 = x21 := by simp [List.getD, h21]
  have g22 : p.acts.getD 22 0 = x22 := by simp [List.getD, h22]
  have HB := Lib.hid fun w' => Sig.rblock_any p.mask w' hm
  have HH := Lib.hid fun w' => Sig.rhas_any (Sig.blockL p.mask) sig w' (Sig.blockL_bd _)
  unfold deafP
  clear ha h21 h22 hp
  rcases hs with rfl | rfl
  · have G := Lib.hid g21
    clear g21 g22 cb
    cases h1 : (x21 == 1)
    · go_enter Try.func46, Try.ntmps46
      go_wp2_with fail
      refine (HB.out _).mono ?_
      rintro e w1 ⟨rfl, E1⟩
      go_wp2_with fail
      refine (HH.out _).mono ?_
      rintro e w2 ⟨rfl, E2⟩
      go_wp2
      go_ret
      exact ⟨by show _ = Ending.returned (.bool (p.acts.getD 21 0 == 1 || _)); rw [G.out, h1]; rfl, (by repeat (first | with_reducible exact Ext.refl _ | refine Ext.drewN ?_ _ | refine Ext.drew ?_ | refine Ext.alloc ?_ _ | assumption | (refine Below.trans ?_ (by assumption)) | (refine Ext.trans ?_ (by assumption)) | (refine Below.trans ?_ (Below.mono (by assumption) (by omega)))))⟩
    · go_enter Try.func46, Try.ntmps46
      go_wp2
      go_ret
      exact ⟨by show _ = Ending.returned (.bool (p.acts.getD 21 0 == 1 || _)); rw [G.out, h1]; rfl, (by repeat (first | with_reducible exact Ext.refl _ | refine Ext.drewN ?_ _ | refine Ext.drew ?_ | refine Ext.alloc ?_ _ | assumption | (refine Below.trans ?_ (by assumption)) | (refine Ext.trans ?_ (by assumption)) | (refine Below.trans ?_ (Below.mono (by assumption) (by omega)))))⟩
  · have G := Lib.hid g22
    clear g21 g22 ca
    cases h1 : (x22 == 1)
    · go_enter Try.func46, Try.ntmps46
      go_wp2_with fail
      refine (HB.out _).mono ?_
      rintro e w1 ⟨rfl, E1⟩
      go_wp2_with fail
      refine (HH.out _).mono ?_
      rintro e w2 ⟨rfl, E2⟩
      go_wp2
      go_ret
      exact ⟨by show _ = Ending.returned (.bool (p.acts.getD 22 0 == 1 || _)); rw [G.out, h1]; rfl, (by repeat (first | with_reducible exact Ext.refl _ | refine Ext.drewN ?_ _ | refine Ext.drew ?_ | refine Ext.alloc ?_ _ | assumption | (refine Below.trans ?_ (by assumption)) | (refine Ext.trans ?_ (by assumption)) | (refine Below.trans ?_ (Below.mono (by assumption) (by omega)))))⟩
    · go_enter Try.func46, Try.ntmps46
      go_wp2
      go_ret
      exact ⟨by show _ = Ending.returned (.bool (p.acts.getD 22 0 == 1 || _)); rw [G.out, h1]; rfl, (by repeat (first | with_reducible exact Ext.refl _ | refine Ext.drewN ?_ _ | refine Ext.drew ?_ | refine Ext.alloc ?_ _ | assumption | (refine Below.trans ?_ (by assumption)) | (refine Ext.trans ?_ (by assumption)) | (refine Below.trans ?_ (Below.mono (by assumption) (by omega)))))⟩
set_option maxRecDepth 100000 in
set_option maxHeartbeats 3000000 in
theorem raccess_any {A : Nat → Prop} (Ad : Option Addr) (c : Nat) (l : List Pr) (nx s g : Int) (ts : Bool) (pid : Int) (wr : Bool) (w : World) (h : RdY Rp A w (.slice Ad l.length c) l) (hm : ∀ p ∈ l, Sig.U64 p.mask) :
    Calls Try.prog 16 #[tv Ad l.length c nx, .agg #[.int .i64 s, .int .i64 g, .bool ts], .int .i64 pid, .bool wr] w fun e w' => e = .returned (.tuple #[.int .i64 (accL l nx s g ts pid wr).1, .int .i64 (accL l nx s g ts pid wr).2]) ∧ Ext w w' := by
  have H := Lib.hid (rdy_pr (B := fun _ => False) h)
  have hoks := Lib.hid (RdY.oks h)
  obtain ⟨W, hW⟩ : ∃ W, W = (w.alloc (.cells #[.slice Ad l.length c, .int .i64 nx] 49)).alloc (.cells #[.int .i64 s, .int .i64 g, .bool ts] 51) := ⟨_, rfl⟩
  have hty := Lib.hid (show Blk W (w.heap.size + 1) 51 #[.int .i64 s, .int .i64 g, .bool ts] by rw [hW]; exact Blk.at_ _ _ (by simp))
  have hbox := Lib.hid (show Blk W w.heap.size 49 #[.slice Ad l.length c, .int .i64 nx] by rw [hW]; exact (Blk.new w _ _).alloc _)
  have E0 : Ext w W := by rw [hW]; exact (by repeat (first | with_reducible exact Ext.refl _ | refine Ext.drewN ?_ _ | refine Ext.drew ?_ | refine Ext.alloc ?_ _ | assumption | (refine Below.trans ?_ (by assumption)) | (refine Ext.trans ?_ (by assumption)) | (refine Below.trans ?_ (Below.mono (by assumption) (by omega)))))
  have kb0 := hbox.out.two
  have HLIV := Lib.hid (rlive_any (A := fun _ => False) Ad c l nx pid W (H.out.ext E0))
  have HM := Lib.hid hm
  have HW := Lib.hid hW
  clear h hW hm
  rw [HW.out] at kb0
  go_enter Try.func16, Try.ntmps16
  go_wp2_with fail
  rw [← HW.out]
  refine HLIV.out.mono ?_
  rintro e w1 ⟨rfl, E1⟩
  have E01 := E0.trans E1
  cases hl : liveL l nx pid
  · have HL := Lib.hid hl
    go_wp2
    refine bodyPost_ret (v := .tuple #[.int .i64 3, .int .i64 0]) (by simp [results, Try.results16, go_sem]) rfl ?_
    exact ⟨by unfold accL; rw [HL.out]; rfl, E01⟩
  · obtain ⟨hr, p, hgp, hpl, _⟩ := askL_live (live_ask hl)
    have hpok := hoks.out p hpl
    have hpm := HM.out p hpl
    have HPM := Lib.hid hpm
    have HACC := Lib.hid (show accL l nx s g ts pid wr = if !behP s g p || (wr && !ts) || (wr && deafP p 22) then (1, 0) else if deafP p (if wr then 22 else 21) || orphL l nx p.group then (3, 0) else (2, if wr then 22 else 21) by unfold accL; rw [hl, hgp]; rfl)
    have hg1 := rget_any (A := fun _ => False) Ad c l nx pid w1 (H.out.ext E01)
    rw [hgp] at hg1
    have HG1 := Lib.hid hg1
    have kb := (hbox.out.ext E1).two
    clear hr hgp hg1 hpm hl kb0
    go_wp2_with fail
    refine HG1.out.mono ?_
    rintro e w2 ⟨rfl, E2⟩
    obtain ⟨n10, hn10⟩ : ∃ n10, w2.heap.size = n10 := ⟨_, rfl⟩
    clear kb
    have hB := Lib.hid (rbehind_any s g ts p)
    have hD := Lib.hid fun sig hs w' => rdeaf_any p sig hs w' hpok HPM.out
    have hO := Lib.hid fun w' hh => rorphaned_any (A := fun _ => False) Ad c l nx p.group w' hh
    go_upto_region 4 with ((refine wpList_store_A rfl 86 _ _ rfl (n10) _ rfl rfl 86 _ (zero_rowR w2 n10 hn10) (by rw [List.size_toArray]; exact i43r' hpok) (Eq.trans (b := 43) (by rfl) (Eq.symm (show (p).cells.toArray.size = 43 from Pr.size hpok))) (Pr.one hpok) ?_); intro w3 H3 E3; have E23 : Ext w2 w3 := E3 w2.heap.size w2 ((Ext.refl w2).alloc _) (by omega); have P := Lib.hid H3; clear E3 H3)
    have E13 := E2.trans E23
    have E03 := E01.trans E13
    have hty := Lib.hid (hty.out.ext (E1.trans E13))
    have hbox := Lib.hid (hbox.out.ext (E1.trans E13))
    have y0 := hty.out.cell 0
    have y1 := hty.out.cell 1
    have y2 := hty.out.cell 2
    clear hn10 E23 HG1 HLIV HW
    go_wp2_with (refine wpList_load_row rfl 86 _ rfl _ rfl 86 _ _ _ P.out Try.underlying86 rfl (by rw [List.size_toArray]; exact i43r' hpok) ?_)
    refine (hB.out _ hpok).mono ?_
    rintro e w4 ⟨rfl, E4⟩
    have E04 := E03.trans E4
    have P := Lib.hid (P.out.ext E4)
    have hbox := Lib.hid (hbox.out.ext E4)
    have y2 := (hty.out.ext E4).cell 2
    have f2 := (hty.out.ext E4).frozen 2
    clear y0 y1
    cases hbh : behP s g p
    · have HBH := Lib.hid hbh
      clear hbh
      go_wp2
      refine bodyPost_ret (v := .tuple #[.int .i64 1, .int .i64 0]) (by simp [results, Try.results16, go_sem]) rfl ?_
      exact ⟨by rw [HACC.out, HBH.out]; rfl, E04⟩
    · have HBH := Lib.hid hbh
      clear hbh
      cases wr
      · go_wp2_with (refine wpList_load_row rfl 86 _ rfl _ rfl 86 _ _ _ P.out Try.underlying86 rfl (by rw [List.size_toArray]; exact i43r' hpok) ?_)
        refine (hD.out 21 (.inl rfl) _).mono ?_
        rintro e w5 ⟨rfl, E5⟩
        have E05 := E04.trans E5
        have P := Lib.hid (P.out.ext E5)
        have hbox := Lib.hid (hbox.out.ext E5)
        clear y2 f2
        cases hdf : deafP p 21
        · have HDF := Lib.hid hdf
          clear hdf
          go_wp2_with (refine wpList_load_row rfl 86 _ rfl _ rfl 86 _ _ _ P.out Try.underlying86 rfl (by rw [List.size_toArray]; exact i43r' hpok) ?_)
          refine (hD.out 21 (.inl rfl) _).mono ?_
          rw [HDF.out]
          rintro e w6 ⟨rfl, E6⟩
          have E06 := E05.trans E6
          have p2 := (prAt_blk hpok (P.out.ext E6)).c2
          have kb := (hbox.out.ext E6).two
          go_wp2_with fail
          refine (hO.out _ (H.out.ext E06)).mono ?_
          rintro e w7 ⟨rfl, E7⟩
          have E07 := E06.trans E7
          clear p2 kb
          cases ho : orphL l nx p.group
          · have HO := Lib.hid ho
            clear ho
            go_wp2
            refine bodyPost_ret (v := .tuple #[.int .i64 2, .int .i64 21]) (by simp [results, Try.results16, go_sem]) rfl ?_
            exact ⟨by rw [HACC.out, HBH.out]; simp [HDF.out, HO.out], E07⟩
          · have HO := Lib.hid ho
            clear ho
            go_wp2
            refine bodyPost_ret (v := .tuple #[.int .i64 3, .int .i64 0]) (by simp [results, Try.results16, go_sem]) rfl ?_
            exact ⟨by rw [HACC.out, HBH.out]; simp [HDF.out, HO.out], E07⟩
        · have HDF := Lib.hid hdf
          clear hdf
          go_wp2_with (refine wpList_load_row rfl 86 _ rfl _ rfl 86 _ _ _ P.out Try.underlying86 rfl (by rw [List.size_toArray]; exact i43r' hpok) ?_)
          refine (hD.out 21 (.inl rfl) _).mono ?_
          rw [HDF.out]
          rintro e w6 ⟨rfl, E6⟩
          go_wp2
          refine bodyPost_ret (v := .tuple #[.int .i64 3, .int .i64 0]) (by simp [results, Try.results16, go_sem]) rfl ?_
          exact ⟨by rw [HACC.out, HBH.out]; simp [HDF.out], E05.trans E6⟩
      · cases ts
        · go_wp2
          refine bodyPost_ret (v := .tuple #[.int .i64 1, .int .i64 0]) (by simp [results, Try.results16, go_sem]) rfl ?_
          exact ⟨by rw [HACC.out, HBH.out]; rfl, E04⟩
        · go_wp2_with (refine wpList_load_row rfl 86 _ rfl _ rfl 86 _ _ _ P.out Try.underlying86 rfl (by rw [List.size_toArray]; exact i43r' hpok) ?_)
          refine (hD.out 22 (.inr rfl) _).mono ?_
          rintro e w5 ⟨rfl, E5⟩
          have E05 := E04.trans E5
          have P := Lib.hid (P.out.ext E5)
          have hbox := Lib.hid (hbox.out.ext E5)
          clear y2 f2
          cases hdf : deafP p 22
          · have HDF := Lib.hid hdf
            clear hdf
            go_wp2_with (refine wpList_load_row rfl 86 _ rfl _ rfl 86 _ _ _ P.out Try.underlying86 rfl (by rw [List.size_toArray]; exact i43r' hpok) ?_)
            refine (hD.out 22 (.inr rfl) _).mono ?_
            rw [HDF.out]
            rintro e w6 ⟨rfl, E6⟩
            have E06 := E05.trans E6
            have p2 := (prAt_blk hpok (P.out.ext E6)).c2
            have kb := (hbox.out.ext E6).two
            go_wp2_with fail
            refine (hO.out _ (H.out.ext E06)).mono ?_
            rintro e w7 ⟨rfl, E7⟩
            have E07 := E06.trans E7
            clear p2 kb
            cases ho : orphL l nx p.group
            · have HO := Lib.hid ho
              clear ho
              go_wp2
              refine bodyPost_ret (v := .tuple #[.int .i64 2, .int .i64 22]) (by simp [results, Try.results16, go_sem]) rfl ?_
              exact ⟨by rw [HACC.out, HBH.out]; simp [HDF.out, HO.out], E07⟩
            · have HO := Lib.hid ho
              clear ho
              go_wp2
              refine bodyPost_ret (v := .tuple #[.int .i64 3, .int .i64 0]) (by simp [results, Try.results16, go_sem]) rfl ?_
              exact ⟨by rw [HACC.out, HBH.out]; simp [HDF.out, HO.out], E07⟩
          · have HDF := Lib.hid hdf
            clear hdf
            go_wp2
            refine bodyPost_ret (v := .tuple #[.int .i64 1, .int .i64 0]) (by simp [results, Try.results16, go_sem]) rfl ?_
            exact ⟨by rw [HACC.out, HBH.out]; simp [HDF.out], E05⟩
end Go.Proofs.Ytcncacllaonplaa
