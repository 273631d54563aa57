/- A group is sent any signal, by contract. Condition: pending signals have 64 bits. -/
import Derived.Test.YteljobleojhgmaaGreatL21
namespace Go.Proofs.YteljobleojhgmaaGreat
open Go.RowKit Go.Kb

/-- processes of a table are sent a signal, one behind the other -/
def sentsL (l : List Pr) (nx sig : Int) (ks : List Int) : List Pr := ks.foldl (fun l k => (sentL l nx k sig).1) l
theorem sentsL_len {nx sig : Int} : ∀ {ks : List Int} {l : List Pr}, (sentsL l nx sig ks).length = l.length
  | [], _ => rfl
  | k :: ks, l => by
    show (sentsL (sentL l nx k sig).1 nx sig ks).length = l.length
    rw [sentsL_len, sentL_len]
theorem sentsL_take {l : List Pr} {nx sig : Int} {ks : List Int} {m : Nat} {x : Int} (h : ks[m]? = some x) : sentsL l nx sig (ks.take (m + 1)) = (sentL (sentsL l nx sig (ks.take m)) nx x sig).1 := by
  unfold sentsL
  rw [List.take_add_one, h, List.foldl_append]
  rfl
theorem sentP_bd {p : Pr} {sig : Int} (h : Sig.U64 p.pending) : Sig.U64 (sentP sig p).pending := Sig.addL_bd (preP_bd h) sig
theorem sentL_bd {l : List Pr} {nx k sig : Int} (h : ∀ p ∈ l, Sig.U64 p.pending) : ∀ p ∈ (sentL l nx k sig).1, Sig.U64 p.pending := by
  intro q hq
  unfold sentL at hq
  split at hq
  · split at hq
    · split at hq
      · rename_i hl
        obtain ⟨_, p, hgp, hpl, _⟩ := askL_live (live_ask hl)
        rcases change_in hq with h1 | ⟨x, h1, rfl⟩
        · exact h q h1
        · rw [hgp]
          exact sentP_bd (h p hpl)
      · exact h q hq
    · exact h q hq
  · exact h q hq
theorem sentsL_bd {nx sig : Int} : ∀ {ks : List Int} {l : List Pr}, (∀ p ∈ l, Sig.U64 p.pending) → ∀ p ∈ sentsL l nx sig ks, Sig.U64 p.pending
  | [], _, h => h
  | k :: ks, l, h => sentsL_bd (ks := ks) (l := (sentL l nx k sig).1) (sentL_bd h)
/-- a group's processes are sent a signal -/
def sgrpL (l : List Pr) (nx g sig : Int) : List Pr := sentsL l nx sig (memL l nx g)
theorem sgrpL_len {l : List Pr} {nx g sig : Int} : (sgrpL l nx g sig).length = l.length := sentsL_len
set_option maxRecDepth 100000 in
set_option maxHeartbeats 3000000 in
theorem sentgroup_any {A : Nat → Prop} (Ad : Option Addr) (c : Nat) (l : List Pr) (nx g sig : Int) (w : World) (h : RdY Rp A w (.slice Ad l.length c) l) (hb : ∀ p ∈ l, Sig.U64 p.pending) :
    Calls Tryz.prog 50 #[tv Ad l.length c nx, .int .i64 g, .int .i64 sig] w fun e w' => ∃ A' c' k, e = .returned (.tuple #[tv A' l.length c' nx, .int .i64 k]) ∧ TabS 42 Ad c l w.heap.size w' A' c' (sgrpL l nx g sig) ∧ Ext w w' := by
  have H := Lib.hid (rdy_pr (B := fun _ => False) h)
  obtain ⟨W, hW⟩ : ∃ W, W = (w.alloc (.cells #[.slice Ad l.length c, .int .i64 nx] 29)).alloc (.cells #[.slice none 0 0, .int .i64 0] 29) := ⟨_, rfl⟩
  have hres := Lib.hid (show Blk W (w.heap.size + 1) 29 #[.slice none 0 0, .int .i64 0] by rw [hW]; exact Blk.at_ _ _ (by simp))
  have hbox := Lib.hid (show Blk W w.heap.size 29 #[.slice Ad l.length c, .int .i64 nx] by rw [hW]; exact (Blk.new w _ _).alloc _)
  have E0 : Ext w W := by rw [hW]; exact (by repeat (first | with_reducible exact Ext.refl _ | refine Ext.drewN ?_ _ | refine Ext.drew ?_ | refine Ext.alloc ?_ _ | assumption | (refine Below.trans ?_ (by assumption)) | (refine Ext.trans ?_ (by assumption)) | (refine Below.trans ?_ (Below.mono (by assumption) (by omega)))))
  have HW := Lib.hid hW
  have HB := Lib.hid hb
  clear h hW hb
  go_enter Tryz.func50, Tryz.ntmps50
  go_wp2_with fail
  rw [← HW.out]
  have kb := hbox.out.two
  go_wp2_with fail
  refine (members_any (A := fun _ => False) Ad c l nx g W (H.out.ext E0)).mono ?_
  rintro e w1 ⟨A1, c1, rfl, O1, E1⟩
  have E01 := E0.trans E1
  have hbox := Lib.hid (hbox.out.ext E1)
  have hres := Lib.hid (hres.out.ext E1)
  obtain ⟨M, hM⟩ : ∃ M, memL l nx g = M := ⟨_, rfl⟩
  have HG := Lib.hid (show sgrpL l nx g sig = sentsL l nx sig M by unfold sgrpL; rw [hM])
  rw [hM] at O1 ⊢
  obtain ⟨K, hK⟩ : ∃ K, M.length = K := ⟨_, rfl⟩
  have hK32 : K ≤ 100000 := by
    rw [← hK, ← hM]
    unfold memL
    split
    · rename_i hr
      have := (right_len hr).1
      have := List.length_filter_le (ofP g) l
      simp only [List.length_map]
      omega
    · simp
  rw [hK] at O1 ⊢
  have HM := Lib.hid hM
  have HK := Lib.hid hK
  have O1 := Lib.hid O1
  obtain ⟨N, hN⟩ : ∃ N, l.length = N := ⟨_, rfl⟩
  rw [hN] at H hbox ⊢
  have HN := Lib.hid hN
  have hlt1 := hres.out.lt
  have HLT := Lib.hid hlt1
  have HW2 := Lib.hid (show W.heap.size = w.heap.size + 2 by rw [HW.out]; simp)
  clear hM hK kb hN hlt1 HW
  go_wp2
  go_loopw [8, 16] (fun n i wr => ∃ (m : Nat) (k : Int) (A' : Option Addr) (c' : Nat), m ≤ K ∧ n = .int .i64 k ∧ i = .int .i64 m ∧ Hid (Blk wr w.heap.size 29 #[.slice A' N c', .int .i64 nx]) ∧ Hid (Blk wr (w.heap.size + 1) 29 #[.slice none 0 0, .int .i64 0]) ∧ Hid (TabS 42 Ad c l w.heap.size wr A' c' (sentsL l nx sig (M.take m))) ∧ Hid (OwnS Ib 3 W.heap.size (fun _ => False) wr (.slice A1 K c1) M) ∧ Ext w wr) (fun _ i _ => K - (intOf i).toNat)
  case atStart => exact ⟨0, 0, Ad, c, Nat.zero_le _, rfl, rfl, hbox, hres, Lib.hid (.inl ⟨rfl, rfl, rfl⟩), O1, E01⟩
  case round =>
    clear hbox hres O1 E01 E1 E0
    obtain ⟨m, k, A', c', hm, rfl, rfl, hbox, hres, HR, HY, hE⟩ := hrel
    by_cases hmn : m < K
    · obtain ⟨b, off, u, x, rfl, hc, hd, hu⟩ := RdY.at1 HY.out.y rfl hmn
      have hu : [u] = [Value.int .i64 x] := hu.out
      cases hu
      have kb := hbox.out.two
      have HT := Lib.hid (sentsL_take (l := l) (nx := nx) (sig := sig) hd.out)
      have hln : (sentsL l nx sig (M.take m)).length = N := by rw [sentsL_len, HN.out]
      have hst := sent_to (A := fun _ => False) A' c' (sentsL l nx sig (M.take m)) nx x sig wr (by rw [hln, ← HN.out]; exact HR.out.y (by rw [HN.out]; exact H.out) hE) (sentsL_bd HB.out)
      unfold SentPost at hst
      rw [hln] at hst
      have HST := Lib.hid hst
      have HLN := Lib.hid hln
      clear hst hln hd
      have Hc := hc
      go_wp2_with fail
      refine HST.out.mono ?_
      rintro e w2 ⟨A2, c2, rfl, R2, E2⟩
      rw [← HT.out] at R2
      generalize (sentL (sentsL l nx sig (M.take m)) nx x sig).2 = er at *
      have R2 := Lib.hid R2
      have kb := (hbox.out.ext E2).two
      have M3 : Mod (fun k => k = w.heap.size) w2 _ := ((Mod.refl _ w2).set1 (.slice A2 N c2) (o := 0)).set1 (.int .i64 nx) (o := 1)
      have B3 := Lib.hid ((hbox.out.ext E2).put2 (.slice A2 N c2) (.int .i64 nx))
      have S3 := Lib.hid ((hres.out.ext E2).mod M3 (by show ¬ _ = _; omega))
      have EE := Mod.toExt (hE.trans E2) M3 (by intro k hk he; omega)
      have Y3 := Lib.hid ((HY.out.ext E2).mod M3 (fun j hj he => by have := (HY.out.row j hj).1; have := HW2.out; omega) (fun k _ hk _ => hk))
      have R3 := Lib.hid ((HR.out.trans R2.out (by rw [HLN.out, HN.out]) E2 hE.size).mod M3 (hbox.out.ext E2) (by decide))
      go_wp2
      all_goals go_roundw
      all_goals first
        | (case rel => exact ⟨m + 1, _, A2, c2, by omega, rfl, by go_num, B3, S3, R3, Y3, EE⟩)
        | (case measure => simp [intOf]; omega)
    · obtain rfl : m = K := by omega
      have kb := hbox.out.two
      have ks := hres.out.two
      have hM7 : Mod (fun k => k = w.heap.size + 1) wr _ := ((Mod.refl _ wr).set1 (.slice A' N c') (o := 0)).set1 (.int .i64 nx) (o := 1)
      obtain ⟨q0, q1, _, _⟩ := (hres.out.put2 (.slice A' N c') (.int .i64 nx)).two
      go_wp2
      refine bodyPost_ret (v := .tuple #[tv A' N c' nx, .int .i64 k]) (by simp [results, Tryz.results50, go_sem, q0, q1]) rfl ?_
      have hf : sgrpL l nx g sig = sentsL l nx sig (M.take m) := by rw [HG.out, List.take_of_length_le (by have := HK.out; omega)]
      rw [hf, HN.out]
      exact ⟨A', c', k, rfl, HR.out.mod hM7 hres.out (by decide), Mod.toExt hE hM7 (by intro k hk he; omega)⟩
end Go.Proofs.YteljobleojhgmaaGreat
