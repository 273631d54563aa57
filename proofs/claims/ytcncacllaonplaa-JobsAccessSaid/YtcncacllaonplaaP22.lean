/- A group is sent a signal, by contract. Conditions: sets have 64 bits; the signals that jobs send. -/
import Derived.Test.YtcncacllaonplaaO22
namespace Go.Proofs.Ytcncacllaonplaa
open Go.RowKit Go.Kb

/-- processes of a table are sent a signal, one behind the other -/
def sendsL (l : List Pr) (nx sig : Int) (ks : List Int) : List Pr := ks.foldl (fun l k => (sendL l nx k sig).1) l
theorem sendsL_len {nx sig : Int} : ∀ {ks : List Int} {l : List Pr}, (sendsL l nx sig ks).length = l.length
  | [], _ => rfl
  | k :: ks, l => by
    show (sendsL (sendL l nx k sig).1 nx sig ks).length = l.length
    rw [sendsL_len, sendL_len]
theorem sendsL_take {l : List Pr} {nx sig : Int} {ks : List Int} {m : Nat} {x : Int} (h : ks[m]? = some x) : sendsL l nx sig (ks.take (m + 1)) = (sendL (sendsL l nx sig (ks.take m)) nx x sig).1 := by
  unfold sendsL
  rw [List.take_add_one, h, List.foldl_append]
  rfl
theorem change_in {g : Pr → Pr} {k : Int} : ∀ {l : List Pr} {q : Pr}, q ∈ changeL g k l → q ∈ l ∨ ∃ p ∈ l, q = g p
  | [], q, h => by rw [changeL_nil] at h; cases h
  | p :: r, q, h => by
    rw [changeL_cons] at h
    split at h
    · rcases List.mem_cons.1 h with rfl | h
      · exact .inr ⟨p, by simp, rfl⟩
      · exact .inl (by simp [h])
    · rcases List.mem_cons.1 h with rfl | h
      · exact .inl (by simp)
      · rcases change_in h with h | ⟨x, h1, h2⟩
        · exact .inl (by simp [h])
        · exact .inr ⟨x, by simp [h1], h2⟩
theorem sendP_bd {p : Pr} {sig : Int} (h : Sig.U64 p.pending) : Sig.U64 (sendP sig p).pending := by
  show Sig.U64 (Sig.addL (if sig = 1 then p.pending else Sig.delL p.pending 18) sig)
  split
  · exact Sig.addL_bd h _
  · exact Sig.addL_bd (Sig.delL_bd h _) _
theorem sendL_bd {l : List Pr} {nx k sig : Int} (h : ∀ p ∈ l, Sig.U64 p.pending) : ∀ p ∈ (sendL l nx k sig).1, Sig.U64 p.pending := by
  intro q hq
  unfold sendL at hq
  split at hq
  · split at hq
    · rename_i hl
      obtain ⟨_, p, hgp, hpl, _⟩ := askL_live (live_ask hl)
      rcases change_in hq with h1 | ⟨x, h1, rfl⟩
      · exact h q h1
      · rw [hgp]
        exact sendP_bd (h p hpl)
    · exact h q hq
  · exact h q hq
theorem sendsL_bd {nx sig : Int} : ∀ {ks : List Int} {l : List Pr}, (∀ p ∈ l, Sig.U64 p.pending) → ∀ p ∈ sendsL l nx sig ks, Sig.U64 p.pending
  | [], _, h => h
  | k :: ks, l, h => sendsL_bd (ks := ks) (l := (sendL l nx k sig).1) (sendL_bd h)
/-- a group's processes are sent a signal -/
def groupL (l : List Pr) (nx g sig : Int) : List Pr := sendsL l nx sig (memL l nx g)
theorem groupL_len {l : List Pr} {nx g sig : Int} : (groupL l nx g sig).length = l.length := sendsL_len
set_option maxRecDepth 100000 in
set_option maxHeartbeats 3000000 in
theorem sgroup_any {A : Nat → Prop} (Ad : Option Addr) (c : Nat) (l : List Pr) (nx g sig : Int) (hs : sig = 1 ∨ sig = 21 ∨ sig = 22) (w : World) (h : RdY Rp A w (.slice Ad l.length c) l) (hb : ∀ p ∈ l, Sig.U64 p.pending) :
    Calls Try.prog 72 #[tv Ad l.length c nx, .int .i64 g, .int .i64 sig] w fun e w' => ∃ A' c' k, e = .returned (.tuple #[tv A' l.length c' nx, .int .i64 k]) ∧ TabS 40 Ad c l w.heap.size w' A' c' (groupL l nx g sig) ∧ Ext w w' := by
  have H := Lib.hid (rdy_pr (B := fun _ => False) h)
  obtain ⟨W, hW⟩ : ∃ W, W = (w.alloc (.cells #[.slice Ad l.length c, .int .i64 nx] 28)).alloc (.cells #[.slice none 0 0, .int .i64 0] 28) := ⟨_, rfl⟩
  have hres := Lib.hid (show Blk W (w.heap.size + 1) 28 #[.slice none 0 0, .int .i64 0] by rw [hW]; exact Blk.at_ _ _ (by simp))
  have hbox := Lib.hid (show Blk W w.heap.size 28 #[.slice Ad l.length c, .int .i64 nx] by rw [hW]; exact (Blk.new w _ _).alloc _)
  have E0 : Ext w W := by rw [hW]; exact (by repeat (first | with_reducible exact Ext.refl _ | refine Ext.drewN ?_ _ | refine Ext.drew ?_ | refine Ext.alloc ?_ _ | assumption | (refine Below.trans ?_ (by assumption)) | (refine Ext.trans ?_ (by assumption)) | (refine Below.trans ?_ (Below.mono (by assumption) (by omega)))))
  have HW := Lib.hid hW
  have HB := Lib.hid hb
  have HS := Lib.hid hs
  clear h hW hb hs
  go_enter Try.func72, Try.ntmps72
  go_wp2_with fail
  rw [← HW.out]
  have kb := hbox.out.two
  go_wp2_with fail
  refine (members_any (A := fun _ => False) Ad c l nx g W (H.out.ext E0)).mono ?_
  rintro e w1 ⟨A1, c1, rfl, O1, E1⟩
  have E01 := E0.trans E1
  have hbox := Lib.hid (hbox.out.ext E1)
  have hres := Lib.hid (hres.out.ext E1)
  obtain ⟨M, hM⟩ : ∃ M, memL l nx g = M := ⟨_, rfl⟩
  have HG := Lib.hid (show groupL l nx g sig = sendsL l nx sig M by unfold groupL; rw [hM])
  rw [hM] at O1 ⊢
  obtain ⟨K, hK⟩ : ∃ K, M.length = K := ⟨_, rfl⟩
  have hK32 : K ≤ 100000 := by
    rw [← hK, ← hM]
    unfold memL
    split
    · rename_i hr
      have := (right_len hr).1
      have := List.length_filter_le (ofP g) l
      simp only [List.length_map]
      omega
    · simp
  rw [hK] at O1 ⊢
  have HM := Lib.hid hM
  have HK := Lib.hid hK
  have O1 := Lib.hid O1
  obtain ⟨N, hN⟩ : ∃ N, l.length = N := ⟨_, rfl⟩
  rw [hN] at H hbox ⊢
  have HN := Lib.hid hN
  have hlt1 := hres.out.lt
  have HLT := Lib.hid hlt1
  have HW2 := Lib.hid (show W.heap.size = w.heap.size + 2 by rw [HW.out]; simp)
  clear hM hK kb hN hlt1 HW
  go_wp2
  go_loopw [8, 16] (fun n i wr => ∃ (m : Nat) (k : Int) (A' : Option Addr) (c' : Nat), m ≤ K ∧ n = .int .i64 k ∧ i = .int .i64 m ∧ Hid (Blk wr w.heap.size 28 #[.slice A' N c', .int .i64 nx]) ∧ Hid (Blk wr (w.heap.size + 1) 28 #[.slice none 0 0, .int .i64 0]) ∧ Hid (TabS 40 Ad c l w.heap.size wr A' c' (sendsL l nx sig (M.take m))) ∧ Hid (OwnS Ib 3 W.heap.size (fun _ => False) wr (.slice A1 K c1) M) ∧ Ext w wr) (fun _ i _ => K - (intOf i).toNat)
  case atStart => exact ⟨0, 0, Ad, c, Nat.zero_le _, rfl, rfl, hbox, hres, Lib.hid (.inl ⟨rfl, rfl, rfl⟩), O1, E01⟩
  case round =>
    clear hbox hres O1 E01 E1 E0
    obtain ⟨m, k, A', c', hm, rfl, rfl, hbox, hres, HR, HY, hE⟩ := hrel
    by_cases hmn : m < K
    · obtain ⟨b, off, u, x, rfl, hc, hd, hu⟩ := RdY.at1 HY.out.y rfl hmn
      have hu : [u] = [Value.int .i64 x] := hu.out
      cases hu
      have kb := hbox.out.two
      have HT := Lib.hid (sendsL_take (l := l) (nx := nx) (sig := sig) hd.out)
      have hln : (sendsL l nx sig (M.take m)).length = N := by rw [sendsL_len, HN.out]
      have hst := send_to (A := fun _ => False) A' c' (sendsL l nx sig (M.take m)) nx x sig HS.out wr (by rw [hln, ← HN.out]; exact HR.out.y (by rw [HN.out]; exact H.out) hE) (sendsL_bd HB.out)
      unfold SendPost at hst
      rw [hln] at hst
      have HST := Lib.hid hst
      have HLN := Lib.hid hln
      clear hst hln hd
      have Hc := hc
      go_wp2_with fail
      refine HST.out.mono ?_
      rintro e w2 ⟨A2, c2, rfl, R2, E2⟩
      rw [← HT.out] at R2
      generalize (sendL (sendsL l nx sig (M.take m)) nx x sig).2 = er at *
      have R2 := Lib.hid R2
      have kb := (hbox.out.ext E2).two
      have M3 : Mod (fun k => k = w.heap.size) w2 _ := ((Mod.refl _ w2).set1 (.slice A2 N c2) (o := 0)).set1 (.int .i64 nx) (o := 1)
      have B3 := Lib.hid ((hbox.out.ext E2).put2 (.slice A2 N c2) (.int .i64 nx))
      have S3 := Lib.hid ((hres.out.ext E2).mod M3 (by show ¬ _ = _; omega))
      have EE := Mod.toExt (hE.trans E2) M3 (by intro k hk he; omega)
      have Y3 := Lib.hid ((HY.out.ext E2).mod M3 (fun j hj he => by have := (HY.out.row j hj).1; have := HW2.out; omega) (fun k _ hk _ => hk))
      have R3 := Lib.hid ((HR.out.trans R2.out (by rw [HLN.out, HN.out]) E2 hE.size).mod M3 (hbox.out.ext E2) (by decide))
      go_wp2
      all_goals go_roundw
      all_goals first
        | (case rel => exact ⟨m + 1, _, A2, c2, by omega, rfl, by go_num, B3, S3, R3, Y3, EE⟩)
        | (case measure => simp [intOf]; omega)
    · obtain rfl : m = K := by omega
      have kb := hbox.out.two
      have ks := hres.out.two
      have hM7 : Mod (fun k => k = w.heap.size + 1) wr _ := ((Mod.refl _ wr).set1 (.slice A' N c') (o := 0)).set1 (.int .i64 nx) (o := 1)
      obtain ⟨q0, q1, _, _⟩ := (hres.out.put2 (.slice A' N c') (.int .i64 nx)).two
      go_wp2
      refine bodyPost_ret (v := .tuple #[tv A' N c' nx, .int .i64 k]) (by simp [results, Try.results72, go_sem, q0, q1]) rfl ?_
      have hf : groupL l nx g sig = sendsL l nx sig (M.take m) := by rw [HG.out, List.take_of_length_le (by have := HK.out; omega)]
      rw [hf, HN.out]
      exact ⟨A', c', k, rfl, HR.out.mod hM7 hres.out (by decide), Mod.toExt hE hM7 (by intro k hk he; omega)⟩
end Go.Proofs.Ytcncacllaonplaa
