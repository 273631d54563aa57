/- request.Decode of what Encode wrote, by contract: the request with the fields of its kind. Conditions: few bytes. -/
import Derived.Test.YtldijmappinngaaGreatDoorPN04
namespace Go.Proofs.YtldijmappinngaaGreatDoor
open Go.RowKit Go.Kb
set_option maxRecDepth 100000

theorem rule_zero (n : Nat) : ruleL n 0 = [.string ⟨#[]⟩, .slice none 0 0, .nilFunc, .nilFunc, .nilFunc] := rfl
theorem nm_ne (m k : Nat) (h : m < k) (hk : k ≤ 10) : ((nmQ m).toList == (nmQ k).toList) = false := by
  have h9 : ∀ m : Fin 11, ∀ k : Fin 11, m.1 < k.1 → ((nmQ m.1).data.toList == (nmQ k.1).data.toList) = false := by decide
  rw [Go.Lib.toList_data, Go.Lib.toList_data]
  exact h9 ⟨m, by omega⟩ ⟨k, by omega⟩ h
/-- what Decode answers -/
def DecQP (r : Rq) (k : Nat) (w : World) (e : Ending) (w' : World) : Prop :=
  ∃ v, e = .returned (.tuple #[.agg (rqA (ownQ r k) v), .int .i64 0]) ∧ RdS Ub8 (fun j => w.heap.size ≤ j) w' v (ownQ r k).mo ∧ Ext w w'
set_option maxHeartbeats 6000000 in
theorem qdecode_any (r : Rq) (k : Nat) (vb : Value) (w : World) (h : RI .u8 w vb (encL (fldsQ r k))) (hk : r.k = (k : Int)) (h1 : 1 ≤ k) (h10 : k ≤ 10) (ha : askQ r = 0) (hr : r.Ok) :
    Calls Tryz.prog 15 #[.string (nmQ k), vb] w (DecQP r k w) := by
  have hiQ : (Tryz.prog.info? 47).map (·.size) = some 11 := by kernel_rfl
  have hiR : (Tryz.prog.info? 87).map (·.size) = some 5 := by kernel_rfl
  obtain ⟨A, c, rfl, hc1, hc2⟩ := h.shape
  obtain ⟨L, hL⟩ : ∃ L, (encL (fldsQ r k)).length = L := ⟨_, rfl⟩
  have H := Lib.hid (show RdN w 1 (.slice A L c) (encL (fldsQ r k)).length ((encL (fldsQ r k)).map (Value.int .u8)) by rw [← hL]; exact h)
  have HOK := Lib.hid hr
  have HSM := Lib.hid (flds_smQ hr k hk ha)
  have hputs := putsQ r k h1 h10
  have hasks := asksQ (r := ownQ r k) k (own_k r k) h1 h10
  have hen1 := hasks.enters
  have hen2 := hputs.enters
  have HA := Lib.hid (show ∀ g Av cv w, Blk w g 92 (rqA (ownQ r k) (.slice Av (ownQ r k).mo.length cv)) → Calls Tryz.prog (aQ k) #[.pointer (some ⟨g, 0, none⟩)] w (AskQP 0 w) from fun g Av cv w h9 => by
    have h8 := hasks.asks g Av cv w h9
    rw [ask_own k hk h1 h10, ha] at h8
    exact h8)
  have HP := Lib.hid hputs.puts
  have HR := Lib.hid fun w' => rules_any2 w'
  have hk11 : (k : Int) < 11 := by omega
  obtain ⟨W1, hW1⟩ : ∃ W1, W1 = w.alloc (.cells #[.int .i64 0, .string ⟨#[]⟩, .string ⟨#[]⟩, .string ⟨#[]⟩, .int .u32 0, .int .u32 0, .int .u32 0, .int .u32 0, .slice none 0 0, .bool false, .int .u32 0] 47) := ⟨_, rfl⟩
  have E1 : Ext w W1 := by rw [hW1]; exact (Ext.refl _).alloc _
  have P1 := Lib.hid (show Blk W1 w.heap.size 47 (rqA (rq0 0) (.slice none 0 0)) by rw [hW1]; exact Blk.new w _ _)
  have HW1 := Lib.hid hW1
  rw [hL] at hc1 ⊢
  clear h hr ha hL hputs hasks hW1 hk
  go_enter Tryz.func15, Tryz.ntmps15
  go_upto_region 1 with fail
  rw [← HW1.out]
  clear HW1
  go_wp2_with fail
  refine (HR.out _).mono ?_
  rintro e w2 ⟨rfl, E2, R2⟩
  obtain ⟨n, hn⟩ : ∃ n, W1.heap.size = n := ⟨_, rfl⟩
  rw [hn] at R2 ⊢
  have R2 := Lib.hid (R2.out k h10)
  have E02 := E1.trans E2
  have P2 := Lib.hid (P1.out.ext E2)
  have hs2 : w.heap.size < w2.heap.size := P2.out.lt
  clear E1 E2 P1 hn HR
  go_wp2
  go_loopw [13] (fun i wr => ∃ m : Nat, m ≤ k ∧ i = .int .i64 m ∧ Hid (Ext w2 wr)) (fun i _ => k - (intOf i).toNat)
  case atStart => exact ⟨0, Nat.zero_le _, rfl, Lib.hid (Ext.refl _)⟩
  case round =>
    obtain ⟨m, hm, rfl, hE⟩ := hrel
    have hm11 : (m : Int) < 11 := by omega
    by_cases hm0 : m = 0
    · subst hm0
      have hix := index_rules 0 (by omega) n
      rw [rule_zero] at hix
      have h00 : ((0 : Nat) : Int) = 0 := rfl
      rw [h00] at hix hm11
      rw [h00]
      clear h00
      go_upto_region 4 with (refine wpList_store_M rfl 87 _ _ rfl wr.heap.size _ rfl rfl 87 _ (Blk.new _ _ _) hiR rfl (by simp [Value.oneCell']) ?_; intro w3 P3 M3)
      have E3 := Lib.hid (hE.out.trans (Mod.toExt ((Ext.refl wr).alloc _) M3 (fun k hk he => by omega)))
      clear M3 P3
      go_wp2_with (refine wpList_openG rfl rfl ?_)
      exact ⟨⟨1, by omega, by go_num, E3⟩, by simp [intOf]; omega⟩
    · have hmi : ¬ ((m : Int) = 0) := by omega
      have hmb : ((m : Int) == 0) = false := by simpa using hmi
      have hix := index_rules m (by omega) n
      rw [rule_eq m (by omega) (by omega) n] at hix
      by_cases hmk : m < k
      · have hne := nm_ne m k hmk h10
        obtain ⟨kvm, hkv⟩ : ∃ kvm, kvQ n m = kvm := ⟨_, rfl⟩
        have hk1 : kvm.oneCell' = true := by
          rw [← hkv]
          unfold kvQ
          split <;> rfl
        rw [hkv] at hix
        clear hkv
        go_upto_region 4 with (refine wpList_store_M rfl 87 _ _ rfl wr.heap.size _ rfl rfl 87 _ (Blk.new _ _ _) hiR rfl (by simp [Value.oneCell']; exact hk1) ?_; intro w3 P3 M3)
        have kp0 := P3.cell 0
        simp only [List.getElem?_toArray, List.getElem?_cons_zero] at kp0
        have E3 := Lib.hid (hE.out.trans (Mod.toExt ((Ext.refl wr).alloc _) M3 (fun k hk he => by omega)))
        clear M3 P3
        go_wp2_with (refine wpList_openG rfl rfl ?_)
        exact ⟨⟨m + 1, by omega, by go_num, E3⟩, by simp [intOf]; omega⟩
      · obtain rfl : m = k := by omega
        obtain ⟨Ak, ck, hkv, -, -⟩ := R2.out.shape
        rw [hkv] at R2 hix
        obtain ⟨NK, hNK⟩ : ∃ NK, (kindsQ m).length = NK := ⟨_, rfl⟩
        have R2 := Lib.hid (show RdN w2 1 (.slice Ak NK ck) (kindsQ m).length ((kindsQ m).map (Value.int .i64)) by rw [← hNK]; exact R2.out)
        rw [hNK] at hix
        clear hkv hmk
        obtain ⟨wq, rfl⟩ : ∃ wq, wq = wr := ⟨_, rfl⟩
        go_upto_region 4 with (refine wpList_store_M rfl 87 _ _ rfl wq.heap.size _ rfl rfl 87 _ (Blk.new _ _ _) hiR rfl (by simp [Value.oneCell']) ?_; intro w3 P3 M3)
        have E23 := Lib.hid (hE.out.trans (Mod.toExt ((Ext.refl wq).alloc _) M3 (fun k hk he => by omega)))
        obtain ⟨n3, hn3⟩ : ∃ n3, wq.heap.size = n3 := ⟨_, rfl⟩
        rw [hn3] at P3 ⊢
        have P3 := Lib.hid P3
        have kp0 := P3.out.cell 0
        have kp1 := P3.out.cell 1
        simp only [List.getElem?_toArray, List.getElem?_cons_zero, List.getElem?_cons_succ] at kp0 kp1
        have E03 := E02.trans E23.out
        have HRD := Lib.hid (oread_any (.slice Ak NK ck) (.slice A L c) (fldsQ r m) w3 (by rw [flds_kQ]; exact RdN.ext R2.out E23.out) (RdN.ext H.out E03) (by rw [flds_lenQ]; have := kinds_len m; omega) (by rw [flds_kQ]; exact kinds_row m) (fun f hf => (HSM.out f hf).can))
        clear hE M3 hn3 hix
        go_wp2_with (first | (refine wpList_openG rfl rfl ?_) | fail)
        with_reducible refine (HRD.out).mono ?_
        rintro e w4 ⟨vl, rfl, o4, E4⟩
        obtain ⟨Al, cl, rfl, -, -⟩ := o4.shape
        obtain ⟨NF, hNF⟩ : ∃ NF, (fldsQ r m).length = NF := ⟨_, rfl⟩
        have HL4 := Lib.hid ((o4.rd (A := fun j => w3.heap.size ≤ j) (fun j hj => hj) (fun j hj => hj)).lt)
        rw [hNF] at HL4 ⊢
        have E04 := E03.trans E4
        have P3 := Lib.hid (P3.out.ext E4)
        have P2 := Lib.hid (P2.out.ext (E23.out.trans E4))
        have hn3l : n3 < w4.heap.size := P3.out.lt
        have hw34 : w.heap.size < w3.heap.size := Nat.lt_of_lt_of_le hs2 E23.out.size
        have hw04 : w.heap.size < w4.heap.size := P2.out.lt
        clear o4 E4 kp0 kp1 HRD E03 E23 R2
        go_upto_region 9 with fail
        obtain ⟨W5, hW5⟩ : ∃ W5, W5 = w4.alloc (.cells #[.int .i64 m, .string ⟨#[]⟩, .string ⟨#[]⟩, .string ⟨#[]⟩, .int .u32 0, .int .u32 0, .int .u32 0, .int .u32 0, .slice none 0 0, .bool false, .int .u32 0] 92) := ⟨_, rfl⟩
        have E5 : Ext w4 W5 := by rw [hW5]; exact (Ext.refl _).alloc _
        have P5 := Lib.hid (show Blk W5 w4.heap.size 92 (rqA (rq0 m) (.slice none 0 0)) by rw [hW5]; exact Blk.new w4 _ _)
        rw [← hW5]
        clear hW5
        obtain ⟨n5, hn5⟩ : ∃ n5, w4.heap.size = n5 := ⟨_, rfl⟩
        have HL5 := Lib.hid ((HL4.out.mono (B := fun j => w3.heap.size ≤ j ∧ j < n5) (fun j _ hj => by rw [← hn5]; exact hj)).ext E5)
        have P3 := Lib.hid (P3.out.ext E5)
        have P2 := Lib.hid (P2.out.ext E5)
        have E05 := E04.trans E5
        have hw5 : n5 < W5.heap.size := by rw [← hn5]; exact P5.out.lt
        rw [hn5] at P5 hn3l hw04 ⊢
        have kp3 := P3.out.cell 3
        simp only [List.getElem?_toArray, List.getElem?_cons_zero, List.getElem?_cons_succ] at kp3
        clear HL4 E5 E04 hn5
        go_wp2_with fail
        refine (HP.out n5 _ Al NF cl (fun j => w3.heap.size ≤ j ∧ j < n5) W5 P5.out (RdS.nil _ _ _) HL5.out (fun j hj => ⟨by omega, by omega⟩)).mono ?_
        rintro e w6 ⟨rfl, v6, B6, V6, M6⟩
        have B6 := Lib.hid B6
        have V6 := Lib.hid V6
        have HM6 := Lib.hid M6
        have P3 := Lib.hid (P3.out.mod M6 (by omega))
        have P2 := Lib.hid (P2.out.mod M6 (by omega))
        have kp4 := P3.out.cell 4
        simp only [List.getElem?_toArray, List.getElem?_cons_zero, List.getElem?_cons_succ] at kp4
        obtain ⟨Av, cv, rfl, -, -⟩ := V6.out.shape
        have HA := Lib.hid (fun w' h9 => HA.out n5 Av cv w' h9)
        have HRES := Lib.hid (show ∀ v e w', (e = .returned (.tuple #[.agg (rqA (ownQ r m) v), .int .i64 0]) ∧ RdS Ub8 (fun j => w.heap.size ≤ j) w' v (ownQ r m).mo ∧ Ext w w') → DecQP r m w e w' from fun v _ _ h => ⟨v, h⟩)
        generalize ownQ r m = om at *
        clear M6 kp3 HP hen2 HL5 HSM HOK H
        go_wp2_with fail
        refine (HA.out _ B6.out).mono ?_
        rintro e w7 ⟨rfl, E7⟩
        have B7 := Lib.hid (B6.out.ext E7)
        have V7 := Lib.hid (V6.out.ext E7)
        have P2 := Lib.hid (P2.out.ext E7)
        have HM7 := Lib.hid (HM6.out.ext E7)
        clear B6 V6 P3 HM6 E7 kp4 HA hen1
        go_wp2_with (first | (refine wpList_load_row rfl 47 _ rfl _ rfl 92 _ _ _ B7.out Tryz.underlying47 rfl hiQ ?_) | (refine wpList_store_M rfl 47 _ _ rfl w.heap.size _ rfl rfl 47 _ P2.out hiQ rfl (by simp [Value.oneCell']) ?_; intro w10 P10 M10))
        refine bodyPost_ret_by (Kb.results_cell_tmp Tryz.results15 _ _ w.heap.size 47 _ _ _ rfl _ rfl P10 Tryz.underlying47 rfl hiQ) rfl ?_
        refine HRES.out _ _ _ ⟨rfl, ?_, ?_⟩
        · exact (V7.out.mod M10 (fun j _ hj he => by omega)).mono (fun j _ hj => by omega)
        · exact Mod.toExt (Mod.toExt E05 HM7.out (fun j hj he => by omega)) M10 (fun j hj he => by omega)
end Go.Proofs.YtldijmappinngaaGreatDoor
