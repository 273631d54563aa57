/- message.Decode of what Encode wrote, by contract: the message with the fields of its kind. Conditions: few bytes. -/
import Derived.Test.YtldijmappinngaaGreatDoorOP04
namespace Go.Proofs.YtldijmappinngaaGreatDoor
open Go.RowKit Go.Kb
set_option maxRecDepth 100000

abbrev Ib : Rep Int := Rep.int .i64
theorem info_int : (Tryz.prog.info? 3).map (fun i => (i.zero, i.size, i.bytes)) = some (some (.int .i64 0), Ib.size, 8) := by kernel_rfl
/-- what Decode answers -/
def DecP (m : Mg) (w : World) (e : Ending) (w' : World) : Prop :=
  ∃ v, e = .returned (.tuple #[.agg (mgA (ownM m) v), .int .i64 0]) ∧ RdS Ub8 (fun k => w.heap.size ≤ k) w' v (ownM m).da ∧ Ext w w'
set_option maxHeartbeats 4000000 in
theorem decode_any (m : Mg) (ps : List Pa) (vb : Value) (w : World) (h : RI .u8 w vb (encL (flds m ps))) (hps : rowL m.k = some ps) (hm : m.Ok) (hf : ∀ f ∈ flds m ps, fltF f.k f.n f.t = 0) (hfit : FitP m) :
    Calls Tryz.prog 11 #[vb] w (DecP m w) := by
  have hiM : (Tryz.prog.info? 28).map (·.size) = some 10 := by kernel_rfl
  have hiP : (Tryz.prog.info? 71).map (·.size) = some 3 := by kernel_rfl
  have hi : (Tryz.prog.info? 59).map (·.size) = some 4 := by kernel_rfl
  obtain ⟨A, c, rfl, hc1, hc2⟩ := h.shape
  obtain ⟨r, hr⟩ : ∃ r, encL (flds m ps) = m.k :: r := ⟨encL (ps.map (fun q => vOf q m)), by simp [encL, flds, encF]⟩
  obtain ⟨L, hL⟩ : ∃ L, (encL (flds m ps)).length = L := ⟨_, rfl⟩
  have hL0 : 0 < L := by rw [← hL, hr]; simp
  have HL := Lib.hid hL
  have HPS := Lib.hid hps
  have HFT := Lib.hid hf
  have HOK := Lib.hid hm
  have HOWN : Hid (ownM m = putAll ps m (mg0 m.k)) := Lib.hid (by unfold ownM; rw [hps])
  have HFI := Lib.hid (own_fit hps hfit)
  have H := Lib.hid (show RdN w 1 (.slice A L c) (encL (flds m ps)).length ((encL (flds m ps)).map (Value.int .u8)) by rw [← hL]; exact h)
  have hkb : 0 ≤ m.k ∧ m.k ≤ 100 := by have h9 := row_kind hps; unfold KindOk at h9; omega
  have HRW := Lib.hid (fun w' => mrow_any m.k w')
  have hwr : IntKind.i64.wrap m.k = m.k := by unfold IntKind.wrap; simp [IntKind.bits, IntKind.signed]; omega
  rw [hL] at hc1 ⊢
  have hLi : ¬ ((L : Int) = 0) := by omega
  have hLb : ((L : Int) == 0) = false := by simpa using hLi
  obtain ⟨b, off, x, rfl, kx, hx⟩ := RdN.icell (l := encL (flds m ps)) (k := .u8) H.out hL0
  rw [Nat.add_zero] at kx
  have hxk : x = m.k := by
    have h9 := hx.out
    rw [hr] at h9
    simpa using h9.symm
  subst hxk
  obtain ⟨W1, hW1⟩ : ∃ W1, W1 = w.alloc (.cells #[.int .i64 0, .int .u32 0, .int .u32 0, .int .u32 0, .int .u32 0, .int .u32 0, .string ⟨#[]⟩, .string ⟨#[]⟩, .bool false, .slice none 0 0] 28) := ⟨_, rfl⟩
  have E1 : Ext w W1 := by rw [hW1]; exact (Ext.refl _).alloc _
  have P1 := Lib.hid (show Blk W1 w.heap.size 28 (mgA (mg0 0) (.slice none 0 0)) by rw [hW1]; exact Blk.new w _ _)
  have HW1 := Lib.hid hW1
  have HKX := Lib.hid kx
  clear h hps hf hm hfit hr hL hx kx hW1
  go_enter Tryz.func11, Tryz.ntmps11
  go_upto_region 1 with fail
  rw [← HW1.out]
  have kx := cell_ext E1 HKX.out
  clear HW1
  go_wp2_with fail
  refine (HRW.out _).mono ?_
  rintro e w2 ⟨E2, hrow⟩
  rw [HPS.out] at hrow
  obtain ⟨Ap, rfl, hpart⟩ := hrow
  have HPT := Lib.hid hpart
  have E02 : Ext w w2 := E1.trans E2
  have P2 := Lib.hid (P1.out.ext E2)
  have hs2 := E02.size
  have HRK := Lib.hid (row_all HPS.out)
  obtain ⟨K, hK⟩ : ∃ K, ps.length = K := ⟨_, rfl⟩
  have HKL := Lib.hid hK
  have hK5 : K ≤ 5 := by have := HRK.out.1; omega
  rw [hK]
  clear hpart kx E1 E2 P1 hK HRW
  go_upto_region 7 with fail
  have HO0 := Lib.hid (show OwnS Ib 3 w2.heap.size (fun _ => False) (w2.alloc (.cells #[.int .i64 1] 3)) (.slice (some ⟨w2.heap.size, 0, none⟩) 1 1) ((1 :: ps.map (·.k)).take 1) from by
    refine OwnS.litB (A := fun _ => False) (cs := [.int .i64 1]) ?_ (Blk.new _ _ _) (fun k _ h => h.elim) (Nat.le_refl _) rfl (by omega)
    exact RdE.single (e := Ib) (d := 1) rfl)
  have HE0 := Lib.hid ((Ext.refl w2).alloc (.cells #[.int .i64 1] 3))
  go_wp2
  go_loopw [6, 32] (fun u i wr => ∃ j : Nat, j ≤ K ∧ i = .int .i64 j ∧ Hid (OwnS Ib 3 w2.heap.size (fun _ => False) wr u ((1 :: ps.map (·.k)).take (j + 1))) ∧ Hid (Ext w2 wr)) (fun _ i _ => K - (intOf i).toNat)
  case atStart => exact ⟨0, Nat.zero_le _, rfl, HO0, HE0⟩
  case round =>
    clear HO0 HE0
    obtain ⟨j, hj, rfl, HO, hE⟩ := hrel
    by_cases hjk : j < K
    · obtain ⟨q, hq⟩ : ∃ q, ps[j]? = some q := ⟨_, List.getElem?_eq_getElem (by rw [HKL.out]; exact hjk)⟩
      obtain ⟨gp, rfl, hgp, hbp⟩ : ∃ g, Ap = some ⟨g, 0, none⟩ ∧ W1.heap.size ≤ g ∧ Blk w2 g 71 (ps.flatMap (fun q => (paA q).toList)).toArray := by
        rcases HPT.out with h9 | h9
        · rw [h9] at hq; simp at hq
        · exact h9
      obtain ⟨c0, c1, c2⟩ := pa_at (hbp.ext hE.out) hq
      have HQ := Lib.hid hq
      clear hbp hq
      go_upto_region 10 with (refine wpList_store_M rfl 71 _ _ rfl wr.heap.size _ rfl rfl 71 _ (Blk.new _ _ _) hiP rfl (by simp [Value.oneCell']) ?_; intro w10 P10 M10)
      have E10 : Ext wr w10 := Mod.toExt ((Ext.refl wr).alloc _) M10 (fun k hk he => by omega)
      have kp0 := P10.cell 0
      have hE10 := Lib.hid (hE.out.trans E10)
      have HO10 := Lib.hid (HO.out.ext E10)
      have hlm : ((1 :: ps.map (·.k)).take (j + 1)).length = j + 1 := by rw [List.length_take]; simp [HKL.out]; omega
      obtain ⟨Ao, co, rfl, -, -⟩ := HO.out.shape
      rw [hlm] at HO10 ⊢
      have hvf : (1 :: ps.map (·.k))[j + 1]? = some q.k := by rw [List.getElem?_cons_succ, List.getElem?_map, HQ.out]; rfl
      have HVF := Lib.hid hvf
      have HRow := Lib.hid HO10.out.row
      have hb10 := hE10.out.size
      clear HO hE E10 M10 P10 c0 c1 c2 hvf
      go_wp2_with (at_builtin; refine wpList_app (e := Ib) (base := w2.heap.size) (B := fun _ => False) (A := fun _ => False) rfl (.tmp 36) (.tmp 39) rfl Tryz.underlying80 info_int rfl (HO10.out.alloc _) rfl (RdY.singleB (e := Ib) (cs := [.int .i64 q.k]) (d := q.k) rfl (Blk.new _ _ _)) rfl (fun k _ hk => hk.elim) (N := j + 1 + 1) (by rw [hlm]; rfl) (by unfold maxLen; omega) (by omega) (by simp; omega) ?_; intro A14 c14 w14 o14 M14 L14)
      have M15 : Mod (fun k => (Value.slice Ao (j + 1) co).ownBlock = some k) w10 w14 := (Mod.of_ext ((Ext.refl w10).alloc _)).trans M14
      refine ⟨⟨j + 1, by omega, by go_num, Lib.hid ?_, Lib.hid ?_⟩, by simp [intOf]; omega⟩
      · rw [List.take_add_one, HVF.out]
        exact o14
      · exact Mod.toExt hE10.out M15 (fun k hk he => by have := (HRow.out _ he).1; omega)
    · obtain rfl : j = K := by omega
      obtain ⟨wq, rfl⟩ : ∃ wq, wq = wr := ⟨_, rfl⟩
      have hta : (1 :: ps.map (·.k)).take (j + 1) = (flds m ps).map (·.k) := by
        rw [flds_k]
        exact List.take_of_length_le (by simp [HKL.out])
      rw [hta] at HO
      have hrk : RI .i64 wq _ ((flds m ps).map (·.k)) := RdS.ri HO.out.rdT
      have E0r := E02.trans hE.out
      have HRD := Lib.hid (oread_any _ _ (flds m ps) wq hrk (RdN.ext (show RI .u8 w (.slice (some ⟨b, off, none⟩) L c) (encL (flds m ps)) from H.out) E0r) (by have := HKL.out; simp [flds]; omega) (by rw [flds_k]; exact HRK.out.2.2) (flds_can HOK.out HPS.out HFT.out))
      obtain ⟨Ao, co, rfl, -, -⟩ := HO.out.shape
      have hlk : ((flds m ps).map (·.k)).length = j + 1 := by rw [List.length_map]; simp [flds, HKL.out]
      rw [hlk] at HRD ⊢
      have E0r := Lib.hid E0r
      have Pr := Lib.hid (P2.out.ext hE.out)
      have HPT := Lib.hid (show ps = [] ∨ ∃ g, Ap = some ⟨g, 0, none⟩ ∧ W1.heap.size ≤ g ∧ Blk wq g 71 (ps.flatMap (fun q => (paA q).toList)).toArray from HPT.out.imp id (fun ⟨g, h1, h2, h3⟩ => ⟨g, h1, h2, h3.ext hE.out⟩))
      clear hta hrk hlk HO P2 hE
      go_wp2_with fail
      with_reducible refine (HRD.out).mono ?_
      rintro e w3 ⟨vl, rfl, o3, E3⟩
      obtain ⟨Al, cl, rfl, -, -⟩ := o3.shape
      have hll : (flds m ps).length = j + 1 := by simp [flds, HKL.out]
      have HL3 := Lib.hid ((o3.rd (A := fun k => wq.heap.size ≤ k) (fun k hk => hk) (fun k hk => hk)).lt)
      rw [hll] at HL3 ⊢
      have E03 := E0r.out.trans E3
      have kx := cell_ext E03 HKX.out
      have P3 := Lib.hid (Pr.out.ext E3)
      have HPT := Lib.hid (show ps = [] ∨ ∃ g, Ap = some ⟨g, 0, none⟩ ∧ g < w3.heap.size ∧ Blk w3 g 71 (ps.flatMap (fun q => (paA q).toList)).toArray from HPT.out.imp id (fun ⟨g, h1, h2, h3⟩ => ⟨g, h1, (h3.ext E3).lt, h3.ext E3⟩))
      have hr3 := E3.size
      have hwn3 : w.heap.size < w3.heap.size := P3.out.lt
      have hr0 : w.heap.size < wq.heap.size := Pr.out.lt
      clear o3 hll E3 E0r Pr HRD
      go_upto_region 16 with fail
      obtain ⟨W4, hW4⟩ : ∃ W4, W4 = w3.alloc (.cells #[.int .i64 m.k, .int .u32 0, .int .u32 0, .int .u32 0, .int .u32 0, .int .u32 0, .string ⟨#[]⟩, .string ⟨#[]⟩, .bool false, .slice none 0 0] 67) := ⟨_, rfl⟩
      have E4 : Ext w3 W4 := by rw [hW4]; exact (Ext.refl _).alloc _
      have P4 := Lib.hid (show Blk W4 w3.heap.size 67 (mgA (mg0 m.k) (.slice none 0 0)) by rw [hW4]; exact Blk.new w3 _ _)
      rw [← hW4]
      clear hW4
      obtain ⟨n11, hn11⟩ : ∃ n11, w3.heap.size = n11 := ⟨_, rfl⟩
      have E04 := E03.trans E4
      have P34 := Lib.hid (P3.out.ext E4)
      have HL4 := Lib.hid ((HL3.out.mono (B := fun k => wq.heap.size ≤ k ∧ k < n11) (fun k _ hk => by rw [← hn11]; exact hk)).ext E4)
      have HPT := Lib.hid (show ps = [] ∨ ∃ g, Ap = some ⟨g, 0, none⟩ ∧ g < n11 ∧ Blk W4 g 71 (ps.flatMap (fun q => (paA q).toList)).toArray from HPT.out.imp id (fun ⟨g, h1, h2, h3⟩ => ⟨g, h1, by rw [← hn11]; exact h2, h3.ext E4⟩))
      rw [hn11] at P4 hr3 hwn3 ⊢
      clear HL3 kx E03 P3 E4 hn11
      go_wp2
      go_loopw [61] (fun i wz => ∃ (q : Nat) (v : Value), q ≤ j ∧ i = .int .i64 q ∧ Hid (Blk wz n11 67 (mgA (putAll (ps.take q) m (mg0 m.k)) v)) ∧ Hid (RdS Ub8 (fun k => wq.heap.size ≤ k ∧ k < n11) wz v (putAll (ps.take q) m (mg0 m.k)).da) ∧ Hid (Mod (fun k => k = n11) W4 wz)) (fun i _ => j - (intOf i).toNat)
      case atStart => exact ⟨0, _, Nat.zero_le _, rfl, P4, Lib.hid (RdS.nil _ _ _), Lib.hid (Mod.refl _ _)⟩
      case round =>
        clear P4
        obtain ⟨q, v, hq, rfl, PX, HV, HM⟩ := hrel
        by_cases hqj : q < j
        · obtain ⟨p, hp⟩ : ∃ p, ps[q]? = some p := ⟨_, List.getElem?_eq_getElem (by rw [HKL.out]; exact hqj)⟩
          obtain ⟨gp, rfl, hgp, hbp⟩ : ∃ g, Ap = some ⟨g, 0, none⟩ ∧ g < n11 ∧ Blk W4 g 71 (ps.flatMap (fun q => (paA q).toList)).toArray := by
            rcases HPT.out with h9 | h9
            · rw [h9] at hp; simp at hp
            · exact h9
          obtain ⟨c0, c1, c2⟩ := pa_at (hbp.mod HM.out (by omega)) hp
          have hputs := puts_all (HRK.out.2.1 p (List.mem_of_getElem? hp))
          have hen := hputs.enters
          have HPU := Lib.hid hputs.puts
          have HQ := Lib.hid hp
          have HLr := Lib.hid (HL4.out.mod HM.out (fun k _ hk he => by omega))
          clear hbp hp hputs
          go_upto_region 19 with (refine wpList_store_M rfl 71 _ _ rfl wr.heap.size _ rfl rfl 71 _ (Blk.new _ _ _) hiP rfl (by simp [Value.oneCell']) ?_; intro w18 P18 M18)
          have E18 : Ext wr w18 := Mod.toExt ((Ext.refl wr).alloc _) M18 (fun k hk he => by omega)
          have P18 := Lib.hid P18
          obtain ⟨bl, ol, At, ct, f, hAl, d0, d1, d2, d3, hd, ht⟩ := fd_at (HLr.out.ext E18).y (j := q + 1) (by omega)
          subst hAl
          have hfv : f = vOf p m := by
            have h9 := hd.out
            unfold flds at h9
            rw [List.getElem?_cons_succ, List.getElem?_map, HQ.out] at h9
            simpa using h9.symm
          have HFV := Lib.hid hfv
          clear hfv
          have hbl : bl < n11 := (HLr.out.2 (by simp [flds]) bl rfl).2
          have hn18 : n11 < wr.heap.size := PX.out.lt
          have hbw : bl < w18.heap.size := by have := E18.size; omega
          have PX := Lib.hid (PX.out.ext E18)
          have HV := Lib.hid (HV.out.ext E18)
          have HM := Lib.hid (HM.out.ext E18)
          clear M18 E18 c0 c1 c2 hd
          refine wp_region_held_drew (S := fun w' => Mod (fun k => k = n11) w18 w') (by kernel_rfl) (Mod.of_ext (Ext.drew (Ext.refl _))) (fun hHeld => ?_)
          have hw1 : IntKind.i64.wrap ((q : Int) + 1) = (q : Int) + 1 := by have h9 := (HRK.out).1; unfold IntKind.wrap; simp [IntKind.bits, IntKind.signed]; omega
          have hi1 : (0 : Int) ≤ (q : Int) + 1 := by omega
          have hi2 : (q : Int) + 1 < ((j + 1 : Nat) : Int) := by omega
          have hi3 : (q : Int) < (j : Int) := by omega
          have hbn : ¬ bl = n11 := by omega
          have hwn : ¬ wr.heap.size = n11 := by omega
          obtain ⟨D, hD⟩ : ∃ D, D = w18.drew := ⟨_, rfl⟩
          have ED : Ext w18 D := by rw [hD]; exact (Ext.refl _).drew
          rw [← hD] at hHeld ⊢
          clear hD
          (refine wpAnyH_take (i := 0) (v := ?_) rfl (by kernel_rfl) (by kernel_rfl) (by kernel_rfl) (fun _ _ _ h => h) (Or.inl ⟨by rfl, ?_⟩) (by assumption) ?_; rotate_left; (focus (intro w' hSw; go_simp; try with_reducible rfl)); (try simp only [List.getElem_toArray]); (try simp only [List.getElem_cons_succ]); (try simp only [List.getElem_cons_zero]); (try simp only [Act.put]); (try simp only [List.setIfInBounds_toArray]); (try simp only [List.set_cons_succ]); (try simp only [List.set_cons_zero]))
          (refine wpAnyH_take (i := 1) (v := ?_) rfl (by kernel_rfl) (by kernel_rfl) (by kernel_rfl) (fun _ _ _ h => h) (Or.inl ⟨by rfl, ?_⟩) (by assumption) ?_; rotate_left; (focus (intro w' hSw; have kc := (P18.out.mod hSw hwn).cell 2; go_simp; try with_reducible rfl)); (try simp only [List.getElem_toArray]); (try simp only [List.getElem_cons_succ]); (try simp only [List.getElem_cons_zero]); (try simp only [Act.put]); (try simp only [List.setIfInBounds_toArray]); (try simp only [List.set_cons_succ]); (try simp only [List.set_cons_zero]))
          (refine wpAnyH_take (i := 2) (v := ?_) rfl (by kernel_rfl) (by kernel_rfl) (by kernel_rfl) (fun _ _ _ h => h) (Or.inl ⟨by rfl, ?_⟩) (by assumption) ?_; rotate_left; (focus (intro w' hSw; go_simp; try with_reducible rfl)); (try simp only [List.getElem_toArray]); (try simp only [List.getElem_cons_succ]); (try simp only [List.getElem_cons_zero]); (try simp only [Act.put]); (try simp only [List.setIfInBounds_toArray]); (try simp only [List.set_cons_succ]); (try simp only [List.set_cons_zero]))
          (refine wpAnyH_take (i := 3) (v := ?_) rfl (by kernel_rfl) (by kernel_rfl) (by kernel_rfl) (fun _ _ _ h => h) (Or.inl ⟨by rfl, ?_⟩) (by assumption) ?_; rotate_left; (focus (intro w' hSw; go_simp; try with_reducible rfl)); (try simp only [List.getElem_toArray]); (try simp only [List.getElem_cons_succ]); (try simp only [List.getElem_cons_zero]); (try simp only [Act.put]); (try simp only [List.setIfInBounds_toArray]); (try simp only [List.set_cons_succ]); (try simp only [List.set_cons_zero]))
          (refine wpAnyH_take (i := 4) (v := ?_) rfl (by kernel_rfl) (by kernel_rfl) (by kernel_rfl) (fun _ _ _ h => h) (Or.inl ⟨by rfl, ?_⟩) (by assumption) ?_; rotate_left; (focus (intro w' hSw; go_simp; try with_reducible rfl)); (try simp only [List.getElem_toArray]); (try simp only [List.getElem_cons_succ]); (try simp only [List.getElem_cons_zero]); (try simp only [Act.put]); (try simp only [List.setIfInBounds_toArray]); (try simp only [List.set_cons_succ]); (try simp only [List.set_cons_zero]))
          (refine wpAnyH_take (i := 5) (v := ?_) rfl (by kernel_rfl) (by kernel_rfl) (by kernel_rfl) (fun _ _ _ h => h) (Or.inl ⟨by rfl, ?_⟩) (by assumption) ?_; rotate_left; (focus (intro w' hSw; go_simp; try with_reducible rfl)); (try simp only [List.getElem_toArray]); (try simp only [List.getElem_cons_succ]); (try simp only [List.getElem_cons_zero]); (try simp only [Act.put]); (try simp only [List.setIfInBounds_toArray]); (try simp only [List.set_cons_succ]); (try simp only [List.set_cons_zero]))
          (refine wpAnyH_take (i := 6) (v := ?_) rfl (by kernel_rfl) (by kernel_rfl) (by kernel_rfl) (fun _ _ _ h => h) (Or.inl ⟨by rfl, ?_⟩) (by assumption) ?_; rotate_left; (focus (intro w' hSw; go_simp; try with_reducible rfl)); (try simp only [List.getElem_toArray]); (try simp only [List.getElem_cons_succ]); (try simp only [List.getElem_cons_zero]); (try simp only [Act.put]); (try simp only [List.setIfInBounds_toArray]); (try simp only [List.set_cons_succ]); (try simp only [List.set_cons_zero]))
          (refine wpAnyH_take (i := 7) (v := ?_) rfl (by kernel_rfl) (by kernel_rfl) (by kernel_rfl) (fun _ _ _ h => h) (Or.inl ⟨by rfl, ?_⟩) (by assumption) ?_; rotate_left; (focus (intro w' hSw; have kc0 := (hSw.cell bl (ol + (q + 1) * 4) hbw hbn).trans d0; have kc1 := (hSw.cell bl (ol + (q + 1) * 4 + 1) hbw hbn).trans d1; have kc2 := (hSw.cell bl (ol + (q + 1) * 4 + 2) hbw hbn).trans d2; have kc3 := (hSw.cell bl (ol + (q + 1) * 4 + 3) hbw hbn).trans d3; go_simp; try with_reducible rfl)); (try simp only [List.getElem_toArray]); (try simp only [List.getElem_cons_succ]); (try simp only [List.getElem_cons_zero]); (try simp only [Act.put]); (try simp only [List.setIfInBounds_toArray]); (try simp only [List.set_cons_succ]); (try simp only [List.set_cons_zero]))
          refine wpAnyH_ready (rs := [8]) (by kernel_rfl) (by simp) ?_
          refine AllReadyH.cons rfl (fun K hK => ?_) AllReadyH.nil
          go_simp
          refine (HPU.out n11 _ v _ f _ _ (fun k => wq.heap.size ≤ k ∧ k < n11) D (PX.out.ext ED) (HV.out.ext ED) (ht.out.ext ED) (fun k hk he => by omega)).mono ?_
          rintro e w19 ⟨rfl, v2, B19, V19, M19⟩
          (try dsimp only)
          have M20 := (Mod.of_ext (S := fun k => k = n11) ED).trans M19
          refine hK.out _ _ M20 (fun hHeld => ?_)
          clear hK K
          (try simp only [Act.put]); (try simp only [List.getElem_toArray]); (try simp only [List.getElem_cons_succ]); (try simp only [List.getElem_cons_zero]); (try simp only [List.setIfInBounds_toArray]); (try simp only [List.set_cons_succ]); (try simp only [List.set_cons_zero])
          refine wpAnyH_done (by kernel_rfl) ?_ _
          have hpt := putAll_take HQ.out m (mg0 m.k)
          rw [← HFV.out] at hpt
          rw [← hpt] at B19 V19
          have B19 := Lib.hid B19
          have V19 := Lib.hid V19
          have M21 := Lib.hid (HM.out.trans M20)
          clear M19 M20 hHeld hpt hen d0 d1 d2 d3
          go_wp2
          exact ⟨⟨q + 1, v2, by omega, by go_num, B19, V19, M21⟩, by simp [intOf]; omega⟩
        · obtain rfl : q = j := by omega
          rw [List.take_of_length_le (by rw [HKL.out]; exact Nat.le_refl _), ← HOWN.out] at PX HV
          have HFI := HFI.out
          rw [← HOWN.out] at HFI
          obtain ⟨Av, cv, rfl, -, -⟩ := HV.out.shape
          have hown1 : (ownM m).nm.size ≤ 1000000 := by have := (own_sizes m).1; have := HOK.out.nm; omega
          have hown2 : (ownM m).la.size ≤ 1000000 := by have := (own_sizes m).2.1; have := HOK.out.la; omega
          have HFM := Lib.hid (fun w' => fitsm_any (ownM m) (.slice Av (ownM m).da.length cv) w' hown1 hown2)
          go_wp2_with (first | (refine wpList_load_row rfl 28 _ rfl _ rfl 67 _ _ _ PX.out Tryz.underlying28 rfl hiM ?_) | fail)
          refine (HFM.out _).mono ?_
          rintro e w9 ⟨qf, rfl, hqf, E9⟩
          obtain rfl : qf = true := hqf.2 HFI
          have P9 := Lib.hid (PX.out.ext E9)
          have Pr := Lib.hid ((P34.out.mod HM.out (by omega)).ext E9)
          have HV9 := Lib.hid (HV.out.ext E9)
          have HM9 := Lib.hid (HM.out.ext E9)
          have HRES := Lib.hid (show ∀ v e w', (e = .returned (.tuple #[.agg (mgA (ownM m) v), .int .i64 0]) ∧ RdS Ub8 (fun k => w.heap.size ≤ k) w' v (ownM m).da ∧ Ext w w') → DecP m w e w' from fun v _ _ h => ⟨v, h⟩)
          generalize ownM m = om at *
          clear HFM HFI HKX HL HPS HFT HOK HOWN HKL HRK hkb hwr hLi hLb
          clear HM PX HV hqf hown1 hown2 E9
          generalize Value.agg #[.int .i64 m.k, .int .u32 0, .int .u32 0, .int .u32 0, .int .u32 0, .int .u32 0, .string ⟨#[]⟩, .string ⟨#[]⟩, .bool false, .slice none 0 0] = z56
          generalize Value.agg (mgA om (.slice Av om.da.length cv)) = z79
          go_upto_region 23 with fail
          go_wp2_with (first | (refine wpList_load_row rfl 28 _ rfl _ rfl 67 _ _ _ P9.out Tryz.underlying28 rfl hiM ?_) | (refine wpList_store_M rfl 28 _ _ rfl w.heap.size _ rfl rfl 28 _ Pr.out hiM rfl (by simp [Value.oneCell']) ?_; intro w10 P10 M10))
          refine bodyPost_ret_by (Kb.results_cell_tmp Tryz.results11 _ _ w.heap.size 28 _ _ _ rfl _ rfl P10 Tryz.underlying28 rfl hiM) rfl ?_
          refine HRES.out _ _ _ ⟨rfl, ?_, ?_⟩
          · exact (HV9.out.mod M10 (fun k _ hk he => by omega)).mono (fun k _ hk => by omega)
          · exact Mod.toExt (Mod.toExt E04 HM9.out (fun k hk he => by omega)) M10 (fun k hk he => by omega)
end Go.Proofs.YtldijmappinngaaGreatDoor
