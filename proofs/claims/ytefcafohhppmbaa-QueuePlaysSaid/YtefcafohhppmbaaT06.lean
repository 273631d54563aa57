/- Through any steps of any queue each answers as the document's, walked: the law answers true for every argument. Conditions: the steps are fewer than ten billions, lengths within the reach. -/
import Derived.Test.YtefcafohhppmbaaS06
namespace Go.Proofs.Ytefcafohhppmbaa
open Go.RowKit Go.Kb

theorem fr_le2 {c : Cf} {g : Nat} {F : Nat → Prop} {w : World} {l : List (List Int)} {o : Bool} (h : Qm c g F w l o) (x : Opn) : (doB l x).length ≤ 65536 := by
  obtain ⟨_, _, _, _, _, h5, h6⟩ := h
  unfold badC at h6
  have key : (frL l).length ≤ 65536 := by
    rcases l with _ | ⟨b, r⟩
    · simp [frL]
    · have := rec_le (l := b :: r) (b := b) (by simp)
      show b.length ≤ 65536
      omega
  unfold doB
  split
  · exact key
  · split
    · exact key
    · simp
theorem two_new {c : Cf} {g gr base : Nat} {w : World} (hq : Blk w g 54 (qb c (.slice none 0 0) 0 false)) (hr : Blk w gr 45 (rb c (.slice none 0 0) false)) (hc : ¬ badC c) (h1 : base ≤ g) (h2 : g < gr) :
    Two c g gr base (fun _ => False) w [] false [] false :=
  ⟨fun _ => False, fun _ => False, Qm.new hq hc, ⟨_, hr, TailS.nil _ _ _ _, fun _ h => h.elim, by unfold badC at hc; simp; omega, by unfold badC at hc; simp [usedL]; omega, hc⟩, fun j hj hk => by
    simp only [or_false] at hj hk
    omega, fun j hj => ⟨by simp only [or_false] at hj; omega, fun h => h⟩⟩
theorem two_fr {c : Cf} {g gr base : Nat} {R : Nat → Prop} {w : World} {l l2 : List (List Int)} {o o2 : Bool} (h : Two c g gr base R w l o l2 o2) (x : Opn) : (doB l x).length ≤ 65536 := by
  obtain ⟨F, G, hQ, _⟩ := h
  exact fr_le2 hQ x
set_option maxHeartbeats 3000000 in
set_option maxRecDepth 100000 in
theorem queuePlays_walk (B R H L : Int) (v : Value) (ops : List Opn) (w : World) (ho : RdS Po (fun _ => True) w v ops) (hn : ops.length ≤ 10000000000000) (hx : ∀ x ∈ ops, x.2.length ≤ 140737488355328) :
    Calls Try.prog 3 #[.agg #[.int .i64 B, .int .i64 R, .int .i64 H, .int .i64 L], v] w fun e w' => e = .returned (.bool true) ∧ Ext w w' := by
  obtain ⟨Ad, ca, rfl, hc1, hc2⟩ := ho.shape
  have HO := Lib.hid ho
  have HX := Lib.hid hx
  clear ho hx
  obtain ⟨c, hc⟩ : ∃ c : Cf, c = ⟨B, R, H, L⟩ := ⟨_, rfl⟩
  have hC := Lib.hid hc
  clear hc
  obtain ⟨w0, hw0⟩ : ∃ w0, w0 = w.alloc (.cells #[.int .i64 B, .int .i64 R, .int .i64 H, .int .i64 L] 23) := ⟨_, rfl⟩
  have hE0 : Ext w w0 := by rw [hw0]; exact (by repeat (first | with_reducible exact Ext.refl _ | refine Ext.drewN ?_ _ | refine Ext.drew ?_ | refine Ext.alloc ?_ _ | assumption | (refine Below.trans ?_ (by assumption)) | (refine Ext.trans ?_ (by assumption)) | (refine Below.trans ?_ (Below.mono (by assumption) (by omega)))))
  have hW0 := Lib.hid hw0
  clear hw0
  have HO : Hid (RdS Po (fun k => k < w0.heap.size) w0 (.slice Ad ops.length ca) ops) := Lib.hid ((HO.out.lt.ext hE0).mono fun k hk _ => hk)
  go_enter Try.func3, Try.ntmps3
  go_wp2_with fail
  rw [← hW0.out]
  refine (alive_any _).mono ?_
  rintro e w1 ⟨rfl, E1⟩
  go_wp2_with fail
  refine (great_any _ ops _ (HO.out.ext (by repeat (first | with_reducible exact Ext.refl _ | refine Ext.drewN ?_ _ | refine Ext.drew ?_ | refine Ext.alloc ?_ _ | assumption | (refine Below.trans ?_ (by assumption)) | (refine Ext.trans ?_ (by assumption)) | (refine Below.trans ?_ (Below.mono (by assumption) (by omega)))))) (by omega)).mono ?_
  rintro e w2 ⟨rfl, E2⟩
  cases hg : greatL ops
  rotate_left
  · go_wp2
    go_ret
    exact ⟨rfl, (by repeat (first | with_reducible exact Ext.refl _ | refine Ext.drewN ?_ _ | refine Ext.drew ?_ | refine Ext.alloc ?_ _ | assumption | (refine Below.trans ?_ (by assumption)) | (refine Ext.trans ?_ (by assumption)) | (refine Below.trans ?_ (Below.mono (by assumption) (by omega)))))⟩
  have hlen := great_not hg
  clear hg
  have B2 : Blk w2 w.heap.size 23 #[.int .i64 B, .int .i64 R, .int .i64 H, .int .i64 L] := Blk.ext (by rw [hW0.out]; exact Blk.at_ _ _ rfl) (show Ext w0 w2 from (by repeat (first | with_reducible exact Ext.refl _ | refine Ext.drewN ?_ _ | refine Ext.drew ?_ | refine Ext.alloc ?_ _ | assumption | (refine Below.trans ?_ (by assumption)) | (refine Ext.trans ?_ (by assumption)) | (refine Below.trans ?_ (Below.mono (by assumption) (by omega))))))
  have m0 : w2.cell? ⟨w.heap.size, 0, none⟩ = some (.int .i64 B) := B2.cell 0
  have m1 : w2.cell? ⟨w.heap.size, 1, none⟩ = some (.int .i64 R) := B2.cell 1
  have m2 : w2.cell? ⟨w.heap.size, 2, none⟩ = some (.int .i64 H) := B2.cell 2
  have m3 : w2.cell? ⟨w.heap.size, 3, none⟩ = some (.int .i64 L) := B2.cell 3
  clear B2
  go_wp2_with fail
  refine (made_any B R H L _).mono ?_
  rintro e w3 (⟨hb, g, hg, rfl, hB, E3⟩ | ⟨hb, rfl, E3⟩)
  rotate_left
  · have m0 := cell_ext E3 m0
    have m1 := cell_ext E3 m1
    have m2 := cell_ext E3 m2
    have m3 := cell_ext E3 m3
    go_wp2_with fail
    refine (rnew_any B R H L _).mono ?_
    rintro e w4 (⟨hb', _⟩ | ⟨_, rfl, E4⟩)
    · exact absurd hb hb'
    go_wp2
    go_ret
    exact ⟨rfl, (by repeat (first | with_reducible exact Ext.refl _ | refine Ext.drewN ?_ _ | refine Ext.drew ?_ | refine Ext.alloc ?_ _ | assumption | (refine Below.trans ?_ (by assumption)) | (refine Ext.trans ?_ (by assumption)) | (refine Below.trans ?_ (Below.mono (by assumption) (by omega)))))⟩
  have m0 := cell_ext E3 m0
  have m1 := cell_ext E3 m1
  have m2 := cell_ext E3 m2
  have m3 := cell_ext E3 m3
  have HB3 := Lib.hid hB
  clear hB
  go_wp2_with fail
  refine (rnew_any B R H L _).mono ?_
  rintro e w4 (⟨_, gr, hgr, rfl, hBr, E4⟩ | ⟨hb', _⟩)
  rotate_left
  · exact absurd hb' hb
  have HT0 : Hid (Two c g gr w0.heap.size (fun _ => False) w4 [] false [] false) := Lib.hid (by
    rw [hC.out]
    have := HB3.out.lt
    have := Below.size (show Ext w0 w2 from (by repeat (first | with_reducible exact Ext.refl _ | refine Ext.drewN ?_ _ | refine Ext.drew ?_ | refine Ext.alloc ?_ _ | assumption | (refine Below.trans ?_ (by assumption)) | (refine Ext.trans ?_ (by assumption)) | (refine Below.trans ?_ (Below.mono (by assumption) (by omega))))))
    exact two_new (HB3.out.ext E4) hBr hb (by omega) (by omega))
  have EA : Ext w0 w4 := (by repeat (first | with_reducible exact Ext.refl _ | refine Ext.drewN ?_ _ | refine Ext.drew ?_ | refine Ext.alloc ?_ _ | assumption | (refine Below.trans ?_ (by assumption)) | (refine Ext.trans ?_ (by assumption)) | (refine Below.trans ?_ (Below.mono (by assumption) (by omega)))))
  clear hBr m0 m1 m2 m3 E1 E2 E3 E4 hg hgr HB3 hb
  go_wp2
  go_loopw [55] (fun i wr => ∃ (k : Nat) (l : List (List Int)) (o : Bool), k ≤ ops.length ∧ i = .int .i64 k ∧ Hid (Two c g gr w0.heap.size (fun _ => False) wr l o l o) ∧ Ext w0 wr) (fun i _ => ops.length - (intOf i).toNat)
  case atStart => exact ⟨0, _, _, Nat.zero_le _, rfl, HT0, EA⟩
  case round =>
    obtain ⟨k, l, o, hk, rfl, hT, hE⟩ := hrel
    obtain ⟨wq, rfl⟩ : ∃ wq, wq = wr := ⟨_, rfl⟩
    by_cases hlt : k < ops.length
    · obtain ⟨b, off, Ad', i, x, c', rfl, hx, hy, hd, hr, hx1, hx2⟩ := op_at HO.out.y hlt
      have hx := cell_ext hE hx
      have hy := cell_ext hE hy
      have hxl : x.length ≤ 140737488355328 := HX.out (i, x) (List.mem_of_getElem? hd.out)
      have hr := Lib.hid (hr.out.ext hE)
      have hs0 := hE.size
      obtain ⟨n, hn⟩ : ∃ n, x.length = n := ⟨_, rfl⟩
      have HN := Lib.hid hn
      rw [hn] at hx1 hy hxl hr
      clear hn
      have ob : Blk (wq.alloc (.cells #[.int .i64 i, .slice Ad' n c'] 36)) wq.heap.size 36 #[.int .i64 i, .slice Ad' n c'] := Blk.at_ _ _ rfl
      have OB := Lib.hid ob
      clear ob
      go_wp2_with (at_builtin; refine wpList_app (e := Ub) (base := wq.heap.size + 1) (B := fun _ => False) (A := fun _ => False) rfl _ (.tmp 61) rfl Try.underlying34 info_u8 rfl (OwnS.empty Ub _ (fun _ => False) (by simp) (Nat.le_refl _)) rfl (RI.y (RdN.ext (RdS.ri hr.out) (by repeat (first | with_reducible exact Ext.refl _ | refine Ext.drewN ?_ _ | refine Ext.drew ?_ | refine Ext.alloc ?_ _ | assumption | (refine Below.trans ?_ (by assumption)) | (refine Ext.trans ?_ (by assumption)) | (refine Below.trans ?_ (Below.mono (by assumption) (by omega))))))) rfl (fun _ _ h => h.elim) (N := n) (by rw [HN.out]; simp) (by simp [maxLen]; omega) (by omega) (by simp) ?_; intro A1 k1 x1 o1 M1 E1; have E1' : Ext (wq.alloc (.cells #[.int .i64 i, .slice Ad' n c'] 36)) x1 := Below.trans ((Ext.refl _).alloc _) (Below.mono E1 (by simp)); have B1 := OB.out.ext E1'; have b1 : x1.cell? ⟨wq.heap.size, 0, none⟩ = some (.int .i64 i) := B1.cell 0)
      rw [List.nil_append] at o1
      have E1 : Ext wq x1 := (by repeat (first | with_reducible exact Ext.refl _ | refine Ext.drewN ?_ _ | refine Ext.drew ?_ | refine Ext.alloc ?_ _ | assumption | (refine Below.trans ?_ (by assumption)) | (refine Ext.trans ?_ (by assumption)) | (refine Below.trans ?_ (Below.mono (by assumption) (by omega)))))
      have hrow1 : Hid (∀ k, (Value.slice A1 n k1).ownBlock = some k → wq.heap.size < k ∧ k < x1.heap.size) := Lib.hid fun k hk => by have := o1.row k hk; omega
      have O1 := Lib.hid o1
      have hwl : wq.heap.size < x1.heap.size := B1.lt
      have OB1 := Lib.hid B1
      have HT1 : Hid (Two c g gr w0.heap.size (fun j => (Value.slice A1 n k1).ownBlock = some j ∨ j = wq.heap.size) x1 l o l o) := Lib.hid ((hT.out.fresh fun j hj => by
        rcases hj with hj | rfl
        · have := (hrow1.out j hj).1; omega
        · exact Nat.le_refl _).ext E1)
      have EA1 : Ext w0 x1 := hE.trans E1
      have hr1 := Lib.hid (hr.out.ext E1)
      obtain ⟨bl, hbl⟩ : ∃ bl, doB l (i, x) = bl := ⟨_, rfl⟩
      obtain ⟨z, hz⟩ : ∃ z, doK c l (i, x) = z := ⟨_, rfl⟩
      obtain ⟨l4, hl4⟩ : ∃ l4, doL c l (i, x) = l4 := ⟨_, rfl⟩
      obtain ⟨o4, ho4⟩ : ∃ o4, doO c l o (i, x) = o4 := ⟨_, rfl⟩
      obtain ⟨nb, hnb⟩ : ∃ nb, bl.length = nb := ⟨_, rfl⟩
      have hbn : nb ≤ 65536 := by rw [← hnb, ← hbl]; exact two_fr HT1.out _
      have HBL := Lib.hid hbl
      have HZ := Lib.hid hz
      have HL4 := Lib.hid hl4
      have HO4 := Lib.hid ho4
      have HNB := Lib.hid hnb
      have hxl' := hxl
      rw [← HN.out] at hxl'
      have HXL := Lib.hid hxl'
      clear hbl hz hl4 ho4 hnb o1 M1 E1' B1 hxl' E1
      go_wp2_with fail
      refine (do_two _ (i, x) HT1.out (RdS.ri O1.out.rdT) HXL.out (fun j hj => ?_) EA1.size).mono ?_
      · rcases hj with hj | rfl
        · exact (hrow1.out j hj).2
        · exact hwl
      rintro e x6 ⟨A6, k6, rfl, O6, HT6, M6⟩
      rw [HBL.out, HNB.out] at O6 HT6 ⊢
      rw [HZ.out]
      rw [HL4.out, HO4.out] at HT6
      have EA6 : Ext w0 x6 := Mod.toExt EA1 M6 fun k hk hs => by have := hs.1; omega
      have B6 := OB1.out.mod M6 fun h => h.2 (.inr rfl)
      have b1 : x6.cell? ⟨wq.heap.size, 0, none⟩ = some (.int .i64 i) := B6.cell 0
      have b2 : x6.cell? ⟨wq.heap.size, 1, none⟩ = some (.slice Ad' n c') := B6.cell 1
      have OB6 := Lib.hid B6
      have O16 := Lib.hid (O1.out.mod M6 (fun k hk hs => hs.2 (.inl hk)) fun _ _ h => h.elim)
      have hr6 := Lib.hid (hr1.out.mod M6 fun k _ hk hs => by have := hs.1; omega)
      have hrow6 : Hid (∀ k, (Value.slice A6 nb k6).ownBlock = some k → x1.heap.size ≤ k ∧ k < x6.heap.size) := Lib.hid O6.row
      have O6 := Lib.hid O6
      have HT6 := Lib.hid HT6
      have hs6 := M6.size
      clear M6 B6
      go_wp2_with fail
      refine (rdo_two _ (i, x) HT6.out (RdS.ri hr6.out) HXL.out (fun j hj => ?_) EA6.size).mono ?_
      · rcases hj with (hj | rfl) | hj
        · have := (hrow1.out j hj).2; omega
        · omega
        · exact (hrow6.out j hj).2
      rintro e x7 ⟨A7, k7, rfl, RD7, HT7, M7⟩
      rw [HBL.out, HNB.out] at RD7 ⊢
      rw [HZ.out]
      rw [HL4.out, HO4.out] at HT7
      have EA7 : Ext w0 x7 := Mod.toExt EA6 M7 fun k hk hs => by have := hs.1; omega
      have B7 := OB6.out.mod M7 fun h => h.2 (.inl (.inr rfl))
      have b1 : x7.cell? ⟨wq.heap.size, 0, none⟩ = some (.int .i64 i) := B7.cell 0
      have b2 : x7.cell? ⟨wq.heap.size, 1, none⟩ = some (.slice Ad' n c') := B7.cell 1
      have O17 := Lib.hid (O16.out.mod M7 (fun k hk hs => hs.2 (.inl (.inl hk))) fun _ _ h => h.elim)
      have O67 := Lib.hid (O6.out.mod M7 (fun k hk hs => hs.2 (.inr hk)) fun _ _ h => h.elim)
      have hr7 := Lib.hid (hr6.out.mod M7 fun k _ hk hs => by have := hs.1; omega)
      have RD7 := Lib.hid RD7
      have HT7 := Lib.hid HT7
      have hs7 := M7.size
      clear M7 B7 OB6 OB1 OB
      obtain ⟨Aq, m, kq, u, hm1, hu1, Bq⟩ := HT7.out.qm
      obtain ⟨Ar, m', kr, hm2, hkr1, hkr2, Br⟩ := HT7.out.qr
      obtain rfl : m' = m := by rw [hm1, hm2]
      have hbd := two_bd HT7.out
      rw [hu1, ← hm1] at hbd
      obtain ⟨-, -, -, -, a4, a5, -⟩ := rb_cells Br
      have BQ := Lib.hid Bq
      have HU := Lib.hid hu1
      have z1 : (z != z) = false := by cases z <;> rfl
      have z2 : (o4 != o4) = false := by cases o4 <;> rfl
      have z3 : (u != u) = false := by simp
      have z4 : ((m' : Int) != m') = false := by simp
      clear Bq Br hu1 hm1 hm2
      go_wp2
      go_quiet (first
        | (go_at_call 13; exact Qt.calls (u := .bool true) (by rw [decide_eq_true rfl]) (bytes_q _ _ bl bl _ (RdN.ext (RdS.ri O67.out.rdT) (by repeat (first | with_reducible exact Ext.refl _ | refine Ext.drewN ?_ _ | refine Ext.drew ?_ | refine Ext.alloc ?_ _ | assumption | (refine Below.trans ?_ (by assumption)) | (refine Ext.trans ?_ (by assumption)) | (refine Below.trans ?_ (Below.mono (by assumption) (by omega)))))) (RdN.ext (RdS.ri RD7.out) (by repeat (first | with_reducible exact Ext.refl _ | refine Ext.drewN ?_ _ | refine Ext.drew ?_ | refine Ext.alloc ?_ _ | assumption | (refine Below.trans ?_ (by assumption)) | (refine Ext.trans ?_ (by assumption)) | (refine Below.trans ?_ (Below.mono (by assumption) (by omega))))))))
        | (go_at_call 13; exact Qt.calls (u := .bool true) (by rw [decide_eq_true rfl]) (bytes_q _ _ x x _ (RdN.ext (RdS.ri O17.out.rdT) (by repeat (first | with_reducible exact Ext.refl _ | refine Ext.drewN ?_ _ | refine Ext.drew ?_ | refine Ext.alloc ?_ _ | assumption | (refine Below.trans ?_ (by assumption)) | (refine Ext.trans ?_ (by assumption)) | (refine Below.trans ?_ (Below.mono (by assumption) (by omega)))))) (RdN.ext (RdS.ri hr7.out) (by repeat (first | with_reducible exact Ext.refl _ | refine Ext.drewN ?_ _ | refine Ext.drew ?_ | refine Ext.alloc ?_ _ | assumption | (refine Below.trans ?_ (by assumption)) | (refine Ext.trans ?_ (by assumption)) | (refine Below.trans ?_ (Below.mono (by assumption) (by omega))))))))
        | (go_at_call 14; exact Qt.calls rfl (count_qt _ BQ.out))
        | (go_at_call 15; exact Qt.calls rfl (used_qt _ BQ.out))
        | (go_at_call 17; exact Qt.calls rfl (over_qt _ BQ.out))
        | (go_at_call 16; exact Qt.calls rfl (two_rused (HT7.out.ext (by repeat (first | with_reducible exact Ext.refl _ | refine Ext.drewN ?_ _ | refine Ext.drew ?_ | refine Ext.alloc ?_ _ | assumption | (refine Below.trans ?_ (by assumption)) | (refine Ext.trans ?_ (by assumption)) | (refine Below.trans ?_ (Below.mono (by assumption) (by omega)))))) HU.out)))
      by_cases hi3 : i = 3
      · subst hi3
        go_wp2
        go_loopw [139] (fun j wr => ∃ (m : Nat) (zs : List Int), m ≤ n ∧ j = .int .i64 m ∧ Hid (OwnS Ub 5 (wq.heap.size + 1) (fun _ => False) wr (Value.slice A1 n k1) zs) ∧ Hid (zs.length = n) ∧ Hid (Mod (fun k => ((Value.slice A1 n k1)).ownBlock = some k) x7 wr)) (fun j _ => n - (intOf j).toNat)
        case atStart => exact ⟨0, x, Nat.zero_le _, rfl, Lib.hid (O17.out.ext (by repeat (first | with_reducible exact Ext.refl _ | refine Ext.drewN ?_ _ | refine Ext.drew ?_ | refine Ext.alloc ?_ _ | assumption | (refine Below.trans ?_ (by assumption)) | (refine Ext.trans ?_ (by assumption)) | (refine Below.trans ?_ (Below.mono (by assumption) (by omega)))))), HN, Lib.hid (by repeat (first | with_reducible exact Mod.refl _ _ | refine Mod.drew ?_ | refine Mod.drewN ?_ _ | refine Mod.set1 ?_ _))⟩
        case round =>
          obtain ⟨m, zs, hm, rfl, OZ, HZl, MZ⟩ := hrel
          by_cases hlm : m < n
          ·
            obtain ⟨g1, rfl, hg1, hf1⟩ := OZ.out.addr (by omega)
            have hz := OZ.out.ints
            rw [HZl.out] at hz
            obtain ⟨y, hy1, hy2, hy3⟩ := own_int hz hlm
            have HY := Lib.hid hy1
            have HZ1 := Lib.hid hz
            clear hy1 hz
            go_wp2
            go_roundw
            case rel => exact ⟨m + 1, zs.set m _, by omega, by go_num, Lib.hid (OwnS.of_ints (by rw [List.length_set, HZl.out]; exact own_int_set HZ1.out m _)), Lib.hid (by rw [List.length_set]; exact HZl.out), Lib.hid (MZ.out.set_ (p := ⟨g1, m, none⟩) (.inr rfl) _)⟩
            case measure => simp [intOf]; omega
          · have HTZ := Lib.hid (HT7.out.modR MZ.out fun _ h => .inl (.inl h))
            have EZ : Ext w0 wr := Mod.toExt (show Ext w0 x7 from (by repeat (first | with_reducible exact Ext.refl _ | refine Ext.drewN ?_ _ | refine Ext.drew ?_ | refine Ext.alloc ?_ _ | assumption | (refine Below.trans ?_ (by assumption)) | (refine Ext.trans ?_ (by assumption)) | (refine Below.trans ?_ (Below.mono (by assumption) (by omega)))))) MZ.out fun k hk hs => by have := (hrow1.out k hs).1; omega
            go_wp2
            go_roundw
            case rel => exact ⟨k + 1, _, _, by omega, by go_num, Lib.hid HTZ.out.none, EZ⟩
            case measure => simp [intOf]; omega
      · go_wp2
        go_loopw [125] (fun j wr => ∃ (m : Nat) (zs : List Int), m ≤ nb ∧ j = .int .i64 m ∧ Hid (OwnS Ub 5 x1.heap.size (fun _ => False) wr (Value.slice A6 nb k6) zs) ∧ Hid (zs.length = nb) ∧ Hid (Mod (fun k => ((Value.slice A6 nb k6)).ownBlock = some k) x7 wr)) (fun j _ => nb - (intOf j).toNat)
        case atStart => exact ⟨0, bl, Nat.zero_le _, rfl, Lib.hid (O67.out.ext (by repeat (first | with_reducible exact Ext.refl _ | refine Ext.drewN ?_ _ | refine Ext.drew ?_ | refine Ext.alloc ?_ _ | assumption | (refine Below.trans ?_ (by assumption)) | (refine Ext.trans ?_ (by assumption)) | (refine Below.trans ?_ (Below.mono (by assumption) (by omega)))))), HNB, Lib.hid (by repeat (first | with_reducible exact Mod.refl _ _ | refine Mod.drew ?_ | refine Mod.drewN ?_ _ | refine Mod.set1 ?_ _))⟩
        case round =>
          obtain ⟨m, zs, hm, rfl, OZ, HZl, MZ⟩ := hrel
          by_cases hlm : m < nb
          ·
            obtain ⟨g1, rfl, hg1, hf1⟩ := OZ.out.addr (by omega)
            have hz := OZ.out.ints
            rw [HZl.out] at hz
            obtain ⟨y, hy1, hy2, hy3⟩ := own_int hz hlm
            have HY := Lib.hid hy1
            have HZ1 := Lib.hid hz
            clear hy1 hz
            go_wp2
            go_roundw
            case rel => exact ⟨m + 1, zs.set m _, by omega, by go_num, Lib.hid (OwnS.of_ints (by rw [List.length_set, HZl.out]; exact own_int_set HZ1.out m _)), Lib.hid (by rw [List.length_set]; exact HZl.out), Lib.hid (MZ.out.set_ (p := ⟨g1, m, none⟩) (.inr rfl) _)⟩
            case measure => simp [intOf]; omega
          · obtain ⟨x8, rfl⟩ : ∃ x8, x8 = wr := ⟨_, rfl⟩
            have HT8 := Lib.hid (HT7.out.modR MZ.out fun _ h => .inr h)
            have EA8 : Ext w0 x8 := Mod.toExt EA7 MZ.out fun k hk hs => by have := (hrow6.out k hs).1; have := EA1.size; omega
            have O18 := Lib.hid (O17.out.mod MZ.out (fun k hk hs => by have := (hrow6.out k hs).1; have := (hrow1.out k hk).2; omega) fun _ _ h => h.elim)
            clear MZ OZ HZl
            go_wp2
            go_loopw [139] (fun j wr => ∃ (m : Nat) (zs : List Int), m ≤ n ∧ j = .int .i64 m ∧ Hid (OwnS Ub 5 (wq.heap.size + 1) (fun _ => False) wr (Value.slice A1 n k1) zs) ∧ Hid (zs.length = n) ∧ Hid (Mod (fun k => ((Value.slice A1 n k1)).ownBlock = some k) x8 wr)) (fun j _ => n - (intOf j).toNat)
            case atStart => exact ⟨0, x, Nat.zero_le _, rfl, Lib.hid (O18.out.ext (by repeat (first | with_reducible exact Ext.refl _ | refine Ext.drewN ?_ _ | refine Ext.drew ?_ | refine Ext.alloc ?_ _ | assumption | (refine Below.trans ?_ (by assumption)) | (refine Ext.trans ?_ (by assumption)) | (refine Below.trans ?_ (Below.mono (by assumption) (by omega)))))), HN, Lib.hid (by repeat (first | with_reducible exact Mod.refl _ _ | refine Mod.drew ?_ | refine Mod.drewN ?_ _ | refine Mod.set1 ?_ _))⟩
            case round =>
              obtain ⟨m, zs, hm, rfl, OZ, HZl, MZ⟩ := hrel
              by_cases hlm : m < n
              ·
                obtain ⟨g1, rfl, hg1, hf1⟩ := OZ.out.addr (by omega)
                have hz := OZ.out.ints
                rw [HZl.out] at hz
                obtain ⟨y, hy1, hy2, hy3⟩ := own_int hz hlm
                have HY := Lib.hid hy1
                have HZ1 := Lib.hid hz
                clear hy1 hz
                go_wp2
                go_roundw
                case rel => exact ⟨m + 1, zs.set m _, by omega, by go_num, Lib.hid (OwnS.of_ints (by rw [List.length_set, HZl.out]; exact own_int_set HZ1.out m _)), Lib.hid (by rw [List.length_set]; exact HZl.out), Lib.hid (MZ.out.set_ (p := ⟨g1, m, none⟩) (.inr rfl) _)⟩
                case measure => simp [intOf]; omega
              · have HTZ := Lib.hid (HT8.out.modR MZ.out fun _ h => .inl (.inl h))
                have EZ : Ext w0 wr := Mod.toExt (show Ext w0 x8 from (by repeat (first | with_reducible exact Ext.refl _ | refine Ext.drewN ?_ _ | refine Ext.drew ?_ | refine Ext.alloc ?_ _ | assumption | (refine Below.trans ?_ (by assumption)) | (refine Ext.trans ?_ (by assumption)) | (refine Below.trans ?_ (Below.mono (by assumption) (by omega)))))) MZ.out fun k hk hs => by have := (hrow1.out k hs).1; omega
                go_wp2
                go_roundw
                case rel => exact ⟨k + 1, _, _, by omega, by go_num, Lib.hid HTZ.out.none, EZ⟩
                case measure => simp [intOf]; omega
    · go_wp2
      go_ret
      exact ⟨rfl, (by repeat (first | with_reducible exact Ext.refl _ | refine Ext.drewN ?_ _ | refine Ext.drew ?_ | refine Ext.alloc ?_ _ | assumption | (refine Below.trans ?_ (by assumption)) | (refine Ext.trans ?_ (by assumption)) | (refine Below.trans ?_ (Below.mono (by assumption) (by omega)))))⟩
end Go.Proofs.Ytefcafohhppmbaa
