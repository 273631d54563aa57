/- Records come out as they went in, walked: the law answers true for every argument. Conditions: the steps are fewer than ten billions, lengths within the reach. -/
import Derived.Test.YtefcafohhppmbaaM06
namespace Go.Proofs.Ytefcafohhppmbaa
open Go.RowKit Go.Kb

theorem fr_le {c : Cf} {g : Nat} {F : Nat → Prop} {w : World} {l : List (List Int)} {o : Bool} (h : Qm c g F w l o) : (frL l).length ≤ 65536 := by
  obtain ⟨_, _, _, _, _, h5, h6⟩ := h
  unfold badC at h6
  rcases l with _ | ⟨b, r⟩
  · simp [frL]
  · have := rec_le (l := b :: r) (b := b) (by simp)
    show b.length ≤ 65536
    omega
theorem order_end {li lo l : List (List Int)} (h : li = lo ++ l) (hl : (l.length : Int) ≤ 0) : l = [] ∧ li = lo := by
  have : l = [] := List.eq_nil_of_length_eq_zero (by omega)
  subst this
  simpa using h
theorem order_pop {li lo l : List (List Int)} (h : li = lo ++ l) (hl : l.isEmpty = false) : li = (lo ++ [frL l]) ++ l.tail := by
  rcases l with _ | ⟨b, r⟩
  · simp at hl
  · rw [h]; simp [frL]
theorem io_count {c : Cf} {g base : Nat} {R : Nat → Prop} {w : World} {vi vo : Value} {li lo l : List (List Int)} {o : Bool} (h : InOut c g base R w vi li vo lo l o) {m : Int} (hm : (l.length : Int) = m) :
    Calls Try.prog 14 #[.pointer (some ⟨g, 0, none⟩)] w fun e w' => e = .returned (.int .i64 m) ∧ Ext w w' := by
  obtain ⟨F, hQ⟩ := h.qm
  exact count_l hQ hm
theorem io_used {c : Cf} {g base : Nat} {R : Nat → Prop} {w : World} {vi vo : Value} {li lo l : List (List Int)} {o : Bool} (h : InOut c g base R w vi li vo lo l o) {m : Int} (hm : usedL l = m) :
    Calls Try.prog 15 #[.pointer (some ⟨g, 0, none⟩)] w fun e w' => e = .returned (.int .i64 m) ∧ Ext w w' := by
  obtain ⟨F, hQ⟩ := h.qm
  exact used_l hQ hm
theorem io_over {c : Cf} {g base : Nat} {R : Nat → Prop} {w : World} {vi vo : Value} {li lo l : List (List Int)} {o : Bool} (h : InOut c g base R w vi li vo lo l o) {m : Bool} (hm : o = m) :
    Calls Try.prog 17 #[.pointer (some ⟨g, 0, none⟩)] w fun e w' => e = .returned (.bool m) ∧ Ext w w' := by
  subst hm
  obtain ⟨F, hQ⟩ := h.qm
  exact over_q hQ
theorem io_front {c : Cf} {g base : Nat} {R : Nat → Prop} {w : World} {vi vo : Value} {li lo l : List (List Int)} {o : Bool} (h : InOut c g base R w vi li vo lo l o) :
    Calls Try.prog 18 #[.pointer (some ⟨g, 0, none⟩)] w fun e w' => OutB w.heap.size (frL l) (!l.isEmpty) e w' ∧ Ext w w' := by
  obtain ⟨F, hQ⟩ := h.qm
  exact front_any c g w l o hQ
theorem io_fr {c : Cf} {g base : Nat} {R : Nat → Prop} {w : World} {vi vo : Value} {li lo l : List (List Int)} {o : Bool} (h : InOut c g base R w vi li vo lo l o) : (frL l).length ≤ 65536 := by
  obtain ⟨F, hQ⟩ := h.qm
  exact fr_le hQ
theorem inv_pop {c : Cf} {l : List (List Int)} {o : Bool} (hc : ¬ badC c) (h : Inv c l o) : Inv c l.tail (popO c l o) := (inv_step hc h (2, [])).1
theorem inv_end {c : Cf} {o : Bool} (hc : ¬ badC c) (h : Inv c [] o) : o = false := h.2 (by unfold badC at hc; simp [usedL]; omega)
theorem push_yes {c : Cf} {l : List (List Int)} {x : List Int} (h : doK c l (1, x) = true) : doL c l (1, x) = l ++ [x] := by
  have h : roomB c l x = true := h
  show pushL c l x = _
  unfold pushL; rw [h]; rfl
theorem push_no {c : Cf} {l : List (List Int)} {x : List Int} (h : doK c l (1, x) = false) : doL c l (1, x) = l := by
  have h : roomB c l x = false := h
  show pushL c l x = _
  unfold pushL; rw [h]; rfl
theorem do_else {c : Cf} {l : List (List Int)} {i : Int} {x : List Int} (h1 : ¬ i = 1) (h2 : ¬ i = 2) : doL c l (i, x) = l := by
  unfold doL; rw [if_neg h1, if_neg h2]
set_option maxHeartbeats 3000000 in
set_option maxRecDepth 100000 in
theorem queueOrder_walk (B R H L : Int) (v : Value) (ops : List Opn) (w : World) (ho : RdS Po (fun _ => True) w v ops) (hn : ops.length ≤ 10000000000000) (hx : ∀ x ∈ ops, x.2.length ≤ 140737488355328) :
    Calls Try.prog 4 #[.agg #[.int .i64 B, .int .i64 R, .int .i64 H, .int .i64 L], v] w fun e w' => e = .returned (.bool true) ∧ Ext w w' := by
  obtain ⟨Ad, ca, rfl, hc1, hc2⟩ := ho.shape
  have HO := Lib.hid ho.lt
  have HX := Lib.hid hx
  clear ho hx
  obtain ⟨c, hc⟩ : ∃ c : Cf, c = ⟨B, R, H, L⟩ := ⟨_, rfl⟩
  have hC := Lib.hid hc
  clear hc
  obtain ⟨w0, hw0⟩ : ∃ w0, w0 = w.alloc (.cells #[.int .i64 B, .int .i64 R, .int .i64 H, .int .i64 L] 23) := ⟨_, rfl⟩
  have hE0 : Ext w w0 := by rw [hw0]; exact (by repeat (first | with_reducible exact Ext.refl _ | refine Ext.drewN ?_ _ | refine Ext.drew ?_ | refine Ext.alloc ?_ _ | assumption | (refine Below.trans ?_ (by assumption)) | (refine Ext.trans ?_ (by assumption)) | (refine Below.trans ?_ (Below.mono (by assumption) (by omega)))))
  have hW0 := Lib.hid hw0
  clear hw0
  have HO0 : Hid (RdS Po (fun k => k < w0.heap.size) w0 (.slice Ad ops.length ca) ops) := Lib.hid ((HO.out.ext hE0).mono fun k hk _ => hk)
  clear HO
  go_enter Try.func4, Try.ntmps4
  go_wp2_with fail
  rw [← hW0.out]
  refine (alive_any _).mono ?_
  rintro e w1 ⟨rfl, E1⟩
  go_wp2_with fail
  refine (great_any _ ops _ (HO0.out.ext (by repeat (first | with_reducible exact Ext.refl _ | refine Ext.drewN ?_ _ | refine Ext.drew ?_ | refine Ext.alloc ?_ _ | assumption | (refine Below.trans ?_ (by assumption)) | (refine Ext.trans ?_ (by assumption)) | (refine Below.trans ?_ (Below.mono (by assumption) (by omega)))))) (by omega)).mono ?_
  rintro e w2 ⟨rfl, E2⟩
  cases hg : greatL ops
  rotate_left
  · go_wp2
    go_ret
    exact ⟨rfl, (by repeat (first | with_reducible exact Ext.refl _ | refine Ext.drewN ?_ _ | refine Ext.drew ?_ | refine Ext.alloc ?_ _ | assumption | (refine Below.trans ?_ (by assumption)) | (refine Ext.trans ?_ (by assumption)) | (refine Below.trans ?_ (Below.mono (by assumption) (by omega)))))⟩
  have hlen := great_not hg
  clear hg
  have B2 : Blk w2 w.heap.size 23 #[.int .i64 B, .int .i64 R, .int .i64 H, .int .i64 L] := Blk.ext (by rw [hW0.out]; exact Blk.at_ _ _ rfl) (show Ext w0 w2 from (by repeat (first | with_reducible exact Ext.refl _ | refine Ext.drewN ?_ _ | refine Ext.drew ?_ | refine Ext.alloc ?_ _ | assumption | (refine Below.trans ?_ (by assumption)) | (refine Ext.trans ?_ (by assumption)) | (refine Below.trans ?_ (Below.mono (by assumption) (by omega))))))
  have m0 : w2.cell? ⟨w.heap.size, 0, none⟩ = some (.int .i64 B) := B2.cell 0
  have m1 : w2.cell? ⟨w.heap.size, 1, none⟩ = some (.int .i64 R) := B2.cell 1
  have m2 : w2.cell? ⟨w.heap.size, 2, none⟩ = some (.int .i64 H) := B2.cell 2
  have m3 : w2.cell? ⟨w.heap.size, 3, none⟩ = some (.int .i64 L) := B2.cell 3
  clear B2
  go_wp2_with fail
  refine (made_any B R H L _).mono ?_
  rintro e w3 (⟨hb, g, hg, rfl, hB, E3⟩ | ⟨hb, rfl, E3⟩)
  rotate_left
  · go_wp2
    go_ret
    exact ⟨rfl, (by repeat (first | with_reducible exact Ext.refl _ | refine Ext.drewN ?_ _ | refine Ext.drew ?_ | refine Ext.alloc ?_ _ | assumption | (refine Below.trans ?_ (by assumption)) | (refine Ext.trans ?_ (by assumption)) | (refine Below.trans ?_ (Below.mono (by assumption) (by omega)))))⟩
  rw [← hC.out] at hb hB
  have hgl := hB.lt
  have hQ0 := Qm.new hB hb
  have hI0 : Hid (Inv c [] false) := Lib.hid ⟨fun h => by unfold badC at hb; simp [usedL] at h; omega, fun _ => rfl⟩
  have hgw : w0.heap.size ≤ g := Nat.le_trans (Below.size (show Ext w0 w2 from (by repeat (first | with_reducible exact Ext.refl _ | refine Ext.drewN ?_ _ | refine Ext.drew ?_ | refine Ext.alloc ?_ _ | assumption | (refine Below.trans ?_ (by assumption)) | (refine Ext.trans ?_ (by assumption)) | (refine Below.trans ?_ (Below.mono (by assumption) (by omega))))))) hg
  have EA : Ext w0 w3 := (by repeat (first | with_reducible exact Ext.refl _ | refine Ext.drewN ?_ _ | refine Ext.drew ?_ | refine Ext.alloc ?_ _ | assumption | (refine Below.trans ?_ (by assumption)) | (refine Ext.trans ?_ (by assumption)) | (refine Below.trans ?_ (Below.mono (by assumption) (by omega)))))
  have HIO : Hid (InOut c g w0.heap.size (fun _ => False) w3 (.slice none 0 0) [] (.slice none 0 0) [] [] false) := Lib.hid ⟨_, fun _ => False, hQ0, OwnS.nil _ _ _ _ _, OwnS.nil _ _ _ _ _, fun _ h => (by cases h), fun _ h => h.elim, fun _ h => (by cases h), hgw, fun _ h => h.elim, fun _ _ h => h⟩
  have HB := Lib.hid hb
  clear hQ0 hB m0 m1 m2 m3 E1 E2 E3 hg hb hgl hgw
  go_wp2
  go_loopw [7, 8, 34] (fun vi vo i wr => ∃ (k : Nat) (li lo l : List (List Int)) (o : Bool), k ≤ ops.length ∧ i = .int .i64 k ∧ Hid (InOut c g w0.heap.size (fun _ => False) wr vi li vo lo l o) ∧ Hid (li = lo ++ l) ∧ li.length ≤ k ∧ lo.length ≤ k ∧ Hid (Inv c l o) ∧ Ext w0 wr) (fun _ _ i _ => ops.length - (intOf i).toNat)
  case atStart => exact ⟨0, _, _, _, _, Nat.zero_le _, rfl, HIO, Lib.hid rfl, Nat.le_refl _, Nat.le_refl _, hI0, EA⟩
  case round =>
    obtain ⟨k, li, lo, l, o, hk, rfl, hIO, hord, hl1, hl2, hI, hE⟩ := hrel
    obtain ⟨wq, rfl⟩ : ∃ wq, wq = wr := ⟨_, rfl⟩
    by_cases hlt : k < ops.length
    · obtain ⟨b, off, Ad', i, x, c', rfl, hx, hy, hd, hr, hx1, hx2⟩ := op_at HO0.out.y hlt
      have hx := cell_ext hE hx
      have hy := cell_ext hE hy
      have hxl : x.length ≤ 140737488355328 := HX.out (i, x) (List.mem_of_getElem? hd.out)
      have hfl := io_fr hIO.out
      obtain ⟨n, hn⟩ : ∃ n, (frL l).length = n := ⟨_, rfl⟩
      obtain ⟨z, hz⟩ : ∃ z, (!l.isEmpty) = z := ⟨_, rfl⟩
      have HN := Lib.hid hn
      have HZ := Lib.hid hz
      rw [hn] at hfl
      clear hn hz
      have ob : Blk (wq.alloc (.cells #[.int .i64 i, .slice Ad' x.length c'] 36)) wq.heap.size 36 #[.int .i64 i, .slice Ad' x.length c'] := Blk.at_ _ _ rfl
      have OB := Lib.hid ob
      clear ob
      go_wp2_with fail
      refine (io_front (hIO.out.ext (by repeat (first | with_reducible exact Ext.refl _ | refine Ext.drewN ?_ _ | refine Ext.drew ?_ | refine Ext.alloc ?_ _ | assumption | (refine Below.trans ?_ (by assumption)) | (refine Ext.trans ?_ (by assumption)) | (refine Below.trans ?_ (Below.mono (by assumption) (by omega))))))).mono ?_
      rintro e x1 ⟨⟨A1, k1, rfl, O1⟩, E1⟩
      rw [HN.out] at O1 ⊢
      rw [HZ.out]
      have hrow1 : Hid (∀ k, (Value.slice A1 n k1).ownBlock = some k → wq.heap.size < k ∧ k < x1.heap.size) := Lib.hid fun k hk => by have := O1.row k hk; simp at this; omega
      have O1 := Lib.hid (O1.lower (base' := wq.heap.size) (by simp))
      have EX1 : Ext wq x1 := (by repeat (first | with_reducible exact Ext.refl _ | refine Ext.drewN ?_ _ | refine Ext.drew ?_ | refine Ext.alloc ?_ _ | assumption | (refine Below.trans ?_ (by assumption)) | (refine Ext.trans ?_ (by assumption)) | (refine Below.trans ?_ (Below.mono (by assumption) (by omega)))))
      have OB := Lib.hid (OB.out.ext E1)
      clear E1
      go_wp2_with (at_builtin; refine wpList_app (e := Ub) (base := x1.heap.size) (B := fun _ => False) (A := fun _ => False) rfl _ (.tmp 44) rfl Try.underlying34 info_u8 rfl (OwnS.empty _ _ _ rfl (Nat.le_refl _)) rfl (RI.y (RdN.alloc (RdS.ri O1.out.rdT) _)) rfl (fun _ _ h => h.elim) (N := n) (by rw [HN.out]; simp) (by simp [maxLen]; omega) (by omega) (by simp) ?_; intro A2 k2 x2 o2 M2 E2)
      have E12 : Ext x1 x2 := (by repeat (first | with_reducible exact Ext.refl _ | refine Ext.drewN ?_ _ | refine Ext.drew ?_ | refine Ext.alloc ?_ _ | assumption | (refine Below.trans ?_ (by assumption)) | (refine Ext.trans ?_ (by assumption)) | (refine Below.trans ?_ (Below.mono (by assumption) (by omega)))))
      have EX2 : Ext wq x2 := EX1.trans E12
      have OB := Lib.hid (OB.out.ext E12)
      have O1 := Lib.hid (O1.out.ext E12)
      rw [List.nil_append] at o2
      have hrow2 : Hid (∀ k, (Value.slice A2 n k2).ownBlock = some k → x1.heap.size ≤ k ∧ k < x2.heap.size) := Lib.hid o2.row
      have O2 := Lib.hid o2
      clear o2 M2 E2 E12
      go_wp2
      go_loopw [48] (fun j wr => ∃ (m : Nat) (zs : List Int), m ≤ n ∧ j = .int .i64 m ∧ Hid (OwnS Ub 5 wq.heap.size (fun _ => False) wr (.slice A1 n k1) zs) ∧ Hid (zs.length = n) ∧ Hid (Mod (fun k => (Value.slice A1 n k1).ownBlock = some k) x2 wr)) (fun j _ => n - (intOf j).toNat)
      case atStart => exact ⟨0, frL l, Nat.zero_le _, rfl, O1, HN, Lib.hid (Mod.refl _ _)⟩
      case round =>
        obtain ⟨m, zs, hm, rfl, OZ, HZl, MZ⟩ := hrel
        by_cases hlm : m < n
        · obtain ⟨g1, rfl, hg1, hf1⟩ := OZ.out.addr (by omega)
          have hz := OZ.out.ints
          rw [HZl.out] at hz
          obtain ⟨y, hy1, hy2, hy3⟩ := own_int hz hlm
          have HY := Lib.hid hy1
          have HZ1 := Lib.hid hz
          clear hy1 hz
          go_wp2
          go_roundw
          case rel => exact ⟨m + 1, zs.set m _, by omega, by go_num, Lib.hid (OwnS.of_ints (by rw [List.length_set, HZl.out]; exact own_int_set HZ1.out m _)), Lib.hid (by rw [List.length_set]; exact HZl.out), Lib.hid (MZ.out.set_ (p := ⟨g1, m, none⟩) (.inr rfl) _)⟩
          case measure => simp [intOf]; omega
        · have EX5 : Ext wq wr := Mod.toExt EX2 MZ.out fun k hk hs => by have := (hrow1.out k hs).1; omega
          have hsz5 := MZ.out.size
          have OB := OB.out.mod MZ.out fun hs => by have := (hrow1.out _ hs).1; omega
          have O2 := Lib.hid (O2.out.mod MZ.out (fun k hk hs => by have := (hrow1.out k hs).2; have := (hrow2.out k hk).1; omega) fun _ _ h => h.elim)
          have b1 : wr.cell? ⟨wq.heap.size, 0, none⟩ = some (.int .i64 i) := OB.cell 0
          have b2 : wr.cell? ⟨wq.heap.size, 1, none⟩ = some (.slice Ad' x.length c') := OB.cell 1
          have OB := Lib.hid OB
          have hwl := OB.out.lt
          have hs1 := EX1.size
          have HIO5 : Hid (InOut c g w0.heap.size (fun j => (Value.slice A2 n k2).ownBlock = some j ∨ j = wq.heap.size) wr _ li _ lo l o) := Lib.hid ((hIO.out.fresh fun j hj => by
            rcases hj with hj | rfl
            · have := (hrow2.out j hj).1; omega
            · exact Nat.le_refl _).ext EX5)
          have HR5 : Hid (RdS Ub (fun k => k < w0.heap.size) wr (.slice Ad' x.length c') x) := Lib.hid ((hr.out.ext hE).ext EX5)
          have E5 : Ext w0 wr := hE.trans EX5
          have hs0 := hE.size
          have hvi := Lib.hid hIO.out.vi_lt
          have hvo := Lib.hid hIO.out.vo_lt
          clear hs1
          go_wp2_with fail
          refine (do_io _ (i, x) HIO5.out (RdS.ri HR5.out) hxl (fun j hj => ?_) (by omega)).mono ?_
          · rcases hj with hj | rfl
            · have := (hrow2.out j hj).2; omega
            · exact hwl
          rintro e x6 ⟨A6, k6, rfl, O6, hIO6, M6⟩
          have E6 : Ext w0 x6 := Mod.toExt E5 M6 fun k hk hs => by have := hs.1; omega
          have OB6 := OB.out.mod M6 fun h => h.2 (.inr rfl)
          have b1 : x6.cell? ⟨wq.heap.size, 0, none⟩ = some (.int .i64 i) := OB6.cell 0
          have b2 : x6.cell? ⟨wq.heap.size, 1, none⟩ = some (.slice Ad' x.length c') := OB6.cell 1
          have OB6 := Lib.hid OB6
          have O26 := Lib.hid (O2.out.mod M6 (fun k hk hs => hs.2 (.inl hk)) fun _ _ h => h.elim)
          have HI6 := Lib.hid (inv_step HB.out hI.out (i, x)).1
          have HR6 := Lib.hid (HR5.out.mod M6 fun k _ hk hs => by have := hs.1; omega)
          have hs6 : w0.heap.size ≤ x6.heap.size := E6.size
          have hr6 : wq.heap.size ≤ x6.heap.size := by have := M6.size; omega
          have hsm : wr.heap.size ≤ x6.heap.size := M6.size
          clear M6
          by_cases h1 : i = 1
          · subst h1
            have e1 : doB l (1, x) = [] := rfl
            rw [e1] at O6 hIO6 ⊢
            have HIO6 := Lib.hid hIO6
            clear hIO6 O6 e1
            obtain ⟨z1, hz1⟩ : ∃ z1, doK c l (1, x) = z1 := ⟨_, rfl⟩
            rw [hz1]
            have HZ1 := Lib.hid hz1
            clear hz1
            cases z1
            · have HL := Lib.hid (push_no HZ1.out)
              rw [HL.out] at HIO6 HI6
              go_wp2
              go_roundw
              case rel => exact ⟨k + 1, li, lo, l, _, by omega, by go_num, Lib.hid HIO6.out.none, hord, by omega, by omega, HI6, E6⟩
              case measure => simp [intOf]; omega
            · have HL := Lib.hid (push_yes HZ1.out)
              rw [HL.out] at HIO6 HI6
              go_wp2_with (at_builtin; refine wpList_in rfl (.tmp 72) (.tmp 75) rfl (HIO6.out.ext (by repeat (first | with_reducible exact Ext.refl _ | refine Ext.drewN ?_ _ | refine Ext.drew ?_ | refine Ext.alloc ?_ _ | assumption | (refine Below.trans ?_ (by assumption)) | (refine Ext.trans ?_ (by assumption)) | (refine Below.trans ?_ (Below.mono (by assumption) (by omega)))))) rfl rfl (Blk.at_ _ _ rfl) (HR6.out.ext (by repeat (first | with_reducible exact Ext.refl _ | refine Ext.drewN ?_ _ | refine Ext.drew ?_ | refine Ext.alloc ?_ _ | assumption | (refine Below.trans ?_ (by assumption)) | (refine Ext.trans ?_ (by assumption)) | (refine Below.trans ?_ (Below.mono (by assumption) (by omega)))))) (by omega) (by simp; omega) ?_; intro A7 k7 x7 hIO7 E7 M7; have OB7 := Blk.mod (OB6.out.ext (show Ext x6 _ from (by repeat (first | with_reducible exact Ext.refl _ | refine Ext.drewN ?_ _ | refine Ext.drew ?_ | refine Ext.alloc ?_ _ | assumption | (refine Below.trans ?_ (by assumption)) | (refine Ext.trans ?_ (by assumption)) | (refine Below.trans ?_ (Below.mono (by assumption) (by omega))))))) M7 (fun h => by have := (hvi.out _ h).2; omega); have b1 : x7.cell? ⟨wq.heap.size, 0, none⟩ = some (.int .i64 1) := OB7.cell 0; have HIO7 := Lib.hid hIO7; clear hIO7 OB7 M7)
              go_roundw
              case rel => exact ⟨k + 1, li ++ [x], lo, l ++ [x], _, by omega, by go_num, HIO7, Lib.hid (by rw [hord.out]; simp), by simp; omega, by omega, HI6, (by repeat (first | with_reducible exact Ext.refl _ | refine Ext.drewN ?_ _ | refine Ext.drew ?_ | refine Ext.alloc ?_ _ | assumption | (refine Below.trans ?_ (by assumption)) | (refine Ext.trans ?_ (by assumption)) | (refine Below.trans ?_ (Below.mono (by assumption) (by omega)))))⟩
              case measure => simp [intOf]; omega
          by_cases h2 : i = 2
          · subst h2
            have e1 : doB l (2, x) = frL l := rfl
            have e2 : doK c l (2, x) = z := HZ.out
            have e3 : doL c l (2, x) = l.tail := rfl
            rw [e1, HN.out] at O6 hIO6 ⊢
            rw [e2]
            rw [e3] at hIO6 HI6
            have HIO6 := Lib.hid hIO6
            have O6 := Lib.hid O6
            clear hIO6 e1 e2 e3
            have hzz : (z != z) = false := by cases z <;> rfl
            go_wp2_with fail
            refine (bytes_any _ _ (frL l) (frL l) _ (RdN.ext (RdS.ri O6.out.rdT) (by repeat (first | with_reducible exact Ext.refl _ | refine Ext.drewN ?_ _ | refine Ext.drew ?_ | refine Ext.alloc ?_ _ | assumption | (refine Below.trans ?_ (by assumption)) | (refine Ext.trans ?_ (by assumption)) | (refine Below.trans ?_ (Below.mono (by assumption) (by omega)))))) (RdN.ext (RdS.ri O26.out.rdT) (by repeat (first | with_reducible exact Ext.refl _ | refine Ext.drewN ?_ _ | refine Ext.drew ?_ | refine Ext.alloc ?_ _ | assumption | (refine Below.trans ?_ (by assumption)) | (refine Ext.trans ?_ (by assumption)) | (refine Below.trans ?_ (Below.mono (by assumption) (by omega))))))).mono ?_
            rintro e x7 ⟨rfl, E7⟩
            rw [decide_eq_true rfl]
            cases z
            · go_wp2
              go_roundw
              case rel => exact ⟨k + 1, li, lo, l.tail, _, by omega, by go_num, Lib.hid (HIO6.out.none.ext (by repeat (first | with_reducible exact Ext.refl _ | refine Ext.drewN ?_ _ | refine Ext.drew ?_ | refine Ext.alloc ?_ _ | assumption | (refine Below.trans ?_ (by assumption)) | (refine Ext.trans ?_ (by assumption)) | (refine Below.trans ?_ (Below.mono (by assumption) (by omega)))))), Lib.hid (by have := HZ.out; rcases l with _ | ⟨b, r⟩ <;> first | exact hord.out | simp at this), by omega, by omega, HI6, (by repeat (first | with_reducible exact Ext.refl _ | refine Ext.drewN ?_ _ | refine Ext.drew ?_ | refine Ext.alloc ?_ _ | assumption | (refine Below.trans ?_ (by assumption)) | (refine Ext.trans ?_ (by assumption)) | (refine Below.trans ?_ (Below.mono (by assumption) (by omega)))))⟩
              case measure => simp [intOf]; omega
            · go_wp2_with (at_builtin; refine wpList_out rfl (.tmp 90) (.tmp 92) rfl (HIO6.out.ext (by repeat (first | with_reducible exact Ext.refl _ | refine Ext.drewN ?_ _ | refine Ext.drew ?_ | refine Ext.alloc ?_ _ | assumption | (refine Below.trans ?_ (by assumption)) | (refine Ext.trans ?_ (by assumption)) | (refine Below.trans ?_ (Below.mono (by assumption) (by omega)))))) rfl rfl (Blk.at_ _ _ rfl) (O6.out.ext (by repeat (first | with_reducible exact Ext.refl _ | refine Ext.drewN ?_ _ | refine Ext.drew ?_ | refine Ext.alloc ?_ _ | assumption | (refine Below.trans ?_ (by assumption)) | (refine Ext.trans ?_ (by assumption)) | (refine Below.trans ?_ (Below.mono (by assumption) (by omega)))))) (fun k hk => .inr hk) (by omega) (by have := Below.size (show Ext x6 x7 from (by repeat (first | with_reducible exact Ext.refl _ | refine Ext.drewN ?_ _ | refine Ext.drew ?_ | refine Ext.alloc ?_ _ | assumption | (refine Below.trans ?_ (by assumption)) | (refine Ext.trans ?_ (by assumption)) | (refine Below.trans ?_ (Below.mono (by assumption) (by omega)))))); simp; omega) ?_; intro A8 k8 x8 hIO8 E8 M8; have HIO8 := Lib.hid hIO8; clear hIO8 M8)
              go_roundw
              case rel => exact ⟨k + 1, li, lo ++ [frL l], l.tail, _, by omega, by go_num, HIO8, Lib.hid (order_pop hord.out (by have := HZ.out; simpa using this)), by omega, by simp; omega, HI6, (by repeat (first | with_reducible exact Ext.refl _ | refine Ext.drewN ?_ _ | refine Ext.drew ?_ | refine Ext.alloc ?_ _ | assumption | (refine Below.trans ?_ (by assumption)) | (refine Ext.trans ?_ (by assumption)) | (refine Below.trans ?_ (Below.mono (by assumption) (by omega)))))⟩
              case measure => simp [intOf]; omega
          · have e3 := do_else (c := c) (l := l) (x := x) h1 h2
            rw [e3] at hIO6 HI6
            have HIO6 := Lib.hid hIO6
            clear hIO6 O6 e3
            go_wp2
            go_roundw
            case rel => exact ⟨k + 1, li, lo, l, _, by omega, by go_num, Lib.hid HIO6.out.none, hord, by omega, by omega, HI6, E6⟩
            case measure => simp [intOf]; omega
    · go_wp2
      have hlen2 : lo.length ≤ li.length := by rw [hord.out]; simp
      have hli : li.length ≤ 100 := by omega
      clear hlt hk hl1 hl2
      go_loopw [8] (fun vo' wr => ∃ (lo l : List (List Int)) (o : Bool), Hid (InOut c g w0.heap.size (fun _ => False) wr _ li vo' lo l o) ∧ Hid (li = lo ++ l) ∧ lo.length ≤ li.length ∧ Hid (Inv c l o) ∧ Ext w0 wr) (fun vo' _ => li.length - lenOfV vo')
      case atStart => exact ⟨_, _, _, hIO, hord, hlen2, hI, hE⟩
      case round =>
        clear hIO hord hlen2 hI hE
        obtain ⟨lo, l, o, hIO, hord, hlen2, hI, hE⟩ := hrel
        obtain ⟨m, hm⟩ : ∃ m : Int, (l.length : Int) = m := ⟨_, rfl⟩
        have HM := Lib.hid hm
        have hs0 := hE.size
        clear hm
        by_cases hpos : 0 < m
        · obtain ⟨z, hz⟩ : ∃ z, (!l.isEmpty) = z := ⟨_, rfl⟩
          have hz1 : z = true := by
            rw [← hz]
            have := HM.out
            rcases l with _ | ⟨b, r⟩
            · simp at this; omega
            · rfl
          subst hz1
          have HZ := Lib.hid hz
          have hlo : lo.length < li.length := by
            have h1 := HM.out
            have h2 := congrArg List.length hord.out
            simp only [List.length_append] at h2
            omega
          clear hz
          go_wp2_with fail
          refine (io_count (hIO.out.ext (by repeat (first | with_reducible exact Ext.refl _ | refine Ext.drewN ?_ _ | refine Ext.drew ?_ | refine Ext.alloc ?_ _ | assumption | (refine Below.trans ?_ (by assumption)) | (refine Ext.trans ?_ (by assumption)) | (refine Below.trans ?_ (Below.mono (by assumption) (by omega)))))) HM.out).mono ?_
          rintro e x1 ⟨rfl, E1⟩
          go_wp2_with fail
          refine (pop_io (hIO.out.ext (by repeat (first | with_reducible exact Ext.refl _ | refine Ext.drewN ?_ _ | refine Ext.drew ?_ | refine Ext.alloc ?_ _ | assumption | (refine Below.trans ?_ (by assumption)) | (refine Ext.trans ?_ (by assumption)) | (refine Below.trans ?_ (Below.mono (by assumption) (by omega)))))) (fun _ h => h.elim) (Nat.le_trans hs0 (Below.size (show Ext wr _ from (by repeat (first | with_reducible exact Ext.refl _ | refine Ext.drewN ?_ _ | refine Ext.drew ?_ | refine Ext.alloc ?_ _ | assumption | (refine Below.trans ?_ (by assumption)) | (refine Ext.trans ?_ (by assumption)) | (refine Below.trans ?_ (Below.mono (by assumption) (by omega))))))))).mono ?_
          rintro e x2 ⟨A2, k2, rfl, O2, hIO2, M2⟩
          have E2 : Ext w0 x2 := Mod.toExt (show Ext w0 _ from (by repeat (first | with_reducible exact Ext.refl _ | refine Ext.drewN ?_ _ | refine Ext.drew ?_ | refine Ext.alloc ?_ _ | assumption | (refine Below.trans ?_ (by assumption)) | (refine Ext.trans ?_ (by assumption)) | (refine Below.trans ?_ (Below.mono (by assumption) (by omega)))))) M2 fun k hk hs => by have := hs.1; omega
          obtain ⟨n, hn⟩ : ∃ n, (frL l).length = n := ⟨_, rfl⟩
          rw [hn] at O2 hIO2 ⊢
          rw [HZ.out]
          have O2 := Lib.hid O2
          have hIO2 := Lib.hid hIO2
          have hs2 : w0.heap.size ≤ x2.heap.size := E2.size
          clear M2 hn E1
          go_wp2_with (at_builtin; refine wpList_out rfl (.tmp 105) (.tmp 107) rfl (hIO2.out.ext (by repeat (first | with_reducible exact Ext.refl _ | refine Ext.drewN ?_ _ | refine Ext.drew ?_ | refine Ext.alloc ?_ _ | assumption | (refine Below.trans ?_ (by assumption)) | (refine Ext.trans ?_ (by assumption)) | (refine Below.trans ?_ (Below.mono (by assumption) (by omega)))))) rfl rfl (Blk.at_ _ _ rfl) (O2.out.ext (by repeat (first | with_reducible exact Ext.refl _ | refine Ext.drewN ?_ _ | refine Ext.drew ?_ | refine Ext.alloc ?_ _ | assumption | (refine Below.trans ?_ (by assumption)) | (refine Ext.trans ?_ (by assumption)) | (refine Below.trans ?_ (Below.mono (by assumption) (by omega)))))) (fun k hk => .inr hk) (by omega) (by simp; omega) ?_; intro A8 k8 x8 hIO8 E8 M8; have HIO8 := Lib.hid hIO8; clear hIO8 M8)
          go_roundw
          case rel => exact ⟨lo ++ [frL l], l.tail, _, HIO8, Lib.hid (order_pop hord.out (by have := HZ.out; simpa using this)), by simp; omega, Lib.hid (inv_pop HB.out hI.out), (by repeat (first | with_reducible exact Ext.refl _ | refine Ext.drewN ?_ _ | refine Ext.drew ?_ | refine Ext.alloc ?_ _ | assumption | (refine Below.trans ?_ (by assumption)) | (refine Ext.trans ?_ (by assumption)) | (refine Below.trans ?_ (Below.mono (by assumption) (by omega)))))⟩
          case measure => rw [hIO.out.vo_len]; show li.length - (lo.length + 1) < _; omega
        · have hend := order_end hord.out (by have := HM.out; omega)
          obtain ⟨rfl, hll⟩ := hend
          obtain rfl := inv_end HB.out hI.out
          have HL := Lib.hid hll
          clear hll
          go_wp2_with fail
          refine (io_count (hIO.out.ext (by repeat (first | with_reducible exact Ext.refl _ | refine Ext.drewN ?_ _ | refine Ext.drew ?_ | refine Ext.alloc ?_ _ | assumption | (refine Below.trans ?_ (by assumption)) | (refine Ext.trans ?_ (by assumption)) | (refine Below.trans ?_ (Below.mono (by assumption) (by omega)))))) HM.out).mono ?_
          rintro e x1 ⟨rfl, E1⟩
          go_wp2_with fail
          refine (lists_y _ _ li lo _ ((hIO.out.ext (by repeat (first | with_reducible exact Ext.refl _ | refine Ext.drewN ?_ _ | refine Ext.drew ?_ | refine Ext.alloc ?_ _ | assumption | (refine Below.trans ?_ (by assumption)) | (refine Ext.trans ?_ (by assumption)) | (refine Below.trans ?_ (Below.mono (by assumption) (by omega)))))).rds.1) ((hIO.out.ext (by repeat (first | with_reducible exact Ext.refl _ | refine Ext.drewN ?_ _ | refine Ext.drew ?_ | refine Ext.alloc ?_ _ | assumption | (refine Below.trans ?_ (by assumption)) | (refine Ext.trans ?_ (by assumption)) | (refine Below.trans ?_ (Below.mono (by assumption) (by omega)))))).rds.2)).mono ?_
          rintro e x2 ⟨rfl, E2⟩
          rw [decide_eq_true HL.out]
          go_wp2_with fail
          refine (io_used (hIO.out.ext (by repeat (first | with_reducible exact Ext.refl _ | refine Ext.drewN ?_ _ | refine Ext.drew ?_ | refine Ext.alloc ?_ _ | assumption | (refine Below.trans ?_ (by assumption)) | (refine Ext.trans ?_ (by assumption)) | (refine Below.trans ?_ (Below.mono (by assumption) (by omega)))))) (m := 0) rfl).mono ?_
          rintro e x3 ⟨rfl, E3⟩
          go_wp2_with fail
          refine (io_over (hIO.out.ext (by repeat (first | with_reducible exact Ext.refl _ | refine Ext.drewN ?_ _ | refine Ext.drew ?_ | refine Ext.alloc ?_ _ | assumption | (refine Below.trans ?_ (by assumption)) | (refine Ext.trans ?_ (by assumption)) | (refine Below.trans ?_ (Below.mono (by assumption) (by omega)))))) rfl).mono ?_
          rintro e x4 ⟨rfl, E4⟩
          go_wp2
          go_ret
          exact ⟨rfl, (by repeat (first | with_reducible exact Ext.refl _ | refine Ext.drewN ?_ _ | refine Ext.drew ?_ | refine Ext.alloc ?_ _ | assumption | (refine Below.trans ?_ (by assumption)) | (refine Ext.trans ?_ (by assumption)) | (refine Below.trans ?_ (Below.mono (by assumption) (by omega)))))⟩
end Go.Proofs.Ytefcafohhppmbaa
