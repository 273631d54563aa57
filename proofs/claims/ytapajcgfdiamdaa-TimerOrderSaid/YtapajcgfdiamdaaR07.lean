/- The order in which timers are set: walked; the law answers true. Conditions: numbers fit. -/
import Derived.Test.YtapajcgfdiamdaaQ07
namespace Go.Proofs.Ytapajcgfdiamdaa
open Go.RowKit Go.Kb Go.Maps

theorem info_op : (Try.prog.info? 31).map (fun i => (i.zero, i.size, i.bytes)) = some (some (.agg #[.int .i64 0, .int .i64 0, .int .i64 0]), Rep.op3.size, 24) := by kernel_rfl
theorem int_at {B : Nat → Prop} {w : World} {b off K d m : Nat} {l : List Int} {y : Int} (h : RdY Ib B w (.slice (some ⟨b, off, none⟩) K d) l) (hd : Hid (l[m]? = some y)) (hm : m < K) : w.cell? ⟨b, off + m, none⟩ = some (.int .i64 y) := by
  obtain ⟨b', off', u, y', he, hc, hd', hu⟩ := RdY.at1 h rfl hm
  simp only [Option.some.injEq, Addr.mk.injEq] at he
  obtain ⟨rfl, rfl, -⟩ := he
  have hu : [u] = [Value.int .i64 y'] := hu.out
  cases hu
  have := hd'.out
  rw [hd.out] at this
  cases this
  exact hc
/-- what the first loop gathers -/
structure Gath (m : Nat) (os : List (Int × Int × Int)) : Prop where
  nd : (os.map (·.2.1)).Nodup
  one : ∀ o ∈ os, o.1 = 1
  wf : ∀ o ∈ os, (Lit.int .i64 o.2.1).wf = true ∧ (Lit.int .i64 o.2.2).wf = true
  len : os.length ≤ m
theorem Gath.snoc {m : Nat} {os : List (Int × Int × Int)} {id t : Int} (h : Gath m os) (hn : ¬ id ∈ os.map (·.2.1)) (h1 : (Lit.int .i64 id).wf = true) (h2 : (Lit.int .i64 t).wf = true) : Gath (m + 1) (os ++ [(1, id, t)]) := by
  refine ⟨?_, ?_, ?_, ?_⟩
  · rw [List.map_append, List.nodup_append]
    refine ⟨h.nd, by simp, ?_⟩
    intro a ha b hb he
    simp at hb
    subst hb
    exact hn (by rw [← he]; exact ha)
  · intro o ho
    rcases List.mem_append.1 ho with ho | ho
    · exact h.one o ho
    · simp at ho; subst ho; rfl
  · intro o ho
    rcases List.mem_append.1 ho with ho | ho
    · exact h.wf o ho
    · simp at ho; subst ho; exact ⟨h1, h2⟩
  · have := h.len
    simp
    omega
theorem Gath.up {m : Nat} {os : List (Int × Int × Int)} (h : Gath m os) : Gath (m + 1) os := ⟨h.nd, h.one, h.wf, Nat.le_succ_of_le h.len⟩
set_option maxRecDepth 100000 in
set_option maxHeartbeats 30000000 in
theorem timerOrder_walk (v u : Value) (ids times : List Int) (hwi : ∀ x ∈ ids, (Lit.int .i64 x).wf = true) (hwt : ∀ x ∈ times, (Lit.int .i64 x).wf = true) (now : Int) {A B : Nat → Prop} (w : World) (h : RdY Ib A w v ids) (g : RdY Ib B w u times) :
    Calls Try.prog 5 #[v, u, .int .i64 now] w fun e w' => e = .returned (.bool true) ∧ Ext w w' := by
  obtain ⟨Ad, c, rfl, hc1, hc2⟩ := h.shape
  obtain ⟨Bd, d, rfl, hd1, hd2⟩ := g.shape
  obtain ⟨N, hN⟩ : ∃ N, ids.length = N := ⟨_, rfl⟩
  obtain ⟨K, hK⟩ : ∃ K, times.length = K := ⟨_, rfl⟩
  rw [hN] at h hc1 ⊢
  rw [hK] at g hd1 ⊢
  have H := Lib.hid h
  have G := Lib.hid g
  have HWI := Lib.hid hwi
  have HWT := Lib.hid hwt
  have HN := Lib.hid hN
  have hmm := @run_makeMap Try.prog
  clear h g hwi hwt hN hK
  go_enter Try.func5, Try.ntmps5
  go_wp2_with fail
  refine (alive_any _).mono ?_
  rintro e w1 ⟨rfl, E1⟩
  by_cases hg : 256 < N
  · have hg2 : (256 : Int) < (N : Int) := by omega
    go_wp2
    go_ret
    exact ⟨rfl, E1⟩
  have hg2 : ¬ (256 : Int) < (N : Int) := by omega
  have HG := Lib.hid hg
  clear hg
  go_wp2_with fail
  refine (One.new (W0 := w) (X := fun _ => False) w1 E1 (fun _ h => h.elim)).mono ?_
  rintro e w2 ⟨Ta, Fa, rfl, ha, hfa, E2⟩
  have HA := Lib.hid ha
  clear ha hfa
  go_wp2_with fail
  refine (One.new (W0 := w) (X := fun _ => False) w2 (E1.trans E2) (fun _ h => h.elim)).mono ?_
  rintro e w3 ⟨Tb, Fb, rfl, hb, hfb, E3⟩
  have HT := Lib.hid (show Two w Ta Tb Fa Fb (fun _ => False) w3 [] [] from ⟨HA.out.ext E3, hb, fun k h1 h2 => by have := HA.out.tm.lt k h1; have := hfb k h2; omega⟩)
  clear hb hfb HA E1 E2 E3 hg2
  obtain ⟨M, hM⟩ : ∃ M, w3.heap.size = M := ⟨_, rfl⟩
  obtain ⟨W3, hW3⟩ : ∃ W, W = w3.alloc (.map #[] 0) := ⟨_, rfl⟩
  have HM0 := Lib.hid (show MapB M W3 [] by rw [hW3, ← hM]; exact MapB.made w3)
  have E34 : Ext w3 W3 := by rw [hW3]; exact (Ext.refl _).alloc _
  have HT0 := Lib.hid ((HT.out.ext E34).sub (Y := fun k => k = M) (fun k hk => by
    subst hk
    refine ⟨fun hf => ?_, fun hf => ?_, HM0.out.lt⟩
    · have := HT.out.a.tm.lt k hf; omega
    · have := HT.out.b.tm.lt k hf; omega))
  have HMW := Lib.hid (show w.heap.size ≤ M by rw [← hM]; exact HT.out.a.E.size)
  have HW3 := Lib.hid hW3
  have HMN := Lib.hid hM
  clear hM hW3 E34 HT
  go_wp2
  rw [HMN.out, ← HW3.out]
  clear HW3 HMN
  go_loopw [10, 26] (fun o i wr => ∃ (m : Nat) (A' : Option Addr) (c' : Nat) (os : List (Int × Int × Int)), m ≤ N ∧ i = .int .i64 m ∧ o = .slice A' os.length c' ∧ Hid (Gath m os) ∧ Hid (OwnS Rep.op3 31 W3.heap.size (fun _ => False) wr (.slice A' os.length c') os) ∧ Hid (MapB M wr (os.map (·.2.1))) ∧ Hid (Mod (fun k => k = M) W3 wr)) (fun _ i _ => N - (intOf i).toNat)
  case atStart => exact ⟨0, none, 0, [], Nat.zero_le _, rfl, rfl, Lib.hid ⟨by simp, by simp, by simp, by simp⟩, Lib.hid (OwnS.nil _ _ _ _ _), HM0, Lib.hid (Mod.refl _ _)⟩
  case round =>
    clear HM0
    obtain ⟨m, A', c', os, hm, rfl, rfl, HGA, O, HM, HMO⟩ := hrel
    have HE := Lib.hid (Mod.toExt HT0.out.a.E HMO.out (fun k hk he => by have := HMW.out; omega))
    have hol := HGA.out.len
    by_cases hmn : m < N
    · obtain ⟨b, off, uu, x, rfl, hc, hd, hu⟩ := RdY.at1 (H.out.ext HE.out) rfl hmn
      have hu : [uu] = [Value.int .i64 x] := hu.out
      cases hu
      have HWX := Lib.hid (HWI.out x (List.mem_of_getElem? hd.out))
      have hm1 : (0 : Int) ≤ (m : Int) := by omega
      have hm2 : (m : Int) < (N : Int) := by omega
      have Hc := Lib.hid hc
      clear hd
      by_cases hmk : m < K
      · have hk1 : (m : Int) < (K : Int) := by omega
        obtain ⟨b2, off2, u2, y, rfl, hc2, hd2, hu2⟩ := RdY.at1 (G.out.ext HE.out) rfl hmk
        have hu2 : [u2] = [Value.int .i64 y] := hu2.out
        cases hu2
        have HWY := Lib.hid (HWT.out y (List.mem_of_getElem? hd2.out))
        by_cases hin : x ∈ os.map (·.2.1)
        · have HIN := Lib.hid (decide_eq_true hin)
          clear hin
          go_wp2_with (refine wpList_openG rfl rfl ?_; refine wpList_seen rfl _ _ rfl rfl HM.out x rfl HWX.out true HIN.out ?_)
          go_roundw
          case rel => exact ⟨m + 1, A', c', os, by omega, by go_num, rfl, Lib.hid HGA.out.up, O, HM, HMO⟩
          case measure => simp [intOf]; omega
        · have HIN := Lib.hid (decide_eq_false hin)
          have HNI := Lib.hid hin
          have C2 := Lib.hid (show ∀ w', Ext w w' → w'.cell? ⟨b2, off2 + m, none⟩ = some (.int .i64 y) from fun w' E => int_at (G.out.ext E) hd2 hmk)
          have hW3r := HMO.out.size
          have HMLT := Lib.hid (show M < W3.heap.size from HT0.out.a.xl M rfl)
          clear hin hc2 hd2
          go_wp2_with (first
            | (refine wpList_openG rfl rfl ?_; refine wpList_seen rfl _ _ rfl rfl HM.out x rfl HWX.out false HIN.out ?_)
            | (at_mapUpdate; refine wpList_see rfl _ _ _ rfl rfl HM.out x HNI.out rfl rfl HWX.out (by simp; omega) ?_; intro w4 m4 M4; have HM4 := Lib.hid m4; have C24 := C2.out w4 (Mod.toExt HE.out M4 (fun k hk he => by have := HMW.out; omega)); have O4 := Lib.hid (O.out.mod M4 (fun k hk he => by have := (O.out.row k hk).1; have := HMLT.out; omega) (fun _ _ hk _ => hk)); have hW34 := Nat.le_trans hW3r M4.size)
            | (at_builtin; refine wpList_app (e := Rep.op3) (base := W3.heap.size) (B := fun _ => False) (A := fun _ => False) rfl (.tmp 43) (.tmp 50) rfl Try.underlying22 info_op rfl (O4.out.alloc _) rfl (RdY.singleB (e := Rep.op3) (cs := [.int .i64 1, .int .i64 x, .int .i64 y]) (d := (1, x, y)) rfl (Blk.at_ _ _ rfl)) rfl (fun _ _ h => h.elim) (N := os.length + 1) (by simp) (by simp [maxLen]; omega) (by omega) (by simp; omega) ?_; intro A5 c5 w5 o5 M5 D5))
          have E45 : Ext w4 (w4.alloc (.cells #[.int .i64 1, .int .i64 x, .int .i64 y] 31)) := (Ext.refl w4).alloc _
          have hown : ∀ k, (Value.slice A' os.length c').ownBlock = some k → W3.heap.size ≤ k := fun k hk => (O.out.row k hk).1
          have HM5 := Lib.hid (show MapB M w5 ((os ++ [((1 : Int), x, y)]).map (fun o => o.2.1)) by
            rw [List.map_append]
            exact (HM4.out.ext E45).mod M5 (fun hk => by have := hown M hk; have := HMLT.out; omega))
          have HMO5 := Lib.hid (((((HMO.out.trans M4).mono (T := fun k => k = M ∨ W3.heap.size ≤ k) fun k _ hk => .inl hk).ext E45).trans (M5.mono fun k _ hk => .inr (hown k hk))).mono (T := fun k => k = M) fun k hk h => h.elim (fun h => h) fun h => by omega)
          have o5 := Lib.hid o5
          have HGA5 := Lib.hid (HGA.out.snoc HNI.out HWX.out HWY.out)
          clear M5 D5 M4 C24 O4 HM4 E45 hW34
          go_roundw
          case rel => exact ⟨m + 1, A5, c5, os ++ [(1, x, y)], by omega, by go_num, by simp, HGA5, by rw [show (os ++ [((1 : Int), x, y)]).length = os.length + 1 by simp]; exact o5, HM5, HMO5⟩
          case measure => simp [intOf]; omega
      · have hk1 : ¬ ((m : Int) < (K : Int)) := by omega
        go_wp2
        go_roundw
        case rel => exact ⟨m + 1, A', c', os, by omega, by go_num, rfl, Lib.hid HGA.out.up, O, HM, HMO⟩
        case measure => simp [intOf]; omega
    · obtain rfl : m = N := by omega
      have hol2 : os.length ≤ 256 := by have := HG.out; omega
      have HT := Lib.hid ((HT0.out.other HMO.out (fun k hk => ⟨by rw [hk]; exact HMW.out, hk⟩)).sub (Y := fun k => (Value.slice A' os.length c').ownBlock = some k) (fun k hk => ⟨fun hf => by have := (O.out.row k hk).1; have := HT0.out.a.tm.lt k hf; omega, fun hf => by have := (O.out.row k hk).1; have := HT0.out.b.tm.lt k hf; omega, (O.out.row k hk).2⟩))
      obtain ⟨Q, hQ⟩ : ∃ Q, os.length = Q := ⟨_, rfl⟩
      rw [hQ] at O HT hol2 ⊢
      have HQ := Lib.hid hQ
      have hwq : IntKind.i64.wrap ((Q : Int) - 1) = (Q : Int) - 1 := IntWalk.i64_in _ (by omega)
      clear HT0 HMO HM HE hol hQ
      go_wp2
      go_loopw [55] (fun i wr => ∃ (m : Nat) (Fa Fb : Nat → Prop), m ≤ Q ∧ i = .int .i64 m ∧ Hid (Two w Ta Tb Fa Fb (fun k => (Value.slice A' Q c').ownBlock = some k) wr (setAll (os.take m)) (setAll (os.reverse.take m))) ∧ Hid (OwnS Rep.op3 31 W3.heap.size (fun _ => False) wr (.slice A' Q c') os)) (fun i _ => Q - (intOf i).toNat)
      case atStart => exact ⟨0, Fa, Fb, Nat.zero_le _, rfl, HT, O⟩
      case round =>
        clear HT O Fa Fb
        obtain ⟨m, Fa, Fb, hm, rfl, HT, O⟩ := hrel
        by_cases hmn : m < Q
        · obtain ⟨g, off, ⟨x1, xi, xt⟩, hg1, hd, kx0, kx1, kx2⟩ := op_at O.out.y hmn
          obtain ⟨j, hj⟩ : ∃ j, j = Q - 1 - m := ⟨_, rfl⟩
          obtain ⟨g2, off2, ⟨y1, yi, yt⟩, hg2, hd', ky0, ky1, ky2⟩ := op_at O.out.y (show j < Q by omega)
          rw [hg1] at hg2
          simp only [Option.some.injEq, Addr.mk.injEq] at hg2
          obtain ⟨rfl, rfl, -⟩ := hg2
          have h1x : x1 = 1 := HGA.out.one _ (List.mem_of_getElem? hd)
          have h1y : y1 = 1 := HGA.out.one _ (List.mem_of_getElem? hd')
          subst h1x h1y
          have HWX := Lib.hid (HGA.out.wf _ (List.mem_of_getElem? hd)).1
          have HWY := Lib.hid (HGA.out.wf _ (List.mem_of_getElem? hd')).1
          have hdr : os.reverse[m]? = some (1, yi, yt) := by
            rw [List.getElem?_reverse (by rw [HQ.out]; exact hmn), HQ.out, ← hj]
            exact hd'
          have hsa := setAll_snoc hd
          have hsb := setAll_snoc hdr
          simp only at hsa hsb
          have hndr : (os.reverse.map (fun o => o.2.1)).Nodup := by rw [List.map_reverse]; exact (List.reverse_perm _).nodup_iff.2 HGA.out.nd
          have hla : (setAll (os.take m)).length < 256 := by
            rw [setAll_len (HGA.out.nd.sublist ((List.take_sublist _ _).map _)), List.length_take]
            omega
          have hlb : (setAll (os.reverse.take m)).length < 256 := by
            rw [setAll_len (hndr.sublist ((List.take_sublist _ _).map _)), List.length_take]
            omega
          have HSA := Lib.hid (show setE (setAll (os.take m)) xi = 0 ∧ setT (setAll (os.take m)) xi xt = setAll (os.take (m + 1)) from by rw [hsa]; exact set_done (not_full hla))
          have HSB := Lib.hid (show setE (setAll (os.reverse.take m)) yi = 0 ∧ setT (setAll (os.reverse.take m)) yi yt = setAll (os.reverse.take (m + 1)) from by rw [hsb]; exact set_done (not_full hlb))
          have KX := Lib.hid (And.intro kx0 (And.intro kx1 kx2))
          have KY := Lib.hid (And.intro ky0 (And.intro ky1 ky2))
          simp only at KX KY
          have m1 : (0 : Int) ≤ (m : Int) := by omega
          have m2 : (m : Int) < (Q : Int) := by omega
          have j1 : (0 : Int) ≤ (j : Int) := by omega
          have j2 : (j : Int) < (Q : Int) := by omega
          have hwj : IntKind.i64.wrap ((Q : Int) - 1 - (m : Int)) = (j : Int) := by rw [IntWalk.i64_in _ (by omega)]; omega
          subst hg1
          obtain ⟨WR, hWR⟩ : ∃ WR, WR = wr := ⟨_, rfl⟩
          subst hWR
          clear hd hd' hdr hsa hsb hndr hla hlb kx0 kx1 kx2 ky0 ky1 ky2 hj
          go_upto_region 18 with fail
          go_cut [14, 15] (fun s14 s15 wx => ∃ n14 n15, s14 = .pointer (some ⟨n14, 0, none⟩) ∧ s15 = .pointer (some ⟨n15, 0, none⟩) ∧ Hid (Blk wx n14 31 #[.int .i64 1, .int .i64 xi, .int .i64 xt]) ∧ Hid (Blk wx n15 31 #[.int .i64 1, .int .i64 yi, .int .i64 yt]) ∧ WR.heap.size ≤ n14 ∧ WR.heap.size ≤ n15 ∧ Ext WR wx)
          case first =>
            refine wp_region_held_drew (S := fun w' => Ext WR w') (by kernel_rfl) (Ext.drew (Ext.refl _)) (fun hHeld => ?_)
            (refine wpAnyH_take (i := 0) (v := ?_) rfl (by kernel_rfl) (by kernel_rfl) (by kernel_rfl) (fun _ _ _ h => h) (Or.inl ⟨by rfl, ?_⟩) (by assumption) ?_; rotate_left; (focus (intro w' hSw; go_simp; try with_reducible rfl)); (try simp only [List.getElem_toArray]); (try simp only [List.getElem_cons_succ]); (try simp only [List.getElem_cons_zero]); (try simp only [Act.put]); (try simp only [List.setIfInBounds_toArray]); (try simp only [List.set_cons_succ]); (try simp only [List.set_cons_zero]))
            (refine wpAnyH_take (i := 1) (v := ?_) rfl (by kernel_rfl) (by kernel_rfl) (by kernel_rfl) (fun _ _ _ h => h) (Or.inl ⟨by rfl, ?_⟩) (by assumption) ?_; rotate_left; (focus (intro w' hSw; go_simp; try with_reducible rfl)); (try simp only [List.getElem_toArray]); (try simp only [List.getElem_cons_succ]); (try simp only [List.getElem_cons_zero]); (try simp only [Act.put]); (try simp only [List.setIfInBounds_toArray]); (try simp only [List.set_cons_succ]); (try simp only [List.set_cons_zero]))
            (refine wpAnyH_take (i := 2) (v := ?_) rfl (by kernel_rfl) (by kernel_rfl) (by kernel_rfl) (fun _ _ _ h => h) (Or.inl ⟨by rfl, ?_⟩) (by assumption) ?_; rotate_left; (focus (intro w' hSw; go_simp; try with_reducible rfl)); (try simp only [List.getElem_toArray]); (try simp only [List.getElem_cons_succ]); (try simp only [List.getElem_cons_zero]); (try simp only [Act.put]); (try simp only [List.setIfInBounds_toArray]); (try simp only [List.set_cons_succ]); (try simp only [List.set_cons_zero]))
            (refine wpAnyH_take (i := 3) (v := ?_) rfl (by kernel_rfl) (by kernel_rfl) (by kernel_rfl) (fun _ _ _ h => h) (Or.inl ⟨by rfl, ?_⟩) (by assumption) ?_; rotate_left; (focus (intro w' hSw; have k0 := cell_ext hSw KX.out.1; have k1 := cell_ext hSw KX.out.2.1; have k2 := cell_ext hSw KX.out.2.2; go_simp; try with_reducible rfl)); (try simp only [List.getElem_toArray]); (try simp only [List.getElem_cons_succ]); (try simp only [List.getElem_cons_zero]); (try simp only [Act.put]); (try simp only [List.setIfInBounds_toArray]); (try simp only [List.set_cons_succ]); (try simp only [List.set_cons_zero]))
            (refine wpAnyH_take (i := 4) (v := ?_) rfl (by kernel_rfl) (by kernel_rfl) (by kernel_rfl) (fun _ _ _ h => h) (Or.inl ⟨by rfl, ?_⟩) (by assumption) ?_; rotate_left; (focus (intro w' hSw; go_simp; try with_reducible rfl)); (try simp only [List.getElem_toArray]); (try simp only [List.getElem_cons_succ]); (try simp only [List.getElem_cons_zero]); (try simp only [Act.put]); (try simp only [List.setIfInBounds_toArray]); (try simp only [List.set_cons_succ]); (try simp only [List.set_cons_zero]))
            (refine wpAnyH_take (i := 5) (v := ?_) rfl (by kernel_rfl) (by kernel_rfl) (by kernel_rfl) (fun _ _ _ h => h) (Or.inl ⟨by rfl, ?_⟩) (by assumption) ?_; rotate_left; (focus (intro w' hSw; go_simp; try with_reducible rfl)); (try simp only [List.getElem_toArray]); (try simp only [List.getElem_cons_succ]); (try simp only [List.getElem_cons_zero]); (try simp only [Act.put]); (try simp only [List.setIfInBounds_toArray]); (try simp only [List.set_cons_succ]); (try simp only [List.set_cons_zero]))
            (refine wpAnyH_take (i := 6) (v := ?_) rfl (by kernel_rfl) (by kernel_rfl) (by kernel_rfl) (fun _ _ _ h => h) (Or.inl ⟨by rfl, ?_⟩) (by assumption) ?_; rotate_left; (focus (intro w' hSw; go_simp; try with_reducible rfl)); (try simp only [List.getElem_toArray]); (try simp only [List.getElem_cons_succ]); (try simp only [List.getElem_cons_zero]); (try simp only [Act.put]); (try simp only [List.setIfInBounds_toArray]); (try simp only [List.set_cons_succ]); (try simp only [List.set_cons_zero]))
            (refine wpAnyH_take (i := 7) (v := ?_) rfl (by kernel_rfl) (by kernel_rfl) (by kernel_rfl) (fun _ _ _ h => h) (Or.inl ⟨by rfl, ?_⟩) (by assumption) ?_; rotate_left; (focus (intro w' hSw; go_simp; try with_reducible rfl)); (try simp only [List.getElem_toArray]); (try simp only [List.getElem_cons_succ]); (try simp only [List.getElem_cons_zero]); (try simp only [Act.put]); (try simp only [List.setIfInBounds_toArray]); (try simp only [List.set_cons_succ]); (try simp only [List.set_cons_zero]))
            (refine wpAnyH_take (i := 8) (v := ?_) rfl (by kernel_rfl) (by kernel_rfl) (by kernel_rfl) (fun _ _ _ h => h) (Or.inl ⟨by rfl, ?_⟩) (by assumption) ?_; rotate_left; (focus (intro w' hSw; go_simp; try with_reducible rfl)); (try simp only [List.getElem_toArray]); (try simp only [List.getElem_cons_succ]); (try simp only [List.getElem_cons_zero]); (try simp only [Act.put]); (try simp only [List.setIfInBounds_toArray]); (try simp only [List.set_cons_succ]); (try simp only [List.set_cons_zero]))
            (refine wpAnyH_take (i := 9) (v := ?_) rfl (by kernel_rfl) (by kernel_rfl) (by kernel_rfl) (fun _ _ _ h => h) (Or.inl ⟨by rfl, ?_⟩) (by assumption) ?_; rotate_left; (focus (intro w' hSw; go_simp; try with_reducible rfl)); (try simp only [List.getElem_toArray]); (try simp only [List.getElem_cons_succ]); (try simp only [List.getElem_cons_zero]); (try simp only [Act.put]); (try simp only [List.setIfInBounds_toArray]); (try simp only [List.set_cons_succ]); (try simp only [List.set_cons_zero]))
            (refine wpAnyH_take (i := 10) (v := ?_) rfl (by kernel_rfl) (by kernel_rfl) (by kernel_rfl) (fun _ _ _ h => h) (Or.inl ⟨by rfl, ?_⟩) (by assumption) ?_; rotate_left; (focus (intro w' hSw; go_simp; try with_reducible rfl)); (try simp only [List.getElem_toArray]); (try simp only [List.getElem_cons_succ]); (try simp only [List.getElem_cons_zero]); (try simp only [Act.put]); (try simp only [List.setIfInBounds_toArray]); (try simp only [List.set_cons_succ]); (try simp only [List.set_cons_zero]))
            (refine wpAnyH_take (i := 11) (v := ?_) rfl (by kernel_rfl) (by kernel_rfl) (by kernel_rfl) (fun _ _ _ h => h) (Or.inl ⟨by rfl, ?_⟩) (by assumption) ?_; rotate_left; (focus (intro w' hSw; have k0 := cell_ext hSw KY.out.1; have k1 := cell_ext hSw KY.out.2.1; have k2 := cell_ext hSw KY.out.2.2; go_simp; try with_reducible rfl)); (try simp only [List.getElem_toArray]); (try simp only [List.getElem_cons_succ]); (try simp only [List.getElem_cons_zero]); (try simp only [Act.put]); (try simp only [List.setIfInBounds_toArray]); (try simp only [List.set_cons_succ]); (try simp only [List.set_cons_zero]))
            have EH : Ext WR WR.drew := Ext.drew (Ext.refl _)
            clear hHeld
            generalize WR.drew = w19 at *
            refine wpAnyH_ready (rs := [12, 13]) (by kernel_rfl) (by simp) ?_
            refine (AllReadyH.cons rfl (fun K hK => ?_) (AllReadyH.cons rfl (fun K hK => ?_) AllReadyH.nil))
            ·
              go_simp
              refine hK.out _ _ (EH.alloc _) (fun hHeld => ?_)
              clear hK K hHeld
              (try simp only [List.getElem_toArray]); (try simp only [List.getElem_cons_succ]); (try simp only [List.getElem_cons_zero]); (try simp only [Act.put]); (try simp only [List.setIfInBounds_toArray]); (try simp only [List.set_cons_succ]); (try simp only [List.set_cons_zero])
              have B14 := Lib.hid (Blk.new w19 31 #[.int .i64 0, .int .i64 0, .int .i64 0])
              obtain ⟨n14, hn14⟩ : ∃ n14, w19.heap.size = n14 := ⟨_, rfl⟩
              have hn14W : WR.heap.size ≤ n14 := by rw [← hn14]; exact EH.size
              have EH := EH.alloc (.cells #[.int .i64 0, .int .i64 0, .int .i64 0] 31)
              rw [hn14] at B14 ⊢
              clear hn14
              generalize w19.alloc _ = w20 at *
              have LB14 := B14.out.lt
              refine wpAnyH_ready (rs := [13]) (by kernel_rfl) (by simp) ?_
              refine (AllReadyH.cons rfl (fun K hK => ?_) AllReadyH.nil)
              go_simp
              refine hK.out _ _ (EH.alloc _) (fun hHeld => ?_)
              clear hK K hHeld
              (try simp only [List.getElem_toArray]); (try simp only [List.getElem_cons_succ]); (try simp only [List.getElem_cons_zero]); (try simp only [Act.put]); (try simp only [List.setIfInBounds_toArray]); (try simp only [List.set_cons_succ]); (try simp only [List.set_cons_zero])
              have B14 := Lib.hid (B14.out.ext ((Ext.refl _).alloc (.cells #[.int .i64 0, .int .i64 0, .int .i64 0] 31)))
              have B15 := Lib.hid (Blk.new w20 31 #[.int .i64 0, .int .i64 0, .int .i64 0])
              obtain ⟨n15, hn15⟩ : ∃ n15, w20.heap.size = n15 := ⟨_, rfl⟩
              have hn15W : WR.heap.size ≤ n15 := by rw [← hn15]; exact EH.size
              have EH := EH.alloc (.cells #[.int .i64 0, .int .i64 0, .int .i64 0] 31)
              rw [hn15] at B15 ⊢
              have hne_n14_n15 : n14 ≠ n15 := by have := LB14; omega
              have hne_n15_n14 : n15 ≠ n14 := fun h => hne_n14_n15 h.symm
              clear hn15
              generalize w20.alloc _ = w21 at *
              have LB15 := B15.out.lt
              have hHeld : Ext WR w21 := EH
              have r0 := B14.out.cell 0
              have r1 := B14.out.cell 1
              have r2 := B14.out.cell 2
              have f0 := B14.out.frozen 0
              have f1 := B14.out.frozen 1
              have f2 := B14.out.frozen 2
              have EH7 := ((EH.setNew (p := ⟨n14, 0, none⟩) hn14W (.int .i64 1)).setNew (p := ⟨n14, 1, none⟩) hn14W (.int .i64 xi)).setNew (p := ⟨n14, 2, none⟩) hn14W (.int .i64 xt)
              have M14 : Mod (fun k => k = n14) w21 _ := (((Mod.refl _ w21).set1 (.int .i64 1) (o := 0)).set1 (.int .i64 xi) (o := 1)).set1 (.int .i64 xt) (o := 2)
              (refine wpAnyH_ready (rs := [14]) (by kernel_rfl) (by simp) ?_; refine AllReadyH.cons rfl (fun K hK => ?_) AllReadyH.nil; go_simp; refine hK.out _ _ EH7 (fun hHeld => ?_); clear hK K; (try simp only [Act.put]); (try simp only [List.getElem_toArray]); (try simp only [List.getElem_cons_succ]); (try simp only [List.getElem_cons_zero]); (try simp only [List.setIfInBounds_toArray]); (try simp only [List.set_cons_succ]); (try simp only [List.set_cons_zero]))
              have C14 : Blk _ n14 31 #[.int .i64 1, .int .i64 xi, .int .i64 xt] := ((B14.out.set_ 0 (.int .i64 1)).set_ 1 (.int .i64 xi)).set_ 2 (.int .i64 xt)
              have C15 := B15.out.mod M14 hne_n15_n14
              clear r0 r1 r2 f0 f1 f2
              generalize World.setCell (World.setCell (World.setCell w21 _ _) _ _) _ _ = z1 at *
              have r0 := C15.cell 0
              have r1 := C15.cell 1
              have r2 := C15.cell 2
              have f0 := C15.frozen 0
              have f1 := C15.frozen 1
              have f2 := C15.frozen 2
              have EH8 := ((EH7.setNew (p := ⟨n15, 0, none⟩) hn15W (.int .i64 1)).setNew (p := ⟨n15, 1, none⟩) hn15W (.int .i64 yi)).setNew (p := ⟨n15, 2, none⟩) hn15W (.int .i64 yt)
              have M15 : Mod (fun k => k = n15) z1 _ := (((Mod.refl _ z1).set1 (.int .i64 1) (o := 0)).set1 (.int .i64 yi) (o := 1)).set1 (.int .i64 yt) (o := 2)
              have D14 := Lib.hid (C14.mod M15 hne_n14_n15)
              have D15 := Lib.hid (show Blk _ n15 31 #[.int .i64 1, .int .i64 yi, .int .i64 yt] from ((C15.set_ 0 (.int .i64 1)).set_ 1 (.int .i64 yi)).set_ 2 (.int .i64 yt))
              (refine wpAnyH_ready (rs := [15]) (by kernel_rfl) (by simp) ?_; refine AllReadyH.cons rfl (fun K hK => ?_) AllReadyH.nil; go_simp; refine hK.out _ _ EH8 (fun hHeld => ?_); clear hK K; (try simp only [Act.put]); (try simp only [List.getElem_toArray]); (try simp only [List.getElem_cons_succ]); (try simp only [List.getElem_cons_zero]); (try simp only [List.setIfInBounds_toArray]); (try simp only [List.set_cons_succ]); (try simp only [List.set_cons_zero]))
              refine wpAnyH_done (by kernel_rfl) ?_ _
              go_wp2_with fail
              go_meet
              exact ⟨n14, n15, rfl, rfl, D14, D15, hn14W, hn15W, hHeld⟩
            ·
              go_simp
              refine hK.out _ _ (EH.alloc _) (fun hHeld => ?_)
              clear hK K hHeld
              (try simp only [List.getElem_toArray]); (try simp only [List.getElem_cons_succ]); (try simp only [List.getElem_cons_zero]); (try simp only [Act.put]); (try simp only [List.setIfInBounds_toArray]); (try simp only [List.set_cons_succ]); (try simp only [List.set_cons_zero])
              have B15 := Lib.hid (Blk.new w19 31 #[.int .i64 0, .int .i64 0, .int .i64 0])
              obtain ⟨n15, hn15⟩ : ∃ n15, w19.heap.size = n15 := ⟨_, rfl⟩
              have hn15W : WR.heap.size ≤ n15 := by rw [← hn15]; exact EH.size
              have EH := EH.alloc (.cells #[.int .i64 0, .int .i64 0, .int .i64 0] 31)
              rw [hn15] at B15 ⊢
              clear hn15
              generalize w19.alloc _ = w20 at *
              have LB15 := B15.out.lt
              refine wpAnyH_ready (rs := [12]) (by kernel_rfl) (by simp) ?_
              refine (AllReadyH.cons rfl (fun K hK => ?_) AllReadyH.nil)
              go_simp
              refine hK.out _ _ (EH.alloc _) (fun hHeld => ?_)
              clear hK K hHeld
              (try simp only [List.getElem_toArray]); (try simp only [List.getElem_cons_succ]); (try simp only [List.getElem_cons_zero]); (try simp only [Act.put]); (try simp only [List.setIfInBounds_toArray]); (try simp only [List.set_cons_succ]); (try simp only [List.set_cons_zero])
              have B15 := Lib.hid (B15.out.ext ((Ext.refl _).alloc (.cells #[.int .i64 0, .int .i64 0, .int .i64 0] 31)))
              have B14 := Lib.hid (Blk.new w20 31 #[.int .i64 0, .int .i64 0, .int .i64 0])
              obtain ⟨n14, hn14⟩ : ∃ n14, w20.heap.size = n14 := ⟨_, rfl⟩
              have hn14W : WR.heap.size ≤ n14 := by rw [← hn14]; exact EH.size
              have EH := EH.alloc (.cells #[.int .i64 0, .int .i64 0, .int .i64 0] 31)
              rw [hn14] at B14 ⊢
              have hne_n15_n14 : n15 ≠ n14 := by have := LB15; omega
              have hne_n14_n15 : n14 ≠ n15 := fun h => hne_n15_n14 h.symm
              clear hn14
              generalize w20.alloc _ = w21 at *
              have LB14 := B14.out.lt
              have hHeld : Ext WR w21 := EH
              have r0 := B14.out.cell 0
              have r1 := B14.out.cell 1
              have r2 := B14.out.cell 2
              have f0 := B14.out.frozen 0
              have f1 := B14.out.frozen 1
              have f2 := B14.out.frozen 2
              have EH7 := ((EH.setNew (p := ⟨n14, 0, none⟩) hn14W (.int .i64 1)).setNew (p := ⟨n14, 1, none⟩) hn14W (.int .i64 xi)).setNew (p := ⟨n14, 2, none⟩) hn14W (.int .i64 xt)
              have M14 : Mod (fun k => k = n14) w21 _ := (((Mod.refl _ w21).set1 (.int .i64 1) (o := 0)).set1 (.int .i64 xi) (o := 1)).set1 (.int .i64 xt) (o := 2)
              (refine wpAnyH_ready (rs := [14]) (by kernel_rfl) (by simp) ?_; refine AllReadyH.cons rfl (fun K hK => ?_) AllReadyH.nil; go_simp; refine hK.out _ _ EH7 (fun hHeld => ?_); clear hK K; (try simp only [Act.put]); (try simp only [List.getElem_toArray]); (try simp only [List.getElem_cons_succ]); (try simp only [List.getElem_cons_zero]); (try simp only [List.setIfInBounds_toArray]); (try simp only [List.set_cons_succ]); (try simp only [List.set_cons_zero]))
              have C14 : Blk _ n14 31 #[.int .i64 1, .int .i64 xi, .int .i64 xt] := ((B14.out.set_ 0 (.int .i64 1)).set_ 1 (.int .i64 xi)).set_ 2 (.int .i64 xt)
              have C15 := B15.out.mod M14 hne_n15_n14
              clear r0 r1 r2 f0 f1 f2
              generalize World.setCell (World.setCell (World.setCell w21 _ _) _ _) _ _ = z1 at *
              have r0 := C15.cell 0
              have r1 := C15.cell 1
              have r2 := C15.cell 2
              have f0 := C15.frozen 0
              have f1 := C15.frozen 1
              have f2 := C15.frozen 2
              have EH8 := ((EH7.setNew (p := ⟨n15, 0, none⟩) hn15W (.int .i64 1)).setNew (p := ⟨n15, 1, none⟩) hn15W (.int .i64 yi)).setNew (p := ⟨n15, 2, none⟩) hn15W (.int .i64 yt)
              have M15 : Mod (fun k => k = n15) z1 _ := (((Mod.refl _ z1).set1 (.int .i64 1) (o := 0)).set1 (.int .i64 yi) (o := 1)).set1 (.int .i64 yt) (o := 2)
              have D14 := Lib.hid (C14.mod M15 hne_n14_n15)
              have D15 := Lib.hid (show Blk _ n15 31 #[.int .i64 1, .int .i64 yi, .int .i64 yt] from ((C15.set_ 0 (.int .i64 1)).set_ 1 (.int .i64 yi)).set_ 2 (.int .i64 yt))
              (refine wpAnyH_ready (rs := [15]) (by kernel_rfl) (by simp) ?_; refine AllReadyH.cons rfl (fun K hK => ?_) AllReadyH.nil; go_simp; refine hK.out _ _ EH8 (fun hHeld => ?_); clear hK K; (try simp only [Act.put]); (try simp only [List.getElem_toArray]); (try simp only [List.getElem_cons_succ]); (try simp only [List.getElem_cons_zero]); (try simp only [List.setIfInBounds_toArray]); (try simp only [List.set_cons_succ]); (try simp only [List.set_cons_zero]))
              refine wpAnyH_done (by kernel_rfl) ?_ _
              go_wp2_with fail
              go_meet
              exact ⟨n14, n15, rfl, rfl, D14, D15, hn14W, hn15W, hHeld⟩
          case rest =>
            obtain ⟨n14, n15, rfl, rfl, B14, B15, hz14, hz15, E⟩ := hcut
            have HT2 := Lib.hid ((HT.out.ext E).sub (Y := fun k => (Value.slice (some ⟨g, off, none⟩) Q c').ownBlock = some k ∨ k = n14 ∨ k = n15) (fun k hk => by
              rcases hk with hk | rfl | rfl
              · exact ⟨HT.out.a.dis k hk, HT.out.b.dis k hk, Nat.lt_of_lt_of_le (HT.out.a.xl k hk) E.size⟩
              · exact ⟨fun hf => by have := HT.out.a.tm.lt k hf; omega, fun hf => by have := HT.out.b.tm.lt k hf; omega, B14.out.lt⟩
              · exact ⟨fun hf => by have := HT.out.a.tm.lt k hf; omega, fun hf => by have := HT.out.b.tm.lt k hf; omega, B15.out.lt⟩))
            have O2 := Lib.hid (O.out.ext E)
            have hc := HT2.out.set xi xt HWX.out
            rw [HSA.out.1, HSA.out.2] at hc
            have HC := Lib.hid hc
            have a1 := B14.out.cell 1
            have a2 := B14.out.cell 2
            simp at a1 a2
            clear hc hz14 hz15 E HT O KX KY
            go_wp2_with fail
            refine HC.out.mono ?_
            rintro e w4 ⟨rfl, ⟨Fa2, h4⟩, M4⟩
            have B15 := Lib.hid (B15.out.mod M4 (fun h => h.2 (.inr (.inr rfl))))
            have O4 := Lib.hid (O2.out.mod M4 (fun k hk h => h.2 (.inl hk)) (fun _ _ hk _ => hk))
            have hc := h4.symm.set yi yt HWY.out
            rw [HSB.out.1, HSB.out.2] at hc
            have HC2 := Lib.hid hc
            have a1 := B15.out.cell 1
            have a2 := B15.out.cell 2
            simp at a1 a2
            clear hc h4 M4 HT2 O2 HC B14
            go_wp2_with fail
            refine HC2.out.mono ?_
            rintro e w5 ⟨rfl, ⟨Fb2, h5⟩, M5⟩
            have O5 := Lib.hid (O4.out.mod M5 (fun k hk h => h.2 (.inl hk)) (fun _ _ hk _ => hk))
            have HT5 := Lib.hid (h5.symm.sub (Y := fun k => (Value.slice (some ⟨g, off, none⟩) Q c').ownBlock = some k) (fun k hk => ⟨h5.b.dis k (.inl hk), h5.a.dis k (.inl hk), h5.a.xl k (.inl hk)⟩))
            clear h5 M5 O4 HC2 B15 a1 a2
            go_wp2
            go_roundw
            case rel => exact ⟨m + 1, Fa2, Fb2, by omega, by go_num, HT5, O5⟩
            case measure => simp [intOf]; omega
        · obtain rfl : m = Q := by omega
          have ht := HT.out
          rw [List.take_of_length_le (by rw [HQ.out]; exact Nat.le_refl _), List.take_of_length_le (by rw [List.length_reverse, HQ.out]; exact Nat.le_refl _), setAll_rev HGA.out.nd] at ht
          obtain ⟨L, hL⟩ : ∃ L, setAll os = L := ⟨_, rfl⟩
          rw [hL] at ht
          have hmax : ∀ x ∈ L, x.2 ≤ 9223372036854775807 := by
            intro x hx
            rw [← hL] at hx
            obtain ⟨o, ho, rfl⟩ := List.mem_map.1 ((setAll_perm os HGA.out.nd).1.mem_iff.1 hx)
            have := (HGA.out.wf o ho).2
            simp [Lit.wf] at this
            exact this.2
          have HRA := Lib.hid (show restL 9223372036854775807 (restL now L) = [] from rest_all fun x hx => hmax x (rest_sub x hx))
          have HT := Lib.hid ht
          clear ht hL hmax O
          go_wp2_with fail
          refine (HT.out.due now).mono ?_
          rintro e u3 ⟨A3, c3, rfl, o3, h3, M3⟩
          have HW := Lib.hid (show ∀ k, Fa k ∨ Fb k → k < wr.heap.size from fun k hk => hk.elim (HT.out.a.tm.lt k) (HT.out.b.tm.lt k))
          have O3 := Lib.hid o3
          have H3 := Lib.hid h3
          clear o3 h3 M3 HT
          go_wp2_with fail
          refine (H3.out.due2 now _ A3 c3 _ wr O3.out HW.out).mono ?_
          rintro e u4 ⟨A4, c4, rfl, r4, r3, h4, M4⟩
          have R4 := Lib.hid r4
          have R3 := Lib.hid r3
          have H4 := Lib.hid h4
          clear r4 r3 h4 M4 H3 O3 HW
          go_wp2_with fail
          refine (ints_same (A := fun _ => True) (B := fun _ => True) _ _ (dueL now L) _ R3.out R4.out).mono ?_
          rintro e u5 ⟨rfl, E5⟩
          have H5 := Lib.hid (H4.out.ext E5)
          clear E5 H4 R3 R4
          go_wp2_with fail
          refine (tlen_any Ta _ _ _ H5.out.a.tm).mono ?_
          rintro e u6 ⟨rfl, E6⟩
          have H6 := Lib.hid (H5.out.ext E6)
          go_wp2_with fail
          refine (tlen_any Tb _ _ _ H6.out.b.tm).mono ?_
          rintro e u7 ⟨rfl, E7⟩
          have H7 := Lib.hid (H6.out.ext E7)
          clear E6 E7 H5 H6
          go_wp2_with fail
          have hc := H7.out.due 9223372036854775807
          rw [HRA.out] at hc
          refine hc.mono ?_
          clear hc
          rintro e u8 ⟨A3, c3, rfl, o3, h3, M3⟩
          have HW := Lib.hid (show ∀ k, Fa k ∨ Fb k → k < u7.heap.size from fun k hk => hk.elim (H7.out.a.tm.lt k) (H7.out.b.tm.lt k))
          have O3 := Lib.hid o3
          have H3 := Lib.hid h3
          clear o3 h3 M3 H7
          go_wp2_with fail
          have hc := H3.out.due2 9223372036854775807 _ A3 c3 _ u7 O3.out HW.out
          rw [HRA.out] at hc
          refine hc.mono ?_
          clear hc
          rintro e u9 ⟨A4, c4, rfl, r4, r3, h4, M4⟩
          have R4 := Lib.hid r4
          have R3 := Lib.hid r3
          have H4 := Lib.hid h4
          clear r4 r3 h4 M4 H3 O3 HW
          go_wp2_with fail
          refine (ints_same (A := fun _ => True) (B := fun _ => True) _ _ (dueL 9223372036854775807 (restL now L)) _ R3.out R4.out).mono ?_
          rintro e u10 ⟨rfl, E10⟩
          have H10 := Lib.hid (H4.out.ext E10)
          clear E10 H4 R3 R4
          go_wp2_with fail
          refine (tlen_any Ta _ _ _ H10.out.a.tm).mono ?_
          rintro e u11 ⟨rfl, E11⟩
          have H11 := Lib.hid (H10.out.ext E11)
          go_wp2_with fail
          refine (tlen_any Tb _ _ _ H11.out.b.tm).mono ?_
          rintro e u12 ⟨rfl, E12⟩
          have H12 := Lib.hid (H11.out.ext E12)
          clear E11 E12 H10 H11
          go_wp2
          go_ret
          exact ⟨rfl, H12.out.a.E⟩
end Go.Proofs.Ytapajcgfdiamdaa
