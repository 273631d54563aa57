/- What is written at one end goes out at the other one, walked: the law answers true. Conditions: the setting is one, bytes are bytes. -/
import Derived.Test.YtfnicinnjkbedaaDoorPN17
import Derived.Test.YtfnicinnjkbedaaDoorPT17
namespace Go.Proofs.YtfnicinnjkbedaaDoor
open Go.RowKit Go.Kb
set_option maxRecDepth 100000

/-- the discipline behind some rounds -/
def carD (t : Tm) (wait : List Int) (col : Int) : Ds := { newD t with out := wait, col := col }
theorem carD_eq (t : Tm) : newD t = carD t [] 0 := rfl
theorem take_mn (l : List Int) (m : Nat) : l.take (min m l.length) = l.take m := by
  rcases Nat.le_total m l.length with h | h
  · rw [Nat.min_eq_left h]
  · rw [Nat.min_eq_right h, List.take_length, List.take_of_length_le h]
theorem drop_mn (l : List Int) (m : Nat) : l.drop (min m l.length) = l.drop m := by
  rcases Nat.le_total m l.length with h | h
  · rw [Nat.min_eq_left h]
  · rw [Nat.min_eq_right h, List.drop_length, List.drop_of_length_le h]
/-- in the middle of a round: a piece was written -/
structure CarH (p : Pf) (b : List Int) (i : Nat) (rest wait : List Int) (col : Int) (out : List Int) : Prop where
  all : (bytesL p 0 b).1 = out ++ wait ++ (bytesL p col rest).1
  col : 0 ≤ col ∧ col ≤ 65535
  phi : 2 * rest.length + wait.length ≤ 2000 - i
  he : wait = [] → 2 * rest.length ≤ 2000 - (i + 1)
  bs : Bs rest
  bw : Bs wait
  bo : Bs out
theorem CarI.half {p : Pf} {b wait out : List Int} {i : Nat} {col : Int} (h : CarI p b i [] wait col out) : CarH p b i [] wait col out := ⟨h.all, h.col, h.phi, (fun _ => by simp), h.bs, h.bw, h.bo⟩
theorem CarI.wrote {p : Pf} {b rest wait out : List Int} {i : Nat} {col : Int} (h : CarI p b i rest wait col out) (n : Nat) (hn : 0 < n) (hr : rest ≠ []) :
    CarH p b i (rest.drop n) (wait ++ (bytesL p col (rest.take n)).1) (bytesL p col (rest.take n)).2 out := by
  obtain ⟨h1, h2, h3⟩ := h.write n hn hr
  refine ⟨h1, bytesL_bd _ _ _, h2, (fun hw => by have := h3 hw; omega), Bs.drop h.bs n, fun x hx => ?_, h.bo⟩
  rcases List.mem_append.1 hx with hx | hx
  · exact h.bw x hx
  · exact bytesL_bs _ _ _ (Bs.take h.bs n) x hx
theorem CarH.took {p : Pf} {b rest wait out : List Int} {i : Nat} {col : Int} (h : CarH p b i rest wait col out) (hb : b.length ≤ 1000) (m : Nat) (hm : 0 < m) :
    CarI p b (i + 1) rest (wait.drop (min m wait.length)) col (out ++ wait.take (min m wait.length)) := by
  rw [take_mn, drop_mn]
  exact car_take h.all h.col h.phi h.he h.bs h.bw h.bo hb m hm
/-- append onto a row of the call's own; whose block it is then -/
theorem wpList_appX {D : Type} {e : Rep D} {T : TypeId} {base : Nat} {A B : Nat → Prop} {w : World} {ds ds2 : List D} {v : Value} {P : Program} {z : Value} {bytes : Nat} {t : TypeId}
    {ops : Array Oper} {rest : List Oper} {o : Oper} {a : Act} {Q : Exit → Act → World → Prop} (hgd : o.guard = none) (s x : Operand)
    (ho : o.op = .call { callee := .builtin .append, args := #[s, x], argTypes := #[t, t] })
    (ht : P.underlying t = some (.slice T)) (hi : (P.info? T).map (fun i => (i.zero, i.size, i.bytes)) = some (some z, e.size, bytes)) (hz : z.cells.size = e.size)
    (hown : OwnS e T base B w v ds) (hs : a.eval s = v) {y : Value} (hr : RdY e A w y ds2) (hx : a.eval x = y) (hA : ∀ k, k < w.heap.size → A k → B k ∧ v.ownBlock ≠ some k)
    {N : Nat} (hN : ds.length + ds2.length = N) (h63 : N ≤ maxLen) (hbytes : N * bytes ≤ 140737488355328) (hbase : base ≤ w.heap.size)
    (h : ∀ Ad c w', OwnS e T base B w' (.slice Ad N c) (ds ++ ds2) → Mod (fun k => v.ownBlock = some k) w w' → Below base w w' → ((Value.slice Ad N c).ownBlock = v.ownBlock ∨ (Value.slice Ad N c).ownBlock = some w.heap.size) → wpList P ops Q rest (a.put o.dst (.slice Ad N c)) w') : wpList P ops Q (o :: rest) a w := by
  subst hN
  obtain ⟨us, hus, he⟩ := hown
  obtain ⟨news, hn, hne⟩ := hr
  obtain ⟨i0, hi0, hz0, hz1, hz2⟩ := info_parts hi
  refine wpList_append_rd w hgd s x t ho base T i0 z e.size bytes ht hi0 hz0 hz1 hz2 hz e.pos v ds.length us hs hus y ds2.length news hx hn hne.one h63 hbytes hbase fun v' w' h1 h2 h3 => ?_
  obtain ⟨Ad, c, rfl⟩ := own_shape h1
  exact h Ad c w' (OwnS.app he hne hA h1 h2 h3) (grown_mod h2) ((Below.refl _ _).grown h2 hbase fun k hk => (hus.lt k hk).1) h3
theorem Pt.own_ne {X : Nat → Prop} {p g B : Nat} {w : World} {y : Py} {d : Ds} {v : Value} {out : List Int} (h : Pt X p g w y d) (o : OwnS Ub 5 B (fun _ => False) w v out) : ∀ k, v.ownBlock = some k → ¬ two p g k := by
  obtain ⟨ne, blk, ok, hs, vl, vs, vr, vo, hB, hR⟩ := h
  rintro k hk (rfl | rfl)
  · exact own_blk_ne' o blk (by decide) hk
  · exact own_blk_ne' o hB (by decide) hk
set_option maxHeartbeats 3000000 in
theorem topCarries_walk (t : Tm) (v : Value) (b : List Int) (n m : Int) (w : World) (ht : t.Ok) (hb : RI .u8 w v b) (hB : Bs b) (hn1 : 0 ≤ n ∧ n ≤ 255) (hm1 : 0 ≤ m ∧ m ≤ 255) :
    Calls Tryd.prog 3 #[.agg (tmA t.arr [v, .int .u8 n, .int .u8 m])] w fun e w' => e = .returned (.bool true) ∧ Ext w w' := by
  have hn := t.size ht
  obtain ⟨N, rfl⟩ := Int.eq_ofNat_of_zero_le hn1.1
  obtain ⟨M, rfl⟩ := Int.eq_ofNat_of_zero_le hm1.1
  have hO := Lib.hid (fun w' => opened_any t w' ht)
  have HT := Lib.hid ht
  have h1 := Lib.hid t.one
  obtain ⟨cs, hcs⟩ : ∃ cs, t.arr = cs := ⟨_, rfl⟩
  rw [hcs] at hO hn h1 ⊢
  have HCS := Lib.hid hcs
  clear hcs ht
  obtain ⟨Ad, c, rfl, hc1, hc2⟩ := hb.shape
  have H := Lib.hid hb
  have HB := Lib.hid hB
  clear hb hB
  have hi : (Tryd.prog.info? 26).map (·.size) = some cs.size := by rw [hn]; kernel_rfl
  have hil : (Tryd.prog.info? 26).map (·.size) = some cs.toList.length := by rw [Array.length_toList, hn]; kernel_rfl
  have hQ := Lib.hid (Blk.new w 29 (tmA cs [.slice Ad b.length c, .int .u8 N, .int .u8 M]))
  generalize hQA : tmA cs [.slice Ad b.length c, .int .u8 N, .int .u8 M] = qa at *
  have HQA := Lib.hid hQA
  clear hQA
  have hn24 := Lib.hid hn
  go_enter Tryd.func3, Tryd.ntmps3
  (go_wp2_with fail; refine (shaken_any _).mono ?_; rintro e w1 ⟨rfl, E1⟩)
  have hQ1 := Lib.hid (hQ.out.ext E1)
  have E01 : Ext w w1 := (by repeat (first | with_reducible exact Ext.refl _ | refine Ext.drewN ?_ _ | refine Ext.drew ?_ | refine Ext.alloc ?_ _ | assumption | (refine Below.trans ?_ (by assumption)) | (refine Ext.trans ?_ (by assumption)) | (refine Below.trans ?_ (Below.mono (by assumption) (by omega)))))
  have hq := fun w' (hE : Ext w1 w') => Blk.cast (Blk.ext hQ1.out hE) HQA.out.symm
  have c24 := tmA_cell (k := 0) (hq w1 (Ext.refl _)) hn rfl
  have c25 := tmA_cell (k := 1) (hq w1 (Ext.refl _)) hn rfl
  have c26 := tmA_cell (k := 2) (hq w1 (Ext.refl _)) hn rfl
  simp only [Nat.add_zero, Nat.reduceAdd] at c24 c25 c26
  have HQ := Lib.hid hq
  clear hq E1
  go_wp2_with fail
  refine wp_region_held_drew (S := fun w' => Ext w1 w') (by kernel_rfl) (by repeat (first | with_reducible exact Ext.refl _ | refine Ext.drewN ?_ _ | refine Ext.drew ?_ | refine Ext.alloc ?_ _ | assumption | (refine Below.trans ?_ (by assumption)) | (refine Ext.trans ?_ (by assumption)) | (refine Below.trans ?_ (Below.mono (by assumption) (by omega))))) (fun hHeld => ?_)
  (refine wpAnyH_take (i := 0) (v := ?_) rfl (by kernel_rfl) (by kernel_rfl) (by kernel_rfl) (fun _ _ _ h => h) (Or.inl ⟨by rfl, ?_⟩) (by assumption) ?_; rotate_left; (focus (intro w' hSw; go_simp; try with_reducible rfl)); (try simp only [List.getElem_toArray]); (try simp only [List.getElem_cons_succ]); (try simp only [List.getElem_cons_zero]); (try simp only [Act.put]); (try simp only [List.setIfInBounds_toArray]); (try simp only [List.set_cons_succ]); (try simp only [List.set_cons_zero]))
  (refine wpAnyH_take (i := 1) (v := .agg (cs).toList.toArray) rfl (by kernel_rfl) (by kernel_rfl) (by kernel_rfl) (fun _ _ _ h => h) (yieldsIf_load_mid (by rfl) 26 _ rfl _ _ rfl (cs).toList _ (fun w' hSw => tmA_mid (HQ.out w' hSw)) Tryd.underlying26 rfl hil) (by assumption) ?_; simp only [Array.toArray_toList]; (try simp only [Act.put]); (try simp only [List.getElem_toArray]); (try simp only [List.getElem_cons_succ]); (try simp only [List.getElem_cons_zero]); (try simp only [List.setIfInBounds_toArray]); (try simp only [List.set_cons_succ]); (try simp only [List.set_cons_zero]))
  (refine wpAnyH_take (i := 2) (v := ?_) rfl (by kernel_rfl) (by kernel_rfl) (by kernel_rfl) (fun _ _ _ h => h) (Or.inl ⟨by rfl, ?_⟩) (by assumption) ?_; rotate_left; (focus (intro w' hSw; go_simp; try with_reducible rfl)); (try simp only [List.getElem_toArray]); (try simp only [List.getElem_cons_succ]); (try simp only [List.getElem_cons_zero]); (try simp only [Act.put]); (try simp only [List.setIfInBounds_toArray]); (try simp only [List.set_cons_succ]); (try simp only [List.set_cons_zero]))
  (refine wpAnyH_take (i := 3) (v := ?_) rfl (by kernel_rfl) (by kernel_rfl) (by kernel_rfl) (fun _ _ _ h => h) (Or.inl ⟨by rfl, ?_⟩) (by assumption) ?_; rotate_left; (focus (intro w' hSw; have kc := cell_ext hSw c24; go_simp; try with_reducible rfl)); (try simp only [List.getElem_toArray]); (try simp only [List.getElem_cons_succ]); (try simp only [List.getElem_cons_zero]); (try simp only [Act.put]); (try simp only [List.setIfInBounds_toArray]); (try simp only [List.set_cons_succ]); (try simp only [List.set_cons_zero]))
  (refine wpAnyH_take (i := 4) (v := ?_) rfl (by kernel_rfl) (by kernel_rfl) (by kernel_rfl) (fun _ _ _ h => h) (Or.inl ⟨by rfl, ?_⟩) (by assumption) ?_; rotate_left; (focus (intro w' hSw; go_simp; try with_reducible rfl)); (try simp only [List.getElem_toArray]); (try simp only [List.getElem_cons_succ]); (try simp only [List.getElem_cons_zero]); (try simp only [Act.put]); (try simp only [List.setIfInBounds_toArray]); (try simp only [List.set_cons_succ]); (try simp only [List.set_cons_zero]))
  (refine wpAnyH_take (i := 5) (v := ?_) rfl (by kernel_rfl) (by kernel_rfl) (by kernel_rfl) (fun _ _ _ h => h) (Or.inl ⟨by rfl, ?_⟩) (by assumption) ?_; rotate_left; (focus (intro w' hSw; have kc := cell_ext hSw c25; go_simp; try with_reducible rfl)); (try simp only [List.getElem_toArray]); (try simp only [List.getElem_cons_succ]); (try simp only [List.getElem_cons_zero]); (try simp only [Act.put]); (try simp only [List.setIfInBounds_toArray]); (try simp only [List.set_cons_succ]); (try simp only [List.set_cons_zero]))
  (refine wpAnyH_take (i := 6) (v := ?_) rfl (by kernel_rfl) (by kernel_rfl) (by kernel_rfl) (fun _ _ _ h => h) (Or.inl ⟨by rfl, ?_⟩) (by assumption) ?_; rotate_left; (focus (intro w' hSw; go_simp; try with_reducible rfl)); (try simp only [List.getElem_toArray]); (try simp only [List.getElem_cons_succ]); (try simp only [List.getElem_cons_zero]); (try simp only [Act.put]); (try simp only [List.setIfInBounds_toArray]); (try simp only [List.set_cons_succ]); (try simp only [List.set_cons_zero]))
  (refine wpAnyH_take (i := 7) (v := ?_) rfl (by kernel_rfl) (by kernel_rfl) (by kernel_rfl) (fun _ _ _ h => h) (Or.inl ⟨by rfl, ?_⟩) (by assumption) ?_; rotate_left; (focus (intro w' hSw; have kc := cell_ext hSw c26; go_simp; try with_reducible rfl)); (try simp only [List.getElem_toArray]); (try simp only [List.getElem_cons_succ]); (try simp only [List.getElem_cons_zero]); (try simp only [Act.put]); (try simp only [List.setIfInBounds_toArray]); (try simp only [List.set_cons_succ]); (try simp only [List.set_cons_zero]))
  (refine wpAnyH_ready (rs := [8]) (by kernel_rfl) (by simp) ?_; refine AllReadyH.cons rfl (fun K hK => ?_) AllReadyH.nil; go_simp; refine hK.out _ _ (by repeat (first | with_reducible exact Ext.refl _ | refine Ext.drewN ?_ _ | refine Ext.drew ?_ | refine Ext.alloc ?_ _ | assumption | (refine Below.trans ?_ (by assumption)) | (refine Ext.trans ?_ (by assumption)) | (refine Below.trans ?_ (Below.mono (by assumption) (by omega))))) (fun hHeld => ?_); clear hK K; (try simp only [Act.put]); (try simp only [List.getElem_toArray]); (try simp only [List.getElem_cons_succ]); (try simp only [List.getElem_cons_zero]); (try simp only [List.setIfInBounds_toArray]); (try simp only [List.set_cons_succ]); (try simp only [List.set_cons_zero]))
  (refine wpAnyH_ready (rs := [9]) (by kernel_rfl) (by simp) ?_; refine AllReadyH.cons rfl (fun K hK => ?_) AllReadyH.nil; rw [if_pos (by rfl)]; refine wp_store_A 26 _ _ rfl w1.heap.size _ rfl rfl 26 _ (show Blk _ _ _ _ from Blk.at_ _ _ (by simp)) hi (by rw [hn24.out]; rfl) h1.out ?_; intro w2 Hw2 Ew2; have Ew2 := Ew2 w1.heap.size w1 (by repeat (first | with_reducible exact Ext.refl _ | refine Ext.drewN ?_ _ | refine Ext.drew ?_ | refine Ext.alloc ?_ _ | assumption | (refine Below.trans ?_ (by assumption)) | (refine Ext.trans ?_ (by assumption)) | (refine Below.trans ?_ (Below.mono (by assumption) (by omega))))) (Nat.le_refl _); have Hw2 := Lib.hid Hw2; refine hK.out _ _ Ew2 (fun hHeld => ?_); clear hK K; (try simp only [Act.put]); (try simp only [List.getElem_toArray]); (try simp only [List.getElem_cons_succ]); (try simp only [List.getElem_cons_zero]); (try simp only [List.setIfInBounds_toArray]); (try simp only [List.set_cons_succ]); (try simp only [List.set_cons_zero]))
  (refine wpAnyH_take (i := 10) (v := ?_) rfl (by kernel_rfl) (by kernel_rfl) (by kernel_rfl) (fun _ _ _ h => h) (Or.inl ⟨by rfl, ?_⟩) (by assumption) ?_; rotate_left; (focus (intro w' hSw; go_simp; try with_reducible rfl)); (try simp only [List.getElem_toArray]); (try simp only [List.getElem_cons_succ]); (try simp only [List.getElem_cons_zero]); (try simp only [Act.put]); (try simp only [List.setIfInBounds_toArray]); (try simp only [List.set_cons_succ]); (try simp only [List.set_cons_zero]))
  (refine wpAnyH_take (i := 11) (v := ?_) rfl (by kernel_rfl) (by kernel_rfl) (by kernel_rfl) (fun _ _ _ h => h) (Or.inl ⟨by rfl, ?_⟩) (by assumption) ?_; rotate_left; (focus (intro w' hSw; go_simp; try with_reducible rfl)); (try simp only [List.getElem_toArray]); (try simp only [List.getElem_cons_succ]); (try simp only [List.getElem_cons_zero]); (try simp only [Act.put]); (try simp only [List.setIfInBounds_toArray]); (try simp only [List.set_cons_succ]); (try simp only [List.set_cons_zero]))
  (refine wpAnyH_take (i := 12) (v := ?_) rfl (by kernel_rfl) (by kernel_rfl) (by kernel_rfl) (fun _ _ _ h => h) (Or.inl ⟨by rfl, ?_⟩) (by assumption) ?_; rotate_left; (focus (intro w' hSw; go_simp; try with_reducible rfl)); (try simp only [List.getElem_toArray]); (try simp only [List.getElem_cons_succ]); (try simp only [List.getElem_cons_zero]); (try simp only [Act.put]); (try simp only [List.setIfInBounds_toArray]); (try simp only [List.set_cons_succ]); (try simp only [List.set_cons_zero]))
  refine wpAnyH_done (by kernel_rfl) ?_ _
  have hT := Hw2
  have E02 : Ext w w2 := E01.trans Ew2
  clear c24 c25 c26 E01 Ew2 HQ hQ1 hQ HQA Hw2
  by_cases hbig : 1000 < b.length
  · go_wp2
    go_ret
    exact ⟨rfl, E02⟩
  · go_wp2_with ((refine wpList_load_row rfl 26 _ rfl _ rfl 26 _ _ _ (Blk.ext hT.out (by repeat (first | with_reducible exact Ext.refl _ | refine Ext.drewN ?_ _ | refine Ext.drew ?_ | refine Ext.alloc ?_ _ | assumption | (refine Below.trans ?_ (by assumption)) | (refine Ext.trans ?_ (by assumption)) | (refine Below.trans ?_ (Below.mono (by assumption) (by omega)))))) Tryd.underlying26 rfl hi ?_))
    refine (hO.out _).mono ?_
    rintro e w3 ⟨p, g, rfl, P3, E3, b1, b2⟩
    have HP3 := Lib.hid (P3.re (X' := fun j => (Value.slice none 0 0).ownBlock = some j) (Mod.refl (fun _ => False) _) (fun _ h => h) (fun h => h) (fun h => h) (fun _ _ h => by simp [Value.ownBlock] at h) (fun _ h => by simp [Value.ownBlock] at h))
    have HI := Lib.hid (CarI.start (p := pfL t) (b := b) (by omega) HB.out)
    have E23 : Ext w2 w3 := (by repeat (first | with_reducible exact Ext.refl _ | refine Ext.drewN ?_ _ | refine Ext.drew ?_ | refine Ext.alloc ?_ _ | assumption | (refine Below.trans ?_ (by assumption)) | (refine Ext.trans ?_ (by assumption)) | (refine Below.trans ?_ (Below.mono (by assumption) (by omega)))))
    have hb1k : b.length ≤ 1000 := by omega
    have z02 := E02.size
    clear P3 E3 hbig
    obtain ⟨L, hL⟩ : ∃ L, b.length = L := ⟨_, rfl⟩
    have HLL := Lib.hid hL
    have H' := Lib.hid (show RI .u8 w (.slice Ad L c) b by rw [← hL]; exact H.out)
    rw [hL]
    clear hL H
    go_wp2
    go_loopw [9, 10, 38] (fun o r i wr => ∃ (k : Nat) (rest wait : List Int) (col : Int) (out : List Int), k ≤ 2100 ∧ i = .int .i64 k ∧ Hid (CarI (pfL t) b k rest wait col out) ∧ Hid (Pt (fun j => o.ownBlock = some j) p g wr { newY with sl := 1 } (carD t wait col)) ∧ Hid (OwnS Ub 5 w2.heap.size (fun _ => False) wr o out) ∧ Hid (RI .u8 w r rest) ∧ Ext w2 wr) (fun _ _ i _ => 2100 - (intOf i).toNat)
    case atStart => exact ⟨0, b, [], 0, [], by omega, rfl, HI, HP3, Lib.hid (OwnS.nil _ _ _ _ _), H', E23⟩
    case round =>
      obtain ⟨k, rest, wait, col, out, hk, rfl, HI, HP, HOu, HR, Er⟩ := hrel
      obtain ⟨A1, c1, rfl, n1, n2⟩ := HR.out.shape
      by_cases hk2 : k < 2100
      · rcases rest with _ | ⟨x0, x1⟩
        · have HH := Lib.hid HI.out.half
          have HO4 := HOu
          have HP4 := HP
          have E24 := Er
          have HRn := HR
          clear HP Er
          obtain ⟨w4, hw4⟩ : ∃ w4, w4 = wr := ⟨_, rfl⟩
          rw [← hw4] at HO4 HP4 E24 ⊢
          clear hw4 HOu
          go_wp2_with fail
          refine (mread_any _ (1 + M) _ HP4.out rfl (by simp) rfl (by omega)).mono ?_
          rintro e w5 ⟨v5, rfl, r5, P5, M5⟩
          have HI5 := HH.out.took hb1k (1 + M) (by omega)
          have HO5 := Lib.hid (HO4.out.mod M5 (HP4.out.own_ne HO4.out) (fun _ _ h => h.elim))
          have E25 := Mod.toExt E24 M5 (by rintro k hk (rfl | rfl) <;> omega)
          have P5 : Pt _ p g w5 { newY with sl := 1 } (carD t (List.drop (min (1 + M) wait.length) wait) col) := P5
          have R5 : RI .u8 w5 v5 (List.take (min (1 + M) wait.length) wait) := r5
          obtain ⟨l5, hl5⟩ : ∃ x, List.take (min (1 + M) wait.length) wait = x := ⟨_, rfl⟩
          obtain ⟨wait5, hw5⟩ : ∃ x, List.drop (min (1 + M) wait.length) wait = x := ⟨_, rfl⟩
          rw [hl5, hw5] at HI5
          rw [hl5] at R5
          rw [hw5] at P5
          have hlen := HI5.len
          rw [List.length_append] at hlen
          obtain ⟨n6, hn6⟩ : ∃ x, out.length + l5.length = x := ⟨_, rfl⟩
          have HN6 := Lib.hid hn6
          have HP5 := Lib.hid P5
          have HR5 := Lib.hid R5
          have HI5 := Lib.hid HI5
          have z5 := E25.size
          have hb6 : n6 ≤ 2000 := by omega
          clear P5 r5 R5 M5 HP4 HO4 HH hl5 hw5 hn6 hlen
          obtain ⟨e5, he5⟩ : ∃ x : Int, (if List.take (min (1 + M) (carD t wait col).out.length) (carD t wait col).out = [] then (10 : Int) else 0) = x := ⟨_, rfl⟩
          rw [he5]
          clear he5
          go_wp2_with (at_builtin; refine wpList_appX (e := Ub) (base := w2.heap.size) (B := fun _ => False) (A := fun _ => False) rfl (.tmp 69) (.tmp 70) rfl Tryd.underlying27 info_u8 rfl HO5.out rfl (RI.y HR5.out) rfl (fun _ _ h => h.elim) (N := n6) HN6.out (by unfold maxLen; omega) (by omega) z5 ?_; intro A6 c6 w6 o6 M6 B6 X6)
          have HP6 := Lib.hid (HP5.out.re (X' := fun j => (Value.slice A6 n6 c6).ownBlock = some j) M6 (fun _ h => h) (fun h => HP5.out.own_ne HO5.out _ h (.inl rfl)) (fun h => HP5.out.own_ne HO5.out _ h (.inr rfl)) (fun k hk h => by
            rcases X6 with h6 | h6
            · rw [h6] at h; exact h
            · rw [h6] at h; simp only [Option.some.injEq] at h; omega) (fun k h => (o6.row k h).2))
          have HO6 := Lib.hid o6
          have E26 : Ext w2 w6 := Below.trans E25 B6
          clear o6 M6 B6 X6 HP5 HO5 HR5 E25 E24
          go_wp2
          go_roundw
          case rel => exact ⟨k + 1, _, wait5, col, _, by omega, by go_num, HI5, HP6, HO6, HRn, E26⟩
          case measure => simp [intOf]; omega
        · obtain ⟨L1, hL1⟩ : ∃ L1, (x0 :: x1).length = L1 := ⟨_, rfl⟩
          have h01 : 0 < L1 := by rw [← hL1]; simp
          have HRJ := Lib.hid (fun j (hj : j ≤ L1) => ri_to (n := j) (show RI .u8 w (.slice A1 (x0 :: x1).length c1) (x0 :: x1) from HR.out) (by rw [hL1]; exact hj))
          have HRF := Lib.hid (fun j (hj : j ≤ L1) => ri_from (n := j) (show RI .u8 w (.slice A1 (x0 :: x1).length c1) (x0 :: x1) from HR.out) (by rw [hL1]; exact hj))
          have HL1 := Lib.hid hL1
          rw [hL1] at n1 HRF ⊢
          have hne := Lib.hid (show (x0 :: x1) ≠ [] by simp)
          have hle : L1 ≤ 1000 := by have := HI.out.phi; omega
          clear hL1
          obtain ⟨rest, hrest⟩ : ∃ rest, x0 :: x1 = rest := ⟨_, rfl⟩
          rw [hrest] at HRJ HRF HL1 hne HI HR
          clear hrest
          obtain ⟨J, hJ⟩ : ∃ J, min L1 (1 + N) = J := ⟨_, rfl⟩
          have hJ0 : 0 < J := by omega
          have hJ1 : J ≤ L1 := by omega
          have hJm : (if 1 + (N : Int) < (L1 : Int) then 1 + (N : Int) else (L1 : Int)) = (J : Int) := by split <;> omega
          have i1 : (J : Int) ≤ (c1 : Int) := by omega
          have i2 : J ≤ c1 := by omega
          have i3 : (0 : Int) ≤ (J : Int) := by omega
          have i4 : (J : Int) ≤ (L1 : Int) := by omega
          clear hJ
          obtain ⟨A5, hA5⟩ : ∃ x, (if c1 = J then A1 else Option.map (fun x => x.add J) A1) = x := ⟨_, rfl⟩
          go_wp2_with fail
          refine (swrite_any (carD t wait col) (.slice A1 J c1) (rest.take J) _ HP.out rfl (RdN.ext (HRJ.out J hJ1) (E02.trans Er)) (Bs.take HI.out.bs J) (by rw [List.length_take, HL1.out]; omega)).mono ?_
          rintro e w4 ⟨k4, f4, rfl, P4, M4⟩
          have hk4 : k4 = J := by
            have h5 := HI.out.fit J k4 (by exact f4)
            rw [h5, List.length_take, HL1.out]; omega
          subst hk4
          have tk : (rest.take k4).take k4 = rest.take k4 := by rw [List.take_take, Nat.min_self]
          rw [tk] at P4
          have HH := Lib.hid (HI.out.wrote k4 hJ0 hne.out)
          have HO4 := Lib.hid (HOu.out.mod M4 (HP.out.own_ne HOu.out) (fun _ _ h => h.elim))
          have HP4 := Lib.hid (show Pt _ p g w4 { newY with sl := 1 } (carD t (wait ++ (bytesL (pfL t) col (rest.take k4)).1) (bytesL (pfL t) col (rest.take k4)).2) from P4)
          have E24 := Mod.toExt Er M4 (by rintro k hk (rfl | rfl) <;> omega)
          have hl4 : (rest.take k4).length = k4 := by rw [List.length_take, HL1.out]; omega
          have HRn := HRF.out k4 hJ1
          rw [hA5] at HRn
          have HRn := Lib.hid HRn
          have hnz : ¬ (k4 = 0 ∧ 0 < (rest.take k4).length) := by omega
          rw [if_neg hnz]
          obtain ⟨wait', hwt⟩ : ∃ x, wait ++ (bytesL (pfL t) col (rest.take k4)).1 = x := ⟨_, rfl⟩
          obtain ⟨col', hct⟩ : ∃ x, (bytesL (pfL t) col (rest.take k4)).2 = x := ⟨_, rfl⟩
          rw [hwt, hct] at HH HP4
          clear HP HI HOu P4 M4 f4 hnz hl4 tk hne HRJ HRF Er hwt hct
          go_wp2_with fail
          refine (mread_any _ (1 + M) _ HP4.out rfl (by simp) rfl (by omega)).mono ?_
          rintro e w5 ⟨v5, rfl, r5, P5, M5⟩
          have HI5 := HH.out.took hb1k (1 + M) (by omega)
          have HO5 := Lib.hid (HO4.out.mod M5 (HP4.out.own_ne HO4.out) (fun _ _ h => h.elim))
          have E25 := Mod.toExt E24 M5 (by rintro k hk (rfl | rfl) <;> omega)
          have P5 : Pt _ p g w5 { newY with sl := 1 } (carD t (List.drop (min (1 + M) wait'.length) wait') col') := P5
          have R5 : RI .u8 w5 v5 (List.take (min (1 + M) wait'.length) wait') := r5
          obtain ⟨l5, hl5⟩ : ∃ x, List.take (min (1 + M) wait'.length) wait' = x := ⟨_, rfl⟩
          obtain ⟨wait5, hw5⟩ : ∃ x, List.drop (min (1 + M) wait'.length) wait' = x := ⟨_, rfl⟩
          rw [hl5, hw5] at HI5
          rw [hl5] at R5
          rw [hw5] at P5
          have hlen := HI5.len
          rw [List.length_append] at hlen
          obtain ⟨n6, hn6⟩ : ∃ x, out.length + l5.length = x := ⟨_, rfl⟩
          have HN6 := Lib.hid hn6
          have HP5 := Lib.hid P5
          have HR5 := Lib.hid R5
          have HI5 := Lib.hid HI5
          have z5 := E25.size
          have hb6 : n6 ≤ 2000 := by omega
          clear P5 r5 R5 M5 HP4 HO4 HH hl5 hw5 hn6 hlen
          obtain ⟨e5, he5⟩ : ∃ x : Int, (if List.take (min (1 + M) (carD t wait' col').out.length) (carD t wait' col').out = [] then (10 : Int) else 0) = x := ⟨_, rfl⟩
          rw [he5]
          clear he5
          go_wp2_with (at_builtin; refine wpList_appX (e := Ub) (base := w2.heap.size) (B := fun _ => False) (A := fun _ => False) rfl (.tmp 69) (.tmp 70) rfl Tryd.underlying27 info_u8 rfl HO5.out rfl (RI.y HR5.out) rfl (fun _ _ h => h.elim) (N := n6) HN6.out (by unfold maxLen; omega) (by omega) z5 ?_; intro A6 c6 w6 o6 M6 B6 X6)
          have HP6 := Lib.hid (HP5.out.re (X' := fun j => (Value.slice A6 n6 c6).ownBlock = some j) M6 (fun _ h => h) (fun h => HP5.out.own_ne HO5.out _ h (.inl rfl)) (fun h => HP5.out.own_ne HO5.out _ h (.inr rfl)) (fun k hk h => by
            rcases X6 with h6 | h6
            · rw [h6] at h; exact h
            · rw [h6] at h; simp only [Option.some.injEq] at h; omega) (fun k h => (o6.row k h).2))
          have HO6 := Lib.hid o6
          have E26 : Ext w2 w6 := Below.trans E25 B6
          clear o6 M6 B6 X6 HP5 HO5 HR5 E25 E24
          go_wp2
          go_roundw
          case rel => exact ⟨k + 1, _, wait5, col', _, by omega, by go_num, HI5, HP6, HO6, HRn, E26⟩
          case measure => simp [intOf]; omega
      · obtain rfl : k = 2100 := by omega
        obtain ⟨rfl, rfl⟩ := HI.out.done (by omega)
        have hG := Lib.hid (fun w' (h : RI .u8 w' (.slice Ad L c) b) => pbytes_any t 0 (.slice Ad L c) b w' HT.out h HB.out (by omega))
        rw [HCS.out] at hG
        clear HI HP
        go_wp2_with ((refine wpList_load_row rfl 26 _ rfl _ rfl 26 _ _ _ (Blk.ext hT.out (by repeat (first | with_reducible exact Ext.refl _ | refine Ext.drewN ?_ _ | refine Ext.drew ?_ | refine Ext.alloc ?_ _ | assumption | (refine Below.trans ?_ (by assumption)) | (refine Ext.trans ?_ (by assumption)) | (refine Below.trans ?_ (Below.mono (by assumption) (by omega)))))) Tryd.underlying26 rfl hi ?_))
        refine (hG.out _ (RdN.ext H'.out (E02.trans Er))).mono ?_
        rintro e w4 ⟨A4, n4, c4, l4, rfl, o4, E4⟩
        have R4 := Lib.hid (show RI .u8 w4 (.slice A4 n4 c4) (bytesL (pfL t) 0 b).1 from RdY.ri o4.y)
        have RO := Lib.hid (show RI .u8 w4 u9 (bytesL (pfL t) 0 b).1 from RdY.ri ((HOu.out.ext E4).y))
        have EE := Lib.hid (E02.trans (Er.trans E4))
        clear o4 l4 HOu
        go_wp2_with fail
        refine (Fr.bytes_any _ _ _ _ _ (RdN.ext RO.out (by repeat (first | with_reducible exact Ext.refl _ | refine Ext.drewN ?_ _ | refine Ext.drew ?_ | refine Ext.alloc ?_ _ | assumption | (refine Below.trans ?_ (by assumption)) | (refine Ext.trans ?_ (by assumption)) | (refine Below.trans ?_ (Below.mono (by assumption) (by omega)))))) (RdN.ext R4.out (by repeat (first | with_reducible exact Ext.refl _ | refine Ext.drewN ?_ _ | refine Ext.drew ?_ | refine Ext.alloc ?_ _ | assumption | (refine Below.trans ?_ (by assumption)) | (refine Ext.trans ?_ (by assumption)) | (refine Below.trans ?_ (Below.mono (by assumption) (by omega))))))).mono ?_
        rintro e w5 ⟨rfl, E5⟩
        have EE := Lib.hid (EE.out.trans E5)
        go_wp2
        go_ret
        exact ⟨by simp, EE.out⟩
end Go.Proofs.YtfnicinnjkbedaaDoor
