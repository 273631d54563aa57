/- FlowTurns, walked: for every setting, marks and counts the law answers true. Conditions: the setting is one. -/
import Derived.Test.YtiknogkopfhoiaaF15
import Derived.Deep.MidRow
namespace Go.Proofs.Ytiknogkopfhoiaa
open Go.RowKit Go.Kb

theorem Blk.below' {w w' : World} {B g : Nat} {t : TypeId} {cs : Array Value} (h : Blk w g t cs) (hb : Below B w w') (hg : g < B) : Blk w' g t cs := (hb.block g hg).trans h
theorem fset_on {f : Int} : onL (fset f 40 true) 40 = true := by
  have hp := pw_bd (op := 40) (by omega)
  unfold fset
  simp only [if_true]
  by_cases h : onL f 40 = true
  · rw [if_pos h]; exact h
  · rw [if_neg h]
    unfold onL at h ⊢
    simp only [decide_eq_true_eq] at h ⊢
    have e : (f + pw 40) / pw 40 = f / pw 40 + 1 := by
      have := Int.add_mul_ediv_right f 1 (c := pw 40) (by omega)
      rwa [Int.one_mul] at this
    rw [e]
    omega
theorem has_set40 {t : Tm} : hasL (setL t 40 true) 40 = true := by
  have h1 : flagL 40 = true := by decide
  unfold hasL setL
  rw [if_pos h1, h1, Bool.true_and]
  exact fset_on
theorem wp_store_A {P : Program} {o : Oper} {a : Act} {w : World} {K : Act → World → Prop} {Q : Exit → Act → World → Prop} (ty : TypeId) (x y : Operand) (ho : o.op = .store ty x y)
    (g : Nat) (cells : Array Value) (hx : a.eval x = .pointer (some ⟨g, 0, none⟩)) (hy : a.eval y = .agg cells)
    (t : TypeId) (old : Array Value) (hg : Blk w g t old) (hi : (P.info? ty).map (·.size) = some cells.size)
    (hold : old.size = cells.size) (h1 : cells.all (·.oneCell') = true)
    (h : ∀ w', Blk w' g t cells → (∀ (B : Nat) (a : World), Below B a w → B ≤ g → Below B a w') → K (a.put o.dst undef) w') : o.wp P a w K Q :=
  wp_store_row ty x y ho g cells hx hy t old hg hi hold h1 (h _ (Blk.setRow hg _) fun _ _ hb hB => below_setRow hb hB _)
/-- the argument's cells -/
def turnsA (cs : Array Value) (v : Value) (lo hi : Int) : Array Value := cs ++ #[v, .int .i64 lo, .int .i64 hi]
theorem turnsA_mid {cs : Array Value} {v : Value} {lo hi : Int} {w : World} {g : Nat} {T : TypeId} (hB : Blk w g T (turnsA cs v lo hi)) : w.rangeAt g 0 cs.toList := by
  intro j x hj
  have hj' : cs[j]? = some x := by simpa using hj
  have hlt : j < cs.size := (Array.getElem?_eq_some_iff.1 hj').1
  rw [hB.cell (0 + j), Nat.zero_add]
  simp only [turnsA]
  rw [Array.getElem?_append_left hlt]
  exact hj'
theorem turnsA_at {cs : Array Value} {v : Value} {lo hi : Int} (h : cs.size = 24) : (turnsA cs v lo hi)[24]? = some v ∧ (turnsA cs v lo hi)[25]? = some (.int .i64 lo) ∧ (turnsA cs v lo hi)[26]? = some (.int .i64 hi) := by
  simp only [turnsA]
  refine ⟨?_, ?_, ?_⟩ <;>
  · rw [Array.getElem?_append_right (by omega)]
    simp [h]
set_option maxRecDepth 100000 in
set_option maxHeartbeats 4000000 in
theorem flowTurns_walk (t : Tm) (v : Value) (l : List Int) (lo hi : Int) (w : World) (ht : t.Ok) (hl : RI .i64 w v l) : Calls Try.prog 5 #[.agg (turnsA t.arr v lo hi)] w fun e w' => e = .returned (.bool true) ∧ Ext w w' := by
  have hn := t.size ht
  have hS := fun w' => set_any t 40 true w' ht
  have ht' := setL_ok ht 40 true
  have hon := has_set40 (t := t)
  have h1 := Lib.hid t.one
  have g1 := Lib.hid (setL t 40 true).one
  have gn := Tm.size ht'
  have HC8 := Lib.hid fun w' => char_any (setL t 40 true) 8 w' ht'
  have HC9 := Lib.hid fun w' => char_any (setL t 40 true) 9 w' ht'
  have HM := Lib.hid fun b n w' => mark_any (setL t 40 true) false b n lo hi w' ht'
  have HL := Lib.hid fun b n => markL_eq (setL t 40 true) b n lo hi
  rw [hon, tellL_eq, tellL_eq] at HL
  generalize charL (setL t 40 true) 8 = cc at HC8 HL
  generalize charL (setL t 40 true) 9 = dd at HC9 HL
  generalize markL (setL t 40 true) = mk at HM HL
  generalize (setL t 40 true).arr = ct at hS g1 gn HC8 HC9 HM
  generalize t.arr = cs at hS hn h1 ⊢
  obtain ⟨start, sa⟩ := cc
  obtain ⟨stop, sb⟩ := dd
  simp only at HC8 HC9 HL
  clear ht ht' hon
  have hi' : (Try.prog.info? 26).map (·.size) = some cs.size := by rw [hn]; kernel_rfl
  have hil : (Try.prog.info? 26).map (·.size) = some cs.toList.length := by rw [Array.length_toList, hn]; kernel_rfl
  have gi : (Try.prog.info? 26).map (·.size) = some ct.size := by rw [gn]; kernel_rfl
  have hiF : (Try.prog.info? 32).map (·.size) = some 2 := by kernel_rfl
  obtain ⟨Ad, c, rfl, hc1, hc2⟩ := hl.shape
  have H := Lib.hid hl
  clear hl
  have hT := Lib.hid (Blk.new w 55 (turnsA cs (.slice Ad l.length c) lo hi))
  have hA := turnsA_at (v := .slice Ad l.length c) (lo := lo) (hi := hi) hn
  have hn24 := Lib.hid hn
  have gn24 := Lib.hid gn
  generalize hq : turnsA cs (.slice Ad l.length c) lo hi = qs at *
  have HQ := Lib.hid hq
  clear hq
  go_enter Try.func5, Try.ntmps5
  (go_wp2_with fail; refine (alive_any _).mono ?_; rintro e w1 ⟨rfl, E1⟩)
  have T1 := hT.out.ext E1
  have c24 := T1.cell 24
  have c25 := T1.cell 25
  have c26 := T1.cell 26
  rw [hA.1] at c24
  rw [hA.2.1] at c25
  rw [hA.2.2] at c26
  have E01 : Ext w w1 := (by repeat (first | with_reducible exact Ext.refl _ | refine Ext.drewN ?_ _ | refine Ext.drew ?_ | refine Ext.alloc ?_ _ | assumption | (refine Below.trans ?_ (by assumption)) | (refine Ext.trans ?_ (by assumption)) | (refine Below.trans ?_ (Below.mono (by assumption) (by omega)))))
  have TM := Lib.hid fun w' (hE : Ext w1 w') => turnsA_mid (w := w') (by rw [HQ.out]; exact T1.ext hE)
  clear E1 hT hA
  go_wp2_with fail
  refine wp_region_held_drew (S := fun w' => Ext w1 w') (by kernel_rfl) (by repeat (first | with_reducible exact Ext.refl _ | refine Ext.drewN ?_ _ | refine Ext.drew ?_ | refine Ext.alloc ?_ _ | assumption | (refine Below.trans ?_ (by assumption)) | (refine Ext.trans ?_ (by assumption)) | (refine Below.trans ?_ (Below.mono (by assumption) (by omega))))) (fun hHeld => ?_)
  (refine wpAnyH_take (i := 0) (v := ?_) rfl (by kernel_rfl) (by kernel_rfl) (by kernel_rfl) (fun _ _ _ h => h) (Or.inl ⟨by rfl, ?_⟩) (by assumption) ?_; rotate_left; focus (intro w' hSw; go_simp; try with_reducible rfl); (try simp only [Act.put]); (try simp only [List.getElem_toArray]); (try simp only [List.getElem_cons_succ]); (try simp only [List.getElem_cons_zero]); (try simp only [List.setIfInBounds_toArray]); (try simp only [List.set_cons_succ]); (try simp only [List.set_cons_zero]))
  (refine wpAnyH_take (i := 1) (v := .agg (cs).toList.toArray) rfl (by kernel_rfl) (by kernel_rfl) (by kernel_rfl) (fun _ _ _ h => h) (yieldsIf_load_mid (by rfl) 26 _ rfl _ _ rfl (cs).toList _ TM.out Try.underlying26 rfl hil) (by assumption) ?_; simp only [Array.toArray_toList]; (try simp only [Act.put]); (try simp only [List.getElem_toArray]); (try simp only [List.getElem_cons_succ]); (try simp only [List.getElem_cons_zero]); (try simp only [List.setIfInBounds_toArray]); (try simp only [List.set_cons_succ]); (try simp only [List.set_cons_zero]))
  (refine wpAnyH_take (i := 2) (v := ?_) rfl (by kernel_rfl) (by kernel_rfl) (by kernel_rfl) (fun _ _ _ h => h) (Or.inl ⟨by rfl, ?_⟩) (by assumption) ?_; rotate_left; focus (intro w' hSw; go_simp; try with_reducible rfl); (try simp only [Act.put]); (try simp only [List.getElem_toArray]); (try simp only [List.getElem_cons_succ]); (try simp only [List.getElem_cons_zero]); (try simp only [List.setIfInBounds_toArray]); (try simp only [List.set_cons_succ]); (try simp only [List.set_cons_zero]))
  (refine wpAnyH_take (i := 3) (v := ?_) rfl (by kernel_rfl) (by kernel_rfl) (by kernel_rfl) (fun _ _ _ h => h) (Or.inl ⟨by rfl, ?_⟩) (by assumption) ?_; rotate_left; focus (intro w' hSw; have kc := cell_ext hSw c24; go_simp; try with_reducible rfl); (try simp only [Act.put]); (try simp only [List.getElem_toArray]); (try simp only [List.getElem_cons_succ]); (try simp only [List.getElem_cons_zero]); (try simp only [List.setIfInBounds_toArray]); (try simp only [List.set_cons_succ]); (try simp only [List.set_cons_zero]))
  (refine wpAnyH_take (i := 4) (v := ?_) rfl (by kernel_rfl) (by kernel_rfl) (by kernel_rfl) (fun _ _ _ h => h) (Or.inl ⟨by rfl, ?_⟩) (by assumption) ?_; rotate_left; focus (intro w' hSw; go_simp; try with_reducible rfl); (try simp only [Act.put]); (try simp only [List.getElem_toArray]); (try simp only [List.getElem_cons_succ]); (try simp only [List.getElem_cons_zero]); (try simp only [List.setIfInBounds_toArray]); (try simp only [List.set_cons_succ]); (try simp only [List.set_cons_zero]))
  (refine wpAnyH_take (i := 5) (v := ?_) rfl (by kernel_rfl) (by kernel_rfl) (by kernel_rfl) (fun _ _ _ h => h) (Or.inl ⟨by rfl, ?_⟩) (by assumption) ?_; rotate_left; focus (intro w' hSw; have kc := cell_ext hSw c25; go_simp; try with_reducible rfl); (try simp only [Act.put]); (try simp only [List.getElem_toArray]); (try simp only [List.getElem_cons_succ]); (try simp only [List.getElem_cons_zero]); (try simp only [List.setIfInBounds_toArray]); (try simp only [List.set_cons_succ]); (try simp only [List.set_cons_zero]))
  (refine wpAnyH_take (i := 6) (v := ?_) rfl (by kernel_rfl) (by kernel_rfl) (by kernel_rfl) (fun _ _ _ h => h) (Or.inl ⟨by rfl, ?_⟩) (by assumption) ?_; rotate_left; focus (intro w' hSw; go_simp; try with_reducible rfl); (try simp only [Act.put]); (try simp only [List.getElem_toArray]); (try simp only [List.getElem_cons_succ]); (try simp only [List.getElem_cons_zero]); (try simp only [List.setIfInBounds_toArray]); (try simp only [List.set_cons_succ]); (try simp only [List.set_cons_zero]))
  (refine wpAnyH_take (i := 7) (v := ?_) rfl (by kernel_rfl) (by kernel_rfl) (by kernel_rfl) (fun _ _ _ h => h) (Or.inl ⟨by rfl, ?_⟩) (by assumption) ?_; rotate_left; focus (intro w' hSw; have kc := cell_ext hSw c26; go_simp; try with_reducible rfl); (try simp only [Act.put]); (try simp only [List.getElem_toArray]); (try simp only [List.getElem_cons_succ]); (try simp only [List.getElem_cons_zero]); (try simp only [List.setIfInBounds_toArray]); (try simp only [List.set_cons_succ]); (try simp only [List.set_cons_zero]))
  (refine wpAnyH_ready (rs := [8]) (by kernel_rfl) (by simp) ?_; refine AllReadyH.cons rfl (fun K hK => ?_) AllReadyH.nil; go_simp; refine hK.out _ _ (by repeat (first | with_reducible exact Ext.refl _ | refine Ext.drewN ?_ _ | refine Ext.drew ?_ | refine Ext.alloc ?_ _ | assumption | (refine Below.trans ?_ (by assumption)) | (refine Ext.trans ?_ (by assumption)) | (refine Below.trans ?_ (Below.mono (by assumption) (by omega))))) (fun hHeld => ?_); clear hK K; (try simp only [Act.put]); (try simp only [List.getElem_toArray]); (try simp only [List.getElem_cons_succ]); (try simp only [List.getElem_cons_zero]); (try simp only [List.setIfInBounds_toArray]); (try simp only [List.set_cons_succ]); (try simp only [List.set_cons_zero]))
  (refine wpAnyH_ready (rs := [9]) (by kernel_rfl) (by simp) ?_; refine AllReadyH.cons rfl (fun K hK => ?_) AllReadyH.nil; rw [if_pos (by rfl)]; refine wp_store_A 26 _ _ rfl w1.heap.size _ rfl rfl 26 _ (show Blk _ _ _ _ from Blk.at_ _ _ (by simp)) hi' (by rw [hn24.out]; rfl) h1.out ?_; intro w2 Hw2 Ew2; have Ew2 := Ew2 w1.heap.size w1 (by repeat (first | with_reducible exact Ext.refl _ | refine Ext.drewN ?_ _ | refine Ext.drew ?_ | refine Ext.alloc ?_ _ | assumption | (refine Below.trans ?_ (by assumption)) | (refine Ext.trans ?_ (by assumption)) | (refine Below.trans ?_ (Below.mono (by assumption) (by omega))))) (Nat.le_refl _); have Hw2 := Lib.hid Hw2; refine hK.out _ _ Ew2 (fun hHeld => ?_); clear hK K; (try simp only [Act.put]); (try simp only [List.getElem_toArray]); (try simp only [List.getElem_cons_succ]); (try simp only [List.getElem_cons_zero]); (try simp only [List.setIfInBounds_toArray]); (try simp only [List.set_cons_succ]); (try simp only [List.set_cons_zero]))
  (refine wpAnyH_take (i := 10) (v := ?_) rfl (by kernel_rfl) (by kernel_rfl) (by kernel_rfl) (fun _ _ _ h => h) (Or.inl ⟨by rfl, ?_⟩) (by assumption) ?_; rotate_left; focus (intro w' hSw; go_simp; try with_reducible rfl); (try simp only [Act.put]); (try simp only [List.getElem_toArray]); (try simp only [List.getElem_cons_succ]); (try simp only [List.getElem_cons_zero]); (try simp only [List.setIfInBounds_toArray]); (try simp only [List.set_cons_succ]); (try simp only [List.set_cons_zero]))
  (refine wpAnyH_take (i := 11) (v := ?_) rfl (by kernel_rfl) (by kernel_rfl) (by kernel_rfl) (fun _ _ _ h => h) (Or.inl ⟨by rfl, ?_⟩) (by assumption) ?_; rotate_left; focus (intro w' hSw; go_simp; try with_reducible rfl); (try simp only [Act.put]); (try simp only [List.getElem_toArray]); (try simp only [List.getElem_cons_succ]); (try simp only [List.getElem_cons_zero]); (try simp only [List.setIfInBounds_toArray]); (try simp only [List.set_cons_succ]); (try simp only [List.set_cons_zero]))
  (refine wpAnyH_take (i := 12) (v := ?_) rfl (by kernel_rfl) (by kernel_rfl) (by kernel_rfl) (fun _ _ _ h => h) (Or.inl ⟨by rfl, ?_⟩) (by assumption) ?_; rotate_left; focus (intro w' hSw; go_simp; try with_reducible rfl); (try simp only [Act.put]); (try simp only [List.getElem_toArray]); (try simp only [List.getElem_cons_succ]); (try simp only [List.getElem_cons_zero]); (try simp only [List.setIfInBounds_toArray]); (try simp only [List.set_cons_succ]); (try simp only [List.set_cons_zero]))
  refine wpAnyH_done (by kernel_rfl) ?_ _
  have E02 : Ext w w2 := Ext.trans E01 Ew2
  have hww := E01.size
  clear E01 hHeld TM c24 c25 c26 T1
  go_wp2_with (first | (refine wpList_load_row rfl 26 _ rfl _ rfl 26 _ _ _ Hw2.out Try.underlying26 rfl hi' ?_))
  refine (hS _).mono ?_
  rintro e w3 ⟨rfl, E3⟩
  have Hw3 := Hw2.out.ext E3
  go_wp2_with (first
    | (refine wpList_store_A rfl 26 _ _ rfl w1.heap.size _ rfl rfl 26 _ Hw3 gi (by rw [hn24.out, gn24.out]) g1.out ?_; intro w4 H4 E4; have TT := Lib.hid H4; have EE := E4 w.heap.size w (Ext.trans E02 E3) hww)
    | (refine wpList_load_row rfl 26 _ rfl _ rfl 26 _ _ _ TT.out Try.underlying26 rfl gi ?_))
  refine (HC8.out _).mono ?_
  rintro e w5 ⟨rfl, E5⟩
  have TT := Lib.hid (TT.out.ext E5)
  have EE := Ext.trans EE E5
  go_wp2_with (first | (refine wpList_load_row rfl 26 _ rfl _ rfl 26 _ _ _ TT.out Try.underlying26 rfl gi ?_))
  refine (HC9.out _).mono ?_
  rintro e w6 ⟨rfl, E6⟩
  have TT := Lib.hid (TT.out.ext E6)
  have EE := Ext.trans EE E6
  have E06 := EE
  have hg := TT.out.lt
  clear EE E5 E6 E4 E3 Hw2 Hw3 Ew2 hS HC8 HC9 g1 h1 gn24 hn24
  cases sa
  · go_wp2
    go_ret
    exact ⟨rfl, E06⟩
  cases sb
  · go_wp2
    go_ret
    exact ⟨rfl, E06⟩
  by_cases hst : start = stop
  · subst hst
    go_wp2
    go_ret
    exact ⟨rfl, E06⟩
  have hst' : (start == stop) = false := by simpa using hst
  by_cases hge : hi ≤ lo
  · go_wp2
    go_ret
    exact ⟨rfl, E06⟩
  by_cases hbig : 1000 < l.length
  · have hb : (1000 : Int) < l.length := by omega
    go_wp2
    go_ret
    exact ⟨rfl, E06⟩
  have hb : ¬ ((1000 : Int) < l.length) := by omega
  have m1 : Hid (∀ n, hi ≤ n → mk false n lo hi = (true, [stop])) := Lib.hid fun n h => by rw [HL.out]; simp [h]
  have m2 : Hid (∀ n, ¬ hi ≤ n → mk false n lo hi = (false, [])) := Lib.hid fun n h => by rw [HL.out]; simp [h]
  have m3 : Hid (∀ n, n ≤ lo → mk true n lo hi = (false, [start])) := Lib.hid fun n h => by rw [HL.out]; simp [h]
  have m4 : Hid (∀ n, ¬ n ≤ lo → mk true n lo hi = (true, [])) := Lib.hid fun n h => by rw [HL.out]; simp [h]
  clear HL hst hbig
  go_wp2_with (refine wpList_store_A rfl 32 _ _ rfl w6.heap.size _ rfl rfl 32 _ (show Blk _ _ _ _ from Blk.at_ _ _ (by simp)) hiF rfl (by simp [Value.oneCell']) ?_; intro w7 Hw7 Ew7; have Ew7 := Ew7 w6.heap.size w6 (by repeat (first | with_reducible exact Ext.refl _ | refine Ext.drewN ?_ _ | refine Ext.drew ?_ | refine Ext.alloc ?_ _ | assumption | (refine Below.trans ?_ (by assumption)) | (refine Ext.trans ?_ (by assumption)) | (refine Below.trans ?_ (Below.mono (by assumption) (by omega))))) (Nat.le_refl _); have Hw7 := Lib.hid Hw7)
  have TT := Lib.hid (TT.out.ext Ew7)
  have EE := Ext.trans E06 Ew7
  clear E06 Ew7
  generalize w6.heap.size = g at *
  go_loopw [62] (fun i wr => ∃ (k : Nat) (b : Bool), i = .int .i64 k ∧ k ≤ l.length ∧ Hid (Blk wr g 32 #[.bool false, .bool b]) ∧ Hid (Blk wr w1.heap.size 26 ct) ∧ Ext w wr) (fun i _ => l.length - (intOf i).toNat)
  case atStart => exact ⟨0, false, rfl, Nat.zero_le _, Hw7, TT, EE⟩
  case round =>
    clear Hw7 TT EE
    obtain ⟨k, b, rfl, hk, XX, TT, EE⟩ := hrel
    by_cases hlt : k < l.length
    · obtain ⟨bb, off, n, rfl, hx, hd⟩ := (H.out.ext EE).icell hlt
      clear hd
      cases b
      · by_cases hc : hi ≤ n
        · have hM := HM.out false n
          rw [m1.out n hc] at hM
          go_wp2_with (first | (refine wpList_load_row rfl 26 _ rfl _ rfl 26 _ _ _ TT.out Try.underlying26 rfl gi ?_) | (refine wpList_load_row rfl 32 _ rfl _ rfl 32 _ _ _ XX.out Try.underlying32 rfl hiF ?_))
          refine (hM _).mono ?_
          rintro e w8 ⟨A8, c8, rfl, R8, FR8, E8⟩
          clear FR8
          have TT := Lib.hid (TT.out.ext E8)
          have XX := Lib.hid (XX.out.ext E8)
          have EE := Ext.trans EE E8
          have R8 := Lib.hid R8
          go_wp2_with ((refine wpList_store_A rfl 32 _ _ rfl w8.heap.size _ rfl rfl 32 _ (show Blk _ _ _ _ from Blk.at_ _ _ (by simp)) hiF rfl (by simp [Value.oneCell']) ?_; intro w9 Hw9 Ew9; have Ew9 := Ew9 w8.heap.size w8 (by repeat (first | with_reducible exact Ext.refl _ | refine Ext.drewN ?_ _ | refine Ext.drew ?_ | refine Ext.alloc ?_ _ | assumption | (refine Below.trans ?_ (by assumption)) | (refine Ext.trans ?_ (by assumption)) | (refine Below.trans ?_ (Below.mono (by assumption) (by omega))))) (Nat.le_refl _); have Hw9 := Lib.hid Hw9); have YY := Hw9; have TT := Lib.hid (TT.out.ext Ew9); have XX := Lib.hid (XX.out.ext Ew9); have EE := Ext.trans EE Ew9; obtain ⟨x0, x1, x2, x3⟩ := XX.out.two; obtain ⟨y0, y1, -, -⟩ := YY.out.two)
          refine (bytes_same _ _ [stop] _ (RdN.alloc (RdN.ext R8.out Ew9) _) (RI.lit .u8 [stop] _ rfl (by simp))).mono ?_
          rintro e w10 ⟨rfl, E10⟩
          have E910 : Ext w9 w10 := (by repeat (first | with_reducible exact Ext.refl _ | refine Ext.drewN ?_ _ | refine Ext.drew ?_ | refine Ext.alloc ?_ _ | assumption | (refine Below.trans ?_ (by assumption)) | (refine Ext.trans ?_ (by assumption)) | (refine Below.trans ?_ (Below.mono (by assumption) (by omega)))))
          have TT := Lib.hid (TT.out.ext E910); have XX := Lib.hid (XX.out.ext E910); have YY := Lib.hid (YY.out.ext E910); have EE := Ext.trans EE E910; obtain ⟨x0, x1, x2, x3⟩ := XX.out.two; obtain ⟨y0, y1, -, -⟩ := YY.out.two
          go_wp2
          go_roundw
          case rel => exact ⟨k + 1, true, by go_num, by omega, Lib.hid (XX.out.put2 _ _), Lib.hid (TT.out.far (p := ⟨g, 0, none⟩) (by simp; omega) _ |>.far (p := ⟨g, 1, none⟩) (by simp; omega) _), Below.setCell (Below.setCell EE (by simp; omega) _) (by simp; omega) _⟩
          case measure => simp [intOf]; omega
        · have hM := HM.out false n
          rw [m2.out n (by omega)] at hM
          go_wp2_with (first | (refine wpList_load_row rfl 26 _ rfl _ rfl 26 _ _ _ TT.out Try.underlying26 rfl gi ?_) | (refine wpList_load_row rfl 32 _ rfl _ rfl 32 _ _ _ XX.out Try.underlying32 rfl hiF ?_))
          refine (hM _).mono ?_
          rintro e w8 ⟨A8, c8, rfl, R8, FR8, E8⟩
          clear FR8
          have TT := Lib.hid (TT.out.ext E8)
          have XX := Lib.hid (XX.out.ext E8)
          have EE := Ext.trans EE E8
          have R8 := Lib.hid R8
          go_wp2_with ((refine wpList_store_A rfl 32 _ _ rfl w8.heap.size _ rfl rfl 32 _ (show Blk _ _ _ _ from Blk.at_ _ _ (by simp)) hiF rfl (by simp [Value.oneCell']) ?_; intro w9 Hw9 Ew9; have Ew9 := Ew9 w8.heap.size w8 (by repeat (first | with_reducible exact Ext.refl _ | refine Ext.drewN ?_ _ | refine Ext.drew ?_ | refine Ext.alloc ?_ _ | assumption | (refine Below.trans ?_ (by assumption)) | (refine Ext.trans ?_ (by assumption)) | (refine Below.trans ?_ (Below.mono (by assumption) (by omega))))) (Nat.le_refl _); have Hw9 := Lib.hid Hw9); have YY := Hw9; have TT := Lib.hid (TT.out.ext Ew9); have XX := Lib.hid (XX.out.ext Ew9); have EE := Ext.trans EE Ew9; obtain ⟨x0, x1, x2, x3⟩ := XX.out.two; obtain ⟨y0, y1, -, -⟩ := YY.out.two)
          go_wp2
          go_roundw
          case rel => exact ⟨k + 1, false, by go_num, by omega, Lib.hid (XX.out.put2 _ _), Lib.hid (TT.out.far (p := ⟨g, 0, none⟩) (by simp; omega) _ |>.far (p := ⟨g, 1, none⟩) (by simp; omega) _), Below.setCell (Below.setCell EE (by simp; omega) _) (by simp; omega) _⟩
          case measure => simp [intOf]; omega
      · by_cases hc : n ≤ lo
        · have hM := HM.out true n
          rw [m3.out n hc] at hM
          go_wp2_with (first | (refine wpList_load_row rfl 26 _ rfl _ rfl 26 _ _ _ TT.out Try.underlying26 rfl gi ?_) | (refine wpList_load_row rfl 32 _ rfl _ rfl 32 _ _ _ XX.out Try.underlying32 rfl hiF ?_))
          refine (hM _).mono ?_
          rintro e w8 ⟨A8, c8, rfl, R8, FR8, E8⟩
          clear FR8
          have TT := Lib.hid (TT.out.ext E8)
          have XX := Lib.hid (XX.out.ext E8)
          have EE := Ext.trans EE E8
          have R8 := Lib.hid R8
          go_wp2_with ((refine wpList_store_A rfl 32 _ _ rfl w8.heap.size _ rfl rfl 32 _ (show Blk _ _ _ _ from Blk.at_ _ _ (by simp)) hiF rfl (by simp [Value.oneCell']) ?_; intro w9 Hw9 Ew9; have Ew9 := Ew9 w8.heap.size w8 (by repeat (first | with_reducible exact Ext.refl _ | refine Ext.drewN ?_ _ | refine Ext.drew ?_ | refine Ext.alloc ?_ _ | assumption | (refine Below.trans ?_ (by assumption)) | (refine Ext.trans ?_ (by assumption)) | (refine Below.trans ?_ (Below.mono (by assumption) (by omega))))) (Nat.le_refl _); have Hw9 := Lib.hid Hw9); have YY := Hw9; have TT := Lib.hid (TT.out.ext Ew9); have XX := Lib.hid (XX.out.ext Ew9); have EE := Ext.trans EE Ew9; obtain ⟨x0, x1, x2, x3⟩ := XX.out.two; obtain ⟨y0, y1, -, -⟩ := YY.out.two)
          refine (bytes_same _ _ [start] _ (RdN.alloc (RdN.ext R8.out Ew9) _) (RI.lit .u8 [start] _ rfl (by simp))).mono ?_
          rintro e w10 ⟨rfl, E10⟩
          have E910 : Ext w9 w10 := (by repeat (first | with_reducible exact Ext.refl _ | refine Ext.drewN ?_ _ | refine Ext.drew ?_ | refine Ext.alloc ?_ _ | assumption | (refine Below.trans ?_ (by assumption)) | (refine Ext.trans ?_ (by assumption)) | (refine Below.trans ?_ (Below.mono (by assumption) (by omega)))))
          have TT := Lib.hid (TT.out.ext E910); have XX := Lib.hid (XX.out.ext E910); have YY := Lib.hid (YY.out.ext E910); have EE := Ext.trans EE E910; obtain ⟨x0, x1, x2, x3⟩ := XX.out.two; obtain ⟨y0, y1, -, -⟩ := YY.out.two
          go_wp2
          go_roundw
          case rel => exact ⟨k + 1, false, by go_num, by omega, Lib.hid (XX.out.put2 _ _), Lib.hid (TT.out.far (p := ⟨g, 0, none⟩) (by simp; omega) _ |>.far (p := ⟨g, 1, none⟩) (by simp; omega) _), Below.setCell (Below.setCell EE (by simp; omega) _) (by simp; omega) _⟩
          case measure => simp [intOf]; omega
        · have hM := HM.out true n
          rw [m4.out n (by omega)] at hM
          go_wp2_with (first | (refine wpList_load_row rfl 26 _ rfl _ rfl 26 _ _ _ TT.out Try.underlying26 rfl gi ?_) | (refine wpList_load_row rfl 32 _ rfl _ rfl 32 _ _ _ XX.out Try.underlying32 rfl hiF ?_))
          refine (hM _).mono ?_
          rintro e w8 ⟨A8, c8, rfl, R8, FR8, E8⟩
          clear FR8
          have TT := Lib.hid (TT.out.ext E8)
          have XX := Lib.hid (XX.out.ext E8)
          have EE := Ext.trans EE E8
          have R8 := Lib.hid R8
          go_wp2_with ((refine wpList_store_A rfl 32 _ _ rfl w8.heap.size _ rfl rfl 32 _ (show Blk _ _ _ _ from Blk.at_ _ _ (by simp)) hiF rfl (by simp [Value.oneCell']) ?_; intro w9 Hw9 Ew9; have Ew9 := Ew9 w8.heap.size w8 (by repeat (first | with_reducible exact Ext.refl _ | refine Ext.drewN ?_ _ | refine Ext.drew ?_ | refine Ext.alloc ?_ _ | assumption | (refine Below.trans ?_ (by assumption)) | (refine Ext.trans ?_ (by assumption)) | (refine Below.trans ?_ (Below.mono (by assumption) (by omega))))) (Nat.le_refl _); have Hw9 := Lib.hid Hw9); have YY := Hw9; have TT := Lib.hid (TT.out.ext Ew9); have XX := Lib.hid (XX.out.ext Ew9); have EE := Ext.trans EE Ew9; obtain ⟨x0, x1, x2, x3⟩ := XX.out.two; obtain ⟨y0, y1, -, -⟩ := YY.out.two)
          go_wp2
          go_roundw
          case rel => exact ⟨k + 1, true, by go_num, by omega, Lib.hid (XX.out.put2 _ _), Lib.hid (TT.out.far (p := ⟨g, 0, none⟩) (by simp; omega) _ |>.far (p := ⟨g, 1, none⟩) (by simp; omega) _), Below.setCell (Below.setCell EE (by simp; omega) _) (by simp; omega) _⟩
          case measure => simp [intOf]; omega
    · go_wp2
      go_ret
      exact ⟨rfl, EE⟩
end Go.Proofs.Ytiknogkopfhoiaa
