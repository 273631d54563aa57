/- A setting as a stream of modes, by contract. Condition: the setting is one. -/
import Derived.Test.YtpngnmokagbekaaT08
namespace Go.Proofs.Ytpngnmokagbekaa
open Go.RowKit Go.Shelf Go.Kb
attribute [local go_sem] Oper.semAt_some

theorem wpListIn_load_row {F : Fence} {n : Nat} {P : Program} {ops : Array Oper} {rest : List Oper} {o : Oper} {a : Act} {w : World} {Q : Exit → Act → World → Prop} (hgd : o.guard = none) (ty : TypeId) (x : Operand) (ho : o.op = .load ty x)
    (g : Nat) (hx : a.eval x = .pointer (some ⟨g, 0, none⟩)) (t : TypeId) (cs : Array Value) (fr : Nat × Nat) (d : TypeDesc) (hg : w.heap[g]? = some (.cells cs t fr))
    (hu : P.underlying ty = some d) (hd : (match d with | .struct _ | .array _ _ => true | _ => false) = true) (hi : (P.info? ty).map (·.size) = some cs.size)
    (h : wpListIn F n P ops Q rest (a.put o.dst (.agg cs)) w) : wpListIn F n P ops Q (o :: rest) a w := by
  refine wpListIn_plain hgd fun K hK => ?_
  unfold Oper.wpIn
  refine ⟨?_, ?_⟩
  · simp [Oper.about, ho]
  · rw [Oper.semAt_plain F _ _ (by rw [ho]; intro c hc'; cases hc')]
    unfold execOp
    simp only [ho, hx, Instr.loadAt, Instr.sureAddr, Sem.run_bind, Sem.run_pure, Result.andThen_ok, run_loadVar_row w g t ty cs fr d hg hu hd hi]
    exact hK _ _ h
def headL (t : Tm) (k : Nat) : List Int := (List.range k).flatMap fun (j : Nat) => fiveL ((j : Int) + 1) (t.c.getD (j + 1) 0)
def flagsE (t : Tm) (l : List Int) : List Int := l.flatMap fun op => fiveL op (if hasL t op then 1 else 0)
/-- a setting as a stream -/
def encL (t : Tm) : List Int := headL t 18 ++ flagsE t flagsAll ++ fiveL 128 t.i ++ fiveL 129 t.o ++ [0]
theorem headL_succ (t : Tm) (k : Nat) : headL t (k + 1) = headL t k ++ fiveL ((k : Int) + 1) (t.c.getD (k + 1) 0) := by
  unfold headL
  rw [List.range_succ, List.flatMap_append]
  simp
theorem headL_len (t : Tm) : ∀ k, (headL t k).length = 5 * k
  | 0 => rfl
  | k + 1 => by rw [headL_succ, List.length_append, headL_len t k]; simp [fiveL, fourL]; omega
theorem flagsE_snoc (t : Tm) (l : List Int) (op : Int) : flagsE t (l ++ [op]) = flagsE t l ++ fiveL op (if hasL t op then 1 else 0) := by
  unfold flagsE
  rw [List.flatMap_append]
  simp
theorem flagsE_len (t : Tm) : ∀ l, (flagsE t l).length = 5 * l.length
  | [] => rfl
  | x :: l => by
    have h : flagsE t (x :: l) = fiveL x (if hasL t x then 1 else 0) ++ flagsE t l := rfl
    rw [h, List.length_append, flagsE_len t l]
    simp [fiveL, fourL]; omega
theorem encL_len (t : Tm) : (encL t).length = 281 := by
  unfold encL
  simp only [List.length_append, headL_len, flagsE_len, List.length_cons, List.length_nil]
  rfl
theorem ownS_own {D : Type} {e : Rep D} {T : TypeId} {base : Nat} {v : Value} {ds : List D} {W W' : World} {row : Option Nat} (h : OwnS e T base (fun _ => False) W v ds) (hg : W.grownBy W' row)
    (hr : ∀ r, row = some r → ∃ o : Obj, W.heap[r]? = some o ∧ o.isCells = false) : OwnS e T base (fun _ => False) W' v ds := by
  refine OwnS.mod (S := fun k => row = some k) h ⟨hg.os, hg.tape, hg.output, hg.size, fun k hk hn => hg.block k hk (fun e' => hn e'.symm)⟩ (fun k hk hkr => ?_) (fun k _ hk _ => hk)
  obtain ⟨o, ho, hc⟩ := hr k hkr
  obtain ⟨us, hu, _⟩ := h
  refine own_obj_ne hu ho (fun cs fr e' => ?_) hk
  subst e'
  simp [Obj.isCells] at hc
theorem kp_keepB {B : Nat} {W W' : World} (h : KeepB 5 B W W') (hs : W.heap.size ≤ W'.heap.size) {cs : Array Value} (hB : Blk W B 22 cs) : KpF W W' := by
  refine ⟨hs, fun g ds fr hg => h g _ (fun cs' fr' e' => by cases e') ?_ hg⟩
  rintro rfl
  unfold Blk at hB
  rw [hB] at hg
  simp at hg
theorem ko_keepB {B : Nat} {W W' : World} (h : KeepB 5 B W W') (hs : W.heap.size ≤ W'.heap.size) {cs : Array Value} (hB : Blk W B 22 cs) : KeepsOthers W W' := by
  refine ⟨hs, fun g o hg ho => h g o (fun cs' fr' e' => by subst e'; simp [Obj.isCells] at ho) ?_ hg⟩
  rintro rfl
  unfold Blk at hB
  rw [hB] at hg
  cases hg
  simp [Obj.isCells] at ho
set_option maxRecDepth 100000 in
set_option maxHeartbeats 3000000 in
theorem encode_any (t : Tm) (w : World) (ht : t.Ok) : Calls Try.prog 25 #[.agg t.arr] w fun e w' => ∃ A c, e = .returned (.slice A (encL t).length c) ∧ OwnS Ub 5 w.heap.size (fun _ => False) w' (.slice A (encL t).length c) (encL t) ∧ Ext w w' := by
  have hn := t.size ht
  have HO := Lib.hid ht
  have hat : ∀ k : Nat, k < 19 → t.arr[k]? = some (.int .u8 (t.c.getD k 0)) := fun k hk => t.at_ ht hk
  have HAT := Lib.hid hat
  have h20 : t.arr[20]? = some (.int .u32 t.i) := by
    have hc := ht.c
    simp only [Tm.arr, Tm.cells, List.getElem?_toArray]
    rw [List.getElem?_append_right (by simp; omega)]
    simp [hc]
  have h21 : t.arr[21]? = some (.int .u32 t.o) := by
    have hc := ht.c
    simp only [Tm.arr, Tm.cells, List.getElem?_toArray]
    rw [List.getElem?_append_right (by simp; omega)]
    simp [hc]
  have hHas := fun op w' => has_any t op w' ht
  generalize hcs : t.arr = cs at *
  have H20 := Lib.hid h20
  have H21 := Lib.hid h21
  have HHAS := Lib.hid hHas
  clear hcs hat h20 h21 hHas
  have hi : (Try.prog.info? 27).map (·.size) = some cs.size := by rw [hn]; kernel_rfl
  refine (callsIn_wide (n := 7)).1 ?_
  refine callsIn_of_wp_marks Try.func25 rfl trivial ?_ rfl
  simp only [Try.ntmps25, List.size_toArray, List.length_cons, List.length_nil, Nat.reduceAdd, Nat.reduceSub, Array.replicate_succ, Array.replicate_zero, List.push_toArray, List.append_toArray, List.nil_append, List.cons_append]
  refine wpIn_wide.2 ?_
  have hT0 := Lib.hid (Blk.new w 27 cs)
  go_wp2_with (refine wpList_store_B rfl 65 _ _ rfl (w.heap.size + 1 + 1) 0 rfl _ rfl rfl rfl 65 #[.nilFunc] (Blk.at_ _ _ (by simp)) (by simp) (by kernel_rfl) ?_; intro w3 H3 F3 E3; have H3 := Lib.hid H3; have G3 := Lib.hid (F3 _ _ _ (by omega) ((hT0.out.alloc _).alloc _)); have O3 := Lib.hid (F3 (w.heap.size + 1) 22 #[.slice none 0 0] (by simp) (Blk.alloc (Blk.at_ _ _ (by simp)) _)); have E3 : Ext w w3 := E3 w.heap.size w (by repeat (first | with_reducible exact Ext.refl _ | refine Ext.drewN ?_ _ | refine Ext.drew ?_ | refine Ext.alloc ?_ _ | assumption | (refine Below.trans ?_ (by assumption)) | (refine Ext.trans ?_ (by assumption)) | (refine Below.trans ?_ (Below.mono (by assumption) (by omega))))) (by omega); clear F3)
  go_loopw [5] (fun i wr => ∃ (k : Nat) (v : Value), k ≤ 18 ∧ i = .int .i64 ((k + 1 : Nat) : Int) ∧ Hid (Blk wr (w.heap.size + 1) 22 #[v]) ∧ Hid (OwnS Ub 5 w.heap.size (fun _ => False) wr v (headL t k)) ∧ Hid (Blk wr w.heap.size 27 cs) ∧ Hid (Blk wr (w.heap.size + 1 + 1) 65 #[.func (.func 35) #[] #[.pointer (some ⟨w.heap.size + 1, 0, none⟩)]]) ∧ Ext w wr) (fun i _ => 19 - (intOf i).toNat)
  case atStart => exact ⟨0, .slice none 0 0, by omega, rfl, O3, Lib.hid (OwnS.nil _ _ _ _ _), G3, Lib.hid H3.out, E3⟩
  case round =>
    clear E3 H3 G3 O3
    obtain ⟨k, v, hk, rfl, HB, HR, HT, HF, hE⟩ := hrel
    by_cases hlt : k < 18
    · obtain ⟨q, hq⟩ : ∃ q, k + 1 = q := ⟨_, rfl⟩
      rw [hq]
      have q0 : (q : Int) ≤ 18 := by omega
      have q1 : (0 : Int) ≤ (q : Int) := by omega
      have q2 : (q : Int) < 19 := by omega
      have q3 : wrap64 ((q : Int) + 1) = (q : Int) + 1 := IntWalk.wrap64_in _ (by omega)
      have hx := HAT.out q (by omega)
      have hxe := hx
      have hxb := HO.out.b (t.c.getD q 0) (by have hc := HO.out.c; rw [getD_at (by omega)]; exact List.getElem_mem _)
      have hsc := headL_succ t k
      rw [hq, show ((k : Int) + 1) = (q : Int) by omega] at hsc
      have hlen := headL_len t k
      have HP := Lib.hid fun w' h1 h2 h3 => put_any (q : Int) (t.c.getD q 0) (w.heap.size + 1) w.heap.size v (headL t k) w' (by omega) (by omega) h1 h2 (by omega) h3
      rw [← hsc] at HP
      generalize t.c.getD q 0 = x at *
      clear hx hsc
      have hwx : IntKind.u32.wrap x = x := by rw [IntKind.wrap_u32]; omega
      go_wp2_with fail
      refine wp_region_noPanic ?_
      refine wp_region_held_drew (S := fun w' => Blk w' w.heap.size 27 cs ∧ Blk w' (w.heap.size + 1 + 1) 65 #[.func (.func 35) #[] #[.pointer (some ⟨w.heap.size + 1, 0, none⟩)]] ∧ Ext w w') (by kernel_rfl) ⟨HT.out.ext (by repeat (first | with_reducible exact Ext.refl _ | refine Ext.drewN ?_ _ | refine Ext.drew ?_ | refine Ext.alloc ?_ _ | assumption | (refine Below.trans ?_ (by assumption)) | (refine Ext.trans ?_ (by assumption)) | (refine Below.trans ?_ (Below.mono (by assumption) (by omega))))), HF.out.ext (by repeat (first | with_reducible exact Ext.refl _ | refine Ext.drewN ?_ _ | refine Ext.drew ?_ | refine Ext.alloc ?_ _ | assumption | (refine Below.trans ?_ (by assumption)) | (refine Ext.trans ?_ (by assumption)) | (refine Below.trans ?_ (Below.mono (by assumption) (by omega))))), (by repeat (first | with_reducible exact Ext.refl _ | refine Ext.drewN ?_ _ | refine Ext.drew ?_ | refine Ext.alloc ?_ _ | assumption | (refine Below.trans ?_ (by assumption)) | (refine Ext.trans ?_ (by assumption)) | (refine Below.trans ?_ (Below.mono (by assumption) (by omega)))))⟩ (fun hHeld => ?_)
      (refine wpAnyH_take (i := 0) (v := ?_) rfl (by kernel_rfl) (by kernel_rfl) (by kernel_rfl) (fun _ _ _ h => h) (Or.inl ⟨by rfl, ?_⟩) (by assumption) ?_; rotate_left; (focus (intro w' hSw; have kc := hSw.2.1.cell0; go_simp; try with_reducible rfl)); (try simp only [List.getElem_toArray]); (try simp only [List.getElem_cons_succ]); (try simp only [List.getElem_cons_zero]); (try simp only [Act.put]); (try simp only [List.setIfInBounds_toArray]); (try simp only [List.set_cons_succ]); (try simp only [List.set_cons_zero]))
      (refine wpAnyH_take (i := 1) (v := ?_) rfl (by kernel_rfl) (by kernel_rfl) (by kernel_rfl) (fun _ _ _ h => h) (Or.inl ⟨by rfl, ?_⟩) (by assumption) ?_; rotate_left; (focus (intro w' hSw; go_simp; try with_reducible rfl)); (try simp only [List.getElem_toArray]); (try simp only [List.getElem_cons_succ]); (try simp only [List.getElem_cons_zero]); (try simp only [Act.put]); (try simp only [List.setIfInBounds_toArray]); (try simp only [List.set_cons_succ]); (try simp only [List.set_cons_zero]))
      (refine wpAnyH_take (i := 2) (v := ?_) rfl (by kernel_rfl) (by kernel_rfl) (by kernel_rfl) (fun _ _ _ h => h) (Or.inl ⟨by rfl, ?_⟩) (by assumption) ?_; rotate_left; (focus (intro w' hSw; go_simp; try with_reducible rfl)); (try simp only [List.getElem_toArray]); (try simp only [List.getElem_cons_succ]); (try simp only [List.getElem_cons_zero]); (try simp only [Act.put]); (try simp only [List.setIfInBounds_toArray]); (try simp only [List.set_cons_succ]); (try simp only [List.set_cons_zero]))
      (refine wpAnyH_take (i := 3) (v := ?_) rfl (by kernel_rfl) (by kernel_rfl) (by kernel_rfl) (fun _ _ _ h => h) (Or.inl ⟨by rfl, ?_⟩) (by assumption) ?_; rotate_left; (focus (intro w' hSw; go_simp; try with_reducible rfl)); (try simp only [List.getElem_toArray]); (try simp only [List.getElem_cons_succ]); (try simp only [List.getElem_cons_zero]); (try simp only [Act.put]); (try simp only [List.setIfInBounds_toArray]); (try simp only [List.set_cons_succ]); (try simp only [List.set_cons_zero]))
      (refine wpAnyH_take (i := 4) (v := ?_) rfl (by kernel_rfl) (by kernel_rfl) (by kernel_rfl) (fun _ _ _ h => h) (Or.inl ⟨by rfl, ?_⟩) (by assumption) ?_; rotate_left; (focus (intro w' hSw; go_simp; try with_reducible rfl)); (try simp only [List.getElem_toArray]); (try simp only [List.getElem_cons_succ]); (try simp only [List.getElem_cons_zero]); (try simp only [Act.put]); (try simp only [List.setIfInBounds_toArray]); (try simp only [List.set_cons_succ]); (try simp only [List.set_cons_zero]))
      (refine wpAnyH_take (i := 5) (v := ?_) rfl (by kernel_rfl) (by kernel_rfl) (by kernel_rfl) (fun _ _ _ h => h) (Or.inl ⟨by rfl, ?_⟩) (by assumption) ?_; rotate_left; (focus (intro w' hSw; have kc := hSw.1.cell q; rw [hxe] at kc; go_simp; try with_reducible rfl)); (try simp only [List.getElem_toArray]); (try simp only [List.getElem_cons_succ]); (try simp only [List.getElem_cons_zero]); (try simp only [Act.put]); (try simp only [List.setIfInBounds_toArray]); (try simp only [List.set_cons_succ]); (try simp only [List.set_cons_zero]))
      (refine wpAnyH_take (i := 6) (v := ?_) rfl (by kernel_rfl) (by kernel_rfl) (by kernel_rfl) (fun _ _ _ h => h) (Or.inl ⟨by rfl, ?_⟩) (by assumption) ?_; rotate_left; (focus (intro w' hSw; go_simp; try with_reducible rfl)); (try simp only [List.getElem_toArray]); (try simp only [List.getElem_cons_succ]); (try simp only [List.getElem_cons_zero]); (try simp only [Act.put]); (try simp only [List.setIfInBounds_toArray]); (try simp only [List.set_cons_succ]); (try simp only [List.set_cons_zero]))
      (refine wpAnyH_ready (rs := [7]) (by kernel_rfl) (by simp) ?_; refine AllReadyH.cons rfl (fun K hK => ?_) AllReadyH.nil; go_simp; go_at_call 35; refine (HP.out _ (HB.out.ext (by repeat (first | with_reducible exact Ext.refl _ | refine Ext.drewN ?_ _ | refine Ext.drew ?_ | refine Ext.alloc ?_ _ | assumption | (refine Below.trans ?_ (by assumption)) | (refine Ext.trans ?_ (by assumption)) | (refine Below.trans ?_ (Below.mono (by assumption) (by omega)))))) (HR.out.ext (by repeat (first | with_reducible exact Ext.refl _ | refine Ext.drewN ?_ _ | refine Ext.drew ?_ | refine Ext.alloc ?_ _ | assumption | (refine Below.trans ?_ (by assumption)) | (refine Ext.trans ?_ (by assumption)) | (refine Below.trans ?_ (Below.mono (by assumption) (by omega)))))) (by omega)).mono ?_; rintro e w7 ⟨⟨u, rfl⟩, v', hB7, hO7, hb7, hk7⟩; (try dsimp only); refine hK.out _ _ ⟨hk7.blk (HT.out.ext (by repeat (first | with_reducible exact Ext.refl _ | refine Ext.drewN ?_ _ | refine Ext.drew ?_ | refine Ext.alloc ?_ _ | assumption | (refine Below.trans ?_ (by assumption)) | (refine Ext.trans ?_ (by assumption)) | (refine Below.trans ?_ (Below.mono (by assumption) (by omega)))))) (by decide) (by omega), hk7.blk (HF.out.ext (by repeat (first | with_reducible exact Ext.refl _ | refine Ext.drewN ?_ _ | refine Ext.drew ?_ | refine Ext.alloc ?_ _ | assumption | (refine Below.trans ?_ (by assumption)) | (refine Ext.trans ?_ (by assumption)) | (refine Below.trans ?_ (Below.mono (by assumption) (by omega)))))) (by decide) (by omega), Ext.trans_below (show Ext w wr.drew from Ext.drew hE) hb7 (Nat.le_refl _)⟩ (fun hHeld => ?_); clear hK K; (try simp only [Act.put]); (try simp only [List.getElem_toArray]); (try simp only [List.getElem_cons_succ]); (try simp only [List.getElem_cons_zero]); (try simp only [List.setIfInBounds_toArray]); (try simp only [List.set_cons_succ]); (try simp only [List.set_cons_zero]))
      refine wpAnyH_done (by kernel_rfl) ?_ _
      obtain ⟨hT7, hF7, hE7⟩ := hHeld
      refine NoPanic.normal ?_
      go_wp2
      go_roundw
      case rel => exact ⟨k + 1, v', by omega, by first | (rw [← hq]; go_num) | (rw [← hq]; congr 1; omega) | (rw [← hq]; simp; omega), Lib.hid hB7, (by rw [hq]; exact Lib.hid hO7), Lib.hid hT7, Lib.hid hF7, hE7⟩
      case measure => first | (simp [intOf]; omega) | (show 19 - _ < _; simp [intOf]; omega)
    · obtain rfl : k = 18 := by omega
      go_wp2_with ((go_at_call 34; (with_reducible refine (flags_any _).mono ?_); rintro e w4 ⟨rfl, rfl⟩))
      obtain ⟨W0, hW0⟩ : ∃ W0, w4 = W0 := ⟨_, rfl⟩
      rw [hW0]
      have hB0 : Blk W0 (w.heap.size + 1) 22 #[v] := hW0 ▸ HB.out
      have hR0 : OwnS Ub 5 w.heap.size (fun _ => False) W0 v (headL t 18) := hW0 ▸ HR.out
      have hT0 : Blk W0 w.heap.size 27 cs := hW0 ▸ HT.out
      have hF0 : Blk W0 (w.heap.size + 1 + 1) 65 #[.func (.func 35) #[] #[.pointer (some ⟨w.heap.size + 1, 0, none⟩)]] := hW0 ▸ HF.out
      have hE0 : Below w.heap.size w W0 := hW0 ▸ hE
      have hs0 : w.heap.size + 1 + 1 < W0.heap.size := hF0.lt
      clear HB HR HT HF hE hW0
      refine (wpIn_wide (n := 7)).1 ?_
      refine wpIn_rangeFunc_ownF rfl (by omega) (gf := 38) (lb := #[]) rfl trivial (enters_of Try.func38 (by kernel_rfl) rfl)
        (flags_stops 6 (by omega) W0) KpF.t (fun W l o o' _ h ho _ => KpF.b W l o o' h ho) (Below.refl _ _) (fun _ => rfl)
        (fun pre W => (∃ v, Blk W (w.heap.size + 1) 22 #[v] ∧ OwnS Ub 5 w.heap.size (fun _ => False) W v (headL t 18 ++ flagsE t (pre.map (·.1)))) ∧ (Blk W w.heap.size 27 cs ∧ Blk W (w.heap.size + 1 + 1) 65 #[.func (.func 35) #[] #[.pointer (some ⟨w.heap.size + 1, 0, none⟩)]]) ∧ Below w.heap.size w W)
        (fun _ _ _ => False)
        (OwnFrom.and (fun s A B row hs hg hr => by
          obtain ⟨v, h1, h2⟩ := hs
          exact ⟨v, h1.grown hg (fun e => by have := (hr _ e.symm).1; omega), ownS_own h2 hg (fun r e => (hr r e).2)⟩)
         (OwnFrom.and (fun s A B row hs hg hr => ⟨hs.1.grown hg (fun e => by have := (hr _ e.symm).1; omega), hs.2.grown hg (fun e => by have := (hr _ e.symm).1; omega)⟩) (ownFrom_below (Nat.le_refl _) (by omega))))
        (fun _ _ _ _ _ hs _ _ => hs)
        ⟨⟨v, hB0, by simpa [flagsE] using hR0⟩, ⟨hT0, hF0⟩, hE0⟩ ?a1 ?assign ?body ?done ?stop
      case assign =>
        intro l x W K hK
        gi_wp2
        exact hK
      case stop =>
        rintro D c pre W hD _ h _
        exact h.elim
      case body =>
        rintro l pre x W ⟨⟨v, hB, hO⟩, ⟨hT, hF⟩, hE⟩ hlen
        have hfl := x.2
        have hb := flag_bd hfl
        have hsn := flagsE_snoc t (pre.map (·.1)) x.1
        have hl1 := headL_len t 18
        have hl2 := flagsE_len t (pre.map (·.1))
        rw [List.length_map] at hl2
        have hPn : (pre ++ [x]).map (·.1) = pre.map (·.1) ++ [x.1] := by simp
        have hH := HHAS.out x.1
        obtain ⟨x, hx⟩ := x
        dsimp only at *
        cases hb : hasL t x
        · rw [hb] at hH hsn
          have hH := Lib.hid hH
          have hP := Lib.hid fun w' h1 h2 h3 => put_any x 0 (w.heap.size + 1) w.heap.size v (headL t 18 ++ flagsE t (pre.map (·.1))) w' (by omega) (by omega) h1 h2 (by omega) h3
          have hc4 := hF.cell0
          gi_wp2_with (first
            | (refine wpListIn_load_row rfl 27 _ rfl _ rfl 27 _ _ _ hT Try.underlying27 rfl hi ?_)
            | (refine ⟨trivial, ?_⟩; gi_at_call 15; (with_reducible refine (CallsIn.inRound l (callsIn_wide.2 (hH.out _))).mono ?_); rintro e w1 ⟨rfl, E1⟩; have hc4 := (hF.ext E1).cell0)
            | (refine ⟨trivial, ?_⟩; gi_at_call 35; (with_reducible refine (CallsIn.inRound l (callsIn_wide.2 (hP.out _ (hB.ext E1) (hO.ext E1) (by rw [List.length_append]; omega)))).mono ?_); rintro e w2 ⟨⟨u, rfl⟩, v', hB2, hO2, hb2, hk2⟩))
          have hk12 : KeepB 5 (w.heap.size + 1) W w2 := (KeepB.of_ext E1).trans hk2
          have hs12 : W.heap.size ≤ w2.heap.size := Nat.le_trans E1.size hb2.size
          exact ⟨ko_keepB hk12 hs12 hB, kp_keepB hk12 hs12 hB, ⟨v', hB2, by rw [hPn, hsn, ← List.append_assoc]; exact hO2⟩, ⟨hk12.blk hT (by decide) (by omega), hk12.blk hF (by decide) (by omega)⟩, Ext.trans_below (hE.trans (E1.mono hE.size)) hb2 (Nat.le_refl _)⟩
        · rw [hb] at hH hsn
          have hH := Lib.hid hH
          have hP := Lib.hid fun w' h1 h2 h3 => put_any x 1 (w.heap.size + 1) w.heap.size v (headL t 18 ++ flagsE t (pre.map (·.1))) w' (by omega) (by omega) h1 h2 (by omega) h3
          have hc4 := hF.cell0
          gi_wp2_with (first
            | (refine wpListIn_load_row rfl 27 _ rfl _ rfl 27 _ _ _ hT Try.underlying27 rfl hi ?_)
            | (refine ⟨trivial, ?_⟩; gi_at_call 15; (with_reducible refine (CallsIn.inRound l (callsIn_wide.2 (hH.out _))).mono ?_); rintro e w1 ⟨rfl, E1⟩; have hc4 := (hF.ext E1).cell0)
            | (refine ⟨trivial, ?_⟩; gi_at_call 35; (with_reducible refine (CallsIn.inRound l (callsIn_wide.2 (hP.out _ (hB.ext E1) (hO.ext E1) (by rw [List.length_append]; omega)))).mono ?_); rintro e w2 ⟨⟨u, rfl⟩, v', hB2, hO2, hb2, hk2⟩))
          have hk12 : KeepB 5 (w.heap.size + 1) W w2 := (KeepB.of_ext E1).trans hk2
          have hs12 : W.heap.size ≤ w2.heap.size := Nat.le_trans E1.size hb2.size
          exact ⟨ko_keepB hk12 hs12 hB, kp_keepB hk12 hs12 hB, ⟨v', hB2, by rw [hPn, hsn, ← List.append_assoc]; exact hO2⟩, ⟨hk12.blk hT (by decide) (by omega), hk12.blk hF (by decide) (by omega)⟩, Ext.trans_below (hE.trans (E1.mono hE.size)) hb2 (Nat.le_refl _)⟩
      case done =>
        rintro D ys W hD rfl ⟨⟨v, hB, hO⟩, ⟨hT, hF⟩, hE⟩ hK
        rw [toS_val flagsAll_flag] at hO
        have hl1 : (headL t 18 ++ flagsE t flagsAll).length = 270 := by rw [List.length_append, headL_len, flagsE_len]; rfl
        have hD0 := hF.lt
        have hP1 := Lib.hid fun w' h1 h2 h3 => put_any 128 t.i (w.heap.size + 1) w.heap.size v (headL t 18 ++ flagsE t flagsAll) w' (by omega) HO.out.i h1 h2 (by omega) h3
        have hc4 := hF.cell0
        have hc20 := hT.cell 20
        rw [H20.out] at hc20
        have hlen := encL_len t
        have hdef : encL t = headL t 18 ++ flagsE t flagsAll ++ fiveL 128 t.i ++ fiveL 129 t.o ++ [0] := rfl
        generalize headL t 18 ++ flagsE t flagsAll = l0 at *
        have hfi : (fiveL 128 t.i).length = 5 := rfl
        have hfo : (fiveL 129 t.o).length = 5 := rfl
        generalize fiveL 128 t.i = f1 at *
        have HP2 := Lib.hid fun v2 w' h1 h2 h3 => put_any 129 t.o (w.heap.size + 1) w.heap.size v2 (l0 ++ f1) w' (by omega) HO.out.o h1 h2 (by omega) h3
        generalize fiveL 129 t.o = f2 at *
        generalize t.i = ti at *
        generalize t.o = tout at *
        go_wp2_with fail
        (with_reducible refine (hP1.out _ hB hO (by omega)).mono ?_); rintro e w2 ⟨⟨u2, rfl⟩, v2, hB2, hO2, hb2, hk2⟩
        have hT2 := hk2.blk hT (by decide) (by omega)
        have hF2 := hk2.blk hF (by decide) (by omega)
        have hK2 : w2.heap[D]? = some (.deferred (some [])) := hk2 D _ (fun cs' fr' e' => by cases e') (by omega) hK
        have hE2 : Ext w w2 := Ext.trans_below hE hb2 (Nat.le_refl _)
        have hc4 := hF2.cell0
        have hc21 := hT2.cell 21
        rw [H21.out] at hc21
        clear hc20 hP1 hB hO hT hF hK hE hb2 hk2
        go_wp2_with fail
        (with_reducible refine (HP2.out _ _ hB2 hO2 (by rw [List.length_append]; omega)).mono ?_); rintro e w3 ⟨⟨u3, rfl⟩, v3, hB3, hO3, hb3, hk3⟩
        have hK3 : w3.heap[D]? = some (.deferred (some [])) := hk3 D _ (fun cs' fr' e' => by cases e') (by omega) hK2
        have hE3 : Ext w w3 := Ext.trans_below hE2 hb3 (Nat.le_refl _)
        clear hc21 HP2 hB2 hO2 hT2 hF2 hK2 hE2 hb3 hk3 hc4
        obtain ⟨A3, c3, rfl, -, -⟩ := hO3.shape
        have hc3 := hB3.cell0
        have hl3 : (l0 ++ f1 ++ f2).length = 280 := by rw [List.length_append, List.length_append]; omega
        rw [hl3] at hc3
        have hlit : RI .u8 (w3.alloc (.cells #[.int .u8 0] 5)) (.slice (some ⟨w3.heap.size, 0, none⟩) 1 1) [0] := RI.lit .u8 [0] _ rfl (by simp)
        have HLIT := Lib.hid hlit
        have HO3 := Lib.hid hO3
        rw [hl3] at HO3
        clear hlit hO3
        go_wp2_with (at_builtin; go_loud (refine wpList_app (e := Ub) (base := w.heap.size) (B := fun _ => False) (A := fun _ => False) rfl _ (.tmp 39) rfl Try.underlying22 info_u8 rfl (HO3.out.alloc _) rfl (RI.y HLIT.out) rfl (fun _ _ h => h.elim) (N := 281) (by rw [hl3]; rfl) (by simp [maxLen]) (by omega) (by have := hE3.size; simp; omega) ?_; intro A5 c5 w5 o5 M5 B5))
        have hK5 : w5.heap[D]? = some (.deferred (some [])) := ((KeepB.of_ext ((Ext.refl w3).alloc _)).trans (OwnS.keepB 0 (HO3.out.alloc _) M5)) D _ (fun cs' fr' e' => by cases e') (by omega) hK3
        have hE5 : Ext w w5 := Ext.trans_below (hE3.alloc _) B5 (Nat.le_refl _)
        refine ⟨by simp, .inl ⟨_, _, rfl, run_takeDeferred hK5, ?_⟩⟩
        refine ⟨_, results_tmp rfl _ _ _, A5, c5, by rw [hlen]; rfl, ?_, Ext.trans_below hE5 (belowK_b (w := w) (Nat.le_refl _) w5 D _ _ (by omega) hK5 rfl rfl) (Nat.le_refl _)⟩
        rw [hlen, hdef]
        exact ownS_own o5 (grownBy_putObj' w5 D _) (fun r e => by cases e; exact ⟨_, hK5, rfl⟩)
end Go.Proofs.Ytpngnmokagbekaa
