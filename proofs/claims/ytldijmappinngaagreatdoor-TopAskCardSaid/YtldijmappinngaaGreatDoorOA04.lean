/- octet's writer: each of its methods by contract, for any bytes that it has. Condition: the field is one of a kind that isn't Names. -/
import Derived.Test.YtldijmappinngaaGreatDoorSI17
import Derived.Deep.Cut
import Derived.Deep.DeepCutAuto
import Derived.Deep.RegionHeld3
namespace Go.Proofs.YtldijmappinngaaGreatDoor
open Go.RowKit Go.Kb
set_option maxRecDepth 100000

/-- append onto a row of the call's own within a drawn region; whose block it is then -/
theorem step_appX {D : Type} {e : Rep D} {T : TypeId} {base : Nat} {A B : Nat → Prop} {w : World} {ds ds2 : List D} {v : Value} {P : Program} {z : Value} {bytes : Nat} {t : TypeId}
    {ops : Array Oper} {o : Oper} {a : Act} {K : Act → World → Prop} {Q : Exit → Act → World → Prop} {E : Prop} (hgd : o.guard = none) (s x : Operand)
    (ho : o.op = .call { callee := .builtin .append, args := #[s, x], argTypes := #[t, t] })
    (ht : P.underlying t = some (.slice T)) (hi : (P.info? T).map (fun i => (i.zero, i.size, i.bytes)) = some (some z, e.size, bytes)) (hz : z.cells.size = e.size)
    (hown : OwnS e T base B w v ds) (hs : a.eval s = v) {y : Value} (hr : RdY e A w y ds2) (hx : a.eval x = y) (hA : ∀ k, k < w.heap.size → A k → B k ∧ v.ownBlock ≠ some k)
    {N : Nat} (hN : ds.length + ds2.length = N) (h63 : N ≤ maxLen) (hbytes : N * bytes ≤ 140737488355328) (hbase : base ≤ w.heap.size)
    (h : ∀ Ad c w', OwnS e T base B w' (.slice Ad N c) (ds ++ ds2) → Mod (fun k => v.ownBlock = some k) w w' → ((Value.slice Ad N c).ownBlock = v.ownBlock ∨ (Value.slice Ad N c).ownBlock = some w.heap.size) → K (a.put o.dst (.slice Ad N c)) w') :
    if Region.wanted o (yielded ops a.tmps) = true then Oper.wp P o a w K Q else E := by
  have hw : Region.wanted o (yielded ops a.tmps) = true := by simp [Region.wanted, hgd]
  rw [if_pos hw]
  subst hN
  obtain ⟨us, hus, he⟩ := hown
  obtain ⟨news, hn, hne⟩ := hr
  obtain ⟨i0, hi0, hz0, hz1, hz2⟩ := info_parts hi
  refine wp_append_rd w s x t ho base T i0 z e.size bytes ht hi0 hz0 hz1 hz2 hz e.pos v ds.length us hs hus y ds2.length news hx hn hne.one h63 hbytes hbase fun v' w' h1 h2 h3 => ?_
  obtain ⟨Ad, c, rfl⟩ := own_shape h1
  exact h Ad c w' (OwnS.app he hne hA h1 h2 h3) (grown_mod h2) h3
/-- the blocks that a writer's methods may turn -/
abbrev wS (g : Nat) (v : Value) : Nat → Prop := fun k => k = g ∨ v.ownBlock = some k
/-- a writer in block g, its bytes a row of its own from block base on -/
structure Wr (base g : Nat) (w : World) (v : Value) (out : List Int) : Prop where
  blk : Blk w g 105 #[v]
  own : OwnS Ub8 5 base (fun _ => False) w v out
theorem Wr.ext {base g : Nat} {w w' : World} {v : Value} {out : List Int} (h : Wr base g w v out) (E : Ext w w') : Wr base g w' v out := ⟨h.blk.ext E, h.own.ext E⟩
theorem Wr.ne {base g : Nat} {w : World} {v : Value} {out : List Int} (h : Wr base g w v out) : v.ownBlock ≠ some g := by
  obtain ⟨us, ho, _⟩ := h.own
  exact own_blk_ne ho h.blk (by decide)
theorem Wr.lt {base g : Nat} {w : World} {v : Value} {out : List Int} (h : Wr base g w v out) : ∀ k, wS g v k → k < w.heap.size := by
  rintro k (rfl | hk)
  · exact h.blk.lt
  · exact (h.own.row k hk).2
/-- what a method leaves -/
def WPost (base g : Nat) (v : Value) (out add : List Int) (w : World) (e : Ending) (w' : World) : Prop :=
  e = .returned (.tuple #[]) ∧ ∃ v2, Wr base g w' v2 (out ++ add) ∧ Mod (wS g v) w w' ∧ (∀ k, v2.ownBlock = some k → v.ownBlock = some k ∨ w.heap.size ≤ k)
theorem WPost.trans {base g : Nat} {v v2 : Value} {out a b : List Int} {w w1 w2 : World} {e : Ending} (h2 : Mod (wS g v) w w1) (h3 : ∀ k, v2.ownBlock = some k → v.ownBlock = some k ∨ w.heap.size ≤ k) (h : WPost base g v2 (out ++ a) b w1 e w2) : WPost base g v out (a ++ b) w e w2 := by
  obtain ⟨he, v4, h5, h6, h7⟩ := h
  refine ⟨he, v4, by rw [← List.append_assoc]; exact h5, ?_, fun k hk => ?_⟩
  · refine ⟨h6.os.trans h2.os, h6.tape.trans h2.tape, h6.output.trans h2.output, Nat.le_trans h2.size h6.size, fun k hk hn => ?_⟩
    refine (h6.block k (Nat.lt_of_lt_of_le hk h2.size) ?_).trans (h2.block k hk hn)
    rintro (rfl | h8)
    · exact hn (.inl rfl)
    · rcases h3 k h8 with h9 | h9
      · exact hn (.inr h9)
      · omega
  · rcases h7 k hk with h8 | h8
    · exact h3 k h8
    · exact .inr (Nat.le_trans h2.size h8)
theorem wstore {base g : Nat} {w x : World} {v : Value} {out add : List Int} {A : Option Addr} {N c : Nat} {wm : World} (h : Wr base g w v out) (E : Ext w wm) (o9 : OwnS Ub8 5 base (fun _ => False) x (.slice A N c) (out ++ add)) (M9 : Mod (fun k => v.ownBlock = some k) wm x) (X9 : (Value.slice A N c).ownBlock = v.ownBlock ∨ (Value.slice A N c).ownBlock = some wm.heap.size) :
    Blk x g 105 #[v] ∧ Mod (wS g v) wm x ∧ Mod (wS g v) x (x.setCell ⟨g, 0, none⟩ (.slice A N c)) ∧ WPost base g v out add w (.returned (.tuple #[])) (x.setCell ⟨g, 0, none⟩ (.slice A N c)) := by
  have B9 : Blk x g 105 #[v] := (h.blk.ext E).mod M9 h.ne
  have hne : (Value.slice A N c).ownBlock ≠ some g := by
    obtain ⟨us, ho, _⟩ := o9
    exact own_blk_ne ho B9 (by decide)
  have MW : Mod (wS g v) wm x := M9.mono fun _ _ hk => .inr hk
  have MS : Mod (wS g v) x (x.setCell ⟨g, 0, none⟩ (.slice A N c)) := (Mod.refl _ _).set_ (.inr (.inl rfl)) _
  refine ⟨B9, MW, MS, rfl, .slice A N c, ⟨?_, ?_⟩, ((Mod.of_ext E).trans MW).trans MS, fun k hk => ?_⟩
  · exact B9.set_ 0 _
  · exact o9.mod ((Mod.refl (fun k => k = g) _).set1 _) (fun k hk he => hne (by rw [hk, he])) (fun _ _ hk => hk.elim)
  · rcases X9 with h6 | h6
    · rw [h6] at hk; exact .inl hk
    · rw [h6, Option.some.injEq] at hk; right; rw [← hk]; exact E.size
abbrev fcells (k n : Int) (vt vl : Value) : Array Value := #[.int .i64 k, .int .u32 n, vt, vl]
set_option maxHeartbeats 800000 in
theorem woct_any (base g : Nat) (v : Value) (out : List Int) (k n : Int) (vt vl : Value) (w : World) (h : Wr base g w v out) (hb : base ≤ w.heap.size) (hn : 0 ≤ n ∧ n ≤ 255) (hl : out.length ≤ 100000) :
    Calls Tryz.prog 68 #[.pointer (some ⟨g, 0, none⟩), .agg #[.int .i64 k, .int .u32 n, vt, vl]] w (WPost base g v out [n] w) := by
  have hwr : IntKind.u8.wrap n = n := by unfold IntKind.wrap; simp [IntKind.bits, IntKind.signed]; omega
  have HWR := Lib.hid hwr
  have HTOT := Lib.hid (show out.length + 1 ≤ 1000000 by omega)
  obtain ⟨A0, c0, rfl, hc1, hc2⟩ := h.own.shape
  have H := Lib.hid h
  have HBASE := Lib.hid hb
  obtain ⟨W, hW⟩ : ∃ W, W = w.alloc (.cells #[.int .i64 k, .int .u32 n, vt, vl] 59) := ⟨_, rfl⟩
  have B3 := Lib.hid (show Blk W w.heap.size 59 #[.int .i64 k, .int .u32 n, vt, vl] by rw [hW]; exact Blk.new w _ _)
  have E0 : Ext w W := by rw [hW]; exact (Ext.refl _).alloc _
  have HW := Lib.hid hW
  have HNB := Lib.hid (show ¬ wS g (.slice A0 out.length c0) w.heap.size from fun hh => Nat.lt_irrefl _ (h.lt _ hh))
  clear h hW hl hb hc1 hc2
  clear hwr
  go_enter Tryz.func68, Tryz.ntmps68
  go_upto_region 1 with fail
  rw [← HW.out]
  clear HW
  refine wp_region_held_drew (S := fun w' => Mod (wS g (.slice A0 out.length c0)) W w') (by kernel_rfl) (Mod.of_ext (Ext.drew (Ext.refl _))) (fun hHeld => ?_)
  obtain ⟨D, hD⟩ : ∃ D, D = W.drew := ⟨_, rfl⟩
  have ED : Ext W D := by rw [hD]; exact (Ext.refl _).drew
  rw [← hD] at hHeld ⊢
  clear hD
  have BD := H.out.blk.ext (E0.trans ED)
  have kd := BD.cell 0
  (refine wpAnyH_take (i := 0) (v := ?_) rfl (by kernel_rfl) (by kernel_rfl) (by kernel_rfl) (fun _ _ _ h => h) (Or.inl ⟨by rfl, ?_⟩) (by assumption) ?_; rotate_left; (focus (intro w' hSw; go_simp; try with_reducible rfl)); (try simp only [List.getElem_toArray]); (try simp only [List.getElem_cons_succ]); (try simp only [List.getElem_cons_zero]); (try simp only [Act.put]); (try simp only [List.setIfInBounds_toArray]); (try simp only [List.set_cons_succ]); (try simp only [List.set_cons_zero]))
  (refine wpAnyH_take (i := 1) (v := ?_) rfl (by kernel_rfl) (by kernel_rfl) (by kernel_rfl) (fun _ _ _ h => h) (Or.inl ⟨by rfl, ?_⟩) (by assumption) ?_; rotate_left; (focus (intro w' hSw; go_simp; try with_reducible rfl)); (try simp only [List.getElem_toArray]); (try simp only [List.getElem_cons_succ]); (try simp only [List.getElem_cons_zero]); (try simp only [Act.put]); (try simp only [List.setIfInBounds_toArray]); (try simp only [List.set_cons_succ]); (try simp only [List.set_cons_zero]))
  (refine wpAnyH_take (i := 2) (v := ?_) rfl (by kernel_rfl) (by kernel_rfl) (by kernel_rfl) (fun _ _ _ h => h) (Or.inl ⟨by rfl, ?_⟩) (by assumption) ?_; rotate_left; (focus (intro w' hSw; go_simp; try with_reducible rfl)); (try simp only [List.getElem_toArray]); (try simp only [List.getElem_cons_succ]); (try simp only [List.getElem_cons_zero]); (try simp only [Act.put]); (try simp only [List.setIfInBounds_toArray]); (try simp only [List.set_cons_succ]); (try simp only [List.set_cons_zero]))
  (refine wpAnyH_take (i := 3) (v := ?_) rfl (by kernel_rfl) (by kernel_rfl) (by kernel_rfl) (fun _ _ _ h => h) (Or.inl ⟨by rfl, ?_⟩) (by assumption) ?_; rotate_left; (focus (intro w' hSw; go_simp; try with_reducible rfl)); (try simp only [List.getElem_toArray]); (try simp only [List.getElem_cons_succ]); (try simp only [List.getElem_cons_zero]); (try simp only [Act.put]); (try simp only [List.setIfInBounds_toArray]); (try simp only [List.set_cons_succ]); (try simp only [List.set_cons_zero]))
  (refine wpAnyH_take (i := 5) (v := ?_) rfl (by kernel_rfl) (by kernel_rfl) (by kernel_rfl) (fun _ _ _ h => h) (Or.inl ⟨by rfl, ?_⟩) (by assumption) ?_; rotate_left; (focus (intro w' hSw; go_simp; try with_reducible rfl)); (try simp only [List.getElem_toArray]); (try simp only [List.getElem_cons_succ]); (try simp only [List.getElem_cons_zero]); (try simp only [Act.put]); (try simp only [List.setIfInBounds_toArray]); (try simp only [List.set_cons_succ]); (try simp only [List.set_cons_zero]))
  (refine wpAnyH_take (i := 6) (v := ?_) rfl (by kernel_rfl) (by kernel_rfl) (by kernel_rfl) (fun _ _ _ h => h) (Or.inl ⟨by rfl, ?_⟩) (by assumption) ?_; rotate_left; (focus (intro w' hSw; have kc := (B3.out.mod hSw HNB.out).cell 1; go_simp; try with_reducible rfl)); (try simp only [List.getElem_toArray]); (try simp only [List.getElem_cons_succ]); (try simp only [List.getElem_cons_zero]); (try simp only [Act.put]); (try simp only [List.setIfInBounds_toArray]); (try simp only [List.set_cons_succ]); (try simp only [List.set_cons_zero]))
  (refine wpAnyH_take (i := 7) (v := ?_) rfl (by kernel_rfl) (by kernel_rfl) (by kernel_rfl) (fun _ _ _ h => h) (Or.inl ⟨by rfl, ?_⟩) (by assumption) ?_; rotate_left; (focus (intro w' hSw; go_simp; try with_reducible rfl)); (try simp only [List.getElem_toArray]); (try simp only [List.getElem_cons_succ]); (try simp only [List.getElem_cons_zero]); (try simp only [Act.put]); (try simp only [List.setIfInBounds_toArray]); (try simp only [List.set_cons_succ]); (try simp only [List.set_cons_zero]))
  refine wpAnyH_ready (rs := [4, 8]) (by kernel_rfl) (by simp) ?_
  refine AllReadyH.cons rfl (fun K hK => ?_) (AllReadyH.cons rfl (fun K hK => ?_) AllReadyH.nil)
  · go_simp
    refine hK.out _ _ (Mod.of_ext ED) (fun hHeld => ?_)
    clear hK K
    (try simp only [Act.put]); (try simp only [List.getElem_toArray]); (try simp only [List.getElem_cons_succ]); (try simp only [List.getElem_cons_zero]); (try simp only [List.setIfInBounds_toArray]); (try simp only [List.set_cons_succ]); (try simp only [List.set_cons_zero])
    (refine wpAnyH_ready (rs := [8]) (by kernel_rfl) (by simp) ?_; refine AllReadyH.cons rfl (fun K hK => ?_) AllReadyH.nil; go_simp; refine hK.out _ _ (Mod.of_ext (ED.alloc _)) (fun hHeld => ?_); clear hK K; (try simp only [Act.put]); (try simp only [List.getElem_toArray]); (try simp only [List.getElem_cons_succ]); (try simp only [List.getElem_cons_zero]); (try simp only [List.setIfInBounds_toArray]); (try simp only [List.set_cons_succ]); (try simp only [List.set_cons_zero]))
    refine wpAnyH_ready (rs := [9]) (by kernel_rfl) (by simp) ?_
    refine AllReadyH.cons rfl (fun K hK => ?_) AllReadyH.nil
    have EM := (Ext.refl D).alloc (.cells #[.int .u8 (IntKind.u8.wrap n)] 5)
    refine step_appX (e := Ub8) (base := base) (B := fun _ => False) (A := fun _ => False) rfl (.tmp 8) (.tmp 12) rfl Tryz.underlying25 info_ub8 rfl (H.out.own.ext (E0.trans (ED.trans EM))) rfl (RdY.singleB (e := Ub8) (cs := [.int .u8 (IntKind.u8.wrap n)]) (d := IntKind.u8.wrap n) rfl (Blk.new D _ _)) rfl (fun _ _ h => h.elim) (N := out.length + 1) rfl (by have := HTOT.out; unfold maxLen; omega) (by have := HTOT.out; omega) (by have := HBASE.out; have := (E0.trans (ED.trans EM)).size; omega) ?_
    intro A9 c9 x9 o9 M9 X9
    obtain ⟨B9, M10, M11, Z9⟩ := wstore H.out (E0.trans (ED.trans EM)) o9 M9 X9
    have HZ := Lib.hid Z9
    have ME := (Mod.of_ext (S := wS g (.slice A0 out.length c0)) (ED.trans EM)).trans M10
    refine hK.out _ _ ME (fun hHeld => ?_)
    clear hK K
    (try simp only [List.getElem_toArray]); (try simp only [List.getElem_cons_succ]); (try simp only [List.getElem_cons_zero]); (try simp only [Act.put]); (try simp only [List.setIfInBounds_toArray]); (try simp only [List.set_cons_succ]); (try simp only [List.set_cons_zero])
    (refine wpAnyH_take (i := 10) (v := ?_) rfl (by kernel_rfl) (by kernel_rfl) (by kernel_rfl) (fun _ _ _ h => h) (Or.inl ⟨by rfl, ?_⟩) (by assumption) ?_; rotate_left; (focus (intro w' hSw; go_simp; try with_reducible rfl)); (try simp only [List.getElem_toArray]); (try simp only [List.getElem_cons_succ]); (try simp only [List.getElem_cons_zero]); (try simp only [Act.put]); (try simp only [List.setIfInBounds_toArray]); (try simp only [List.set_cons_succ]); (try simp only [List.set_cons_zero]))
    (refine wpAnyH_take (i := 11) (v := ?_) rfl (by kernel_rfl) (by kernel_rfl) (by kernel_rfl) (fun _ _ _ h => h) (Or.inl ⟨by rfl, ?_⟩) (by assumption) ?_; rotate_left; (focus (intro w' hSw; go_simp; try with_reducible rfl)); (try simp only [List.getElem_toArray]); (try simp only [List.getElem_cons_succ]); (try simp only [List.getElem_cons_zero]); (try simp only [Act.put]); (try simp only [List.setIfInBounds_toArray]); (try simp only [List.set_cons_succ]); (try simp only [List.set_cons_zero]))
    have kd9 := B9.cell 0
    have fd9 := B9.frozen 0
    clear Z9 B9 M10 M9 X9 o9
    (refine wpAnyH_ready (rs := [12]) (by kernel_rfl) (by simp) ?_; refine AllReadyH.cons rfl (fun K hK => ?_) AllReadyH.nil; go_simp; refine hK.out _ _ (ME.trans M11) (fun hHeld => ?_); clear hK K; (try simp only [Act.put]); (try simp only [List.getElem_toArray]); (try simp only [List.getElem_cons_succ]); (try simp only [List.getElem_cons_zero]); (try simp only [List.setIfInBounds_toArray]); (try simp only [List.set_cons_succ]); (try simp only [List.set_cons_zero]))
    refine wpAnyH_done (by kernel_rfl) ?_ _
    go_end0
    rw [HWR.out] at HZ
    exact HZ.out
  · go_simp
    refine hK.out _ _ (Mod.of_ext (ED.alloc _)) (fun hHeld => ?_)
    clear hK K
    (try simp only [Act.put]); (try simp only [List.getElem_toArray]); (try simp only [List.getElem_cons_succ]); (try simp only [List.getElem_cons_zero]); (try simp only [List.setIfInBounds_toArray]); (try simp only [List.set_cons_succ]); (try simp only [List.set_cons_zero])
    have kd := (BD.ext ((Ext.refl D).alloc (.cells #[.int .u8 (IntKind.u8.wrap n)] 5))).cell 0
    (refine wpAnyH_ready (rs := [4]) (by kernel_rfl) (by simp) ?_; refine AllReadyH.cons rfl (fun K hK => ?_) AllReadyH.nil; go_simp; refine hK.out _ _ (Mod.of_ext (ED.alloc _)) (fun hHeld => ?_); clear hK K; (try simp only [Act.put]); (try simp only [List.getElem_toArray]); (try simp only [List.getElem_cons_succ]); (try simp only [List.getElem_cons_zero]); (try simp only [List.setIfInBounds_toArray]); (try simp only [List.set_cons_succ]); (try simp only [List.set_cons_zero]))
    refine wpAnyH_ready (rs := [9]) (by kernel_rfl) (by simp) ?_
    refine AllReadyH.cons rfl (fun K hK => ?_) AllReadyH.nil
    have EM := (Ext.refl D).alloc (.cells #[.int .u8 (IntKind.u8.wrap n)] 5)
    refine step_appX (e := Ub8) (base := base) (B := fun _ => False) (A := fun _ => False) rfl (.tmp 8) (.tmp 12) rfl Tryz.underlying25 info_ub8 rfl (H.out.own.ext (E0.trans (ED.trans EM))) rfl (RdY.singleB (e := Ub8) (cs := [.int .u8 (IntKind.u8.wrap n)]) (d := IntKind.u8.wrap n) rfl (Blk.new D _ _)) rfl (fun _ _ h => h.elim) (N := out.length + 1) rfl (by have := HTOT.out; unfold maxLen; omega) (by have := HTOT.out; omega) (by have := HBASE.out; have := (E0.trans (ED.trans EM)).size; omega) ?_
    intro A9 c9 x9 o9 M9 X9
    obtain ⟨B9, M10, M11, Z9⟩ := wstore H.out (E0.trans (ED.trans EM)) o9 M9 X9
    have HZ := Lib.hid Z9
    have ME := (Mod.of_ext (S := wS g (.slice A0 out.length c0)) (ED.trans EM)).trans M10
    refine hK.out _ _ ME (fun hHeld => ?_)
    clear hK K
    (try simp only [List.getElem_toArray]); (try simp only [List.getElem_cons_succ]); (try simp only [List.getElem_cons_zero]); (try simp only [Act.put]); (try simp only [List.setIfInBounds_toArray]); (try simp only [List.set_cons_succ]); (try simp only [List.set_cons_zero])
    (refine wpAnyH_take (i := 10) (v := ?_) rfl (by kernel_rfl) (by kernel_rfl) (by kernel_rfl) (fun _ _ _ h => h) (Or.inl ⟨by rfl, ?_⟩) (by assumption) ?_; rotate_left; (focus (intro w' hSw; go_simp; try with_reducible rfl)); (try simp only [List.getElem_toArray]); (try simp only [List.getElem_cons_succ]); (try simp only [List.getElem_cons_zero]); (try simp only [Act.put]); (try simp only [List.setIfInBounds_toArray]); (try simp only [List.set_cons_succ]); (try simp only [List.set_cons_zero]))
    (refine wpAnyH_take (i := 11) (v := ?_) rfl (by kernel_rfl) (by kernel_rfl) (by kernel_rfl) (fun _ _ _ h => h) (Or.inl ⟨by rfl, ?_⟩) (by assumption) ?_; rotate_left; (focus (intro w' hSw; go_simp; try with_reducible rfl)); (try simp only [List.getElem_toArray]); (try simp only [List.getElem_cons_succ]); (try simp only [List.getElem_cons_zero]); (try simp only [Act.put]); (try simp only [List.setIfInBounds_toArray]); (try simp only [List.set_cons_succ]); (try simp only [List.set_cons_zero]))
    have kd9 := B9.cell 0
    have fd9 := B9.frozen 0
    clear Z9 B9 M10 M9 X9 o9
    (refine wpAnyH_ready (rs := [12]) (by kernel_rfl) (by simp) ?_; refine AllReadyH.cons rfl (fun K hK => ?_) AllReadyH.nil; go_simp; refine hK.out _ _ (ME.trans M11) (fun hHeld => ?_); clear hK K; (try simp only [Act.put]); (try simp only [List.getElem_toArray]); (try simp only [List.getElem_cons_succ]); (try simp only [List.getElem_cons_zero]); (try simp only [List.setIfInBounds_toArray]); (try simp only [List.set_cons_succ]); (try simp only [List.set_cons_zero]))
    refine wpAnyH_done (by kernel_rfl) ?_ _
    go_end0
    rw [HWR.out] at HZ
    exact HZ.out
set_option maxHeartbeats 800000 in
theorem wrest_any (base g : Nat) (v : Value) (out : List Int) (k n : Int) (vt vl : Value) (text : List Int) (w : World) (h : Wr base g w v out) (hb : base ≤ w.heap.size) (ht : RI .u8 w vt text) (hl : out.length ≤ 100000) (htl : text.length ≤ 100000) :
    Calls Tryz.prog 82 #[.pointer (some ⟨g, 0, none⟩), .agg #[.int .i64 k, .int .u32 n, vt, vl]] w (WPost base g v out text w) := by
  have HT := Lib.hid ht
  have HTOT := Lib.hid (show out.length + text.length ≤ 1000000 by omega)
  clear ht htl
  obtain ⟨A0, c0, rfl, hc1, hc2⟩ := h.own.shape
  have H := Lib.hid h
  have HBASE := Lib.hid hb
  obtain ⟨W, hW⟩ : ∃ W, W = w.alloc (.cells #[.int .i64 k, .int .u32 n, vt, vl] 59) := ⟨_, rfl⟩
  have B3 := Lib.hid (show Blk W w.heap.size 59 #[.int .i64 k, .int .u32 n, vt, vl] by rw [hW]; exact Blk.new w _ _)
  have E0 : Ext w W := by rw [hW]; exact (Ext.refl _).alloc _
  have HW := Lib.hid hW
  have HNB := Lib.hid (show ¬ wS g (.slice A0 out.length c0) w.heap.size from fun hh => Nat.lt_irrefl _ (h.lt _ hh))
  clear h hW hl hb hc1 hc2
  go_enter Tryz.func82, Tryz.ntmps82
  go_upto_region 1 with fail
  rw [← HW.out]
  clear HW
  refine wp_region_held_drew (S := fun w' => Mod (wS g (.slice A0 out.length c0)) W w') (by kernel_rfl) (Mod.of_ext (Ext.drew (Ext.refl _))) (fun hHeld => ?_)
  obtain ⟨D, hD⟩ : ∃ D, D = W.drew := ⟨_, rfl⟩
  have ED : Ext W D := by rw [hD]; exact (Ext.refl _).drew
  rw [← hD] at hHeld ⊢
  clear hD
  have BD := H.out.blk.ext (E0.trans ED)
  have kd := BD.cell 0
  (refine wpAnyH_take (i := 0) (v := ?_) rfl (by kernel_rfl) (by kernel_rfl) (by kernel_rfl) (fun _ _ _ h => h) (Or.inl ⟨by rfl, ?_⟩) (by assumption) ?_; rotate_left; (focus (intro w' hSw; go_simp; try with_reducible rfl)); (try simp only [List.getElem_toArray]); (try simp only [List.getElem_cons_succ]); (try simp only [List.getElem_cons_zero]); (try simp only [Act.put]); (try simp only [List.setIfInBounds_toArray]); (try simp only [List.set_cons_succ]); (try simp only [List.set_cons_zero]))
  (refine wpAnyH_take (i := 1) (v := ?_) rfl (by kernel_rfl) (by kernel_rfl) (by kernel_rfl) (fun _ _ _ h => h) (Or.inl ⟨by rfl, ?_⟩) (by assumption) ?_; rotate_left; (focus (intro w' hSw; go_simp; try with_reducible rfl)); (try simp only [List.getElem_toArray]); (try simp only [List.getElem_cons_succ]); (try simp only [List.getElem_cons_zero]); (try simp only [Act.put]); (try simp only [List.setIfInBounds_toArray]); (try simp only [List.set_cons_succ]); (try simp only [List.set_cons_zero]))
  (refine wpAnyH_take (i := 2) (v := ?_) rfl (by kernel_rfl) (by kernel_rfl) (by kernel_rfl) (fun _ _ _ h => h) (Or.inl ⟨by rfl, ?_⟩) (by assumption) ?_; rotate_left; (focus (intro w' hSw; go_simp; try with_reducible rfl)); (try simp only [List.getElem_toArray]); (try simp only [List.getElem_cons_succ]); (try simp only [List.getElem_cons_zero]); (try simp only [Act.put]); (try simp only [List.setIfInBounds_toArray]); (try simp only [List.set_cons_succ]); (try simp only [List.set_cons_zero]))
  (refine wpAnyH_take (i := 3) (v := ?_) rfl (by kernel_rfl) (by kernel_rfl) (by kernel_rfl) (fun _ _ _ h => h) (Or.inl ⟨by rfl, ?_⟩) (by assumption) ?_; rotate_left; (focus (intro w' hSw; go_simp; try with_reducible rfl)); (try simp only [List.getElem_toArray]); (try simp only [List.getElem_cons_succ]); (try simp only [List.getElem_cons_zero]); (try simp only [Act.put]); (try simp only [List.setIfInBounds_toArray]); (try simp only [List.set_cons_succ]); (try simp only [List.set_cons_zero]))
  (refine wpAnyH_take (i := 5) (v := ?_) rfl (by kernel_rfl) (by kernel_rfl) (by kernel_rfl) (fun _ _ _ h => h) (Or.inl ⟨by rfl, ?_⟩) (by assumption) ?_; rotate_left; (focus (intro w' hSw; go_simp; try with_reducible rfl)); (try simp only [List.getElem_toArray]); (try simp only [List.getElem_cons_succ]); (try simp only [List.getElem_cons_zero]); (try simp only [Act.put]); (try simp only [List.setIfInBounds_toArray]); (try simp only [List.set_cons_succ]); (try simp only [List.set_cons_zero]))
  (refine wpAnyH_take (i := 6) (v := ?_) rfl (by kernel_rfl) (by kernel_rfl) (by kernel_rfl) (fun _ _ _ h => h) (Or.inl ⟨by rfl, ?_⟩) (by assumption) ?_; rotate_left; (focus (intro w' hSw; have kc := (B3.out.mod hSw HNB.out).cell 2; go_simp; try with_reducible rfl)); (try simp only [List.getElem_toArray]); (try simp only [List.getElem_cons_succ]); (try simp only [List.getElem_cons_zero]); (try simp only [Act.put]); (try simp only [List.setIfInBounds_toArray]); (try simp only [List.set_cons_succ]); (try simp only [List.set_cons_zero]))
  (refine wpAnyH_ready (rs := [4]) (by kernel_rfl) (by simp) ?_; refine AllReadyH.cons rfl (fun K hK => ?_) AllReadyH.nil; go_simp; refine hK.out _ _ (Mod.of_ext ED) (fun hHeld => ?_); clear hK K; (try simp only [Act.put]); (try simp only [List.getElem_toArray]); (try simp only [List.getElem_cons_succ]); (try simp only [List.getElem_cons_zero]); (try simp only [List.setIfInBounds_toArray]); (try simp only [List.set_cons_succ]); (try simp only [List.set_cons_zero]))
  refine wpAnyH_ready (rs := [7]) (by kernel_rfl) (by simp) ?_
  refine AllReadyH.cons rfl (fun K hK => ?_) AllReadyH.nil
  have EM := Ext.refl D
  refine step_appX (e := Ub8) (base := base) (B := fun _ => False) (A := fun _ => False) rfl (.tmp 8) (.tmp 10) rfl Tryz.underlying25 info_ub8 rfl (H.out.own.ext (E0.trans (ED.trans EM))) rfl (RI.y (RdN.ext HT.out (E0.trans ED))) rfl (fun _ _ h => h.elim) (N := out.length + text.length) rfl (by have := HTOT.out; unfold maxLen; omega) (by have := HTOT.out; omega) (by have := HBASE.out; have := (E0.trans (ED.trans EM)).size; omega) ?_
  intro A9 c9 x9 o9 M9 X9
  obtain ⟨B9, M10, M11, Z9⟩ := wstore H.out (E0.trans (ED.trans EM)) o9 M9 X9
  have HZ := Lib.hid Z9
  have ME := (Mod.of_ext (S := wS g (.slice A0 out.length c0)) (ED.trans EM)).trans M10
  refine hK.out _ _ ME (fun hHeld => ?_)
  clear hK K
  (try simp only [List.getElem_toArray]); (try simp only [List.getElem_cons_succ]); (try simp only [List.getElem_cons_zero]); (try simp only [Act.put]); (try simp only [List.setIfInBounds_toArray]); (try simp only [List.set_cons_succ]); (try simp only [List.set_cons_zero])
  (refine wpAnyH_take (i := 8) (v := ?_) rfl (by kernel_rfl) (by kernel_rfl) (by kernel_rfl) (fun _ _ _ h => h) (Or.inl ⟨by rfl, ?_⟩) (by assumption) ?_; rotate_left; (focus (intro w' hSw; go_simp; try with_reducible rfl)); (try simp only [List.getElem_toArray]); (try simp only [List.getElem_cons_succ]); (try simp only [List.getElem_cons_zero]); (try simp only [Act.put]); (try simp only [List.setIfInBounds_toArray]); (try simp only [List.set_cons_succ]); (try simp only [List.set_cons_zero]))
  (refine wpAnyH_take (i := 9) (v := ?_) rfl (by kernel_rfl) (by kernel_rfl) (by kernel_rfl) (fun _ _ _ h => h) (Or.inl ⟨by rfl, ?_⟩) (by assumption) ?_; rotate_left; (focus (intro w' hSw; go_simp; try with_reducible rfl)); (try simp only [List.getElem_toArray]); (try simp only [List.getElem_cons_succ]); (try simp only [List.getElem_cons_zero]); (try simp only [Act.put]); (try simp only [List.setIfInBounds_toArray]); (try simp only [List.set_cons_succ]); (try simp only [List.set_cons_zero]))
  have kd9 := B9.cell 0
  have fd9 := B9.frozen 0
  clear Z9 B9 M10 M9 X9 o9
  (refine wpAnyH_ready (rs := [10]) (by kernel_rfl) (by simp) ?_; refine AllReadyH.cons rfl (fun K hK => ?_) AllReadyH.nil; go_simp; refine hK.out _ _ (ME.trans M11) (fun hHeld => ?_); clear hK K; (try simp only [Act.put]); (try simp only [List.getElem_toArray]); (try simp only [List.getElem_cons_succ]); (try simp only [List.getElem_cons_zero]); (try simp only [List.setIfInBounds_toArray]); (try simp only [List.set_cons_succ]); (try simp only [List.set_cons_zero]))
  refine wpAnyH_done (by kernel_rfl) ?_ _
  go_end0
  exact HZ.out
set_option maxHeartbeats 800000 in
theorem wnum_any (base g : Nat) (v : Value) (out : List Int) (k n : Int) (vt vl : Value) (w : World) (h : Wr base g w v out) (hb : base ≤ w.heap.size) (hn : 0 ≤ n ∧ n ≤ 4294967295) (hl : out.length ≤ 100000) :
    Calls Tryz.prog 73 #[.pointer (some ⟨g, 0, none⟩), .agg #[.int .i64 k, .int .u32 n, vt, vl]] w (WPost base g v out (Fr.four n) w) := by
  have hf : [IntKind.u8.wrap (n / 16777216), IntKind.u8.wrap (n / 65536), IntKind.u8.wrap (n / 256), IntKind.u8.wrap n] = Fr.four n := by
    have hw : ∀ m : Int, IntKind.u8.wrap m = m % 256 := fun m => by unfold IntKind.wrap; simp [IntKind.bits, IntKind.signed]
    unfold Fr.four
    rw [hw, hw, hw, hw, show n / 16777216 % 256 = n / 16777216 by omega]
  have HF := Lib.hid hf
  have HTOT := Lib.hid (show out.length + 4 ≤ 1000000 by omega)
  clear hf hn
  obtain ⟨A0, c0, rfl, hc1, hc2⟩ := h.own.shape
  have H := Lib.hid h
  have HBASE := Lib.hid hb
  obtain ⟨W, hW⟩ : ∃ W, W = w.alloc (.cells #[.int .i64 k, .int .u32 n, vt, vl] 59) := ⟨_, rfl⟩
  have B3 := Lib.hid (show Blk W w.heap.size 59 #[.int .i64 k, .int .u32 n, vt, vl] by rw [hW]; exact Blk.new w _ _)
  have E0 : Ext w W := by rw [hW]; exact (Ext.refl _).alloc _
  have HW := Lib.hid hW
  have HNB := Lib.hid (show ¬ wS g (.slice A0 out.length c0) w.heap.size from fun hh => Nat.lt_irrefl _ (h.lt _ hh))
  clear h hW hl hb hc1 hc2
  go_enter Tryz.func73, Tryz.ntmps73
  go_upto_region 1 with fail
  rw [← HW.out]
  clear HW
  refine wp_region_held_drew (S := fun w' => Mod (wS g (.slice A0 out.length c0)) W w') (by kernel_rfl) (Mod.of_ext (Ext.drew (Ext.refl _))) (fun hHeld => ?_)
  obtain ⟨D, hD⟩ : ∃ D, D = W.drew := ⟨_, rfl⟩
  have ED : Ext W D := by rw [hD]; exact (Ext.refl _).drew
  rw [← hD] at hHeld ⊢
  clear hD
  have BD := H.out.blk.ext (E0.trans ED)
  have kd := BD.cell 0
  (refine wpAnyH_take (i := 0) (v := ?_) rfl (by kernel_rfl) (by kernel_rfl) (by kernel_rfl) (fun _ _ _ h => h) (Or.inl ⟨by rfl, ?_⟩) (by assumption) ?_; rotate_left; (focus (intro w' hSw; go_simp; try with_reducible rfl)); (try simp only [List.getElem_toArray]); (try simp only [List.getElem_cons_succ]); (try simp only [List.getElem_cons_zero]); (try simp only [Act.put]); (try simp only [List.setIfInBounds_toArray]); (try simp only [List.set_cons_succ]); (try simp only [List.set_cons_zero]))
  (refine wpAnyH_take (i := 1) (v := ?_) rfl (by kernel_rfl) (by kernel_rfl) (by kernel_rfl) (fun _ _ _ h => h) (Or.inl ⟨by rfl, ?_⟩) (by assumption) ?_; rotate_left; (focus (intro w' hSw; go_simp; try with_reducible rfl)); (try simp only [List.getElem_toArray]); (try simp only [List.getElem_cons_succ]); (try simp only [List.getElem_cons_zero]); (try simp only [Act.put]); (try simp only [List.setIfInBounds_toArray]); (try simp only [List.set_cons_succ]); (try simp only [List.set_cons_zero]))
  (refine wpAnyH_take (i := 2) (v := ?_) rfl (by kernel_rfl) (by kernel_rfl) (by kernel_rfl) (fun _ _ _ h => h) (Or.inl ⟨by rfl, ?_⟩) (by assumption) ?_; rotate_left; (focus (intro w' hSw; go_simp; try with_reducible rfl)); (try simp only [List.getElem_toArray]); (try simp only [List.getElem_cons_succ]); (try simp only [List.getElem_cons_zero]); (try simp only [Act.put]); (try simp only [List.setIfInBounds_toArray]); (try simp only [List.set_cons_succ]); (try simp only [List.set_cons_zero]))
  (refine wpAnyH_take (i := 3) (v := ?_) rfl (by kernel_rfl) (by kernel_rfl) (by kernel_rfl) (fun _ _ _ h => h) (Or.inl ⟨by rfl, ?_⟩) (by assumption) ?_; rotate_left; (focus (intro w' hSw; go_simp; try with_reducible rfl)); (try simp only [List.getElem_toArray]); (try simp only [List.getElem_cons_succ]); (try simp only [List.getElem_cons_zero]); (try simp only [Act.put]); (try simp only [List.setIfInBounds_toArray]); (try simp only [List.set_cons_succ]); (try simp only [List.set_cons_zero]))
  (refine wpAnyH_take (i := 5) (v := ?_) rfl (by kernel_rfl) (by kernel_rfl) (by kernel_rfl) (fun _ _ _ h => h) (Or.inl ⟨by rfl, ?_⟩) (by assumption) ?_; rotate_left; (focus (intro w' hSw; go_simp; try with_reducible rfl)); (try simp only [List.getElem_toArray]); (try simp only [List.getElem_cons_succ]); (try simp only [List.getElem_cons_zero]); (try simp only [Act.put]); (try simp only [List.setIfInBounds_toArray]); (try simp only [List.set_cons_succ]); (try simp only [List.set_cons_zero]))
  (refine wpAnyH_take (i := 6) (v := ?_) rfl (by kernel_rfl) (by kernel_rfl) (by kernel_rfl) (fun _ _ _ h => h) (Or.inl ⟨by rfl, ?_⟩) (by assumption) ?_; rotate_left; (focus (intro w' hSw; have kc := (B3.out.mod hSw HNB.out).cell 1; go_simp; try with_reducible rfl)); (try simp only [List.getElem_toArray]); (try simp only [List.getElem_cons_succ]); (try simp only [List.getElem_cons_zero]); (try simp only [Act.put]); (try simp only [List.setIfInBounds_toArray]); (try simp only [List.set_cons_succ]); (try simp only [List.set_cons_zero]))
  (refine wpAnyH_take (i := 7) (v := ?_) rfl (by kernel_rfl) (by kernel_rfl) (by kernel_rfl) (fun _ _ _ h => h) (Or.inl ⟨by rfl, ?_⟩) (by assumption) ?_; rotate_left; (focus (intro w' hSw; go_simp; try with_reducible rfl)); (try simp only [List.getElem_toArray]); (try simp only [List.getElem_cons_succ]); (try simp only [List.getElem_cons_zero]); (try simp only [Act.put]); (try simp only [List.setIfInBounds_toArray]); (try simp only [List.set_cons_succ]); (try simp only [List.set_cons_zero]))
  (refine wpAnyH_take (i := 8) (v := ?_) rfl (by kernel_rfl) (by kernel_rfl) (by kernel_rfl) (fun _ _ _ h => h) (Or.inl ⟨by rfl, ?_⟩) (by assumption) ?_; rotate_left; (focus (intro w' hSw; go_simp; try with_reducible rfl)); (try simp only [List.getElem_toArray]); (try simp only [List.getElem_cons_succ]); (try simp only [List.getElem_cons_zero]); (try simp only [Act.put]); (try simp only [List.setIfInBounds_toArray]); (try simp only [List.set_cons_succ]); (try simp only [List.set_cons_zero]))
  (refine wpAnyH_take (i := 9) (v := ?_) rfl (by kernel_rfl) (by kernel_rfl) (by kernel_rfl) (fun _ _ _ h => h) (Or.inl ⟨by rfl, ?_⟩) (by assumption) ?_; rotate_left; (focus (intro w' hSw; go_simp; try with_reducible rfl)); (try simp only [List.getElem_toArray]); (try simp only [List.getElem_cons_succ]); (try simp only [List.getElem_cons_zero]); (try simp only [Act.put]); (try simp only [List.setIfInBounds_toArray]); (try simp only [List.set_cons_succ]); (try simp only [List.set_cons_zero]))
  (refine wpAnyH_take (i := 10) (v := ?_) rfl (by kernel_rfl) (by kernel_rfl) (by kernel_rfl) (fun _ _ _ h => h) (Or.inl ⟨by rfl, ?_⟩) (by assumption) ?_; rotate_left; (focus (intro w' hSw; have kc := (B3.out.mod hSw HNB.out).cell 1; go_simp; try with_reducible rfl)); (try simp only [List.getElem_toArray]); (try simp only [List.getElem_cons_succ]); (try simp only [List.getElem_cons_zero]); (try simp only [Act.put]); (try simp only [List.setIfInBounds_toArray]); (try simp only [List.set_cons_succ]); (try simp only [List.set_cons_zero]))
  (refine wpAnyH_take (i := 11) (v := ?_) rfl (by kernel_rfl) (by kernel_rfl) (by kernel_rfl) (fun _ _ _ h => h) (Or.inl ⟨by rfl, ?_⟩) (by assumption) ?_; rotate_left; (focus (intro w' hSw; go_simp; try with_reducible rfl)); (try simp only [List.getElem_toArray]); (try simp only [List.getElem_cons_succ]); (try simp only [List.getElem_cons_zero]); (try simp only [Act.put]); (try simp only [List.setIfInBounds_toArray]); (try simp only [List.set_cons_succ]); (try simp only [List.set_cons_zero]))
  (refine wpAnyH_take (i := 12) (v := ?_) rfl (by kernel_rfl) (by kernel_rfl) (by kernel_rfl) (fun _ _ _ h => h) (Or.inl ⟨by rfl, ?_⟩) (by assumption) ?_; rotate_left; (focus (intro w' hSw; go_simp; try with_reducible rfl)); (try simp only [List.getElem_toArray]); (try simp only [List.getElem_cons_succ]); (try simp only [List.getElem_cons_zero]); (try simp only [Act.put]); (try simp only [List.setIfInBounds_toArray]); (try simp only [List.set_cons_succ]); (try simp only [List.set_cons_zero]))
  (refine wpAnyH_take (i := 13) (v := ?_) rfl (by kernel_rfl) (by kernel_rfl) (by kernel_rfl) (fun _ _ _ h => h) (Or.inl ⟨by rfl, ?_⟩) (by assumption) ?_; rotate_left; (focus (intro w' hSw; go_simp; try with_reducible rfl)); (try simp only [List.getElem_toArray]); (try simp only [List.getElem_cons_succ]); (try simp only [List.getElem_cons_zero]); (try simp only [Act.put]); (try simp only [List.setIfInBounds_toArray]); (try simp only [List.set_cons_succ]); (try simp only [List.set_cons_zero]))
  (refine wpAnyH_take (i := 14) (v := ?_) rfl (by kernel_rfl) (by kernel_rfl) (by kernel_rfl) (fun _ _ _ h => h) (Or.inl ⟨by rfl, ?_⟩) (by assumption) ?_; rotate_left; (focus (intro w' hSw; have kc := (B3.out.mod hSw HNB.out).cell 1; go_simp; try with_reducible rfl)); (try simp only [List.getElem_toArray]); (try simp only [List.getElem_cons_succ]); (try simp only [List.getElem_cons_zero]); (try simp only [Act.put]); (try simp only [List.setIfInBounds_toArray]); (try simp only [List.set_cons_succ]); (try simp only [List.set_cons_zero]))
  (refine wpAnyH_take (i := 15) (v := ?_) rfl (by kernel_rfl) (by kernel_rfl) (by kernel_rfl) (fun _ _ _ h => h) (Or.inl ⟨by rfl, ?_⟩) (by assumption) ?_; rotate_left; (focus (intro w' hSw; go_simp; try with_reducible rfl)); (try simp only [List.getElem_toArray]); (try simp only [List.getElem_cons_succ]); (try simp only [List.getElem_cons_zero]); (try simp only [Act.put]); (try simp only [List.setIfInBounds_toArray]); (try simp only [List.set_cons_succ]); (try simp only [List.set_cons_zero]))
  (refine wpAnyH_take (i := 16) (v := ?_) rfl (by kernel_rfl) (by kernel_rfl) (by kernel_rfl) (fun _ _ _ h => h) (Or.inl ⟨by rfl, ?_⟩) (by assumption) ?_; rotate_left; (focus (intro w' hSw; go_simp; try with_reducible rfl)); (try simp only [List.getElem_toArray]); (try simp only [List.getElem_cons_succ]); (try simp only [List.getElem_cons_zero]); (try simp only [Act.put]); (try simp only [List.setIfInBounds_toArray]); (try simp only [List.set_cons_succ]); (try simp only [List.set_cons_zero]))
  (refine wpAnyH_take (i := 17) (v := ?_) rfl (by kernel_rfl) (by kernel_rfl) (by kernel_rfl) (fun _ _ _ h => h) (Or.inl ⟨by rfl, ?_⟩) (by assumption) ?_; rotate_left; (focus (intro w' hSw; go_simp; try with_reducible rfl)); (try simp only [List.getElem_toArray]); (try simp only [List.getElem_cons_succ]); (try simp only [List.getElem_cons_zero]); (try simp only [Act.put]); (try simp only [List.setIfInBounds_toArray]); (try simp only [List.set_cons_succ]); (try simp only [List.set_cons_zero]))
  (refine wpAnyH_take (i := 18) (v := ?_) rfl (by kernel_rfl) (by kernel_rfl) (by kernel_rfl) (fun _ _ _ h => h) (Or.inl ⟨by rfl, ?_⟩) (by assumption) ?_; rotate_left; (focus (intro w' hSw; have kc := (B3.out.mod hSw HNB.out).cell 1; go_simp; try with_reducible rfl)); (try simp only [List.getElem_toArray]); (try simp only [List.getElem_cons_succ]); (try simp only [List.getElem_cons_zero]); (try simp only [Act.put]); (try simp only [List.setIfInBounds_toArray]); (try simp only [List.set_cons_succ]); (try simp only [List.set_cons_zero]))
  (refine wpAnyH_take (i := 19) (v := ?_) rfl (by kernel_rfl) (by kernel_rfl) (by kernel_rfl) (fun _ _ _ h => h) (Or.inl ⟨by rfl, ?_⟩) (by assumption) ?_; rotate_left; (focus (intro w' hSw; go_simp; try with_reducible rfl)); (try simp only [List.getElem_toArray]); (try simp only [List.getElem_cons_succ]); (try simp only [List.getElem_cons_zero]); (try simp only [Act.put]); (try simp only [List.setIfInBounds_toArray]); (try simp only [List.set_cons_succ]); (try simp only [List.set_cons_zero]))
  refine wpAnyH_ready (rs := [4, 20]) (by kernel_rfl) (by simp) ?_
  refine AllReadyH.cons rfl (fun K hK => ?_) (AllReadyH.cons rfl (fun K hK => ?_) AllReadyH.nil)
  · go_simp
    refine hK.out _ _ (Mod.of_ext ED) (fun hHeld => ?_)
    clear hK K
    (try simp only [Act.put]); (try simp only [List.getElem_toArray]); (try simp only [List.getElem_cons_succ]); (try simp only [List.getElem_cons_zero]); (try simp only [List.setIfInBounds_toArray]); (try simp only [List.set_cons_succ]); (try simp only [List.set_cons_zero])
    (refine wpAnyH_ready (rs := [20]) (by kernel_rfl) (by simp) ?_; refine AllReadyH.cons rfl (fun K hK => ?_) AllReadyH.nil; go_simp; refine hK.out _ _ (Mod.of_ext (ED.alloc _)) (fun hHeld => ?_); clear hK K; (try simp only [Act.put]); (try simp only [List.getElem_toArray]); (try simp only [List.getElem_cons_succ]); (try simp only [List.getElem_cons_zero]); (try simp only [List.setIfInBounds_toArray]); (try simp only [List.set_cons_succ]); (try simp only [List.set_cons_zero]))
    refine wpAnyH_ready (rs := [21]) (by kernel_rfl) (by simp) ?_
    refine AllReadyH.cons rfl (fun K hK => ?_) AllReadyH.nil
    have EM := (Ext.refl D).alloc (.cells #[.int .u8 (IntKind.u8.wrap (n / 16777216)), .int .u8 (IntKind.u8.wrap (n / 65536)), .int .u8 (IntKind.u8.wrap (n / 256)), .int .u8 (IntKind.u8.wrap n)] 5)
    refine step_appX (e := Ub8) (base := base) (B := fun _ => False) (A := fun _ => False) rfl (.tmp 8) (.tmp 24) rfl Tryz.underlying25 info_ub8 rfl (H.out.own.ext (E0.trans (ED.trans EM))) rfl (RI.y (RI.lit .u8 [IntKind.u8.wrap (n / 16777216), IntKind.u8.wrap (n / 65536), IntKind.u8.wrap (n / 256), IntKind.u8.wrap n] 5 rfl (by simp))) rfl (fun _ _ h => h.elim) (N := out.length + 4) rfl (by have := HTOT.out; unfold maxLen; omega) (by have := HTOT.out; omega) (by have := HBASE.out; have := (E0.trans (ED.trans EM)).size; omega) ?_
    intro A9 c9 x9 o9 M9 X9
    obtain ⟨B9, M10, M11, Z9⟩ := wstore H.out (E0.trans (ED.trans EM)) o9 M9 X9
    have HZ := Lib.hid Z9
    have ME := (Mod.of_ext (S := wS g (.slice A0 out.length c0)) (ED.trans EM)).trans M10
    refine hK.out _ _ ME (fun hHeld => ?_)
    clear hK K
    (try simp only [List.getElem_toArray]); (try simp only [List.getElem_cons_succ]); (try simp only [List.getElem_cons_zero]); (try simp only [Act.put]); (try simp only [List.setIfInBounds_toArray]); (try simp only [List.set_cons_succ]); (try simp only [List.set_cons_zero])
    (refine wpAnyH_take (i := 22) (v := ?_) rfl (by kernel_rfl) (by kernel_rfl) (by kernel_rfl) (fun _ _ _ h => h) (Or.inl ⟨by rfl, ?_⟩) (by assumption) ?_; rotate_left; (focus (intro w' hSw; go_simp; try with_reducible rfl)); (try simp only [List.getElem_toArray]); (try simp only [List.getElem_cons_succ]); (try simp only [List.getElem_cons_zero]); (try simp only [Act.put]); (try simp only [List.setIfInBounds_toArray]); (try simp only [List.set_cons_succ]); (try simp only [List.set_cons_zero]))
    (refine wpAnyH_take (i := 23) (v := ?_) rfl (by kernel_rfl) (by kernel_rfl) (by kernel_rfl) (fun _ _ _ h => h) (Or.inl ⟨by rfl, ?_⟩) (by assumption) ?_; rotate_left; (focus (intro w' hSw; go_simp; try with_reducible rfl)); (try simp only [List.getElem_toArray]); (try simp only [List.getElem_cons_succ]); (try simp only [List.getElem_cons_zero]); (try simp only [Act.put]); (try simp only [List.setIfInBounds_toArray]); (try simp only [List.set_cons_succ]); (try simp only [List.set_cons_zero]))
    have kd9 := B9.cell 0
    have fd9 := B9.frozen 0
    clear Z9 B9 M10 M9 X9 o9
    (refine wpAnyH_ready (rs := [24]) (by kernel_rfl) (by simp) ?_; refine AllReadyH.cons rfl (fun K hK => ?_) AllReadyH.nil; go_simp; refine hK.out _ _ (ME.trans M11) (fun hHeld => ?_); clear hK K; (try simp only [Act.put]); (try simp only [List.getElem_toArray]); (try simp only [List.getElem_cons_succ]); (try simp only [List.getElem_cons_zero]); (try simp only [List.setIfInBounds_toArray]); (try simp only [List.set_cons_succ]); (try simp only [List.set_cons_zero]))
    refine wpAnyH_done (by kernel_rfl) ?_ _
    go_end0
    rw [HF.out] at HZ
    exact HZ.out
  · go_simp
    refine hK.out _ _ (Mod.of_ext (ED.alloc _)) (fun hHeld => ?_)
    clear hK K
    (try simp only [Act.put]); (try simp only [List.getElem_toArray]); (try simp only [List.getElem_cons_succ]); (try simp only [List.getElem_cons_zero]); (try simp only [List.setIfInBounds_toArray]); (try simp only [List.set_cons_succ]); (try simp only [List.set_cons_zero])
    have kd := (BD.ext ((Ext.refl D).alloc (.cells #[.int .u8 (IntKind.u8.wrap (n / 16777216)), .int .u8 (IntKind.u8.wrap (n / 65536)), .int .u8 (IntKind.u8.wrap (n / 256)), .int .u8 (IntKind.u8.wrap n)] 5))).cell 0
    (refine wpAnyH_ready (rs := [4]) (by kernel_rfl) (by simp) ?_; refine AllReadyH.cons rfl (fun K hK => ?_) AllReadyH.nil; go_simp; refine hK.out _ _ (Mod.of_ext (ED.alloc _)) (fun hHeld => ?_); clear hK K; (try simp only [Act.put]); (try simp only [List.getElem_toArray]); (try simp only [List.getElem_cons_succ]); (try simp only [List.getElem_cons_zero]); (try simp only [List.setIfInBounds_toArray]); (try simp only [List.set_cons_succ]); (try simp only [List.set_cons_zero]))
    refine wpAnyH_ready (rs := [21]) (by kernel_rfl) (by simp) ?_
    refine AllReadyH.cons rfl (fun K hK => ?_) AllReadyH.nil
    have EM := (Ext.refl D).alloc (.cells #[.int .u8 (IntKind.u8.wrap (n / 16777216)), .int .u8 (IntKind.u8.wrap (n / 65536)), .int .u8 (IntKind.u8.wrap (n / 256)), .int .u8 (IntKind.u8.wrap n)] 5)
    refine step_appX (e := Ub8) (base := base) (B := fun _ => False) (A := fun _ => False) rfl (.tmp 8) (.tmp 24) rfl Tryz.underlying25 info_ub8 rfl (H.out.own.ext (E0.trans (ED.trans EM))) rfl (RI.y (RI.lit .u8 [IntKind.u8.wrap (n / 16777216), IntKind.u8.wrap (n / 65536), IntKind.u8.wrap (n / 256), IntKind.u8.wrap n] 5 rfl (by simp))) rfl (fun _ _ h => h.elim) (N := out.length + 4) rfl (by have := HTOT.out; unfold maxLen; omega) (by have := HTOT.out; omega) (by have := HBASE.out; have := (E0.trans (ED.trans EM)).size; omega) ?_
    intro A9 c9 x9 o9 M9 X9
    obtain ⟨B9, M10, M11, Z9⟩ := wstore H.out (E0.trans (ED.trans EM)) o9 M9 X9
    have HZ := Lib.hid Z9
    have ME := (Mod.of_ext (S := wS g (.slice A0 out.length c0)) (ED.trans EM)).trans M10
    refine hK.out _ _ ME (fun hHeld => ?_)
    clear hK K
    (try simp only [List.getElem_toArray]); (try simp only [List.getElem_cons_succ]); (try simp only [List.getElem_cons_zero]); (try simp only [Act.put]); (try simp only [List.setIfInBounds_toArray]); (try simp only [List.set_cons_succ]); (try simp only [List.set_cons_zero])
    (refine wpAnyH_take (i := 22) (v := ?_) rfl (by kernel_rfl) (by kernel_rfl) (by kernel_rfl) (fun _ _ _ h => h) (Or.inl ⟨by rfl, ?_⟩) (by assumption) ?_; rotate_left; (focus (intro w' hSw; go_simp; try with_reducible rfl)); (try simp only [List.getElem_toArray]); (try simp only [List.getElem_cons_succ]); (try simp only [List.getElem_cons_zero]); (try simp only [Act.put]); (try simp only [List.setIfInBounds_toArray]); (try simp only [List.set_cons_succ]); (try simp only [List.set_cons_zero]))
    (refine wpAnyH_take (i := 23) (v := ?_) rfl (by kernel_rfl) (by kernel_rfl) (by kernel_rfl) (fun _ _ _ h => h) (Or.inl ⟨by rfl, ?_⟩) (by assumption) ?_; rotate_left; (focus (intro w' hSw; go_simp; try with_reducible rfl)); (try simp only [List.getElem_toArray]); (try simp only [List.getElem_cons_succ]); (try simp only [List.getElem_cons_zero]); (try simp only [Act.put]); (try simp only [List.setIfInBounds_toArray]); (try simp only [List.set_cons_succ]); (try simp only [List.set_cons_zero]))
    have kd9 := B9.cell 0
    have fd9 := B9.frozen 0
    clear Z9 B9 M10 M9 X9 o9
    (refine wpAnyH_ready (rs := [24]) (by kernel_rfl) (by simp) ?_; refine AllReadyH.cons rfl (fun K hK => ?_) AllReadyH.nil; go_simp; refine hK.out _ _ (ME.trans M11) (fun hHeld => ?_); clear hK K; (try simp only [Act.put]); (try simp only [List.getElem_toArray]); (try simp only [List.getElem_cons_succ]); (try simp only [List.getElem_cons_zero]); (try simp only [List.setIfInBounds_toArray]); (try simp only [List.set_cons_succ]); (try simp only [List.set_cons_zero]))
    refine wpAnyH_done (by kernel_rfl) ?_ _
    go_end0
    rw [HF.out] at HZ
    exact HZ.out
end Go.Proofs.YtldijmappinngaaGreatDoor
