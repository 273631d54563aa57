/- What is asked of any table is the document's: walked; the law answers true. Conditions: the processes' numbers fit. -/
import Derived.Test.YtmpmnikgbepphaaEB20
import Derived.Deep.DeepCutAuto
namespace Go.Proofs.Ytmpmnikgbepphaa
open Go.RowKit Go.Kb

theorem wp_store_AF {P : Program} {o : Oper} {a : Act} {w : World} {K : Act → World → Prop} {Q : Exit → Act → World → Prop} (ty : TypeId) (x y : Operand) (ho : o.op = .store ty x y)
    (g : Nat) (cells : Array Value) (hx : a.eval x = .pointer (some ⟨g, 0, none⟩)) (hy : a.eval y = .agg cells)
    (t : TypeId) (old : Array Value) (hg : Blk w g t old) (hi : (P.info? ty).map (·.size) = some cells.size)
    (hold : old.size = cells.size) (h1 : cells.all (·.oneCell') = true)
    (h : ∀ w', Blk w' g t cells → (∀ (g' : Nat) (t' : TypeId) (c' : Array Value), g' ≠ g → Blk w g' t' c' → Blk w' g' t' c') → (∀ (B : Nat) (a : World), Below B a w → B ≤ g → Below B a w') → K (a.put o.dst undef) w') : o.wp P a w K Q :=
  wp_store_row ty x y ho g cells hx hy t old hg hi hold h1 (h _ (Blk.setRow hg _) (fun g' t' c' hne hb => by unfold Blk; rw [setRow_other w g g' cells hne]; exact hb) fun _ _ hb hB => below_setRow hb hB _)
theorem own_set2 {D : Type} {e : Rep D} {T t : TypeId} {base : Nat} {w : World} {v : Value} {ds : List D} {g : Nat} {cs : Array Value} (h : OwnS e T base (fun _ => False) w v ds) (hg : Blk w g t cs) (hne : T ≠ t) (x y : Value) :
    OwnS e T base (fun _ => False) ((w.setCell ⟨g, 0, none⟩ x).setCell ⟨g, 1, none⟩ y) v ds := by
  have hn : v.ownBlock ≠ some g := by
    obtain ⟨us, ho, _⟩ := h
    exact own_blk_ne ho hg hne
  exact h.mod (S := fun k => k = g) (((Mod.refl _ w).set1 x).set1 y) (fun k hk he => hn (by rw [hk]; exact congrArg some he)) (fun k _ hk => hk.elim)
/-- a table with a process changed, or the empty one -/
def setL (l : List Pr) (nx : Int) (q : Pr) : List Pr := if rightL l nx = true then changeL (fun _ => q) q.pid l else []
def setN (l : List Pr) (nx : Int) : Int := if rightL l nx = true then nx else 0
theorem setL_le {l : List Pr} {nx : Int} {q : Pr} : (setL l nx q).length ≤ l.length := by
  unfold setL
  split
  · rw [changeL_len]; exact Nat.le_refl _
  · exact Nat.zero_le _
theorem setL_wf {l : List Pr} {nx : Int} {q : Pr} (h : ∀ p ∈ l, p.wf) (hq : q.wf) : ∀ p ∈ setL l nx q, p.wf := by
  unfold setL
  split
  · intro p hp
    unfold changeL at hp
    split at hp
    · exact h p hp
    · split at hp
      · exact h p hp
      · rcases List.mem_or_eq_of_mem_set hp with hp | rfl
        · exact h p hp
        · exact hq
  · intro p hp; cases hp
theorem set_both {l : List Pr} {nx : Int} {q : Pr} {w w' : World} {e : Ending} (h : SetPost l nx q w e w') : ∃ A' c', e = .returned (tv A' (setL l nx q).length c' (setN l nx)) ∧ RdY Rp (fun _ => False) w' (.slice A' (setL l nx q).length c') (setL l nx q) ∧ Ext w w' := by
  obtain ⟨hE, ⟨hr, rfl⟩ | ⟨hr, A', c', rfl, O⟩⟩ := h
  · have h1 : setL l nx q = [] := by unfold setL; rw [hr]; rfl
    have h2 : setN l nx = 0 := by unfold setN; rw [hr]; rfl
    rw [h1, h2]
    exact ⟨none, 0, rfl, (RdS.nil _ _ _).y, hE⟩
  · have h1 : setL l nx q = changeL (fun _ => q) q.pid l := by unfold setL; rw [if_pos hr]
    have h2 : setN l nx = nx := by unfold setN; rw [if_pos hr]
    rw [h1, h2, changeL_len]
    exact ⟨A', c', rfl, rdy_pr O.y, hE⟩
theorem rset_both {l : List Pr} {nx : Int} {q : Pr} {w w' : World} {e : Ending} (h : RSetPost l nx q w e w') : ∃ A' c', e = .returned (tv A' (setL l nx q).length c' (setN l nx)) ∧ RdY Rp (fun _ => False) w' (.slice A' (setL l nx q).length c') (setL l nx q) ∧ Ext w w' := by
  obtain ⟨hE, ⟨hr, rfl⟩ | ⟨hr, A', c', rfl, O⟩⟩ := h
  · have h1 : setL l nx q = [] := by unfold setL; rw [hr]; rfl
    have h2 : setN l nx = 0 := by unfold setN; rw [hr]; rfl
    rw [h1, h2]
    exact ⟨none, 0, rfl, (RdS.nil _ _ _).y, hE⟩
  · have h1 : setL l nx q = changeL (fun _ => q) q.pid l := by unfold setL; rw [if_pos hr]
    have h2 : setN l nx = nx := by unfold setN; rw [if_pos hr]
    rw [h1, h2, changeL_len]
    exact ⟨A', c', rfl, rdy_pr O.y, hE⟩
theorem zeroP_wf : zeroP.wf := by
  refine ⟨by decide, by decide, by decide, by decide, by decide, by decide, by decide, by decide, by decide, fun x hx => ?_, by decide⟩
  have : x = 0 := by simpa [zeroP] using hx
  subst this
  decide
theorem getL_wf {l : List Pr} {nx pid : Int} (h : ∀ p ∈ l, p.wf) : (getL l nx pid).1.wf := by
  unfold getL
  split
  · split
    · rename_i p hp; exact h p (List.mem_of_find?_eq_some hp)
    · exact zeroP_wf
  · exact zeroP_wf
/-- what is asked -/
def askA (Ad : Option Addr) (c n : Nat) (nx pid g : Int) (p : Pr) : Array Value := (([.slice Ad n c, .int .i64 nx, .int .i64 pid, .int .i64 g] : List Value) ++ p.cells).toArray
set_option maxRecDepth 100000 in
set_option maxHeartbeats 4000000 in
theorem tableAsks_walk {A : Nat → Prop} (Ad : Option Addr) (c : Nat) (l : List Pr) (nx pid g : Int) (p : Pr) (w : World) (h : RdY Rp A w (.slice Ad l.length c) l) (hw : ∀ p ∈ l, p.wf) (hok : p.ok) (hpw : p.wf) :
    Calls Try.prog 6 #[.agg (askA Ad c l.length nx pid g p)] w fun e w' => e = .returned (.bool true) ∧ Ext w w' := by
  have H := Lib.hid (rdy_pr (B := fun _ => False) h)
  have hoks := Lib.hid (RdY.oks h)
  have HWF := Lib.hid hw
  obtain ⟨N, hN⟩ : ∃ N, l.length = N := ⟨_, rfl⟩
  rw [hN] at H ⊢
  have HN := Lib.hid hN
  obtain ⟨cs, hcs⟩ : ∃ cs, cs = askA Ad c N nx pid g p := ⟨_, rfl⟩
  rw [← hcs]
  have hB := Blk.new w 60 cs
  have E0 : Ext w (w.alloc (.cells cs 60)) := (by repeat (first | with_reducible exact Ext.refl _ | refine Ext.drewN ?_ _ | refine Ext.drew ?_ | refine Ext.alloc ?_ _ | assumption | (refine Below.trans ?_ (by assumption)) | (refine Ext.trans ?_ (by assumption)) | (refine Below.trans ?_ (Below.mono (by assumption) (by omega)))))
  have HB := Lib.hid hB
  have HCS := Lib.hid hcs
  have hgr := fun w => great_any Ad c l nx w
  rw [hN] at hgr
  have HGR := Lib.hid hgr
  clear h hw hN hgr hB hcs
  go_enter Try.func6, Try.ntmps6
  go_wp2_with fail
  refine (alive_any _).mono ?_
  rintro e w1 ⟨rfl, E1⟩
  have E01 : Ext w w1 := E0.trans E1
  have B1 := HB.out.ext E1
  rw [HCS.out] at B1
  have a0 : w1.cell? ⟨w.heap.size, 0, none⟩ = some (.slice Ad N c) := B1.cell 0
  have a1 : w1.cell? ⟨w.heap.size, 1, none⟩ = some (.int .i64 nx) := B1.cell 1
  have a2 : w1.cell? ⟨w.heap.size, 2, none⟩ = some (.int .i64 pid) := B1.cell 2
  have a3 : w1.cell? ⟨w.heap.size, 3, none⟩ = some (.int .i64 g) := B1.cell 3
  have a4 := Lib.hid (show ∀ i u, p.cells[i]? = some u → w1.cell? ⟨w.heap.size, 4 + i, none⟩ = some u from fun i u hu => by
    rw [B1.cell (4 + i)]
    unfold askA
    rw [List.getElem?_toArray, List.getElem?_append_right (by simp)]
    simpa using hu)
  have A01 := Lib.hid (And.intro a0 a1)
  have A2 := Lib.hid a2
  have A3 := Lib.hid a3
  have hsz := B1.lt
  clear B1 HB HCS E1 E0 a0 a1 a2 a3
  obtain ⟨W1, hW1⟩ : ∃ W1, W1 = w1 := ⟨_, rfl⟩
  subst hW1
  go_wp2
  go_cut [3, 4, 5, 6] (fun s3 s4 s5 s6 wx => ∃ n3 n6 : Nat, s3 = .pointer (some ⟨n3, 0, none⟩) ∧ s4 = .int .i64 pid ∧ s5 = .int .i64 g ∧ s6 = .pointer (some ⟨n6, 0, none⟩) ∧ Hid (Blk wx n3 24 #[.slice Ad N c, .int .i64 nx]) ∧ Hid (Blk wx n6 58 p.cells.toArray) ∧ Ext W1 wx)
  case first =>
    refine wp_region_held_drew (S := fun w' => Ext W1 w') (by kernel_rfl) (Ext.drew (Ext.refl _)) (fun hHeld => ?_)
    (refine wpAnyH_take (i := 0) (v := ?_) rfl (by kernel_rfl) (by kernel_rfl) (by kernel_rfl) (fun _ _ _ h => h) (Or.inl ⟨by rfl, ?_⟩) (by assumption) ?_; rotate_left; (focus (intro w' hSw; go_simp; try with_reducible rfl)); (try simp only [List.getElem_toArray]); (try simp only [List.getElem_cons_succ]); (try simp only [List.getElem_cons_zero]); (try simp only [Act.put]); (try simp only [List.setIfInBounds_toArray]); (try simp only [List.set_cons_succ]); (try simp only [List.set_cons_zero]))
    (refine wpAnyH_take (i := 1) (v := ?_) rfl (by kernel_rfl) (by kernel_rfl) (by kernel_rfl) (fun _ _ _ h => h) (Or.inl ⟨by rfl, ?_⟩) (by assumption) ?_; rotate_left; (focus (intro w' hSw; have kc := cell_ext hSw A01.out.1; have kd := cell_ext hSw A01.out.2; go_simp; try with_reducible rfl)); (try simp only [List.getElem_toArray]); (try simp only [List.getElem_cons_succ]); (try simp only [List.getElem_cons_zero]); (try simp only [Act.put]); (try simp only [List.setIfInBounds_toArray]); (try simp only [List.set_cons_succ]); (try simp only [List.set_cons_zero]))
    (refine wpAnyH_take (i := 2) (v := ?_) rfl (by kernel_rfl) (by kernel_rfl) (by kernel_rfl) (fun _ _ _ h => h) (Or.inl ⟨by rfl, ?_⟩) (by assumption) ?_; rotate_left; (focus (intro w' hSw; go_simp; try with_reducible rfl)); (try simp only [List.getElem_toArray]); (try simp only [List.getElem_cons_succ]); (try simp only [List.getElem_cons_zero]); (try simp only [Act.put]); (try simp only [List.setIfInBounds_toArray]); (try simp only [List.set_cons_succ]); (try simp only [List.set_cons_zero]))
    (refine wpAnyH_take (i := 3) (v := ?_) rfl (by kernel_rfl) (by kernel_rfl) (by kernel_rfl) (fun _ _ _ h => h) (Or.inl ⟨by rfl, ?_⟩) (by assumption) ?_; rotate_left; (focus (intro w' hSw; have kc := cell_ext hSw A2.out; go_simp; try with_reducible rfl)); (try simp only [List.getElem_toArray]); (try simp only [List.getElem_cons_succ]); (try simp only [List.getElem_cons_zero]); (try simp only [Act.put]); (try simp only [List.setIfInBounds_toArray]); (try simp only [List.set_cons_succ]); (try simp only [List.set_cons_zero]))
    (refine wpAnyH_take (i := 4) (v := ?_) rfl (by kernel_rfl) (by kernel_rfl) (by kernel_rfl) (fun _ _ _ h => h) (Or.inl ⟨by rfl, ?_⟩) (by assumption) ?_; rotate_left; (focus (intro w' hSw; go_simp; try with_reducible rfl)); (try simp only [List.getElem_toArray]); (try simp only [List.getElem_cons_succ]); (try simp only [List.getElem_cons_zero]); (try simp only [Act.put]); (try simp only [List.setIfInBounds_toArray]); (try simp only [List.set_cons_succ]); (try simp only [List.set_cons_zero]))
    (refine wpAnyH_take (i := 5) (v := ?_) rfl (by kernel_rfl) (by kernel_rfl) (by kernel_rfl) (fun _ _ _ h => h) (Or.inl ⟨by rfl, ?_⟩) (by assumption) ?_; rotate_left; (focus (intro w' hSw; have kc := cell_ext hSw A3.out; go_simp; try with_reducible rfl)); (try simp only [List.getElem_toArray]); (try simp only [List.getElem_cons_succ]); (try simp only [List.getElem_cons_zero]); (try simp only [Act.put]); (try simp only [List.setIfInBounds_toArray]); (try simp only [List.set_cons_succ]); (try simp only [List.set_cons_zero]))
    (refine wpAnyH_take (i := 6) (v := ?_) rfl (by kernel_rfl) (by kernel_rfl) (by kernel_rfl) (fun _ _ _ h => h) (Or.inl ⟨by rfl, ?_⟩) (by assumption) ?_; rotate_left; (focus (intro w' hSw; go_simp; try with_reducible rfl)); (try simp only [List.getElem_toArray]); (try simp only [List.getElem_cons_succ]); (try simp only [List.getElem_cons_zero]); (try simp only [Act.put]); (try simp only [List.setIfInBounds_toArray]); (try simp only [List.set_cons_succ]); (try simp only [List.set_cons_zero]))
    (refine wpAnyH_take (i := 7) (v := .agg p.cells.toArray) rfl (by kernel_rfl) (by kernel_rfl) (by kernel_rfl) (fun _ _ _ h => h) (yieldsIf_load_mid (by rfl) 58 _ rfl _ _ rfl p.cells _ (fun w' hSw => (fun i u hu => cell_ext hSw (a4.out i u hu))) Try.underlying58 rfl (i43r' hok)) (by assumption) ?_; (try simp only [List.getElem_toArray]); (try simp only [List.getElem_cons_succ]); (try simp only [List.getElem_cons_zero]); (try simp only [Act.put]); (try simp only [List.setIfInBounds_toArray]); (try simp only [List.set_cons_succ]); (try simp only [List.set_cons_zero]))
    have EH : Ext W1 W1.drew := Ext.drew (Ext.refl _)
    have ES := EH
    clear hHeld
    generalize W1.drew = w0 at *
    refine wpAnyH_ready (rs := [8, 9]) (by kernel_rfl) (by simp) ?_
    refine AllReadyH.cons rfl (fun K hK => ?_) (AllReadyH.cons rfl (fun K hK => ?_) AllReadyH.nil)
    ·
      go_simp
      refine hK.out _ _ (EH.alloc _) (fun hHeld => ?_)
      clear hK K hHeld
      (try simp only [List.getElem_toArray]); (try simp only [List.getElem_cons_succ]); (try simp only [List.getElem_cons_zero]); (try simp only [Act.put]); (try simp only [List.setIfInBounds_toArray]); (try simp only [List.set_cons_succ]); (try simp only [List.set_cons_zero])
      obtain ⟨n3, hn3⟩ : ∃ n3, w0.heap.size = n3 := ⟨_, rfl⟩
      have Bn3 := Lib.hid (Blk.new w0 24 #[.slice none 0 0, .int .i64 0])
      have EH := EH.alloc (.cells #[.slice none 0 0, .int .i64 0] 24)
      rw [hn3] at Bn3 ⊢
      have gn3 : W1.heap.size ≤ n3 := by rw [← hn3]; exact ES.size
      have Ln3 : w0.heap.size = n3 := hn3
      clear hn3
      generalize w0.alloc _ = wA at *
      have Mn3 := Bn3.out.lt
      refine wpAnyH_ready (rs := [9]) (by kernel_rfl) (by simp) ?_
      refine AllReadyH.cons rfl (fun K hK => ?_) AllReadyH.nil
      go_simp
      refine hK.out _ _ (EH.alloc _) (fun hHeld => ?_)
      clear hK K hHeld
      (try simp only [List.getElem_toArray]); (try simp only [List.getElem_cons_succ]); (try simp only [List.getElem_cons_zero]); (try simp only [Act.put]); (try simp only [List.setIfInBounds_toArray]); (try simp only [List.set_cons_succ]); (try simp only [List.set_cons_zero])
      obtain ⟨n6, hn6⟩ : ∃ n6, wA.heap.size = n6 := ⟨_, rfl⟩
      have Bn3 := Lib.hid (Bn3.out.alloc (.cells #[.int .i64 0, .int .i64 0, .int .i64 0, .int .i64 0, .int .i64 0, .int .i64 0, .int .i64 0, .int .u64 0, .int .u64 0, .int .i64 0, .int .i64 0, .int .i64 0, .int .i64 0, .int .i64 0, .int .i64 0, .int .i64 0, .int .i64 0, .int .i64 0, .int .i64 0, .int .i64 0, .int .i64 0, .int .i64 0, .int .i64 0, .int .i64 0, .int .i64 0, .int .i64 0, .int .i64 0, .int .i64 0, .int .i64 0, .int .i64 0, .int .i64 0, .int .i64 0, .int .i64 0, .int .i64 0, .int .i64 0, .int .i64 0, .int .i64 0, .int .i64 0, .int .i64 0, .int .i64 0, .int .i64 0, .int .i64 0, .bool false] 58))
      have Bn6 := Lib.hid (Blk.new wA 58 #[.int .i64 0, .int .i64 0, .int .i64 0, .int .i64 0, .int .i64 0, .int .i64 0, .int .i64 0, .int .u64 0, .int .u64 0, .int .i64 0, .int .i64 0, .int .i64 0, .int .i64 0, .int .i64 0, .int .i64 0, .int .i64 0, .int .i64 0, .int .i64 0, .int .i64 0, .int .i64 0, .int .i64 0, .int .i64 0, .int .i64 0, .int .i64 0, .int .i64 0, .int .i64 0, .int .i64 0, .int .i64 0, .int .i64 0, .int .i64 0, .int .i64 0, .int .i64 0, .int .i64 0, .int .i64 0, .int .i64 0, .int .i64 0, .int .i64 0, .int .i64 0, .int .i64 0, .int .i64 0, .int .i64 0, .int .i64 0, .bool false])
      have ES := EH
      have EH := EH.alloc (.cells #[.int .i64 0, .int .i64 0, .int .i64 0, .int .i64 0, .int .i64 0, .int .i64 0, .int .i64 0, .int .u64 0, .int .u64 0, .int .i64 0, .int .i64 0, .int .i64 0, .int .i64 0, .int .i64 0, .int .i64 0, .int .i64 0, .int .i64 0, .int .i64 0, .int .i64 0, .int .i64 0, .int .i64 0, .int .i64 0, .int .i64 0, .int .i64 0, .int .i64 0, .int .i64 0, .int .i64 0, .int .i64 0, .int .i64 0, .int .i64 0, .int .i64 0, .int .i64 0, .int .i64 0, .int .i64 0, .int .i64 0, .int .i64 0, .int .i64 0, .int .i64 0, .int .i64 0, .int .i64 0, .int .i64 0, .int .i64 0, .bool false] 58)
      rw [hn6] at Bn6 ⊢
      have gn6 : W1.heap.size ≤ n6 := by rw [← hn6]; exact ES.size
      have hne : n3 ≠ n6 := by omega
      clear hn6 Ln3 Mn3 ES
      generalize wA.alloc _ = wB at *
      have k3 := Bn3.out.two
      have C3 := Bn3.out.put2 (.slice Ad N c) (.int .i64 nx)
      have C6 := (Bn6.out.far (p := ⟨n3, 0, none⟩) (fun h => hne h.symm) (.slice Ad N c)).far (p := ⟨n3, 1, none⟩) (fun h => hne h.symm) (.int .i64 nx)
      have EH7 := (EH.setNew (p := ⟨n3, 0, none⟩) gn3 (.slice Ad N c)).setNew (p := ⟨n3, 1, none⟩) gn3 (.int .i64 nx)
      (refine wpAnyH_ready (rs := [10]) (by kernel_rfl) (by simp) ?_; refine AllReadyH.cons rfl (fun K hK => ?_) AllReadyH.nil; go_simp; refine hK.out _ _ EH7 (fun hHeld => ?_); clear hK K; (try simp only [Act.put]); (try simp only [List.getElem_toArray]); (try simp only [List.getElem_cons_succ]); (try simp only [List.getElem_cons_zero]); (try simp only [List.setIfInBounds_toArray]); (try simp only [List.set_cons_succ]); (try simp only [List.set_cons_zero]))
      (refine wpAnyH_take (i := 11) (v := ?_) rfl (by kernel_rfl) (by kernel_rfl) (by kernel_rfl) (fun _ _ _ h => h) (Or.inl ⟨by rfl, ?_⟩) (by assumption) ?_; rotate_left; (focus (intro w' hSw; go_simp; try with_reducible rfl)); (try simp only [List.getElem_toArray]); (try simp only [List.getElem_cons_succ]); (try simp only [List.getElem_cons_zero]); (try simp only [Act.put]); (try simp only [List.setIfInBounds_toArray]); (try simp only [List.set_cons_succ]); (try simp only [List.set_cons_zero]))
      (refine wpAnyH_take (i := 12) (v := ?_) rfl (by kernel_rfl) (by kernel_rfl) (by kernel_rfl) (fun _ _ _ h => h) (Or.inl ⟨by rfl, ?_⟩) (by assumption) ?_; rotate_left; (focus (intro w' hSw; go_simp; try with_reducible rfl)); (try simp only [List.getElem_toArray]); (try simp only [List.getElem_cons_succ]); (try simp only [List.getElem_cons_zero]); (try simp only [Act.put]); (try simp only [List.setIfInBounds_toArray]); (try simp only [List.set_cons_succ]); (try simp only [List.set_cons_zero]))
      refine wpAnyH_ready (rs := [13]) (by kernel_rfl) (by simp) ?_
      refine AllReadyH.cons rfl (fun K hK => ?_) AllReadyH.nil
      rw [if_pos (by rfl)]
      refine wp_store_AF 58 _ _ rfl n6 _ rfl rfl 58 _ C6 (by rw [List.size_toArray]; exact i43r' hok) (Eq.trans (b := 43) (by rfl) (Eq.symm (show p.cells.toArray.size = 43 from Pr.size hok))) (Pr.one hok) ?_
      intro wC D6 F6 E6
      have EHC : Ext W1 wC := E6 W1.heap.size W1 EH7 gn6
      refine hK.out _ _ EHC (fun hHeld => ?_)
      clear hK K
      (try simp only [List.getElem_toArray]); (try simp only [List.getElem_cons_succ]); (try simp only [List.getElem_cons_zero]); (try simp only [Act.put]); (try simp only [List.setIfInBounds_toArray]); (try simp only [List.set_cons_succ]); (try simp only [List.set_cons_zero])
      refine wpAnyH_done (by kernel_rfl) ?_ _
      go_wp2_with fail
      go_meet
      exact ⟨n3, n6, rfl, rfl, rfl, rfl, Lib.hid (F6 n3 _ _ hne C3), Lib.hid D6, EHC⟩
    ·
      go_simp
      refine hK.out _ _ (EH.alloc _) (fun hHeld => ?_)
      clear hK K hHeld
      (try simp only [List.getElem_toArray]); (try simp only [List.getElem_cons_succ]); (try simp only [List.getElem_cons_zero]); (try simp only [Act.put]); (try simp only [List.setIfInBounds_toArray]); (try simp only [List.set_cons_succ]); (try simp only [List.set_cons_zero])
      obtain ⟨n6, hn6⟩ : ∃ n6, w0.heap.size = n6 := ⟨_, rfl⟩
      have Bn6 := Lib.hid (Blk.new w0 58 #[.int .i64 0, .int .i64 0, .int .i64 0, .int .i64 0, .int .i64 0, .int .i64 0, .int .i64 0, .int .u64 0, .int .u64 0, .int .i64 0, .int .i64 0, .int .i64 0, .int .i64 0, .int .i64 0, .int .i64 0, .int .i64 0, .int .i64 0, .int .i64 0, .int .i64 0, .int .i64 0, .int .i64 0, .int .i64 0, .int .i64 0, .int .i64 0, .int .i64 0, .int .i64 0, .int .i64 0, .int .i64 0, .int .i64 0, .int .i64 0, .int .i64 0, .int .i64 0, .int .i64 0, .int .i64 0, .int .i64 0, .int .i64 0, .int .i64 0, .int .i64 0, .int .i64 0, .int .i64 0, .int .i64 0, .int .i64 0, .bool false])
      have EH := EH.alloc (.cells #[.int .i64 0, .int .i64 0, .int .i64 0, .int .i64 0, .int .i64 0, .int .i64 0, .int .i64 0, .int .u64 0, .int .u64 0, .int .i64 0, .int .i64 0, .int .i64 0, .int .i64 0, .int .i64 0, .int .i64 0, .int .i64 0, .int .i64 0, .int .i64 0, .int .i64 0, .int .i64 0, .int .i64 0, .int .i64 0, .int .i64 0, .int .i64 0, .int .i64 0, .int .i64 0, .int .i64 0, .int .i64 0, .int .i64 0, .int .i64 0, .int .i64 0, .int .i64 0, .int .i64 0, .int .i64 0, .int .i64 0, .int .i64 0, .int .i64 0, .int .i64 0, .int .i64 0, .int .i64 0, .int .i64 0, .int .i64 0, .bool false] 58)
      rw [hn6] at Bn6 ⊢
      have gn6 : W1.heap.size ≤ n6 := by rw [← hn6]; exact ES.size
      have Ln6 : w0.heap.size = n6 := hn6
      clear hn6
      generalize w0.alloc _ = wA at *
      have Mn6 := Bn6.out.lt
      refine wpAnyH_ready (rs := [8]) (by kernel_rfl) (by simp) ?_
      refine AllReadyH.cons rfl (fun K hK => ?_) AllReadyH.nil
      go_simp
      refine hK.out _ _ (EH.alloc _) (fun hHeld => ?_)
      clear hK K hHeld
      (try simp only [List.getElem_toArray]); (try simp only [List.getElem_cons_succ]); (try simp only [List.getElem_cons_zero]); (try simp only [Act.put]); (try simp only [List.setIfInBounds_toArray]); (try simp only [List.set_cons_succ]); (try simp only [List.set_cons_zero])
      obtain ⟨n3, hn3⟩ : ∃ n3, wA.heap.size = n3 := ⟨_, rfl⟩
      have Bn6 := Lib.hid (Bn6.out.alloc (.cells #[.slice none 0 0, .int .i64 0] 24))
      have Bn3 := Lib.hid (Blk.new wA 24 #[.slice none 0 0, .int .i64 0])
      have ES := EH
      have EH := EH.alloc (.cells #[.slice none 0 0, .int .i64 0] 24)
      rw [hn3] at Bn3 ⊢
      have gn3 : W1.heap.size ≤ n3 := by rw [← hn3]; exact ES.size
      have hne : n3 ≠ n6 := by omega
      clear hn3 Ln6 Mn6 ES
      generalize wA.alloc _ = wB at *
      have k3 := Bn3.out.two
      have C3 := Bn3.out.put2 (.slice Ad N c) (.int .i64 nx)
      have C6 := (Bn6.out.far (p := ⟨n3, 0, none⟩) (fun h => hne h.symm) (.slice Ad N c)).far (p := ⟨n3, 1, none⟩) (fun h => hne h.symm) (.int .i64 nx)
      have EH7 := (EH.setNew (p := ⟨n3, 0, none⟩) gn3 (.slice Ad N c)).setNew (p := ⟨n3, 1, none⟩) gn3 (.int .i64 nx)
      (refine wpAnyH_ready (rs := [10]) (by kernel_rfl) (by simp) ?_; refine AllReadyH.cons rfl (fun K hK => ?_) AllReadyH.nil; go_simp; refine hK.out _ _ EH7 (fun hHeld => ?_); clear hK K; (try simp only [Act.put]); (try simp only [List.getElem_toArray]); (try simp only [List.getElem_cons_succ]); (try simp only [List.getElem_cons_zero]); (try simp only [List.setIfInBounds_toArray]); (try simp only [List.set_cons_succ]); (try simp only [List.set_cons_zero]))
      (refine wpAnyH_take (i := 11) (v := ?_) rfl (by kernel_rfl) (by kernel_rfl) (by kernel_rfl) (fun _ _ _ h => h) (Or.inl ⟨by rfl, ?_⟩) (by assumption) ?_; rotate_left; (focus (intro w' hSw; go_simp; try with_reducible rfl)); (try simp only [List.getElem_toArray]); (try simp only [List.getElem_cons_succ]); (try simp only [List.getElem_cons_zero]); (try simp only [Act.put]); (try simp only [List.setIfInBounds_toArray]); (try simp only [List.set_cons_succ]); (try simp only [List.set_cons_zero]))
      (refine wpAnyH_take (i := 12) (v := ?_) rfl (by kernel_rfl) (by kernel_rfl) (by kernel_rfl) (fun _ _ _ h => h) (Or.inl ⟨by rfl, ?_⟩) (by assumption) ?_; rotate_left; (focus (intro w' hSw; go_simp; try with_reducible rfl)); (try simp only [List.getElem_toArray]); (try simp only [List.getElem_cons_succ]); (try simp only [List.getElem_cons_zero]); (try simp only [Act.put]); (try simp only [List.setIfInBounds_toArray]); (try simp only [List.set_cons_succ]); (try simp only [List.set_cons_zero]))
      refine wpAnyH_ready (rs := [13]) (by kernel_rfl) (by simp) ?_
      refine AllReadyH.cons rfl (fun K hK => ?_) AllReadyH.nil
      rw [if_pos (by rfl)]
      refine wp_store_AF 58 _ _ rfl n6 _ rfl rfl 58 _ C6 (by rw [List.size_toArray]; exact i43r' hok) (Eq.trans (b := 43) (by rfl) (Eq.symm (show p.cells.toArray.size = 43 from Pr.size hok))) (Pr.one hok) ?_
      intro wC D6 F6 E6
      have EHC : Ext W1 wC := E6 W1.heap.size W1 EH7 gn6
      refine hK.out _ _ EHC (fun hHeld => ?_)
      clear hK K
      (try simp only [List.getElem_toArray]); (try simp only [List.getElem_cons_succ]); (try simp only [List.getElem_cons_zero]); (try simp only [Act.put]); (try simp only [List.setIfInBounds_toArray]); (try simp only [List.set_cons_succ]); (try simp only [List.set_cons_zero])
      refine wpAnyH_done (by kernel_rfl) ?_ _
      go_wp2_with fail
      go_meet
      exact ⟨n3, n6, rfl, rfl, rfl, rfl, Lib.hid (F6 n3 _ _ hne C3), Lib.hid D6, EHC⟩
  case rest =>
    obtain ⟨n3, n6, rfl, rfl, rfl, rfl, b3, b6, Ec⟩ := hcut
    obtain ⟨W2, hW2⟩ : ∃ W2, W2 = wc := ⟨_, rfl⟩
    subst hW2
    have E02 := E01.trans Ec
    have kb := b3.out.two
    clear A01 A2 A3 a4 hsz Ec
    go_wp2_with fail
    refine (HGR.out _).mono ?_
    rintro e W3 ⟨rfl, E3⟩
    have E03 := E02.trans E3
    have hb3 := Lib.hid (b3.out.ext E3)
    have hb6 := Lib.hid (b6.out.ext E3)
    clear E3 kb b3 b6
    by_cases hg : 60 < N
    · have hg2 : decide (60 < N) = true := decide_eq_true hg
      rw [hg2]
      clear hg
      go_wp2
      go_ret
      exact ⟨rfl, E03⟩
    have hg2 : decide (60 < N) = false := decide_eq_false hg
    rw [hg2]
    clear hg2
    have HG := Lib.hid hg
    have href := fun w h => ref_any (A := fun _ => False) Ad c l nx w h (by rw [HN.out]; have := HG.out; omega)
    have hto := fun A1 c1 w h => to_any (A := fun _ => False) A1 c1 l nx w h (by rw [HN.out]; have := HG.out; omega)
    rw [HN.out] at href hto
    have HREF := Lib.hid href
    have HTO := Lib.hid hto
    have H3 := Lib.hid (H.out.ext E03)
    clear hg href hto
    go_wp2
    go_cut [7, 8] (fun s7 s8 wx => ∃ n7 n8 A4 A5 c4 c5, s7 = .pointer (some ⟨n7, 0, none⟩) ∧ s8 = .pointer (some ⟨n8, 0, none⟩) ∧ Hid (Blk wx n7 29 #[.slice A4 N c4, .int .i64 nx]) ∧ Hid (Blk wx n8 31 #[.slice A5 N c5, .int .i64 nx]) ∧ Hid (RdY Rp (fun _ => False) wx (.slice A4 N c4) l) ∧ Hid (RdY Rp (fun _ => False) wx (.slice A5 N c5) l) ∧ Ext W3 wx)
    case first =>
      refine wp_region_held_drew (S := fun w' => Ext W3 w') (by kernel_rfl) (Ext.drew (Ext.refl _)) (fun hHeld => ?_)
      (refine wpAnyH_take (i := 0) (v := ?_) rfl (by kernel_rfl) (by kernel_rfl) (by kernel_rfl) (fun _ _ _ h => h) (Or.inl ⟨by rfl, ?_⟩) (by assumption) ?_; rotate_left; (focus (intro w' hSw; have kc := (hb3.out.ext hSw).two; go_simp; try with_reducible rfl)); (try simp only [List.getElem_toArray]); (try simp only [List.getElem_cons_succ]); (try simp only [List.getElem_cons_zero]); (try simp only [Act.put]); (try simp only [List.setIfInBounds_toArray]); (try simp only [List.set_cons_succ]); (try simp only [List.set_cons_zero]))
      (refine wpAnyH_take (i := 3) (v := ?_) rfl (by kernel_rfl) (by kernel_rfl) (by kernel_rfl) (fun _ _ _ h => h) (Or.inl ⟨by rfl, ?_⟩) (by assumption) ?_; rotate_left; (focus (intro w' hSw; have kc := (hb3.out.ext hSw).two; go_simp; try with_reducible rfl)); (try simp only [List.getElem_toArray]); (try simp only [List.getElem_cons_succ]); (try simp only [List.getElem_cons_zero]); (try simp only [Act.put]); (try simp only [List.setIfInBounds_toArray]); (try simp only [List.set_cons_succ]); (try simp only [List.set_cons_zero]))
      have EH : Ext W3 W3.drew := Ext.drew (Ext.refl _)
      have HX := Lib.hid (H3.out.ext EH)
      clear hHeld
      generalize W3.drew = w0 at *
      refine wpAnyH_ready (rs := [1, 5, 6]) (by kernel_rfl) (by simp) ?_
      refine (AllReadyH.cons rfl (fun K hK => ?_) (AllReadyH.cons rfl (fun K hK => ?_) (AllReadyH.cons rfl (fun K hK => ?_) AllReadyH.nil)))
      ·
        go_simp
        go_at_call 11
        refine (HREF.out _ HX.out).mono ?_
        rintro e w10 ⟨A3, c3, rfl, O3, E3⟩
        (try dsimp only)
        refine hK.out _ _ (EH.trans E3) (fun hHeld => ?_)
        clear hK K hHeld
        (try simp only [List.getElem_toArray]); (try simp only [List.getElem_cons_succ]); (try simp only [List.getElem_cons_zero]); (try simp only [Act.put]); (try simp only [List.setIfInBounds_toArray]); (try simp only [List.set_cons_succ]); (try simp only [List.set_cons_zero])
        have HX := Lib.hid (HX.out.ext E3)
        have O3 := Lib.hid O3
        have EH := EH.trans E3
        clear E3
        refine wpAnyH_ready (rs := [2, 5, 6]) (by kernel_rfl) (by simp) ?_
        refine (AllReadyH.cons rfl (fun K hK => ?_) (AllReadyH.cons rfl (fun K hK => ?_) (AllReadyH.cons rfl (fun K hK => ?_) AllReadyH.nil)))
        ·
          go_simp
          go_at_call 10
          refine (HTO.out A3 c3 _ (rdy_pr O3.out.y)).mono ?_
          rintro e w11 ⟨A4, c4, rfl, O4, E3⟩
          (try dsimp only)
          refine hK.out _ _ (EH.trans E3) (fun hHeld => ?_)
          clear hK K hHeld
          (try simp only [List.getElem_toArray]); (try simp only [List.getElem_cons_succ]); (try simp only [List.getElem_cons_zero]); (try simp only [Act.put]); (try simp only [List.setIfInBounds_toArray]); (try simp only [List.set_cons_succ]); (try simp only [List.set_cons_zero])
          have HX := Lib.hid (HX.out.ext E3)
          have O4 := Lib.hid O4
          have EH := EH.trans E3
          clear E3
          refine wpAnyH_ready (rs := [4, 5, 6]) (by kernel_rfl) (by simp) ?_
          refine (AllReadyH.cons rfl (fun K hK => ?_) (AllReadyH.cons rfl (fun K hK => ?_) (AllReadyH.cons rfl (fun K hK => ?_) AllReadyH.nil)))
          ·
            go_simp
            go_at_call 11
            refine (HREF.out _ HX.out).mono ?_
            rintro e w12 ⟨A5, c5, rfl, O5, E3⟩
            (try dsimp only)
            refine hK.out _ _ (EH.trans E3) (fun hHeld => ?_)
            clear hK K hHeld
            (try simp only [List.getElem_toArray]); (try simp only [List.getElem_cons_succ]); (try simp only [List.getElem_cons_zero]); (try simp only [Act.put]); (try simp only [List.setIfInBounds_toArray]); (try simp only [List.set_cons_succ]); (try simp only [List.set_cons_zero])
            have HX := Lib.hid (HX.out.ext E3)
            have O4 := Lib.hid (O4.out.ext E3)
            have O5 := Lib.hid O5
            have EH := EH.trans E3
            clear E3
            refine wpAnyH_ready (rs := [5, 6]) (by kernel_rfl) (by simp) ?_
            refine (AllReadyH.cons rfl (fun K hK => ?_) (AllReadyH.cons rfl (fun K hK => ?_) AllReadyH.nil))
            ·
              go_simp
              refine hK.out _ _ (EH.alloc _) (fun hHeld => ?_)
              clear hK K hHeld
              (try simp only [List.getElem_toArray]); (try simp only [List.getElem_cons_succ]); (try simp only [List.getElem_cons_zero]); (try simp only [Act.put]); (try simp only [List.setIfInBounds_toArray]); (try simp only [List.set_cons_succ]); (try simp only [List.set_cons_zero])
              have HX := Lib.hid (HX.out.ext ((Ext.refl _).alloc (.cells #[.slice none 0 0, .int .i64 0] 29)))
              have O4 := Lib.hid (O4.out.ext ((Ext.refl _).alloc (.cells #[.slice none 0 0, .int .i64 0] 29)))
              have O5 := Lib.hid (O5.out.ext ((Ext.refl _).alloc (.cells #[.slice none 0 0, .int .i64 0] 29)))
              have B7 := Lib.hid (Blk.new w12 29 #[.slice none 0 0, .int .i64 0])
              obtain ⟨n7, hn7⟩ : ∃ n7, w12.heap.size = n7 := ⟨_, rfl⟩
              have hn7W : W3.heap.size ≤ n7 := by rw [← hn7]; exact EH.size
              have EH := EH.alloc (.cells #[.slice none 0 0, .int .i64 0] 29)
              rw [hn7] at B7 ⊢
              clear hn7
              generalize w12.alloc _ = w13 at *
              have LB7 := B7.out.lt
              refine wpAnyH_ready (rs := [6]) (by kernel_rfl) (by simp) ?_
              refine (AllReadyH.cons rfl (fun K hK => ?_) AllReadyH.nil)
              go_simp
              refine hK.out _ _ (EH.alloc _) (fun hHeld => ?_)
              clear hK K hHeld
              (try simp only [List.getElem_toArray]); (try simp only [List.getElem_cons_succ]); (try simp only [List.getElem_cons_zero]); (try simp only [Act.put]); (try simp only [List.setIfInBounds_toArray]); (try simp only [List.set_cons_succ]); (try simp only [List.set_cons_zero])
              have HX := Lib.hid (HX.out.ext ((Ext.refl _).alloc (.cells #[.slice none 0 0, .int .i64 0] 31)))
              have O4 := Lib.hid (O4.out.ext ((Ext.refl _).alloc (.cells #[.slice none 0 0, .int .i64 0] 31)))
              have O5 := Lib.hid (O5.out.ext ((Ext.refl _).alloc (.cells #[.slice none 0 0, .int .i64 0] 31)))
              have B7 := Lib.hid (B7.out.ext ((Ext.refl _).alloc (.cells #[.slice none 0 0, .int .i64 0] 31)))
              have B8 := Lib.hid (Blk.new w13 31 #[.slice none 0 0, .int .i64 0])
              obtain ⟨n8, hn8⟩ : ∃ n8, w13.heap.size = n8 := ⟨_, rfl⟩
              have hn8W : W3.heap.size ≤ n8 := by rw [← hn8]; exact EH.size
              have EH := EH.alloc (.cells #[.slice none 0 0, .int .i64 0] 31)
              rw [hn8] at B8 ⊢
              have hne : n7 ≠ n8 := by have := LB7; omega
              clear hn8
              generalize w13.alloc _ = w14 at *
              have LB8 := B8.out.lt
              have k7 := B7.out.two
              have C7 := B7.out.put2 (.slice A4 N c4) (.int .i64 nx)
              have C8 := (B8.out.far (p := ⟨n7, 0, none⟩) (fun h => hne h.symm) (.slice A4 N c4)).far (p := ⟨n7, 1, none⟩) (fun h => hne h.symm) (.int .i64 nx)
              have F4 := own_set2 (own_set2 O4.out B7.out (by decide) (.slice A4 N c4) (.int .i64 nx)) C8 (by decide) (.slice A5 N c5) (.int .i64 nx)
              have F5 := own_set2 (own_set2 O5.out B7.out (by decide) (.slice A4 N c4) (.int .i64 nx)) C8 (by decide) (.slice A5 N c5) (.int .i64 nx)
              have EH7 := (EH.setNew (p := ⟨n7, 0, none⟩) hn7W (.slice A4 N c4)).setNew (p := ⟨n7, 1, none⟩) hn7W (.int .i64 nx)
              have k8 := C8.two
              (refine wpAnyH_ready (rs := [7]) (by kernel_rfl) (by simp) ?_; refine AllReadyH.cons rfl (fun K hK => ?_) AllReadyH.nil; go_simp; refine hK.out _ _ EH7 (fun hHeld => ?_); clear hK K; (try simp only [Act.put]); (try simp only [List.getElem_toArray]); (try simp only [List.getElem_cons_succ]); (try simp only [List.getElem_cons_zero]); (try simp only [List.setIfInBounds_toArray]); (try simp only [List.set_cons_succ]); (try simp only [List.set_cons_zero]))
              (refine wpAnyH_ready (rs := [8]) (by kernel_rfl) (by simp) ?_; refine AllReadyH.cons rfl (fun K hK => ?_) AllReadyH.nil; go_simp; refine hK.out _ _ ((EH7.setNew hn8W _).setNew hn8W _) (fun hHeld => ?_); clear hK K; (try simp only [Act.put]); (try simp only [List.getElem_toArray]); (try simp only [List.getElem_cons_succ]); (try simp only [List.getElem_cons_zero]); (try simp only [List.setIfInBounds_toArray]); (try simp only [List.set_cons_succ]); (try simp only [List.set_cons_zero]))
              refine wpAnyH_done (by kernel_rfl) ?_ _
              go_wp2_with fail
              go_meet
              exact ⟨n7, n8, A4, A5, c4, c5, rfl, rfl, Lib.hid ((C7.far (p := ⟨n8, 0, none⟩) hne _).far (p := ⟨n8, 1, none⟩) hne _), Lib.hid (C8.put2 _ _), Lib.hid (rdy_pr F4.y), Lib.hid (rdy_pr F5.y), hHeld⟩
            ·
              go_simp
              refine hK.out _ _ (EH.alloc _) (fun hHeld => ?_)
              clear hK K hHeld
              (try simp only [List.getElem_toArray]); (try simp only [List.getElem_cons_succ]); (try simp only [List.getElem_cons_zero]); (try simp only [Act.put]); (try simp only [List.setIfInBounds_toArray]); (try simp only [List.set_cons_succ]); (try simp only [List.set_cons_zero])
              have HX := Lib.hid (HX.out.ext ((Ext.refl _).alloc (.cells #[.slice none 0 0, .int .i64 0] 31)))
              have O4 := Lib.hid (O4.out.ext ((Ext.refl _).alloc (.cells #[.slice none 0 0, .int .i64 0] 31)))
              have O5 := Lib.hid (O5.out.ext ((Ext.refl _).alloc (.cells #[.slice none 0 0, .int .i64 0] 31)))
              have B8 := Lib.hid (Blk.new w12 31 #[.slice none 0 0, .int .i64 0])
              obtain ⟨n8, hn8⟩ : ∃ n8, w12.heap.size = n8 := ⟨_, rfl⟩
              have hn8W : W3.heap.size ≤ n8 := by rw [← hn8]; exact EH.size
              have EH := EH.alloc (.cells #[.slice none 0 0, .int .i64 0] 31)
              rw [hn8] at B8 ⊢
              clear hn8
              generalize w12.alloc _ = w13 at *
              have LB8 := B8.out.lt
              refine wpAnyH_ready (rs := [5]) (by kernel_rfl) (by simp) ?_
              refine (AllReadyH.cons rfl (fun K hK => ?_) AllReadyH.nil)
              go_simp
              refine hK.out _ _ (EH.alloc _) (fun hHeld => ?_)
              clear hK K hHeld
              (try simp only [List.getElem_toArray]); (try simp only [List.getElem_cons_succ]); (try simp only [List.getElem_cons_zero]); (try simp only [Act.put]); (try simp only [List.setIfInBounds_toArray]); (try simp only [List.set_cons_succ]); (try simp only [List.set_cons_zero])
              have HX := Lib.hid (HX.out.ext ((Ext.refl _).alloc (.cells #[.slice none 0 0, .int .i64 0] 29)))
              have O4 := Lib.hid (O4.out.ext ((Ext.refl _).alloc (.cells #[.slice none 0 0, .int .i64 0] 29)))
              have O5 := Lib.hid (O5.out.ext ((Ext.refl _).alloc (.cells #[.slice none 0 0, .int .i64 0] 29)))
              have B8 := Lib.hid (B8.out.ext ((Ext.refl _).alloc (.cells #[.slice none 0 0, .int .i64 0] 29)))
              have B7 := Lib.hid (Blk.new w13 29 #[.slice none 0 0, .int .i64 0])
              obtain ⟨n7, hn7⟩ : ∃ n7, w13.heap.size = n7 := ⟨_, rfl⟩
              have hn7W : W3.heap.size ≤ n7 := by rw [← hn7]; exact EH.size
              have EH := EH.alloc (.cells #[.slice none 0 0, .int .i64 0] 29)
              rw [hn7] at B7 ⊢
              have hne : n7 ≠ n8 := by have := LB8; omega
              clear hn7
              generalize w13.alloc _ = w14 at *
              have LB7 := B7.out.lt
              have k7 := B7.out.two
              have C7 := B7.out.put2 (.slice A4 N c4) (.int .i64 nx)
              have C8 := (B8.out.far (p := ⟨n7, 0, none⟩) (fun h => hne h.symm) (.slice A4 N c4)).far (p := ⟨n7, 1, none⟩) (fun h => hne h.symm) (.int .i64 nx)
              have F4 := own_set2 (own_set2 O4.out B7.out (by decide) (.slice A4 N c4) (.int .i64 nx)) C8 (by decide) (.slice A5 N c5) (.int .i64 nx)
              have F5 := own_set2 (own_set2 O5.out B7.out (by decide) (.slice A4 N c4) (.int .i64 nx)) C8 (by decide) (.slice A5 N c5) (.int .i64 nx)
              have EH7 := (EH.setNew (p := ⟨n7, 0, none⟩) hn7W (.slice A4 N c4)).setNew (p := ⟨n7, 1, none⟩) hn7W (.int .i64 nx)
              have k8 := C8.two
              (refine wpAnyH_ready (rs := [7]) (by kernel_rfl) (by simp) ?_; refine AllReadyH.cons rfl (fun K hK => ?_) AllReadyH.nil; go_simp; refine hK.out _ _ EH7 (fun hHeld => ?_); clear hK K; (try simp only [Act.put]); (try simp only [List.getElem_toArray]); (try simp only [List.getElem_cons_succ]); (try simp only [List.getElem_cons_zero]); (try simp only [List.setIfInBounds_toArray]); (try simp only [List.set_cons_succ]); (try simp only [List.set_cons_zero]))
              (refine wpAnyH_ready (rs := [8]) (by kernel_rfl) (by simp) ?_; refine AllReadyH.cons rfl (fun K hK => ?_) AllReadyH.nil; go_simp; refine hK.out _ _ ((EH7.setNew hn8W _).setNew hn8W _) (fun hHeld => ?_); clear hK K; (try simp only [Act.put]); (try simp only [List.getElem_toArray]); (try simp only [List.getElem_cons_succ]); (try simp only [List.getElem_cons_zero]); (try simp only [List.setIfInBounds_toArray]); (try simp only [List.set_cons_succ]); (try simp only [List.set_cons_zero]))
              refine wpAnyH_done (by kernel_rfl) ?_ _
              go_wp2_with fail
              go_meet
              exact ⟨n7, n8, A4, A5, c4, c5, rfl, rfl, Lib.hid ((C7.far (p := ⟨n8, 0, none⟩) hne _).far (p := ⟨n8, 1, none⟩) hne _), Lib.hid (C8.put2 _ _), Lib.hid (rdy_pr F4.y), Lib.hid (rdy_pr F5.y), hHeld⟩
          ·
            go_simp
            refine hK.out _ _ (EH.alloc _) (fun hHeld => ?_)
            clear hK K hHeld
            (try simp only [List.getElem_toArray]); (try simp only [List.getElem_cons_succ]); (try simp only [List.getElem_cons_zero]); (try simp only [Act.put]); (try simp only [List.setIfInBounds_toArray]); (try simp only [List.set_cons_succ]); (try simp only [List.set_cons_zero])
            have HX := Lib.hid (HX.out.ext ((Ext.refl _).alloc (.cells #[.slice none 0 0, .int .i64 0] 29)))
            have O4 := Lib.hid (O4.out.ext ((Ext.refl _).alloc (.cells #[.slice none 0 0, .int .i64 0] 29)))
            have B7 := Lib.hid (Blk.new w11 29 #[.slice none 0 0, .int .i64 0])
            obtain ⟨n7, hn7⟩ : ∃ n7, w11.heap.size = n7 := ⟨_, rfl⟩
            have hn7W : W3.heap.size ≤ n7 := by rw [← hn7]; exact EH.size
            have EH := EH.alloc (.cells #[.slice none 0 0, .int .i64 0] 29)
            rw [hn7] at B7 ⊢
            clear hn7
            generalize w11.alloc _ = w12 at *
            have LB7 := B7.out.lt
            refine wpAnyH_ready (rs := [4, 6]) (by kernel_rfl) (by simp) ?_
            refine (AllReadyH.cons rfl (fun K hK => ?_) (AllReadyH.cons rfl (fun K hK => ?_) AllReadyH.nil))
            ·
              go_simp
              go_at_call 11
              refine (HREF.out _ HX.out).mono ?_
              rintro e w13 ⟨A5, c5, rfl, O5, E3⟩
              (try dsimp only)
              refine hK.out _ _ (EH.trans E3) (fun hHeld => ?_)
              clear hK K hHeld
              (try simp only [List.getElem_toArray]); (try simp only [List.getElem_cons_succ]); (try simp only [List.getElem_cons_zero]); (try simp only [Act.put]); (try simp only [List.setIfInBounds_toArray]); (try simp only [List.set_cons_succ]); (try simp only [List.set_cons_zero])
              have HX := Lib.hid (HX.out.ext E3)
              have O4 := Lib.hid (O4.out.ext E3)
              have B7 := Lib.hid (B7.out.ext E3)
              have O5 := Lib.hid O5
              have EH := EH.trans E3
              have LB7 := B7.out.lt
              clear E3
              refine wpAnyH_ready (rs := [6]) (by kernel_rfl) (by simp) ?_
              refine (AllReadyH.cons rfl (fun K hK => ?_) AllReadyH.nil)
              go_simp
              refine hK.out _ _ (EH.alloc _) (fun hHeld => ?_)
              clear hK K hHeld
              (try simp only [List.getElem_toArray]); (try simp only [List.getElem_cons_succ]); (try simp only [List.getElem_cons_zero]); (try simp only [Act.put]); (try simp only [List.setIfInBounds_toArray]); (try simp only [List.set_cons_succ]); (try simp only [List.set_cons_zero])
              have HX := Lib.hid (HX.out.ext ((Ext.refl _).alloc (.cells #[.slice none 0 0, .int .i64 0] 31)))
              have O4 := Lib.hid (O4.out.ext ((Ext.refl _).alloc (.cells #[.slice none 0 0, .int .i64 0] 31)))
              have B7 := Lib.hid (B7.out.ext ((Ext.refl _).alloc (.cells #[.slice none 0 0, .int .i64 0] 31)))
              have O5 := Lib.hid (O5.out.ext ((Ext.refl _).alloc (.cells #[.slice none 0 0, .int .i64 0] 31)))
              have B8 := Lib.hid (Blk.new w13 31 #[.slice none 0 0, .int .i64 0])
              obtain ⟨n8, hn8⟩ : ∃ n8, w13.heap.size = n8 := ⟨_, rfl⟩
              have hn8W : W3.heap.size ≤ n8 := by rw [← hn8]; exact EH.size
              have EH := EH.alloc (.cells #[.slice none 0 0, .int .i64 0] 31)
              rw [hn8] at B8 ⊢
              have hne : n7 ≠ n8 := by have := LB7; omega
              clear hn8
              generalize w13.alloc _ = w14 at *
              have LB8 := B8.out.lt
              have k7 := B7.out.two
              have C7 := B7.out.put2 (.slice A4 N c4) (.int .i64 nx)
              have C8 := (B8.out.far (p := ⟨n7, 0, none⟩) (fun h => hne h.symm) (.slice A4 N c4)).far (p := ⟨n7, 1, none⟩) (fun h => hne h.symm) (.int .i64 nx)
              have F4 := own_set2 (own_set2 O4.out B7.out (by decide) (.slice A4 N c4) (.int .i64 nx)) C8 (by decide) (.slice A5 N c5) (.int .i64 nx)
              have F5 := own_set2 (own_set2 O5.out B7.out (by decide) (.slice A4 N c4) (.int .i64 nx)) C8 (by decide) (.slice A5 N c5) (.int .i64 nx)
              have EH7 := (EH.setNew (p := ⟨n7, 0, none⟩) hn7W (.slice A4 N c4)).setNew (p := ⟨n7, 1, none⟩) hn7W (.int .i64 nx)
              have k8 := C8.two
              (refine wpAnyH_ready (rs := [7]) (by kernel_rfl) (by simp) ?_; refine AllReadyH.cons rfl (fun K hK => ?_) AllReadyH.nil; go_simp; refine hK.out _ _ EH7 (fun hHeld => ?_); clear hK K; (try simp only [Act.put]); (try simp only [List.getElem_toArray]); (try simp only [List.getElem_cons_succ]); (try simp only [List.getElem_cons_zero]); (try simp only [List.setIfInBounds_toArray]); (try simp only [List.set_cons_succ]); (try simp only [List.set_cons_zero]))
              (refine wpAnyH_ready (rs := [8]) (by kernel_rfl) (by simp) ?_; refine AllReadyH.cons rfl (fun K hK => ?_) AllReadyH.nil; go_simp; refine hK.out _ _ ((EH7.setNew hn8W _).setNew hn8W _) (fun hHeld => ?_); clear hK K; (try simp only [Act.put]); (try simp only [List.getElem_toArray]); (try simp only [List.getElem_cons_succ]); (try simp only [List.getElem_cons_zero]); (try simp only [List.setIfInBounds_toArray]); (try simp only [List.set_cons_succ]); (try simp only [List.set_cons_zero]))
              refine wpAnyH_done (by kernel_rfl) ?_ _
              go_wp2_with fail
              go_meet
              exact ⟨n7, n8, A4, A5, c4, c5, rfl, rfl, Lib.hid ((C7.far (p := ⟨n8, 0, none⟩) hne _).far (p := ⟨n8, 1, none⟩) hne _), Lib.hid (C8.put2 _ _), Lib.hid (rdy_pr F4.y), Lib.hid (rdy_pr F5.y), hHeld⟩
            ·
              go_simp
              refine hK.out _ _ (EH.alloc _) (fun hHeld => ?_)
              clear hK K hHeld
              (try simp only [List.getElem_toArray]); (try simp only [List.getElem_cons_succ]); (try simp only [List.getElem_cons_zero]); (try simp only [Act.put]); (try simp only [List.setIfInBounds_toArray]); (try simp only [List.set_cons_succ]); (try simp only [List.set_cons_zero])
              have HX := Lib.hid (HX.out.ext ((Ext.refl _).alloc (.cells #[.slice none 0 0, .int .i64 0] 31)))
              have O4 := Lib.hid (O4.out.ext ((Ext.refl _).alloc (.cells #[.slice none 0 0, .int .i64 0] 31)))
              have B7 := Lib.hid (B7.out.ext ((Ext.refl _).alloc (.cells #[.slice none 0 0, .int .i64 0] 31)))
              have B8 := Lib.hid (Blk.new w12 31 #[.slice none 0 0, .int .i64 0])
              obtain ⟨n8, hn8⟩ : ∃ n8, w12.heap.size = n8 := ⟨_, rfl⟩
              have hn8W : W3.heap.size ≤ n8 := by rw [← hn8]; exact EH.size
              have EH := EH.alloc (.cells #[.slice none 0 0, .int .i64 0] 31)
              rw [hn8] at B8 ⊢
              have hne : n7 ≠ n8 := by have := LB7; omega
              clear hn8
              generalize w12.alloc _ = w13 at *
              have LB8 := B8.out.lt
              refine wpAnyH_ready (rs := [4]) (by kernel_rfl) (by simp) ?_
              refine (AllReadyH.cons rfl (fun K hK => ?_) AllReadyH.nil)
              go_simp
              go_at_call 11
              refine (HREF.out _ HX.out).mono ?_
              rintro e w14 ⟨A5, c5, rfl, O5, E3⟩
              (try dsimp only)
              refine hK.out _ _ (EH.trans E3) (fun hHeld => ?_)
              clear hK K hHeld
              (try simp only [List.getElem_toArray]); (try simp only [List.getElem_cons_succ]); (try simp only [List.getElem_cons_zero]); (try simp only [Act.put]); (try simp only [List.setIfInBounds_toArray]); (try simp only [List.set_cons_succ]); (try simp only [List.set_cons_zero])
              have HX := Lib.hid (HX.out.ext E3)
              have O4 := Lib.hid (O4.out.ext E3)
              have B7 := Lib.hid (B7.out.ext E3)
              have B8 := Lib.hid (B8.out.ext E3)
              have O5 := Lib.hid O5
              have EH := EH.trans E3
              have LB7 := B7.out.lt
              have LB8 := B8.out.lt
              clear E3
              have k7 := B7.out.two
              have C7 := B7.out.put2 (.slice A4 N c4) (.int .i64 nx)
              have C8 := (B8.out.far (p := ⟨n7, 0, none⟩) (fun h => hne h.symm) (.slice A4 N c4)).far (p := ⟨n7, 1, none⟩) (fun h => hne h.symm) (.int .i64 nx)
              have F4 := own_set2 (own_set2 O4.out B7.out (by decide) (.slice A4 N c4) (.int .i64 nx)) C8 (by decide) (.slice A5 N c5) (.int .i64 nx)
              have F5 := own_set2 (own_set2 O5.out B7.out (by decide) (.slice A4 N c4) (.int .i64 nx)) C8 (by decide) (.slice A5 N c5) (.int .i64 nx)
              have EH7 := (EH.setNew (p := ⟨n7, 0, none⟩) hn7W (.slice A4 N c4)).setNew (p := ⟨n7, 1, none⟩) hn7W (.int .i64 nx)
              have k8 := C8.two
              (refine wpAnyH_ready (rs := [7]) (by kernel_rfl) (by simp) ?_; refine AllReadyH.cons rfl (fun K hK => ?_) AllReadyH.nil; go_simp; refine hK.out _ _ EH7 (fun hHeld => ?_); clear hK K; (try simp only [Act.put]); (try simp only [List.getElem_toArray]); (try simp only [List.getElem_cons_succ]); (try simp only [List.getElem_cons_zero]); (try simp only [List.setIfInBounds_toArray]); (try simp only [List.set_cons_succ]); (try simp only [List.set_cons_zero]))
              (refine wpAnyH_ready (rs := [8]) (by kernel_rfl) (by simp) ?_; refine AllReadyH.cons rfl (fun K hK => ?_) AllReadyH.nil; go_simp; refine hK.out _ _ ((EH7.setNew hn8W _).setNew hn8W _) (fun hHeld => ?_); clear hK K; (try simp only [Act.put]); (try simp only [List.getElem_toArray]); (try simp only [List.getElem_cons_succ]); (try simp only [List.getElem_cons_zero]); (try simp only [List.setIfInBounds_toArray]); (try simp only [List.set_cons_succ]); (try simp only [List.set_cons_zero]))
              refine wpAnyH_done (by kernel_rfl) ?_ _
              go_wp2_with fail
              go_meet
              exact ⟨n7, n8, A4, A5, c4, c5, rfl, rfl, Lib.hid ((C7.far (p := ⟨n8, 0, none⟩) hne _).far (p := ⟨n8, 1, none⟩) hne _), Lib.hid (C8.put2 _ _), Lib.hid (rdy_pr F4.y), Lib.hid (rdy_pr F5.y), hHeld⟩
          ·
            go_simp
            refine hK.out _ _ (EH.alloc _) (fun hHeld => ?_)
            clear hK K hHeld
            (try simp only [List.getElem_toArray]); (try simp only [List.getElem_cons_succ]); (try simp only [List.getElem_cons_zero]); (try simp only [Act.put]); (try simp only [List.setIfInBounds_toArray]); (try simp only [List.set_cons_succ]); (try simp only [List.set_cons_zero])
            have HX := Lib.hid (HX.out.ext ((Ext.refl _).alloc (.cells #[.slice none 0 0, .int .i64 0] 31)))
            have O4 := Lib.hid (O4.out.ext ((Ext.refl _).alloc (.cells #[.slice none 0 0, .int .i64 0] 31)))
            have B8 := Lib.hid (Blk.new w11 31 #[.slice none 0 0, .int .i64 0])
            obtain ⟨n8, hn8⟩ : ∃ n8, w11.heap.size = n8 := ⟨_, rfl⟩
            have hn8W : W3.heap.size ≤ n8 := by rw [← hn8]; exact EH.size
            have EH := EH.alloc (.cells #[.slice none 0 0, .int .i64 0] 31)
            rw [hn8] at B8 ⊢
            clear hn8
            generalize w11.alloc _ = w12 at *
            have LB8 := B8.out.lt
            refine wpAnyH_ready (rs := [4, 5]) (by kernel_rfl) (by simp) ?_
            refine (AllReadyH.cons rfl (fun K hK => ?_) (AllReadyH.cons rfl (fun K hK => ?_) AllReadyH.nil))
            ·
              go_simp
              go_at_call 11
              refine (HREF.out _ HX.out).mono ?_
              rintro e w13 ⟨A5, c5, rfl, O5, E3⟩
              (try dsimp only)
              refine hK.out _ _ (EH.trans E3) (fun hHeld => ?_)
              clear hK K hHeld
              (try simp only [List.getElem_toArray]); (try simp only [List.getElem_cons_succ]); (try simp only [List.getElem_cons_zero]); (try simp only [Act.put]); (try simp only [List.setIfInBounds_toArray]); (try simp only [List.set_cons_succ]); (try simp only [List.set_cons_zero])
              have HX := Lib.hid (HX.out.ext E3)
              have O4 := Lib.hid (O4.out.ext E3)
              have B8 := Lib.hid (B8.out.ext E3)
              have O5 := Lib.hid O5
              have EH := EH.trans E3
              have LB8 := B8.out.lt
              clear E3
              refine wpAnyH_ready (rs := [5]) (by kernel_rfl) (by simp) ?_
              refine (AllReadyH.cons rfl (fun K hK => ?_) AllReadyH.nil)
              go_simp
              refine hK.out _ _ (EH.alloc _) (fun hHeld => ?_)
              clear hK K hHeld
              (try simp only [List.getElem_toArray]); (try simp only [List.getElem_cons_succ]); (try simp only [List.getElem_cons_zero]); (try simp only [Act.put]); (try simp only [List.setIfInBounds_toArray]); (try simp only [List.set_cons_succ]); (try simp only [List.set_cons_zero])
              have HX := Lib.hid (HX.out.ext ((Ext.refl _).alloc (.cells #[.slice none 0 0, .int .i64 0] 29)))
              have O4 := Lib.hid (O4.out.ext ((Ext.refl _).alloc (.cells #[.slice none 0 0, .int .i64 0] 29)))
              have B8 := Lib.hid (B8.out.ext ((Ext.refl _).alloc (.cells #[.slice none 0 0, .int .i64 0] 29)))
              have O5 := Lib.hid (O5.out.ext ((Ext.refl _).alloc (.cells #[.slice none 0 0, .int .i64 0] 29)))
              have B7 := Lib.hid (Blk.new w13 29 #[.slice none 0 0, .int .i64 0])
              obtain ⟨n7, hn7⟩ : ∃ n7, w13.heap.size = n7 := ⟨_, rfl⟩
              have hn7W : W3.heap.size ≤ n7 := by rw [← hn7]; exact EH.size
              have EH := EH.alloc (.cells #[.slice none 0 0, .int .i64 0] 29)
              rw [hn7] at B7 ⊢
              have hne : n7 ≠ n8 := by have := LB8; omega
              clear hn7
              generalize w13.alloc _ = w14 at *
              have LB7 := B7.out.lt
              have k7 := B7.out.two
              have C7 := B7.out.put2 (.slice A4 N c4) (.int .i64 nx)
              have C8 := (B8.out.far (p := ⟨n7, 0, none⟩) (fun h => hne h.symm) (.slice A4 N c4)).far (p := ⟨n7, 1, none⟩) (fun h => hne h.symm) (.int .i64 nx)
              have F4 := own_set2 (own_set2 O4.out B7.out (by decide) (.slice A4 N c4) (.int .i64 nx)) C8 (by decide) (.slice A5 N c5) (.int .i64 nx)
              have F5 := own_set2 (own_set2 O5.out B7.out (by decide) (.slice A4 N c4) (.int .i64 nx)) C8 (by decide) (.slice A5 N c5) (.int .i64 nx)
              have EH7 := (EH.setNew (p := ⟨n7, 0, none⟩) hn7W (.slice A4 N c4)).setNew (p := ⟨n7, 1, none⟩) hn7W (.int .i64 nx)
              have k8 := C8.two
              (refine wpAnyH_ready (rs := [7]) (by kernel_rfl) (by simp) ?_; refine AllReadyH.cons rfl (fun K hK => ?_) AllReadyH.nil; go_simp; refine hK.out _ _ EH7 (fun hHeld => ?_); clear hK K; (try simp only [Act.put]); (try simp only [List.getElem_toArray]); (try simp only [List.getElem_cons_succ]); (try simp only [List.getElem_cons_zero]); (try simp only [List.setIfInBounds_toArray]); (try simp only [List.set_cons_succ]); (try simp only [List.set_cons_zero]))
              (refine wpAnyH_ready (rs := [8]) (by kernel_rfl) (by simp) ?_; refine AllReadyH.cons rfl (fun K hK => ?_) AllReadyH.nil; go_simp; refine hK.out _ _ ((EH7.setNew hn8W _).setNew hn8W _) (fun hHeld => ?_); clear hK K; (try simp only [Act.put]); (try simp only [List.getElem_toArray]); (try simp only [List.getElem_cons_succ]); (try simp only [List.getElem_cons_zero]); (try simp only [List.setIfInBounds_toArray]); (try simp only [List.set_cons_succ]); (try simp only [List.set_cons_zero]))
              refine wpAnyH_done (by kernel_rfl) ?_ _
              go_wp2_with fail
              go_meet
              exact ⟨n7, n8, A4, A5, c4, c5, rfl, rfl, Lib.hid ((C7.far (p := ⟨n8, 0, none⟩) hne _).far (p := ⟨n8, 1, none⟩) hne _), Lib.hid (C8.put2 _ _), Lib.hid (rdy_pr F4.y), Lib.hid (rdy_pr F5.y), hHeld⟩
            ·
              go_simp
              refine hK.out _ _ (EH.alloc _) (fun hHeld => ?_)
              clear hK K hHeld
              (try simp only [List.getElem_toArray]); (try simp only [List.getElem_cons_succ]); (try simp only [List.getElem_cons_zero]); (try simp only [Act.put]); (try simp only [List.setIfInBounds_toArray]); (try simp only [List.set_cons_succ]); (try simp only [List.set_cons_zero])
              have HX := Lib.hid (HX.out.ext ((Ext.refl _).alloc (.cells #[.slice none 0 0, .int .i64 0] 29)))
              have O4 := Lib.hid (O4.out.ext ((Ext.refl _).alloc (.cells #[.slice none 0 0, .int .i64 0] 29)))
              have B8 := Lib.hid (B8.out.ext ((Ext.refl _).alloc (.cells #[.slice none 0 0, .int .i64 0] 29)))
              have B7 := Lib.hid (Blk.new w12 29 #[.slice none 0 0, .int .i64 0])
              obtain ⟨n7, hn7⟩ : ∃ n7, w12.heap.size = n7 := ⟨_, rfl⟩
              have hn7W : W3.heap.size ≤ n7 := by rw [← hn7]; exact EH.size
              have EH := EH.alloc (.cells #[.slice none 0 0, .int .i64 0] 29)
              rw [hn7] at B7 ⊢
              have hne : n7 ≠ n8 := by have := LB8; omega
              clear hn7
              generalize w12.alloc _ = w13 at *
              have LB7 := B7.out.lt
              refine wpAnyH_ready (rs := [4]) (by kernel_rfl) (by simp) ?_
              refine (AllReadyH.cons rfl (fun K hK => ?_) AllReadyH.nil)
              go_simp
              go_at_call 11
              refine (HREF.out _ HX.out).mono ?_
              rintro e w14 ⟨A5, c5, rfl, O5, E3⟩
              (try dsimp only)
              refine hK.out _ _ (EH.trans E3) (fun hHeld => ?_)
              clear hK K hHeld
              (try simp only [List.getElem_toArray]); (try simp only [List.getElem_cons_succ]); (try simp only [List.getElem_cons_zero]); (try simp only [Act.put]); (try simp only [List.setIfInBounds_toArray]); (try simp only [List.set_cons_succ]); (try simp only [List.set_cons_zero])
              have HX := Lib.hid (HX.out.ext E3)
              have O4 := Lib.hid (O4.out.ext E3)
              have B8 := Lib.hid (B8.out.ext E3)
              have B7 := Lib.hid (B7.out.ext E3)
              have O5 := Lib.hid O5
              have EH := EH.trans E3
              have LB7 := B7.out.lt
              have LB8 := B8.out.lt
              clear E3
              have k7 := B7.out.two
              have C7 := B7.out.put2 (.slice A4 N c4) (.int .i64 nx)
              have C8 := (B8.out.far (p := ⟨n7, 0, none⟩) (fun h => hne h.symm) (.slice A4 N c4)).far (p := ⟨n7, 1, none⟩) (fun h => hne h.symm) (.int .i64 nx)
              have F4 := own_set2 (own_set2 O4.out B7.out (by decide) (.slice A4 N c4) (.int .i64 nx)) C8 (by decide) (.slice A5 N c5) (.int .i64 nx)
              have F5 := own_set2 (own_set2 O5.out B7.out (by decide) (.slice A4 N c4) (.int .i64 nx)) C8 (by decide) (.slice A5 N c5) (.int .i64 nx)
              have EH7 := (EH.setNew (p := ⟨n7, 0, none⟩) hn7W (.slice A4 N c4)).setNew (p := ⟨n7, 1, none⟩) hn7W (.int .i64 nx)
              have k8 := C8.two
              (refine wpAnyH_ready (rs := [7]) (by kernel_rfl) (by simp) ?_; refine AllReadyH.cons rfl (fun K hK => ?_) AllReadyH.nil; go_simp; refine hK.out _ _ EH7 (fun hHeld => ?_); clear hK K; (try simp only [Act.put]); (try simp only [List.getElem_toArray]); (try simp only [List.getElem_cons_succ]); (try simp only [List.getElem_cons_zero]); (try simp only [List.setIfInBounds_toArray]); (try simp only [List.set_cons_succ]); (try simp only [List.set_cons_zero]))
              (refine wpAnyH_ready (rs := [8]) (by kernel_rfl) (by simp) ?_; refine AllReadyH.cons rfl (fun K hK => ?_) AllReadyH.nil; go_simp; refine hK.out _ _ ((EH7.setNew hn8W _).setNew hn8W _) (fun hHeld => ?_); clear hK K; (try simp only [Act.put]); (try simp only [List.getElem_toArray]); (try simp only [List.getElem_cons_succ]); (try simp only [List.getElem_cons_zero]); (try simp only [List.setIfInBounds_toArray]); (try simp only [List.set_cons_succ]); (try simp only [List.set_cons_zero]))
              refine wpAnyH_done (by kernel_rfl) ?_ _
              go_wp2_with fail
              go_meet
              exact ⟨n7, n8, A4, A5, c4, c5, rfl, rfl, Lib.hid ((C7.far (p := ⟨n8, 0, none⟩) hne _).far (p := ⟨n8, 1, none⟩) hne _), Lib.hid (C8.put2 _ _), Lib.hid (rdy_pr F4.y), Lib.hid (rdy_pr F5.y), hHeld⟩
        ·
          go_simp
          refine hK.out _ _ (EH.alloc _) (fun hHeld => ?_)
          clear hK K hHeld
          (try simp only [List.getElem_toArray]); (try simp only [List.getElem_cons_succ]); (try simp only [List.getElem_cons_zero]); (try simp only [Act.put]); (try simp only [List.setIfInBounds_toArray]); (try simp only [List.set_cons_succ]); (try simp only [List.set_cons_zero])
          have HX := Lib.hid (HX.out.ext ((Ext.refl _).alloc (.cells #[.slice none 0 0, .int .i64 0] 29)))
          have O3 := Lib.hid (O3.out.ext ((Ext.refl _).alloc (.cells #[.slice none 0 0, .int .i64 0] 29)))
          have B7 := Lib.hid (Blk.new w10 29 #[.slice none 0 0, .int .i64 0])
          obtain ⟨n7, hn7⟩ : ∃ n7, w10.heap.size = n7 := ⟨_, rfl⟩
          have hn7W : W3.heap.size ≤ n7 := by rw [← hn7]; exact EH.size
          have EH := EH.alloc (.cells #[.slice none 0 0, .int .i64 0] 29)
          rw [hn7] at B7 ⊢
          clear hn7
          generalize w10.alloc _ = w11 at *
          have LB7 := B7.out.lt
          refine wpAnyH_ready (rs := [2, 6]) (by kernel_rfl) (by simp) ?_
          refine (AllReadyH.cons rfl (fun K hK => ?_) (AllReadyH.cons rfl (fun K hK => ?_) AllReadyH.nil))
          ·
            go_simp
            go_at_call 10
            refine (HTO.out A3 c3 _ (rdy_pr O3.out.y)).mono ?_
            rintro e w12 ⟨A4, c4, rfl, O4, E3⟩
            (try dsimp only)
            refine hK.out _ _ (EH.trans E3) (fun hHeld => ?_)
            clear hK K hHeld
            (try simp only [List.getElem_toArray]); (try simp only [List.getElem_cons_succ]); (try simp only [List.getElem_cons_zero]); (try simp only [Act.put]); (try simp only [List.setIfInBounds_toArray]); (try simp only [List.set_cons_succ]); (try simp only [List.set_cons_zero])
            have HX := Lib.hid (HX.out.ext E3)
            have B7 := Lib.hid (B7.out.ext E3)
            have O4 := Lib.hid O4
            have EH := EH.trans E3
            have LB7 := B7.out.lt
            clear E3
            refine wpAnyH_ready (rs := [4, 6]) (by kernel_rfl) (by simp) ?_
            refine (AllReadyH.cons rfl (fun K hK => ?_) (AllReadyH.cons rfl (fun K hK => ?_) AllReadyH.nil))
            ·
              go_simp
              go_at_call 11
              refine (HREF.out _ HX.out).mono ?_
              rintro e w13 ⟨A5, c5, rfl, O5, E3⟩
              (try dsimp only)
              refine hK.out _ _ (EH.trans E3) (fun hHeld => ?_)
              clear hK K hHeld
              (try simp only [List.getElem_toArray]); (try simp only [List.getElem_cons_succ]); (try simp only [List.getElem_cons_zero]); (try simp only [Act.put]); (try simp only [List.setIfInBounds_toArray]); (try simp only [List.set_cons_succ]); (try simp only [List.set_cons_zero])
              have HX := Lib.hid (HX.out.ext E3)
              have B7 := Lib.hid (B7.out.ext E3)
              have O4 := Lib.hid (O4.out.ext E3)
              have O5 := Lib.hid O5
              have EH := EH.trans E3
              have LB7 := B7.out.lt
              clear E3
              refine wpAnyH_ready (rs := [6]) (by kernel_rfl) (by simp) ?_
              refine (AllReadyH.cons rfl (fun K hK => ?_) AllReadyH.nil)
              go_simp
              refine hK.out _ _ (EH.alloc _) (fun hHeld => ?_)
              clear hK K hHeld
              (try simp only [List.getElem_toArray]); (try simp only [List.getElem_cons_succ]); (try simp only [List.getElem_cons_zero]); (try simp only [Act.put]); (try simp only [List.setIfInBounds_toArray]); (try simp only [List.set_cons_succ]); (try simp only [List.set_cons_zero])
              have HX := Lib.hid (HX.out.ext ((Ext.refl _).alloc (.cells #[.slice none 0 0, .int .i64 0] 31)))
              have B7 := Lib.hid (B7.out.ext ((Ext.refl _).alloc (.cells #[.slice none 0 0, .int .i64 0] 31)))
              have O4 := Lib.hid (O4.out.ext ((Ext.refl _).alloc (.cells #[.slice none 0 0, .int .i64 0] 31)))
              have O5 := Lib.hid (O5.out.ext ((Ext.refl _).alloc (.cells #[.slice none 0 0, .int .i64 0] 31)))
              have B8 := Lib.hid (Blk.new w13 31 #[.slice none 0 0, .int .i64 0])
              obtain ⟨n8, hn8⟩ : ∃ n8, w13.heap.size = n8 := ⟨_, rfl⟩
              have hn8W : W3.heap.size ≤ n8 := by rw [← hn8]; exact EH.size
              have EH := EH.alloc (.cells #[.slice none 0 0, .int .i64 0] 31)
              rw [hn8] at B8 ⊢
              have hne : n7 ≠ n8 := by have := LB7; omega
              clear hn8
              generalize w13.alloc _ = w14 at *
              have LB8 := B8.out.lt
              have k7 := B7.out.two
              have C7 := B7.out.put2 (.slice A4 N c4) (.int .i64 nx)
              have C8 := (B8.out.far (p := ⟨n7, 0, none⟩) (fun h => hne h.symm) (.slice A4 N c4)).far (p := ⟨n7, 1, none⟩) (fun h => hne h.symm) (.int .i64 nx)
              have F4 := own_set2 (own_set2 O4.out B7.out (by decide) (.slice A4 N c4) (.int .i64 nx)) C8 (by decide) (.slice A5 N c5) (.int .i64 nx)
              have F5 := own_set2 (own_set2 O5.out B7.out (by decide) (.slice A4 N c4) (.int .i64 nx)) C8 (by decide) (.slice A5 N c5) (.int .i64 nx)
              have EH7 := (EH.setNew (p := ⟨n7, 0, none⟩) hn7W (.slice A4 N c4)).setNew (p := ⟨n7, 1, none⟩) hn7W (.int .i64 nx)
              have k8 := C8.two
              (refine wpAnyH_ready (rs := [7]) (by kernel_rfl) (by simp) ?_; refine AllReadyH.cons rfl (fun K hK => ?_) AllReadyH.nil; go_simp; refine hK.out _ _ EH7 (fun hHeld => ?_); clear hK K; (try simp only [Act.put]); (try simp only [List.getElem_toArray]); (try simp only [List.getElem_cons_succ]); (try simp only [List.getElem_cons_zero]); (try simp only [List.setIfInBounds_toArray]); (try simp only [List.set_cons_succ]); (try simp only [List.set_cons_zero]))
              (refine wpAnyH_ready (rs := [8]) (by kernel_rfl) (by simp) ?_; refine AllReadyH.cons rfl (fun K hK => ?_) AllReadyH.nil; go_simp; refine hK.out _ _ ((EH7.setNew hn8W _).setNew hn8W _) (fun hHeld => ?_); clear hK K; (try simp only [Act.put]); (try simp only [List.getElem_toArray]); (try simp only [List.getElem_cons_succ]); (try simp only [List.getElem_cons_zero]); (try simp only [List.setIfInBounds_toArray]); (try simp only [List.set_cons_succ]); (try simp only [List.set_cons_zero]))
              refine wpAnyH_done (by kernel_rfl) ?_ _
              go_wp2_with fail
              go_meet
              exact ⟨n7, n8, A4, A5, c4, c5, rfl, rfl, Lib.hid ((C7.far (p := ⟨n8, 0, none⟩) hne _).far (p := ⟨n8, 1, none⟩) hne _), Lib.hid (C8.put2 _ _), Lib.hid (rdy_pr F4.y), Lib.hid (rdy_pr F5.y), hHeld⟩
            ·
              go_simp
              refine hK.out _ _ (EH.alloc _) (fun hHeld => ?_)
              clear hK K hHeld
              (try simp only [List.getElem_toArray]); (try simp only [List.getElem_cons_succ]); (try simp only [List.getElem_cons_zero]); (try simp only [Act.put]); (try simp only [List.setIfInBounds_toArray]); (try simp only [List.set_cons_succ]); (try simp only [List.set_cons_zero])
              have HX := Lib.hid (HX.out.ext ((Ext.refl _).alloc (.cells #[.slice none 0 0, .int .i64 0] 31)))
              have B7 := Lib.hid (B7.out.ext ((Ext.refl _).alloc (.cells #[.slice none 0 0, .int .i64 0] 31)))
              have O4 := Lib.hid (O4.out.ext ((Ext.refl _).alloc (.cells #[.slice none 0 0, .int .i64 0] 31)))
              have B8 := Lib.hid (Blk.new w12 31 #[.slice none 0 0, .int .i64 0])
              obtain ⟨n8, hn8⟩ : ∃ n8, w12.heap.size = n8 := ⟨_, rfl⟩
              have hn8W : W3.heap.size ≤ n8 := by rw [← hn8]; exact EH.size
              have EH := EH.alloc (.cells #[.slice none 0 0, .int .i64 0] 31)
              rw [hn8] at B8 ⊢
              have hne : n7 ≠ n8 := by have := LB7; omega
              clear hn8
              generalize w12.alloc _ = w13 at *
              have LB8 := B8.out.lt
              refine wpAnyH_ready (rs := [4]) (by kernel_rfl) (by simp) ?_
              refine (AllReadyH.cons rfl (fun K hK => ?_) AllReadyH.nil)
              go_simp
              go_at_call 11
              refine (HREF.out _ HX.out).mono ?_
              rintro e w14 ⟨A5, c5, rfl, O5, E3⟩
              (try dsimp only)
              refine hK.out _ _ (EH.trans E3) (fun hHeld => ?_)
              clear hK K hHeld
              (try simp only [List.getElem_toArray]); (try simp only [List.getElem_cons_succ]); (try simp only [List.getElem_cons_zero]); (try simp only [Act.put]); (try simp only [List.setIfInBounds_toArray]); (try simp only [List.set_cons_succ]); (try simp only [List.set_cons_zero])
              have HX := Lib.hid (HX.out.ext E3)
              have B7 := Lib.hid (B7.out.ext E3)
              have O4 := Lib.hid (O4.out.ext E3)
              have B8 := Lib.hid (B8.out.ext E3)
              have O5 := Lib.hid O5
              have EH := EH.trans E3
              have LB7 := B7.out.lt
              have LB8 := B8.out.lt
              clear E3
              have k7 := B7.out.two
              have C7 := B7.out.put2 (.slice A4 N c4) (.int .i64 nx)
              have C8 := (B8.out.far (p := ⟨n7, 0, none⟩) (fun h => hne h.symm) (.slice A4 N c4)).far (p := ⟨n7, 1, none⟩) (fun h => hne h.symm) (.int .i64 nx)
              have F4 := own_set2 (own_set2 O4.out B7.out (by decide) (.slice A4 N c4) (.int .i64 nx)) C8 (by decide) (.slice A5 N c5) (.int .i64 nx)
              have F5 := own_set2 (own_set2 O5.out B7.out (by decide) (.slice A4 N c4) (.int .i64 nx)) C8 (by decide) (.slice A5 N c5) (.int .i64 nx)
              have EH7 := (EH.setNew (p := ⟨n7, 0, none⟩) hn7W (.slice A4 N c4)).setNew (p := ⟨n7, 1, none⟩) hn7W (.int .i64 nx)
              have k8 := C8.two
              (refine wpAnyH_ready (rs := [7]) (by kernel_rfl) (by simp) ?_; refine AllReadyH.cons rfl (fun K hK => ?_) AllReadyH.nil; go_simp; refine hK.out _ _ EH7 (fun hHeld => ?_); clear hK K; (try simp only [Act.put]); (try simp only [List.getElem_toArray]); (try simp only [List.getElem_cons_succ]); (try simp only [List.getElem_cons_zero]); (try simp only [List.setIfInBounds_toArray]); (try simp only [List.set_cons_succ]); (try simp only [List.set_cons_zero]))
              (refine wpAnyH_ready (rs := [8]) (by kernel_rfl) (by simp) ?_; refine AllReadyH.cons rfl (fun K hK => ?_) AllReadyH.nil; go_simp; refine hK.out _ _ ((EH7.setNew hn8W _).setNew hn8W _) (fun hHeld => ?_); clear hK K; (try simp only [Act.put]); (try simp only [List.getElem_toArray]); (try simp only [List.getElem_cons_succ]); (try simp only [List.getElem_cons_zero]); (try simp only [List.setIfInBounds_toArray]); (try simp only [List.set_cons_succ]); (try simp only [List.set_cons_zero]))
              refine wpAnyH_done (by kernel_rfl) ?_ _
              go_wp2_with fail
              go_meet
              exact ⟨n7, n8, A4, A5, c4, c5, rfl, rfl, Lib.hid ((C7.far (p := ⟨n8, 0, none⟩) hne _).far (p := ⟨n8, 1, none⟩) hne _), Lib.hid (C8.put2 _ _), Lib.hid (rdy_pr F4.y), Lib.hid (rdy_pr F5.y), hHeld⟩
          ·
            go_simp
            refine hK.out _ _ (EH.alloc _) (fun hHeld => ?_)
            clear hK K hHeld
            (try simp only [List.getElem_toArray]); (try simp only [List.getElem_cons_succ]); (try simp only [List.getElem_cons_zero]); (try simp only [Act.put]); (try simp only [List.setIfInBounds_toArray]); (try simp only [List.set_cons_succ]); (try simp only [List.set_cons_zero])
            have HX := Lib.hid (HX.out.ext ((Ext.refl _).alloc (.cells #[.slice none 0 0, .int .i64 0] 31)))
            have O3 := Lib.hid (O3.out.ext ((Ext.refl _).alloc (.cells #[.slice none 0 0, .int .i64 0] 31)))
            have B7 := Lib.hid (B7.out.ext ((Ext.refl _).alloc (.cells #[.slice none 0 0, .int .i64 0] 31)))
            have B8 := Lib.hid (Blk.new w11 31 #[.slice none 0 0, .int .i64 0])
            obtain ⟨n8, hn8⟩ : ∃ n8, w11.heap.size = n8 := ⟨_, rfl⟩
            have hn8W : W3.heap.size ≤ n8 := by rw [← hn8]; exact EH.size
            have EH := EH.alloc (.cells #[.slice none 0 0, .int .i64 0] 31)
            rw [hn8] at B8 ⊢
            have hne : n7 ≠ n8 := by have := LB7; omega
            clear hn8
            generalize w11.alloc _ = w12 at *
            have LB8 := B8.out.lt
            refine wpAnyH_ready (rs := [2]) (by kernel_rfl) (by simp) ?_
            refine (AllReadyH.cons rfl (fun K hK => ?_) AllReadyH.nil)
            go_simp
            go_at_call 10
            refine (HTO.out A3 c3 _ (rdy_pr O3.out.y)).mono ?_
            rintro e w13 ⟨A4, c4, rfl, O4, E3⟩
            (try dsimp only)
            refine hK.out _ _ (EH.trans E3) (fun hHeld => ?_)
            clear hK K hHeld
            (try simp only [List.getElem_toArray]); (try simp only [List.getElem_cons_succ]); (try simp only [List.getElem_cons_zero]); (try simp only [Act.put]); (try simp only [List.setIfInBounds_toArray]); (try simp only [List.set_cons_succ]); (try simp only [List.set_cons_zero])
            have HX := Lib.hid (HX.out.ext E3)
            have B7 := Lib.hid (B7.out.ext E3)
            have B8 := Lib.hid (B8.out.ext E3)
            have O4 := Lib.hid O4
            have EH := EH.trans E3
            have LB7 := B7.out.lt
            have LB8 := B8.out.lt
            clear E3
            refine wpAnyH_ready (rs := [4]) (by kernel_rfl) (by simp) ?_
            refine (AllReadyH.cons rfl (fun K hK => ?_) AllReadyH.nil)
            go_simp
            go_at_call 11
            refine (HREF.out _ HX.out).mono ?_
            rintro e w14 ⟨A5, c5, rfl, O5, E3⟩
            (try dsimp only)
            refine hK.out _ _ (EH.trans E3) (fun hHeld => ?_)
            clear hK K hHeld
            (try simp only [List.getElem_toArray]); (try simp only [List.getElem_cons_succ]); (try simp only [List.getElem_cons_zero]); (try simp only [Act.put]); (try simp only [List.setIfInBounds_toArray]); (try simp only [List.set_cons_succ]); (try simp only [List.set_cons_zero])
            have HX := Lib.hid (HX.out.ext E3)
            have B7 := Lib.hid (B7.out.ext E3)
            have B8 := Lib.hid (B8.out.ext E3)
            have O4 := Lib.hid (O4.out.ext E3)
            have O5 := Lib.hid O5
            have EH := EH.trans E3
            have LB7 := B7.out.lt
            have LB8 := B8.out.lt
            clear E3
            have k7 := B7.out.two
            have C7 := B7.out.put2 (.slice A4 N c4) (.int .i64 nx)
            have C8 := (B8.out.far (p := ⟨n7, 0, none⟩) (fun h => hne h.symm) (.slice A4 N c4)).far (p := ⟨n7, 1, none⟩) (fun h => hne h.symm) (.int .i64 nx)
            have F4 := own_set2 (own_set2 O4.out B7.out (by decide) (.slice A4 N c4) (.int .i64 nx)) C8 (by decide) (.slice A5 N c5) (.int .i64 nx)
            have F5 := own_set2 (own_set2 O5.out B7.out (by decide) (.slice A4 N c4) (.int .i64 nx)) C8 (by decide) (.slice A5 N c5) (.int .i64 nx)
            have EH7 := (EH.setNew (p := ⟨n7, 0, none⟩) hn7W (.slice A4 N c4)).setNew (p := ⟨n7, 1, none⟩) hn7W (.int .i64 nx)
            have k8 := C8.two
            (refine wpAnyH_ready (rs := [7]) (by kernel_rfl) (by simp) ?_; refine AllReadyH.cons rfl (fun K hK => ?_) AllReadyH.nil; go_simp; refine hK.out _ _ EH7 (fun hHeld => ?_); clear hK K; (try simp only [Act.put]); (try simp only [List.getElem_toArray]); (try simp only [List.getElem_cons_succ]); (try simp only [List.getElem_cons_zero]); (try simp only [List.setIfInBounds_toArray]); (try simp only [List.set_cons_succ]); (try simp only [List.set_cons_zero]))
            (refine wpAnyH_ready (rs := [8]) (by kernel_rfl) (by simp) ?_; refine AllReadyH.cons rfl (fun K hK => ?_) AllReadyH.nil; go_simp; refine hK.out _ _ ((EH7.setNew hn8W _).setNew hn8W _) (fun hHeld => ?_); clear hK K; (try simp only [Act.put]); (try simp only [List.getElem_toArray]); (try simp only [List.getElem_cons_succ]); (try simp only [List.getElem_cons_zero]); (try simp only [List.setIfInBounds_toArray]); (try simp only [List.set_cons_succ]); (try simp only [List.set_cons_zero]))
            refine wpAnyH_done (by kernel_rfl) ?_ _
            go_wp2_with fail
            go_meet
            exact ⟨n7, n8, A4, A5, c4, c5, rfl, rfl, Lib.hid ((C7.far (p := ⟨n8, 0, none⟩) hne _).far (p := ⟨n8, 1, none⟩) hne _), Lib.hid (C8.put2 _ _), Lib.hid (rdy_pr F4.y), Lib.hid (rdy_pr F5.y), hHeld⟩
        ·
          go_simp
          refine hK.out _ _ (EH.alloc _) (fun hHeld => ?_)
          clear hK K hHeld
          (try simp only [List.getElem_toArray]); (try simp only [List.getElem_cons_succ]); (try simp only [List.getElem_cons_zero]); (try simp only [Act.put]); (try simp only [List.setIfInBounds_toArray]); (try simp only [List.set_cons_succ]); (try simp only [List.set_cons_zero])
          have HX := Lib.hid (HX.out.ext ((Ext.refl _).alloc (.cells #[.slice none 0 0, .int .i64 0] 31)))
          have O3 := Lib.hid (O3.out.ext ((Ext.refl _).alloc (.cells #[.slice none 0 0, .int .i64 0] 31)))
          have B8 := Lib.hid (Blk.new w10 31 #[.slice none 0 0, .int .i64 0])
          obtain ⟨n8, hn8⟩ : ∃ n8, w10.heap.size = n8 := ⟨_, rfl⟩
          have hn8W : W3.heap.size ≤ n8 := by rw [← hn8]; exact EH.size
          have EH := EH.alloc (.cells #[.slice none 0 0, .int .i64 0] 31)
          rw [hn8] at B8 ⊢
          clear hn8
          generalize w10.alloc _ = w11 at *
          have LB8 := B8.out.lt
          refine wpAnyH_ready (rs := [2, 5]) (by kernel_rfl) (by simp) ?_
          refine (AllReadyH.cons rfl (fun K hK => ?_) (AllReadyH.cons rfl (fun K hK => ?_) AllReadyH.nil))
          ·
            go_simp
            go_at_call 10
            refine (HTO.out A3 c3 _ (rdy_pr O3.out.y)).mono ?_
            rintro e w12 ⟨A4, c4, rfl, O4, E3⟩
            (try dsimp only)
            refine hK.out _ _ (EH.trans E3) (fun hHeld => ?_)
            clear hK K hHeld
            (try simp only [List.getElem_toArray]); (try simp only [List.getElem_cons_succ]); (try simp only [List.getElem_cons_zero]); (try simp only [Act.put]); (try simp only [List.setIfInBounds_toArray]); (try simp only [List.set_cons_succ]); (try simp only [List.set_cons_zero])
            have HX := Lib.hid (HX.out.ext E3)
            have B8 := Lib.hid (B8.out.ext E3)
            have O4 := Lib.hid O4
            have EH := EH.trans E3
            have LB8 := B8.out.lt
            clear E3
            refine wpAnyH_ready (rs := [4, 5]) (by kernel_rfl) (by simp) ?_
            refine (AllReadyH.cons rfl (fun K hK => ?_) (AllReadyH.cons rfl (fun K hK => ?_) AllReadyH.nil))
            ·
              go_simp
              go_at_call 11
              refine (HREF.out _ HX.out).mono ?_
              rintro e w13 ⟨A5, c5, rfl, O5, E3⟩
              (try dsimp only)
              refine hK.out _ _ (EH.trans E3) (fun hHeld => ?_)
              clear hK K hHeld
              (try simp only [List.getElem_toArray]); (try simp only [List.getElem_cons_succ]); (try simp only [List.getElem_cons_zero]); (try simp only [Act.put]); (try simp only [List.setIfInBounds_toArray]); (try simp only [List.set_cons_succ]); (try simp only [List.set_cons_zero])
              have HX := Lib.hid (HX.out.ext E3)
              have B8 := Lib.hid (B8.out.ext E3)
              have O4 := Lib.hid (O4.out.ext E3)
              have O5 := Lib.hid O5
              have EH := EH.trans E3
              have LB8 := B8.out.lt
              clear E3
              refine wpAnyH_ready (rs := [5]) (by kernel_rfl) (by simp) ?_
              refine (AllReadyH.cons rfl (fun K hK => ?_) AllReadyH.nil)
              go_simp
              refine hK.out _ _ (EH.alloc _) (fun hHeld => ?_)
              clear hK K hHeld
              (try simp only [List.getElem_toArray]); (try simp only [List.getElem_cons_succ]); (try simp only [List.getElem_cons_zero]); (try simp only [Act.put]); (try simp only [List.setIfInBounds_toArray]); (try simp only [List.set_cons_succ]); (try simp only [List.set_cons_zero])
              have HX := Lib.hid (HX.out.ext ((Ext.refl _).alloc (.cells #[.slice none 0 0, .int .i64 0] 29)))
              have B8 := Lib.hid (B8.out.ext ((Ext.refl _).alloc (.cells #[.slice none 0 0, .int .i64 0] 29)))
              have O4 := Lib.hid (O4.out.ext ((Ext.refl _).alloc (.cells #[.slice none 0 0, .int .i64 0] 29)))
              have O5 := Lib.hid (O5.out.ext ((Ext.refl _).alloc (.cells #[.slice none 0 0, .int .i64 0] 29)))
              have B7 := Lib.hid (Blk.new w13 29 #[.slice none 0 0, .int .i64 0])
              obtain ⟨n7, hn7⟩ : ∃ n7, w13.heap.size = n7 := ⟨_, rfl⟩
              have hn7W : W3.heap.size ≤ n7 := by rw [← hn7]; exact EH.size
              have EH := EH.alloc (.cells #[.slice none 0 0, .int .i64 0] 29)
              rw [hn7] at B7 ⊢
              have hne : n7 ≠ n8 := by have := LB8; omega
              clear hn7
              generalize w13.alloc _ = w14 at *
              have LB7 := B7.out.lt
              have k7 := B7.out.two
              have C7 := B7.out.put2 (.slice A4 N c4) (.int .i64 nx)
              have C8 := (B8.out.far (p := ⟨n7, 0, none⟩) (fun h => hne h.symm) (.slice A4 N c4)).far (p := ⟨n7, 1, none⟩) (fun h => hne h.symm) (.int .i64 nx)
              have F4 := own_set2 (own_set2 O4.out B7.out (by decide) (.slice A4 N c4) (.int .i64 nx)) C8 (by decide) (.slice A5 N c5) (.int .i64 nx)
              have F5 := own_set2 (own_set2 O5.out B7.out (by decide) (.slice A4 N c4) (.int .i64 nx)) C8 (by decide) (.slice A5 N c5) (.int .i64 nx)
              have EH7 := (EH.setNew (p := ⟨n7, 0, none⟩) hn7W (.slice A4 N c4)).setNew (p := ⟨n7, 1, none⟩) hn7W (.int .i64 nx)
              have k8 := C8.two
              (refine wpAnyH_ready (rs := [7]) (by kernel_rfl) (by simp) ?_; refine AllReadyH.cons rfl (fun K hK => ?_) AllReadyH.nil; go_simp; refine hK.out _ _ EH7 (fun hHeld => ?_); clear hK K; (try simp only [Act.put]); (try simp only [List.getElem_toArray]); (try simp only [List.getElem_cons_succ]); (try simp only [List.getElem_cons_zero]); (try simp only [List.setIfInBounds_toArray]); (try simp only [List.set_cons_succ]); (try simp only [List.set_cons_zero]))
              (refine wpAnyH_ready (rs := [8]) (by kernel_rfl) (by simp) ?_; refine AllReadyH.cons rfl (fun K hK => ?_) AllReadyH.nil; go_simp; refine hK.out _ _ ((EH7.setNew hn8W _).setNew hn8W _) (fun hHeld => ?_); clear hK K; (try simp only [Act.put]); (try simp only [List.getElem_toArray]); (try simp only [List.getElem_cons_succ]); (try simp only [List.getElem_cons_zero]); (try simp only [List.setIfInBounds_toArray]); (try simp only [List.set_cons_succ]); (try simp only [List.set_cons_zero]))
              refine wpAnyH_done (by kernel_rfl) ?_ _
              go_wp2_with fail
              go_meet
              exact ⟨n7, n8, A4, A5, c4, c5, rfl, rfl, Lib.hid ((C7.far (p := ⟨n8, 0, none⟩) hne _).far (p := ⟨n8, 1, none⟩) hne _), Lib.hid (C8.put2 _ _), Lib.hid (rdy_pr F4.y), Lib.hid (rdy_pr F5.y), hHeld⟩
            ·
              go_simp
              refine hK.out _ _ (EH.alloc _) (fun hHeld => ?_)
              clear hK K hHeld
              (try simp only [List.getElem_toArray]); (try simp only [List.getElem_cons_succ]); (try simp only [List.getElem_cons_zero]); (try simp only [Act.put]); (try simp only [List.setIfInBounds_toArray]); (try simp only [List.set_cons_succ]); (try simp only [List.set_cons_zero])
              have HX := Lib.hid (HX.out.ext ((Ext.refl _).alloc (.cells #[.slice none 0 0, .int .i64 0] 29)))
              have B8 := Lib.hid (B8.out.ext ((Ext.refl _).alloc (.cells #[.slice none 0 0, .int .i64 0] 29)))
              have O4 := Lib.hid (O4.out.ext ((Ext.refl _).alloc (.cells #[.slice none 0 0, .int .i64 0] 29)))
              have B7 := Lib.hid (Blk.new w12 29 #[.slice none 0 0, .int .i64 0])
              obtain ⟨n7, hn7⟩ : ∃ n7, w12.heap.size = n7 := ⟨_, rfl⟩
              have hn7W : W3.heap.size ≤ n7 := by rw [← hn7]; exact EH.size
              have EH := EH.alloc (.cells #[.slice none 0 0, .int .i64 0] 29)
              rw [hn7] at B7 ⊢
              have hne : n7 ≠ n8 := by have := LB8; omega
              clear hn7
              generalize w12.alloc _ = w13 at *
              have LB7 := B7.out.lt
              refine wpAnyH_ready (rs := [4]) (by kernel_rfl) (by simp) ?_
              refine (AllReadyH.cons rfl (fun K hK => ?_) AllReadyH.nil)
              go_simp
              go_at_call 11
              refine (HREF.out _ HX.out).mono ?_
              rintro e w14 ⟨A5, c5, rfl, O5, E3⟩
              (try dsimp only)
              refine hK.out _ _ (EH.trans E3) (fun hHeld => ?_)
              clear hK K hHeld
              (try simp only [List.getElem_toArray]); (try simp only [List.getElem_cons_succ]); (try simp only [List.getElem_cons_zero]); (try simp only [Act.put]); (try simp only [List.setIfInBounds_toArray]); (try simp only [List.set_cons_succ]); (try simp only [List.set_cons_zero])
              have HX := Lib.hid (HX.out.ext E3)
              have B8 := Lib.hid (B8.out.ext E3)
              have O4 := Lib.hid (O4.out.ext E3)
              have B7 := Lib.hid (B7.out.ext E3)
              have O5 := Lib.hid O5
              have EH := EH.trans E3
              have LB7 := B7.out.lt
              have LB8 := B8.out.lt
              clear E3
              have k7 := B7.out.two
              have C7 := B7.out.put2 (.slice A4 N c4) (.int .i64 nx)
              have C8 := (B8.out.far (p := ⟨n7, 0, none⟩) (fun h => hne h.symm) (.slice A4 N c4)).far (p := ⟨n7, 1, none⟩) (fun h => hne h.symm) (.int .i64 nx)
              have F4 := own_set2 (own_set2 O4.out B7.out (by decide) (.slice A4 N c4) (.int .i64 nx)) C8 (by decide) (.slice A5 N c5) (.int .i64 nx)
              have F5 := own_set2 (own_set2 O5.out B7.out (by decide) (.slice A4 N c4) (.int .i64 nx)) C8 (by decide) (.slice A5 N c5) (.int .i64 nx)
              have EH7 := (EH.setNew (p := ⟨n7, 0, none⟩) hn7W (.slice A4 N c4)).setNew (p := ⟨n7, 1, none⟩) hn7W (.int .i64 nx)
              have k8 := C8.two
              (refine wpAnyH_ready (rs := [7]) (by kernel_rfl) (by simp) ?_; refine AllReadyH.cons rfl (fun K hK => ?_) AllReadyH.nil; go_simp; refine hK.out _ _ EH7 (fun hHeld => ?_); clear hK K; (try simp only [Act.put]); (try simp only [List.getElem_toArray]); (try simp only [List.getElem_cons_succ]); (try simp only [List.getElem_cons_zero]); (try simp only [List.setIfInBounds_toArray]); (try simp only [List.set_cons_succ]); (try simp only [List.set_cons_zero]))
              (refine wpAnyH_ready (rs := [8]) (by kernel_rfl) (by simp) ?_; refine AllReadyH.cons rfl (fun K hK => ?_) AllReadyH.nil; go_simp; refine hK.out _ _ ((EH7.setNew hn8W _).setNew hn8W _) (fun hHeld => ?_); clear hK K; (try simp only [Act.put]); (try simp only [List.getElem_toArray]); (try simp only [List.getElem_cons_succ]); (try simp only [List.getElem_cons_zero]); (try simp only [List.setIfInBounds_toArray]); (try simp only [List.set_cons_succ]); (try simp only [List.set_cons_zero]))
              refine wpAnyH_done (by kernel_rfl) ?_ _
              go_wp2_with fail
              go_meet
              exact ⟨n7, n8, A4, A5, c4, c5, rfl, rfl, Lib.hid ((C7.far (p := ⟨n8, 0, none⟩) hne _).far (p := ⟨n8, 1, none⟩) hne _), Lib.hid (C8.put2 _ _), Lib.hid (rdy_pr F4.y), Lib.hid (rdy_pr F5.y), hHeld⟩
          ·
            go_simp
            refine hK.out _ _ (EH.alloc _) (fun hHeld => ?_)
            clear hK K hHeld
            (try simp only [List.getElem_toArray]); (try simp only [List.getElem_cons_succ]); (try simp only [List.getElem_cons_zero]); (try simp only [Act.put]); (try simp only [List.setIfInBounds_toArray]); (try simp only [List.set_cons_succ]); (try simp only [List.set_cons_zero])
            have HX := Lib.hid (HX.out.ext ((Ext.refl _).alloc (.cells #[.slice none 0 0, .int .i64 0] 29)))
            have O3 := Lib.hid (O3.out.ext ((Ext.refl _).alloc (.cells #[.slice none 0 0, .int .i64 0] 29)))
            have B8 := Lib.hid (B8.out.ext ((Ext.refl _).alloc (.cells #[.slice none 0 0, .int .i64 0] 29)))
            have B7 := Lib.hid (Blk.new w11 29 #[.slice none 0 0, .int .i64 0])
            obtain ⟨n7, hn7⟩ : ∃ n7, w11.heap.size = n7 := ⟨_, rfl⟩
            have hn7W : W3.heap.size ≤ n7 := by rw [← hn7]; exact EH.size
            have EH := EH.alloc (.cells #[.slice none 0 0, .int .i64 0] 29)
            rw [hn7] at B7 ⊢
            have hne : n7 ≠ n8 := by have := LB8; omega
            clear hn7
            generalize w11.alloc _ = w12 at *
            have LB7 := B7.out.lt
            refine wpAnyH_ready (rs := [2]) (by kernel_rfl) (by simp) ?_
            refine (AllReadyH.cons rfl (fun K hK => ?_) AllReadyH.nil)
            go_simp
            go_at_call 10
            refine (HTO.out A3 c3 _ (rdy_pr O3.out.y)).mono ?_
            rintro e w13 ⟨A4, c4, rfl, O4, E3⟩
            (try dsimp only)
            refine hK.out _ _ (EH.trans E3) (fun hHeld => ?_)
            clear hK K hHeld
            (try simp only [List.getElem_toArray]); (try simp only [List.getElem_cons_succ]); (try simp only [List.getElem_cons_zero]); (try simp only [Act.put]); (try simp only [List.setIfInBounds_toArray]); (try simp only [List.set_cons_succ]); (try simp only [List.set_cons_zero])
            have HX := Lib.hid (HX.out.ext E3)
            have B8 := Lib.hid (B8.out.ext E3)
            have B7 := Lib.hid (B7.out.ext E3)
            have O4 := Lib.hid O4
            have EH := EH.trans E3
            have LB7 := B7.out.lt
            have LB8 := B8.out.lt
            clear E3
            refine wpAnyH_ready (rs := [4]) (by kernel_rfl) (by simp) ?_
            refine (AllReadyH.cons rfl (fun K hK => ?_) AllReadyH.nil)
            go_simp
            go_at_call 11
            refine (HREF.out _ HX.out).mono ?_
            rintro e w14 ⟨A5, c5, rfl, O5, E3⟩
            (try dsimp only)
            refine hK.out _ _ (EH.trans E3) (fun hHeld => ?_)
            clear hK K hHeld
            (try simp only [List.getElem_toArray]); (try simp only [List.getElem_cons_succ]); (try simp only [List.getElem_cons_zero]); (try simp only [Act.put]); (try simp only [List.setIfInBounds_toArray]); (try simp only [List.set_cons_succ]); (try simp only [List.set_cons_zero])
            have HX := Lib.hid (HX.out.ext E3)
            have B8 := Lib.hid (B8.out.ext E3)
            have B7 := Lib.hid (B7.out.ext E3)
            have O4 := Lib.hid (O4.out.ext E3)
            have O5 := Lib.hid O5
            have EH := EH.trans E3
            have LB7 := B7.out.lt
            have LB8 := B8.out.lt
            clear E3
            have k7 := B7.out.two
            have C7 := B7.out.put2 (.slice A4 N c4) (.int .i64 nx)
            have C8 := (B8.out.far (p := ⟨n7, 0, none⟩) (fun h => hne h.symm) (.slice A4 N c4)).far (p := ⟨n7, 1, none⟩) (fun h => hne h.symm) (.int .i64 nx)
            have F4 := own_set2 (own_set2 O4.out B7.out (by decide) (.slice A4 N c4) (.int .i64 nx)) C8 (by decide) (.slice A5 N c5) (.int .i64 nx)
            have F5 := own_set2 (own_set2 O5.out B7.out (by decide) (.slice A4 N c4) (.int .i64 nx)) C8 (by decide) (.slice A5 N c5) (.int .i64 nx)
            have EH7 := (EH.setNew (p := ⟨n7, 0, none⟩) hn7W (.slice A4 N c4)).setNew (p := ⟨n7, 1, none⟩) hn7W (.int .i64 nx)
            have k8 := C8.two
            (refine wpAnyH_ready (rs := [7]) (by kernel_rfl) (by simp) ?_; refine AllReadyH.cons rfl (fun K hK => ?_) AllReadyH.nil; go_simp; refine hK.out _ _ EH7 (fun hHeld => ?_); clear hK K; (try simp only [Act.put]); (try simp only [List.getElem_toArray]); (try simp only [List.getElem_cons_succ]); (try simp only [List.getElem_cons_zero]); (try simp only [List.setIfInBounds_toArray]); (try simp only [List.set_cons_succ]); (try simp only [List.set_cons_zero]))
            (refine wpAnyH_ready (rs := [8]) (by kernel_rfl) (by simp) ?_; refine AllReadyH.cons rfl (fun K hK => ?_) AllReadyH.nil; go_simp; refine hK.out _ _ ((EH7.setNew hn8W _).setNew hn8W _) (fun hHeld => ?_); clear hK K; (try simp only [Act.put]); (try simp only [List.getElem_toArray]); (try simp only [List.getElem_cons_succ]); (try simp only [List.getElem_cons_zero]); (try simp only [List.setIfInBounds_toArray]); (try simp only [List.set_cons_succ]); (try simp only [List.set_cons_zero]))
            refine wpAnyH_done (by kernel_rfl) ?_ _
            go_wp2_with fail
            go_meet
            exact ⟨n7, n8, A4, A5, c4, c5, rfl, rfl, Lib.hid ((C7.far (p := ⟨n8, 0, none⟩) hne _).far (p := ⟨n8, 1, none⟩) hne _), Lib.hid (C8.put2 _ _), Lib.hid (rdy_pr F4.y), Lib.hid (rdy_pr F5.y), hHeld⟩
      ·
        go_simp
        refine hK.out _ _ (EH.alloc _) (fun hHeld => ?_)
        clear hK K hHeld
        (try simp only [List.getElem_toArray]); (try simp only [List.getElem_cons_succ]); (try simp only [List.getElem_cons_zero]); (try simp only [Act.put]); (try simp only [List.setIfInBounds_toArray]); (try simp only [List.set_cons_succ]); (try simp only [List.set_cons_zero])
        have HX := Lib.hid (HX.out.ext ((Ext.refl _).alloc (.cells #[.slice none 0 0, .int .i64 0] 29)))
        have B7 := Lib.hid (Blk.new w0 29 #[.slice none 0 0, .int .i64 0])
        obtain ⟨n7, hn7⟩ : ∃ n7, w0.heap.size = n7 := ⟨_, rfl⟩
        have hn7W : W3.heap.size ≤ n7 := by rw [← hn7]; exact EH.size
        have EH := EH.alloc (.cells #[.slice none 0 0, .int .i64 0] 29)
        rw [hn7] at B7 ⊢
        clear hn7
        generalize w0.alloc _ = w10 at *
        have LB7 := B7.out.lt
        refine wpAnyH_ready (rs := [1, 6]) (by kernel_rfl) (by simp) ?_
        refine (AllReadyH.cons rfl (fun K hK => ?_) (AllReadyH.cons rfl (fun K hK => ?_) AllReadyH.nil))
        ·
          go_simp
          go_at_call 11
          refine (HREF.out _ HX.out).mono ?_
          rintro e w11 ⟨A3, c3, rfl, O3, E3⟩
          (try dsimp only)
          refine hK.out _ _ (EH.trans E3) (fun hHeld => ?_)
          clear hK K hHeld
          (try simp only [List.getElem_toArray]); (try simp only [List.getElem_cons_succ]); (try simp only [List.getElem_cons_zero]); (try simp only [Act.put]); (try simp only [List.setIfInBounds_toArray]); (try simp only [List.set_cons_succ]); (try simp only [List.set_cons_zero])
          have HX := Lib.hid (HX.out.ext E3)
          have B7 := Lib.hid (B7.out.ext E3)
          have O3 := Lib.hid O3
          have EH := EH.trans E3
          have LB7 := B7.out.lt
          clear E3
          refine wpAnyH_ready (rs := [2, 6]) (by kernel_rfl) (by simp) ?_
          refine (AllReadyH.cons rfl (fun K hK => ?_) (AllReadyH.cons rfl (fun K hK => ?_) AllReadyH.nil))
          ·
            go_simp
            go_at_call 10
            refine (HTO.out A3 c3 _ (rdy_pr O3.out.y)).mono ?_
            rintro e w12 ⟨A4, c4, rfl, O4, E3⟩
            (try dsimp only)
            refine hK.out _ _ (EH.trans E3) (fun hHeld => ?_)
            clear hK K hHeld
            (try simp only [List.getElem_toArray]); (try simp only [List.getElem_cons_succ]); (try simp only [List.getElem_cons_zero]); (try simp only [Act.put]); (try simp only [List.setIfInBounds_toArray]); (try simp only [List.set_cons_succ]); (try simp only [List.set_cons_zero])
            have HX := Lib.hid (HX.out.ext E3)
            have B7 := Lib.hid (B7.out.ext E3)
            have O4 := Lib.hid O4
            have EH := EH.trans E3
            have LB7 := B7.out.lt
            clear E3
            refine wpAnyH_ready (rs := [4, 6]) (by kernel_rfl) (by simp) ?_
            refine (AllReadyH.cons rfl (fun K hK => ?_) (AllReadyH.cons rfl (fun K hK => ?_) AllReadyH.nil))
            ·
              go_simp
              go_at_call 11
              refine (HREF.out _ HX.out).mono ?_
              rintro e w13 ⟨A5, c5, rfl, O5, E3⟩
              (try dsimp only)
              refine hK.out _ _ (EH.trans E3) (fun hHeld => ?_)
              clear hK K hHeld
              (try simp only [List.getElem_toArray]); (try simp only [List.getElem_cons_succ]); (try simp only [List.getElem_cons_zero]); (try simp only [Act.put]); (try simp only [List.setIfInBounds_toArray]); (try simp only [List.set_cons_succ]); (try simp only [List.set_cons_zero])
              have HX := Lib.hid (HX.out.ext E3)
              have B7 := Lib.hid (B7.out.ext E3)
              have O4 := Lib.hid (O4.out.ext E3)
              have O5 := Lib.hid O5
              have EH := EH.trans E3
              have LB7 := B7.out.lt
              clear E3
              refine wpAnyH_ready (rs := [6]) (by kernel_rfl) (by simp) ?_
              refine (AllReadyH.cons rfl (fun K hK => ?_) AllReadyH.nil)
              go_simp
              refine hK.out _ _ (EH.alloc _) (fun hHeld => ?_)
              clear hK K hHeld
              (try simp only [List.getElem_toArray]); (try simp only [List.getElem_cons_succ]); (try simp only [List.getElem_cons_zero]); (try simp only [Act.put]); (try simp only [List.setIfInBounds_toArray]); (try simp only [List.set_cons_succ]); (try simp only [List.set_cons_zero])
              have HX := Lib.hid (HX.out.ext ((Ext.refl _).alloc (.cells #[.slice none 0 0, .int .i64 0] 31)))
              have B7 := Lib.hid (B7.out.ext ((Ext.refl _).alloc (.cells #[.slice none 0 0, .int .i64 0] 31)))
              have O4 := Lib.hid (O4.out.ext ((Ext.refl _).alloc (.cells #[.slice none 0 0, .int .i64 0] 31)))
              have O5 := Lib.hid (O5.out.ext ((Ext.refl _).alloc (.cells #[.slice none 0 0, .int .i64 0] 31)))
              have B8 := Lib.hid (Blk.new w13 31 #[.slice none 0 0, .int .i64 0])
              obtain ⟨n8, hn8⟩ : ∃ n8, w13.heap.size = n8 := ⟨_, rfl⟩
              have hn8W : W3.heap.size ≤ n8 := by rw [← hn8]; exact EH.size
              have EH := EH.alloc (.cells #[.slice none 0 0, .int .i64 0] 31)
              rw [hn8] at B8 ⊢
              have hne : n7 ≠ n8 := by have := LB7; omega
              clear hn8
              generalize w13.alloc _ = w14 at *
              have LB8 := B8.out.lt
              have k7 := B7.out.two
              have C7 := B7.out.put2 (.slice A4 N c4) (.int .i64 nx)
              have C8 := (B8.out.far (p := ⟨n7, 0, none⟩) (fun h => hne h.symm) (.slice A4 N c4)).far (p := ⟨n7, 1, none⟩) (fun h => hne h.symm) (.int .i64 nx)
              have F4 := own_set2 (own_set2 O4.out B7.out (by decide) (.slice A4 N c4) (.int .i64 nx)) C8 (by decide) (.slice A5 N c5) (.int .i64 nx)
              have F5 := own_set2 (own_set2 O5.out B7.out (by decide) (.slice A4 N c4) (.int .i64 nx)) C8 (by decide) (.slice A5 N c5) (.int .i64 nx)
              have EH7 := (EH.setNew (p := ⟨n7, 0, none⟩) hn7W (.slice A4 N c4)).setNew (p := ⟨n7, 1, none⟩) hn7W (.int .i64 nx)
              have k8 := C8.two
              (refine wpAnyH_ready (rs := [7]) (by kernel_rfl) (by simp) ?_; refine AllReadyH.cons rfl (fun K hK => ?_) AllReadyH.nil; go_simp; refine hK.out _ _ EH7 (fun hHeld => ?_); clear hK K; (try simp only [Act.put]); (try simp only [List.getElem_toArray]); (try simp only [List.getElem_cons_succ]); (try simp only [List.getElem_cons_zero]); (try simp only [List.setIfInBounds_toArray]); (try simp only [List.set_cons_succ]); (try simp only [List.set_cons_zero]))
              (refine wpAnyH_ready (rs := [8]) (by kernel_rfl) (by simp) ?_; refine AllReadyH.cons rfl (fun K hK => ?_) AllReadyH.nil; go_simp; refine hK.out _ _ ((EH7.setNew hn8W _).setNew hn8W _) (fun hHeld => ?_); clear hK K; (try simp only [Act.put]); (try simp only [List.getElem_toArray]); (try simp only [List.getElem_cons_succ]); (try simp only [List.getElem_cons_zero]); (try simp only [List.setIfInBounds_toArray]); (try simp only [List.set_cons_succ]); (try simp only [List.set_cons_zero]))
              refine wpAnyH_done (by kernel_rfl) ?_ _
              go_wp2_with fail
              go_meet
              exact ⟨n7, n8, A4, A5, c4, c5, rfl, rfl, Lib.hid ((C7.far (p := ⟨n8, 0, none⟩) hne _).far (p := ⟨n8, 1, none⟩) hne _), Lib.hid (C8.put2 _ _), Lib.hid (rdy_pr F4.y), Lib.hid (rdy_pr F5.y), hHeld⟩
            ·
              go_simp
              refine hK.out _ _ (EH.alloc _) (fun hHeld => ?_)
              clear hK K hHeld
              (try simp only [List.getElem_toArray]); (try simp only [List.getElem_cons_succ]); (try simp only [List.getElem_cons_zero]); (try simp only [Act.put]); (try simp only [List.setIfInBounds_toArray]); (try simp only [List.set_cons_succ]); (try simp only [List.set_cons_zero])
              have HX := Lib.hid (HX.out.ext ((Ext.refl _).alloc (.cells #[.slice none 0 0, .int .i64 0] 31)))
              have B7 := Lib.hid (B7.out.ext ((Ext.refl _).alloc (.cells #[.slice none 0 0, .int .i64 0] 31)))
              have O4 := Lib.hid (O4.out.ext ((Ext.refl _).alloc (.cells #[.slice none 0 0, .int .i64 0] 31)))
              have B8 := Lib.hid (Blk.new w12 31 #[.slice none 0 0, .int .i64 0])
              obtain ⟨n8, hn8⟩ : ∃ n8, w12.heap.size = n8 := ⟨_, rfl⟩
              have hn8W : W3.heap.size ≤ n8 := by rw [← hn8]; exact EH.size
              have EH := EH.alloc (.cells #[.slice none 0 0, .int .i64 0] 31)
              rw [hn8] at B8 ⊢
              have hne : n7 ≠ n8 := by have := LB7; omega
              clear hn8
              generalize w12.alloc _ = w13 at *
              have LB8 := B8.out.lt
              refine wpAnyH_ready (rs := [4]) (by kernel_rfl) (by simp) ?_
              refine (AllReadyH.cons rfl (fun K hK => ?_) AllReadyH.nil)
              go_simp
              go_at_call 11
              refine (HREF.out _ HX.out).mono ?_
              rintro e w14 ⟨A5, c5, rfl, O5, E3⟩
              (try dsimp only)
              refine hK.out _ _ (EH.trans E3) (fun hHeld => ?_)
              clear hK K hHeld
              (try simp only [List.getElem_toArray]); (try simp only [List.getElem_cons_succ]); (try simp only [List.getElem_cons_zero]); (try simp only [Act.put]); (try simp only [List.setIfInBounds_toArray]); (try simp only [List.set_cons_succ]); (try simp only [List.set_cons_zero])
              have HX := Lib.hid (HX.out.ext E3)
              have B7 := Lib.hid (B7.out.ext E3)
              have O4 := Lib.hid (O4.out.ext E3)
              have B8 := Lib.hid (B8.out.ext E3)
              have O5 := Lib.hid O5
              have EH := EH.trans E3
              have LB7 := B7.out.lt
              have LB8 := B8.out.lt
              clear E3
              have k7 := B7.out.two
              have C7 := B7.out.put2 (.slice A4 N c4) (.int .i64 nx)
              have C8 := (B8.out.far (p := ⟨n7, 0, none⟩) (fun h => hne h.symm) (.slice A4 N c4)).far (p := ⟨n7, 1, none⟩) (fun h => hne h.symm) (.int .i64 nx)
              have F4 := own_set2 (own_set2 O4.out B7.out (by decide) (.slice A4 N c4) (.int .i64 nx)) C8 (by decide) (.slice A5 N c5) (.int .i64 nx)
              have F5 := own_set2 (own_set2 O5.out B7.out (by decide) (.slice A4 N c4) (.int .i64 nx)) C8 (by decide) (.slice A5 N c5) (.int .i64 nx)
              have EH7 := (EH.setNew (p := ⟨n7, 0, none⟩) hn7W (.slice A4 N c4)).setNew (p := ⟨n7, 1, none⟩) hn7W (.int .i64 nx)
              have k8 := C8.two
              (refine wpAnyH_ready (rs := [7]) (by kernel_rfl) (by simp) ?_; refine AllReadyH.cons rfl (fun K hK => ?_) AllReadyH.nil; go_simp; refine hK.out _ _ EH7 (fun hHeld => ?_); clear hK K; (try simp only [Act.put]); (try simp only [List.getElem_toArray]); (try simp only [List.getElem_cons_succ]); (try simp only [List.getElem_cons_zero]); (try simp only [List.setIfInBounds_toArray]); (try simp only [List.set_cons_succ]); (try simp only [List.set_cons_zero]))
              (refine wpAnyH_ready (rs := [8]) (by kernel_rfl) (by simp) ?_; refine AllReadyH.cons rfl (fun K hK => ?_) AllReadyH.nil; go_simp; refine hK.out _ _ ((EH7.setNew hn8W _).setNew hn8W _) (fun hHeld => ?_); clear hK K; (try simp only [Act.put]); (try simp only [List.getElem_toArray]); (try simp only [List.getElem_cons_succ]); (try simp only [List.getElem_cons_zero]); (try simp only [List.setIfInBounds_toArray]); (try simp only [List.set_cons_succ]); (try simp only [List.set_cons_zero]))
              refine wpAnyH_done (by kernel_rfl) ?_ _
              go_wp2_with fail
              go_meet
              exact ⟨n7, n8, A4, A5, c4, c5, rfl, rfl, Lib.hid ((C7.far (p := ⟨n8, 0, none⟩) hne _).far (p := ⟨n8, 1, none⟩) hne _), Lib.hid (C8.put2 _ _), Lib.hid (rdy_pr F4.y), Lib.hid (rdy_pr F5.y), hHeld⟩
          ·
            go_simp
            refine hK.out _ _ (EH.alloc _) (fun hHeld => ?_)
            clear hK K hHeld
            (try simp only [List.getElem_toArray]); (try simp only [List.getElem_cons_succ]); (try simp only [List.getElem_cons_zero]); (try simp only [Act.put]); (try simp only [List.setIfInBounds_toArray]); (try simp only [List.set_cons_succ]); (try simp only [List.set_cons_zero])
            have HX := Lib.hid (HX.out.ext ((Ext.refl _).alloc (.cells #[.slice none 0 0, .int .i64 0] 31)))
            have B7 := Lib.hid (B7.out.ext ((Ext.refl _).alloc (.cells #[.slice none 0 0, .int .i64 0] 31)))
            have O3 := Lib.hid (O3.out.ext ((Ext.refl _).alloc (.cells #[.slice none 0 0, .int .i64 0] 31)))
            have B8 := Lib.hid (Blk.new w11 31 #[.slice none 0 0, .int .i64 0])
            obtain ⟨n8, hn8⟩ : ∃ n8, w11.heap.size = n8 := ⟨_, rfl⟩
            have hn8W : W3.heap.size ≤ n8 := by rw [← hn8]; exact EH.size
            have EH := EH.alloc (.cells #[.slice none 0 0, .int .i64 0] 31)
            rw [hn8] at B8 ⊢
            have hne : n7 ≠ n8 := by have := LB7; omega
            clear hn8
            generalize w11.alloc _ = w12 at *
            have LB8 := B8.out.lt
            refine wpAnyH_ready (rs := [2]) (by kernel_rfl) (by simp) ?_
            refine (AllReadyH.cons rfl (fun K hK => ?_) AllReadyH.nil)
            go_simp
            go_at_call 10
            refine (HTO.out A3 c3 _ (rdy_pr O3.out.y)).mono ?_
            rintro e w13 ⟨A4, c4, rfl, O4, E3⟩
            (try dsimp only)
            refine hK.out _ _ (EH.trans E3) (fun hHeld => ?_)
            clear hK K hHeld
            (try simp only [List.getElem_toArray]); (try simp only [List.getElem_cons_succ]); (try simp only [List.getElem_cons_zero]); (try simp only [Act.put]); (try simp only [List.setIfInBounds_toArray]); (try simp only [List.set_cons_succ]); (try simp only [List.set_cons_zero])
            have HX := Lib.hid (HX.out.ext E3)
            have B7 := Lib.hid (B7.out.ext E3)
            have B8 := Lib.hid (B8.out.ext E3)
            have O4 := Lib.hid O4
            have EH := EH.trans E3
            have LB7 := B7.out.lt
            have LB8 := B8.out.lt
            clear E3
            refine wpAnyH_ready (rs := [4]) (by kernel_rfl) (by simp) ?_
            refine (AllReadyH.cons rfl (fun K hK => ?_) AllReadyH.nil)
            go_simp
            go_at_call 11
            refine (HREF.out _ HX.out).mono ?_
            rintro e w14 ⟨A5, c5, rfl, O5, E3⟩
            (try dsimp only)
            refine hK.out _ _ (EH.trans E3) (fun hHeld => ?_)
            clear hK K hHeld
            (try simp only [List.getElem_toArray]); (try simp only [List.getElem_cons_succ]); (try simp only [List.getElem_cons_zero]); (try simp only [Act.put]); (try simp only [List.setIfInBounds_toArray]); (try simp only [List.set_cons_succ]); (try simp only [List.set_cons_zero])
            have HX := Lib.hid (HX.out.ext E3)
            have B7 := Lib.hid (B7.out.ext E3)
            have B8 := Lib.hid (B8.out.ext E3)
            have O4 := Lib.hid (O4.out.ext E3)
            have O5 := Lib.hid O5
            have EH := EH.trans E3
            have LB7 := B7.out.lt
            have LB8 := B8.out.lt
            clear E3
            have k7 := B7.out.two
            have C7 := B7.out.put2 (.slice A4 N c4) (.int .i64 nx)
            have C8 := (B8.out.far (p := ⟨n7, 0, none⟩) (fun h => hne h.symm) (.slice A4 N c4)).far (p := ⟨n7, 1, none⟩) (fun h => hne h.symm) (.int .i64 nx)
            have F4 := own_set2 (own_set2 O4.out B7.out (by decide) (.slice A4 N c4) (.int .i64 nx)) C8 (by decide) (.slice A5 N c5) (.int .i64 nx)
            have F5 := own_set2 (own_set2 O5.out B7.out (by decide) (.slice A4 N c4) (.int .i64 nx)) C8 (by decide) (.slice A5 N c5) (.int .i64 nx)
            have EH7 := (EH.setNew (p := ⟨n7, 0, none⟩) hn7W (.slice A4 N c4)).setNew (p := ⟨n7, 1, none⟩) hn7W (.int .i64 nx)
            have k8 := C8.two
            (refine wpAnyH_ready (rs := [7]) (by kernel_rfl) (by simp) ?_; refine AllReadyH.cons rfl (fun K hK => ?_) AllReadyH.nil; go_simp; refine hK.out _ _ EH7 (fun hHeld => ?_); clear hK K; (try simp only [Act.put]); (try simp only [List.getElem_toArray]); (try simp only [List.getElem_cons_succ]); (try simp only [List.getElem_cons_zero]); (try simp only [List.setIfInBounds_toArray]); (try simp only [List.set_cons_succ]); (try simp only [List.set_cons_zero]))
            (refine wpAnyH_ready (rs := [8]) (by kernel_rfl) (by simp) ?_; refine AllReadyH.cons rfl (fun K hK => ?_) AllReadyH.nil; go_simp; refine hK.out _ _ ((EH7.setNew hn8W _).setNew hn8W _) (fun hHeld => ?_); clear hK K; (try simp only [Act.put]); (try simp only [List.getElem_toArray]); (try simp only [List.getElem_cons_succ]); (try simp only [List.getElem_cons_zero]); (try simp only [List.setIfInBounds_toArray]); (try simp only [List.set_cons_succ]); (try simp only [List.set_cons_zero]))
            refine wpAnyH_done (by kernel_rfl) ?_ _
            go_wp2_with fail
            go_meet
            exact ⟨n7, n8, A4, A5, c4, c5, rfl, rfl, Lib.hid ((C7.far (p := ⟨n8, 0, none⟩) hne _).far (p := ⟨n8, 1, none⟩) hne _), Lib.hid (C8.put2 _ _), Lib.hid (rdy_pr F4.y), Lib.hid (rdy_pr F5.y), hHeld⟩
        ·
          go_simp
          refine hK.out _ _ (EH.alloc _) (fun hHeld => ?_)
          clear hK K hHeld
          (try simp only [List.getElem_toArray]); (try simp only [List.getElem_cons_succ]); (try simp only [List.getElem_cons_zero]); (try simp only [Act.put]); (try simp only [List.setIfInBounds_toArray]); (try simp only [List.set_cons_succ]); (try simp only [List.set_cons_zero])
          have HX := Lib.hid (HX.out.ext ((Ext.refl _).alloc (.cells #[.slice none 0 0, .int .i64 0] 31)))
          have B7 := Lib.hid (B7.out.ext ((Ext.refl _).alloc (.cells #[.slice none 0 0, .int .i64 0] 31)))
          have B8 := Lib.hid (Blk.new w10 31 #[.slice none 0 0, .int .i64 0])
          obtain ⟨n8, hn8⟩ : ∃ n8, w10.heap.size = n8 := ⟨_, rfl⟩
          have hn8W : W3.heap.size ≤ n8 := by rw [← hn8]; exact EH.size
          have EH := EH.alloc (.cells #[.slice none 0 0, .int .i64 0] 31)
          rw [hn8] at B8 ⊢
          have hne : n7 ≠ n8 := by have := LB7; omega
          clear hn8
          generalize w10.alloc _ = w11 at *
          have LB8 := B8.out.lt
          refine wpAnyH_ready (rs := [1]) (by kernel_rfl) (by simp) ?_
          refine (AllReadyH.cons rfl (fun K hK => ?_) AllReadyH.nil)
          go_simp
          go_at_call 11
          refine (HREF.out _ HX.out).mono ?_
          rintro e w12 ⟨A3, c3, rfl, O3, E3⟩
          (try dsimp only)
          refine hK.out _ _ (EH.trans E3) (fun hHeld => ?_)
          clear hK K hHeld
          (try simp only [List.getElem_toArray]); (try simp only [List.getElem_cons_succ]); (try simp only [List.getElem_cons_zero]); (try simp only [Act.put]); (try simp only [List.setIfInBounds_toArray]); (try simp only [List.set_cons_succ]); (try simp only [List.set_cons_zero])
          have HX := Lib.hid (HX.out.ext E3)
          have B7 := Lib.hid (B7.out.ext E3)
          have B8 := Lib.hid (B8.out.ext E3)
          have O3 := Lib.hid O3
          have EH := EH.trans E3
          have LB7 := B7.out.lt
          have LB8 := B8.out.lt
          clear E3
          refine wpAnyH_ready (rs := [2]) (by kernel_rfl) (by simp) ?_
          refine (AllReadyH.cons rfl (fun K hK => ?_) AllReadyH.nil)
          go_simp
          go_at_call 10
          refine (HTO.out A3 c3 _ (rdy_pr O3.out.y)).mono ?_
          rintro e w13 ⟨A4, c4, rfl, O4, E3⟩
          (try dsimp only)
          refine hK.out _ _ (EH.trans E3) (fun hHeld => ?_)
          clear hK K hHeld
          (try simp only [List.getElem_toArray]); (try simp only [List.getElem_cons_succ]); (try simp only [List.getElem_cons_zero]); (try simp only [Act.put]); (try simp only [List.setIfInBounds_toArray]); (try simp only [List.set_cons_succ]); (try simp only [List.set_cons_zero])
          have HX := Lib.hid (HX.out.ext E3)
          have B7 := Lib.hid (B7.out.ext E3)
          have B8 := Lib.hid (B8.out.ext E3)
          have O4 := Lib.hid O4
          have EH := EH.trans E3
          have LB7 := B7.out.lt
          have LB8 := B8.out.lt
          clear E3
          refine wpAnyH_ready (rs := [4]) (by kernel_rfl) (by simp) ?_
          refine (AllReadyH.cons rfl (fun K hK => ?_) AllReadyH.nil)
          go_simp
          go_at_call 11
          refine (HREF.out _ HX.out).mono ?_
          rintro e w14 ⟨A5, c5, rfl, O5, E3⟩
          (try dsimp only)
          refine hK.out _ _ (EH.trans E3) (fun hHeld => ?_)
          clear hK K hHeld
          (try simp only [List.getElem_toArray]); (try simp only [List.getElem_cons_succ]); (try simp only [List.getElem_cons_zero]); (try simp only [Act.put]); (try simp only [List.setIfInBounds_toArray]); (try simp only [List.set_cons_succ]); (try simp only [List.set_cons_zero])
          have HX := Lib.hid (HX.out.ext E3)
          have B7 := Lib.hid (B7.out.ext E3)
          have B8 := Lib.hid (B8.out.ext E3)
          have O4 := Lib.hid (O4.out.ext E3)
          have O5 := Lib.hid O5
          have EH := EH.trans E3
          have LB7 := B7.out.lt
          have LB8 := B8.out.lt
          clear E3
          have k7 := B7.out.two
          have C7 := B7.out.put2 (.slice A4 N c4) (.int .i64 nx)
          have C8 := (B8.out.far (p := ⟨n7, 0, none⟩) (fun h => hne h.symm) (.slice A4 N c4)).far (p := ⟨n7, 1, none⟩) (fun h => hne h.symm) (.int .i64 nx)
          have F4 := own_set2 (own_set2 O4.out B7.out (by decide) (.slice A4 N c4) (.int .i64 nx)) C8 (by decide) (.slice A5 N c5) (.int .i64 nx)
          have F5 := own_set2 (own_set2 O5.out B7.out (by decide) (.slice A4 N c4) (.int .i64 nx)) C8 (by decide) (.slice A5 N c5) (.int .i64 nx)
          have EH7 := (EH.setNew (p := ⟨n7, 0, none⟩) hn7W (.slice A4 N c4)).setNew (p := ⟨n7, 1, none⟩) hn7W (.int .i64 nx)
          have k8 := C8.two
          (refine wpAnyH_ready (rs := [7]) (by kernel_rfl) (by simp) ?_; refine AllReadyH.cons rfl (fun K hK => ?_) AllReadyH.nil; go_simp; refine hK.out _ _ EH7 (fun hHeld => ?_); clear hK K; (try simp only [Act.put]); (try simp only [List.getElem_toArray]); (try simp only [List.getElem_cons_succ]); (try simp only [List.getElem_cons_zero]); (try simp only [List.setIfInBounds_toArray]); (try simp only [List.set_cons_succ]); (try simp only [List.set_cons_zero]))
          (refine wpAnyH_ready (rs := [8]) (by kernel_rfl) (by simp) ?_; refine AllReadyH.cons rfl (fun K hK => ?_) AllReadyH.nil; go_simp; refine hK.out _ _ ((EH7.setNew hn8W _).setNew hn8W _) (fun hHeld => ?_); clear hK K; (try simp only [Act.put]); (try simp only [List.getElem_toArray]); (try simp only [List.getElem_cons_succ]); (try simp only [List.getElem_cons_zero]); (try simp only [List.setIfInBounds_toArray]); (try simp only [List.set_cons_succ]); (try simp only [List.set_cons_zero]))
          refine wpAnyH_done (by kernel_rfl) ?_ _
          go_wp2_with fail
          go_meet
          exact ⟨n7, n8, A4, A5, c4, c5, rfl, rfl, Lib.hid ((C7.far (p := ⟨n8, 0, none⟩) hne _).far (p := ⟨n8, 1, none⟩) hne _), Lib.hid (C8.put2 _ _), Lib.hid (rdy_pr F4.y), Lib.hid (rdy_pr F5.y), hHeld⟩
      ·
        go_simp
        refine hK.out _ _ (EH.alloc _) (fun hHeld => ?_)
        clear hK K hHeld
        (try simp only [List.getElem_toArray]); (try simp only [List.getElem_cons_succ]); (try simp only [List.getElem_cons_zero]); (try simp only [Act.put]); (try simp only [List.setIfInBounds_toArray]); (try simp only [List.set_cons_succ]); (try simp only [List.set_cons_zero])
        have HX := Lib.hid (HX.out.ext ((Ext.refl _).alloc (.cells #[.slice none 0 0, .int .i64 0] 31)))
        have B8 := Lib.hid (Blk.new w0 31 #[.slice none 0 0, .int .i64 0])
        obtain ⟨n8, hn8⟩ : ∃ n8, w0.heap.size = n8 := ⟨_, rfl⟩
        have hn8W : W3.heap.size ≤ n8 := by rw [← hn8]; exact EH.size
        have EH := EH.alloc (.cells #[.slice none 0 0, .int .i64 0] 31)
        rw [hn8] at B8 ⊢
        clear hn8
        generalize w0.alloc _ = w10 at *
        have LB8 := B8.out.lt
        refine wpAnyH_ready (rs := [1, 5]) (by kernel_rfl) (by simp) ?_
        refine (AllReadyH.cons rfl (fun K hK => ?_) (AllReadyH.cons rfl (fun K hK => ?_) AllReadyH.nil))
        ·
          go_simp
          go_at_call 11
          refine (HREF.out _ HX.out).mono ?_
          rintro e w11 ⟨A3, c3, rfl, O3, E3⟩
          (try dsimp only)
          refine hK.out _ _ (EH.trans E3) (fun hHeld => ?_)
          clear hK K hHeld
          (try simp only [List.getElem_toArray]); (try simp only [List.getElem_cons_succ]); (try simp only [List.getElem_cons_zero]); (try simp only [Act.put]); (try simp only [List.setIfInBounds_toArray]); (try simp only [List.set_cons_succ]); (try simp only [List.set_cons_zero])
          have HX := Lib.hid (HX.out.ext E3)
          have B8 := Lib.hid (B8.out.ext E3)
          have O3 := Lib.hid O3
          have EH := EH.trans E3
          have LB8 := B8.out.lt
          clear E3
          refine wpAnyH_ready (rs := [2, 5]) (by kernel_rfl) (by simp) ?_
          refine (AllReadyH.cons rfl (fun K hK => ?_) (AllReadyH.cons rfl (fun K hK => ?_) AllReadyH.nil))
          ·
            go_simp
            go_at_call 10
            refine (HTO.out A3 c3 _ (rdy_pr O3.out.y)).mono ?_
            rintro e w12 ⟨A4, c4, rfl, O4, E3⟩
            (try dsimp only)
            refine hK.out _ _ (EH.trans E3) (fun hHeld => ?_)
            clear hK K hHeld
            (try simp only [List.getElem_toArray]); (try simp only [List.getElem_cons_succ]); (try simp only [List.getElem_cons_zero]); (try simp only [Act.put]); (try simp only [List.setIfInBounds_toArray]); (try simp only [List.set_cons_succ]); (try simp only [List.set_cons_zero])
            have HX := Lib.hid (HX.out.ext E3)
            have B8 := Lib.hid (B8.out.ext E3)
            have O4 := Lib.hid O4
            have EH := EH.trans E3
            have LB8 := B8.out.lt
            clear E3
            refine wpAnyH_ready (rs := [4, 5]) (by kernel_rfl) (by simp) ?_
            refine (AllReadyH.cons rfl (fun K hK => ?_) (AllReadyH.cons rfl (fun K hK => ?_) AllReadyH.nil))
            ·
              go_simp
              go_at_call 11
              refine (HREF.out _ HX.out).mono ?_
              rintro e w13 ⟨A5, c5, rfl, O5, E3⟩
              (try dsimp only)
              refine hK.out _ _ (EH.trans E3) (fun hHeld => ?_)
              clear hK K hHeld
              (try simp only [List.getElem_toArray]); (try simp only [List.getElem_cons_succ]); (try simp only [List.getElem_cons_zero]); (try simp only [Act.put]); (try simp only [List.setIfInBounds_toArray]); (try simp only [List.set_cons_succ]); (try simp only [List.set_cons_zero])
              have HX := Lib.hid (HX.out.ext E3)
              have B8 := Lib.hid (B8.out.ext E3)
              have O4 := Lib.hid (O4.out.ext E3)
              have O5 := Lib.hid O5
              have EH := EH.trans E3
              have LB8 := B8.out.lt
              clear E3
              refine wpAnyH_ready (rs := [5]) (by kernel_rfl) (by simp) ?_
              refine (AllReadyH.cons rfl (fun K hK => ?_) AllReadyH.nil)
              go_simp
              refine hK.out _ _ (EH.alloc _) (fun hHeld => ?_)
              clear hK K hHeld
              (try simp only [List.getElem_toArray]); (try simp only [List.getElem_cons_succ]); (try simp only [List.getElem_cons_zero]); (try simp only [Act.put]); (try simp only [List.setIfInBounds_toArray]); (try simp only [List.set_cons_succ]); (try simp only [List.set_cons_zero])
              have HX := Lib.hid (HX.out.ext ((Ext.refl _).alloc (.cells #[.slice none 0 0, .int .i64 0] 29)))
              have B8 := Lib.hid (B8.out.ext ((Ext.refl _).alloc (.cells #[.slice none 0 0, .int .i64 0] 29)))
              have O4 := Lib.hid (O4.out.ext ((Ext.refl _).alloc (.cells #[.slice none 0 0, .int .i64 0] 29)))
              have O5 := Lib.hid (O5.out.ext ((Ext.refl _).alloc (.cells #[.slice none 0 0, .int .i64 0] 29)))
              have B7 := Lib.hid (Blk.new w13 29 #[.slice none 0 0, .int .i64 0])
              obtain ⟨n7, hn7⟩ : ∃ n7, w13.heap.size = n7 := ⟨_, rfl⟩
              have hn7W : W3.heap.size ≤ n7 := by rw [← hn7]; exact EH.size
              have EH := EH.alloc (.cells #[.slice none 0 0, .int .i64 0] 29)
              rw [hn7] at B7 ⊢
              have hne : n7 ≠ n8 := by have := LB8; omega
              clear hn7
              generalize w13.alloc _ = w14 at *
              have LB7 := B7.out.lt
              have k7 := B7.out.two
              have C7 := B7.out.put2 (.slice A4 N c4) (.int .i64 nx)
              have C8 := (B8.out.far (p := ⟨n7, 0, none⟩) (fun h => hne h.symm) (.slice A4 N c4)).far (p := ⟨n7, 1, none⟩) (fun h => hne h.symm) (.int .i64 nx)
              have F4 := own_set2 (own_set2 O4.out B7.out (by decide) (.slice A4 N c4) (.int .i64 nx)) C8 (by decide) (.slice A5 N c5) (.int .i64 nx)
              have F5 := own_set2 (own_set2 O5.out B7.out (by decide) (.slice A4 N c4) (.int .i64 nx)) C8 (by decide) (.slice A5 N c5) (.int .i64 nx)
              have EH7 := (EH.setNew (p := ⟨n7, 0, none⟩) hn7W (.slice A4 N c4)).setNew (p := ⟨n7, 1, none⟩) hn7W (.int .i64 nx)
              have k8 := C8.two
              (refine wpAnyH_ready (rs := [7]) (by kernel_rfl) (by simp) ?_; refine AllReadyH.cons rfl (fun K hK => ?_) AllReadyH.nil; go_simp; refine hK.out _ _ EH7 (fun hHeld => ?_); clear hK K; (try simp only [Act.put]); (try simp only [List.getElem_toArray]); (try simp only [List.getElem_cons_succ]); (try simp only [List.getElem_cons_zero]); (try simp only [List.setIfInBounds_toArray]); (try simp only [List.set_cons_succ]); (try simp only [List.set_cons_zero]))
              (refine wpAnyH_ready (rs := [8]) (by kernel_rfl) (by simp) ?_; refine AllReadyH.cons rfl (fun K hK => ?_) AllReadyH.nil; go_simp; refine hK.out _ _ ((EH7.setNew hn8W _).setNew hn8W _) (fun hHeld => ?_); clear hK K; (try simp only [Act.put]); (try simp only [List.getElem_toArray]); (try simp only [List.getElem_cons_succ]); (try simp only [List.getElem_cons_zero]); (try simp only [List.setIfInBounds_toArray]); (try simp only [List.set_cons_succ]); (try simp only [List.set_cons_zero]))
              refine wpAnyH_done (by kernel_rfl) ?_ _
              go_wp2_with fail
              go_meet
              exact ⟨n7, n8, A4, A5, c4, c5, rfl, rfl, Lib.hid ((C7.far (p := ⟨n8, 0, none⟩) hne _).far (p := ⟨n8, 1, none⟩) hne _), Lib.hid (C8.put2 _ _), Lib.hid (rdy_pr F4.y), Lib.hid (rdy_pr F5.y), hHeld⟩
            ·
              go_simp
              refine hK.out _ _ (EH.alloc _) (fun hHeld => ?_)
              clear hK K hHeld
              (try simp only [List.getElem_toArray]); (try simp only [List.getElem_cons_succ]); (try simp only [List.getElem_cons_zero]); (try simp only [Act.put]); (try simp only [List.setIfInBounds_toArray]); (try simp only [List.set_cons_succ]); (try simp only [List.set_cons_zero])
              have HX := Lib.hid (HX.out.ext ((Ext.refl _).alloc (.cells #[.slice none 0 0, .int .i64 0] 29)))
              have B8 := Lib.hid (B8.out.ext ((Ext.refl _).alloc (.cells #[.slice none 0 0, .int .i64 0] 29)))
              have O4 := Lib.hid (O4.out.ext ((Ext.refl _).alloc (.cells #[.slice none 0 0, .int .i64 0] 29)))
              have B7 := Lib.hid (Blk.new w12 29 #[.slice none 0 0, .int .i64 0])
              obtain ⟨n7, hn7⟩ : ∃ n7, w12.heap.size = n7 := ⟨_, rfl⟩
              have hn7W : W3.heap.size ≤ n7 := by rw [← hn7]; exact EH.size
              have EH := EH.alloc (.cells #[.slice none 0 0, .int .i64 0] 29)
              rw [hn7] at B7 ⊢
              have hne : n7 ≠ n8 := by have := LB8; omega
              clear hn7
              generalize w12.alloc _ = w13 at *
              have LB7 := B7.out.lt
              refine wpAnyH_ready (rs := [4]) (by kernel_rfl) (by simp) ?_
              refine (AllReadyH.cons rfl (fun K hK => ?_) AllReadyH.nil)
              go_simp
              go_at_call 11
              refine (HREF.out _ HX.out).mono ?_
              rintro e w14 ⟨A5, c5, rfl, O5, E3⟩
              (try dsimp only)
              refine hK.out _ _ (EH.trans E3) (fun hHeld => ?_)
              clear hK K hHeld
              (try simp only [List.getElem_toArray]); (try simp only [List.getElem_cons_succ]); (try simp only [List.getElem_cons_zero]); (try simp only [Act.put]); (try simp only [List.setIfInBounds_toArray]); (try simp only [List.set_cons_succ]); (try simp only [List.set_cons_zero])
              have HX := Lib.hid (HX.out.ext E3)
              have B8 := Lib.hid (B8.out.ext E3)
              have O4 := Lib.hid (O4.out.ext E3)
              have B7 := Lib.hid (B7.out.ext E3)
              have O5 := Lib.hid O5
              have EH := EH.trans E3
              have LB7 := B7.out.lt
              have LB8 := B8.out.lt
              clear E3
              have k7 := B7.out.two
              have C7 := B7.out.put2 (.slice A4 N c4) (.int .i64 nx)
              have C8 := (B8.out.far (p := ⟨n7, 0, none⟩) (fun h => hne h.symm) (.slice A4 N c4)).far (p := ⟨n7, 1, none⟩) (fun h => hne h.symm) (.int .i64 nx)
              have F4 := own_set2 (own_set2 O4.out B7.out (by decide) (.slice A4 N c4) (.int .i64 nx)) C8 (by decide) (.slice A5 N c5) (.int .i64 nx)
              have F5 := own_set2 (own_set2 O5.out B7.out (by decide) (.slice A4 N c4) (.int .i64 nx)) C8 (by decide) (.slice A5 N c5) (.int .i64 nx)
              have EH7 := (EH.setNew (p := ⟨n7, 0, none⟩) hn7W (.slice A4 N c4)).setNew (p := ⟨n7, 1, none⟩) hn7W (.int .i64 nx)
              have k8 := C8.two
              (refine wpAnyH_ready (rs := [7]) (by kernel_rfl) (by simp) ?_; refine AllReadyH.cons rfl (fun K hK => ?_) AllReadyH.nil; go_simp; refine hK.out _ _ EH7 (fun hHeld => ?_); clear hK K; (try simp only [Act.put]); (try simp only [List.getElem_toArray]); (try simp only [List.getElem_cons_succ]); (try simp only [List.getElem_cons_zero]); (try simp only [List.setIfInBounds_toArray]); (try simp only [List.set_cons_succ]); (try simp only [List.set_cons_zero]))
              (refine wpAnyH_ready (rs := [8]) (by kernel_rfl) (by simp) ?_; refine AllReadyH.cons rfl (fun K hK => ?_) AllReadyH.nil; go_simp; refine hK.out _ _ ((EH7.setNew hn8W _).setNew hn8W _) (fun hHeld => ?_); clear hK K; (try simp only [Act.put]); (try simp only [List.getElem_toArray]); (try simp only [List.getElem_cons_succ]); (try simp only [List.getElem_cons_zero]); (try simp only [List.setIfInBounds_toArray]); (try simp only [List.set_cons_succ]); (try simp only [List.set_cons_zero]))
              refine wpAnyH_done (by kernel_rfl) ?_ _
              go_wp2_with fail
              go_meet
              exact ⟨n7, n8, A4, A5, c4, c5, rfl, rfl, Lib.hid ((C7.far (p := ⟨n8, 0, none⟩) hne _).far (p := ⟨n8, 1, none⟩) hne _), Lib.hid (C8.put2 _ _), Lib.hid (rdy_pr F4.y), Lib.hid (rdy_pr F5.y), hHeld⟩
          ·
            go_simp
            refine hK.out _ _ (EH.alloc _) (fun hHeld => ?_)
            clear hK K hHeld
            (try simp only [List.getElem_toArray]); (try simp only [List.getElem_cons_succ]); (try simp only [List.getElem_cons_zero]); (try simp only [Act.put]); (try simp only [List.setIfInBounds_toArray]); (try simp only [List.set_cons_succ]); (try simp only [List.set_cons_zero])
            have HX := Lib.hid (HX.out.ext ((Ext.refl _).alloc (.cells #[.slice none 0 0, .int .i64 0] 29)))
            have B8 := Lib.hid (B8.out.ext ((Ext.refl _).alloc (.cells #[.slice none 0 0, .int .i64 0] 29)))
            have O3 := Lib.hid (O3.out.ext ((Ext.refl _).alloc (.cells #[.slice none 0 0, .int .i64 0] 29)))
            have B7 := Lib.hid (Blk.new w11 29 #[.slice none 0 0, .int .i64 0])
            obtain ⟨n7, hn7⟩ : ∃ n7, w11.heap.size = n7 := ⟨_, rfl⟩
            have hn7W : W3.heap.size ≤ n7 := by rw [← hn7]; exact EH.size
            have EH := EH.alloc (.cells #[.slice none 0 0, .int .i64 0] 29)
            rw [hn7] at B7 ⊢
            have hne : n7 ≠ n8 := by have := LB8; omega
            clear hn7
            generalize w11.alloc _ = w12 at *
            have LB7 := B7.out.lt
            refine wpAnyH_ready (rs := [2]) (by kernel_rfl) (by simp) ?_
            refine (AllReadyH.cons rfl (fun K hK => ?_) AllReadyH.nil)
            go_simp
            go_at_call 10
            refine (HTO.out A3 c3 _ (rdy_pr O3.out.y)).mono ?_
            rintro e w13 ⟨A4, c4, rfl, O4, E3⟩
            (try dsimp only)
            refine hK.out _ _ (EH.trans E3) (fun hHeld => ?_)
            clear hK K hHeld
            (try simp only [List.getElem_toArray]); (try simp only [List.getElem_cons_succ]); (try simp only [List.getElem_cons_zero]); (try simp only [Act.put]); (try simp only [List.setIfInBounds_toArray]); (try simp only [List.set_cons_succ]); (try simp only [List.set_cons_zero])
            have HX := Lib.hid (HX.out.ext E3)
            have B8 := Lib.hid (B8.out.ext E3)
            have B7 := Lib.hid (B7.out.ext E3)
            have O4 := Lib.hid O4
            have EH := EH.trans E3
            have LB7 := B7.out.lt
            have LB8 := B8.out.lt
            clear E3
            refine wpAnyH_ready (rs := [4]) (by kernel_rfl) (by simp) ?_
            refine (AllReadyH.cons rfl (fun K hK => ?_) AllReadyH.nil)
            go_simp
            go_at_call 11
            refine (HREF.out _ HX.out).mono ?_
            rintro e w14 ⟨A5, c5, rfl, O5, E3⟩
            (try dsimp only)
            refine hK.out _ _ (EH.trans E3) (fun hHeld => ?_)
            clear hK K hHeld
            (try simp only [List.getElem_toArray]); (try simp only [List.getElem_cons_succ]); (try simp only [List.getElem_cons_zero]); (try simp only [Act.put]); (try simp only [List.setIfInBounds_toArray]); (try simp only [List.set_cons_succ]); (try simp only [List.set_cons_zero])
            have HX := Lib.hid (HX.out.ext E3)
            have B8 := Lib.hid (B8.out.ext E3)
            have B7 := Lib.hid (B7.out.ext E3)
            have O4 := Lib.hid (O4.out.ext E3)
            have O5 := Lib.hid O5
            have EH := EH.trans E3
            have LB7 := B7.out.lt
            have LB8 := B8.out.lt
            clear E3
            have k7 := B7.out.two
            have C7 := B7.out.put2 (.slice A4 N c4) (.int .i64 nx)
            have C8 := (B8.out.far (p := ⟨n7, 0, none⟩) (fun h => hne h.symm) (.slice A4 N c4)).far (p := ⟨n7, 1, none⟩) (fun h => hne h.symm) (.int .i64 nx)
            have F4 := own_set2 (own_set2 O4.out B7.out (by decide) (.slice A4 N c4) (.int .i64 nx)) C8 (by decide) (.slice A5 N c5) (.int .i64 nx)
            have F5 := own_set2 (own_set2 O5.out B7.out (by decide) (.slice A4 N c4) (.int .i64 nx)) C8 (by decide) (.slice A5 N c5) (.int .i64 nx)
            have EH7 := (EH.setNew (p := ⟨n7, 0, none⟩) hn7W (.slice A4 N c4)).setNew (p := ⟨n7, 1, none⟩) hn7W (.int .i64 nx)
            have k8 := C8.two
            (refine wpAnyH_ready (rs := [7]) (by kernel_rfl) (by simp) ?_; refine AllReadyH.cons rfl (fun K hK => ?_) AllReadyH.nil; go_simp; refine hK.out _ _ EH7 (fun hHeld => ?_); clear hK K; (try simp only [Act.put]); (try simp only [List.getElem_toArray]); (try simp only [List.getElem_cons_succ]); (try simp only [List.getElem_cons_zero]); (try simp only [List.setIfInBounds_toArray]); (try simp only [List.set_cons_succ]); (try simp only [List.set_cons_zero]))
            (refine wpAnyH_ready (rs := [8]) (by kernel_rfl) (by simp) ?_; refine AllReadyH.cons rfl (fun K hK => ?_) AllReadyH.nil; go_simp; refine hK.out _ _ ((EH7.setNew hn8W _).setNew hn8W _) (fun hHeld => ?_); clear hK K; (try simp only [Act.put]); (try simp only [List.getElem_toArray]); (try simp only [List.getElem_cons_succ]); (try simp only [List.getElem_cons_zero]); (try simp only [List.setIfInBounds_toArray]); (try simp only [List.set_cons_succ]); (try simp only [List.set_cons_zero]))
            refine wpAnyH_done (by kernel_rfl) ?_ _
            go_wp2_with fail
            go_meet
            exact ⟨n7, n8, A4, A5, c4, c5, rfl, rfl, Lib.hid ((C7.far (p := ⟨n8, 0, none⟩) hne _).far (p := ⟨n8, 1, none⟩) hne _), Lib.hid (C8.put2 _ _), Lib.hid (rdy_pr F4.y), Lib.hid (rdy_pr F5.y), hHeld⟩
        ·
          go_simp
          refine hK.out _ _ (EH.alloc _) (fun hHeld => ?_)
          clear hK K hHeld
          (try simp only [List.getElem_toArray]); (try simp only [List.getElem_cons_succ]); (try simp only [List.getElem_cons_zero]); (try simp only [Act.put]); (try simp only [List.setIfInBounds_toArray]); (try simp only [List.set_cons_succ]); (try simp only [List.set_cons_zero])
          have HX := Lib.hid (HX.out.ext ((Ext.refl _).alloc (.cells #[.slice none 0 0, .int .i64 0] 29)))
          have B8 := Lib.hid (B8.out.ext ((Ext.refl _).alloc (.cells #[.slice none 0 0, .int .i64 0] 29)))
          have B7 := Lib.hid (Blk.new w10 29 #[.slice none 0 0, .int .i64 0])
          obtain ⟨n7, hn7⟩ : ∃ n7, w10.heap.size = n7 := ⟨_, rfl⟩
          have hn7W : W3.heap.size ≤ n7 := by rw [← hn7]; exact EH.size
          have EH := EH.alloc (.cells #[.slice none 0 0, .int .i64 0] 29)
          rw [hn7] at B7 ⊢
          have hne : n7 ≠ n8 := by have := LB8; omega
          clear hn7
          generalize w10.alloc _ = w11 at *
          have LB7 := B7.out.lt
          refine wpAnyH_ready (rs := [1]) (by kernel_rfl) (by simp) ?_
          refine (AllReadyH.cons rfl (fun K hK => ?_) AllReadyH.nil)
          go_simp
          go_at_call 11
          refine (HREF.out _ HX.out).mono ?_
          rintro e w12 ⟨A3, c3, rfl, O3, E3⟩
          (try dsimp only)
          refine hK.out _ _ (EH.trans E3) (fun hHeld => ?_)
          clear hK K hHeld
          (try simp only [List.getElem_toArray]); (try simp only [List.getElem_cons_succ]); (try simp only [List.getElem_cons_zero]); (try simp only [Act.put]); (try simp only [List.setIfInBounds_toArray]); (try simp only [List.set_cons_succ]); (try simp only [List.set_cons_zero])
          have HX := Lib.hid (HX.out.ext E3)
          have B8 := Lib.hid (B8.out.ext E3)
          have B7 := Lib.hid (B7.out.ext E3)
          have O3 := Lib.hid O3
          have EH := EH.trans E3
          have LB7 := B7.out.lt
          have LB8 := B8.out.lt
          clear E3
          refine wpAnyH_ready (rs := [2]) (by kernel_rfl) (by simp) ?_
          refine (AllReadyH.cons rfl (fun K hK => ?_) AllReadyH.nil)
          go_simp
          go_at_call 10
          refine (HTO.out A3 c3 _ (rdy_pr O3.out.y)).mono ?_
          rintro e w13 ⟨A4, c4, rfl, O4, E3⟩
          (try dsimp only)
          refine hK.out _ _ (EH.trans E3) (fun hHeld => ?_)
          clear hK K hHeld
          (try simp only [List.getElem_toArray]); (try simp only [List.getElem_cons_succ]); (try simp only [List.getElem_cons_zero]); (try simp only [Act.put]); (try simp only [List.setIfInBounds_toArray]); (try simp only [List.set_cons_succ]); (try simp only [List.set_cons_zero])
          have HX := Lib.hid (HX.out.ext E3)
          have B8 := Lib.hid (B8.out.ext E3)
          have B7 := Lib.hid (B7.out.ext E3)
          have O4 := Lib.hid O4
          have EH := EH.trans E3
          have LB7 := B7.out.lt
          have LB8 := B8.out.lt
          clear E3
          refine wpAnyH_ready (rs := [4]) (by kernel_rfl) (by simp) ?_
          refine (AllReadyH.cons rfl (fun K hK => ?_) AllReadyH.nil)
          go_simp
          go_at_call 11
          refine (HREF.out _ HX.out).mono ?_
          rintro e w14 ⟨A5, c5, rfl, O5, E3⟩
          (try dsimp only)
          refine hK.out _ _ (EH.trans E3) (fun hHeld => ?_)
          clear hK K hHeld
          (try simp only [List.getElem_toArray]); (try simp only [List.getElem_cons_succ]); (try simp only [List.getElem_cons_zero]); (try simp only [Act.put]); (try simp only [List.setIfInBounds_toArray]); (try simp only [List.set_cons_succ]); (try simp only [List.set_cons_zero])
          have HX := Lib.hid (HX.out.ext E3)
          have B8 := Lib.hid (B8.out.ext E3)
          have B7 := Lib.hid (B7.out.ext E3)
          have O4 := Lib.hid (O4.out.ext E3)
          have O5 := Lib.hid O5
          have EH := EH.trans E3
          have LB7 := B7.out.lt
          have LB8 := B8.out.lt
          clear E3
          have k7 := B7.out.two
          have C7 := B7.out.put2 (.slice A4 N c4) (.int .i64 nx)
          have C8 := (B8.out.far (p := ⟨n7, 0, none⟩) (fun h => hne h.symm) (.slice A4 N c4)).far (p := ⟨n7, 1, none⟩) (fun h => hne h.symm) (.int .i64 nx)
          have F4 := own_set2 (own_set2 O4.out B7.out (by decide) (.slice A4 N c4) (.int .i64 nx)) C8 (by decide) (.slice A5 N c5) (.int .i64 nx)
          have F5 := own_set2 (own_set2 O5.out B7.out (by decide) (.slice A4 N c4) (.int .i64 nx)) C8 (by decide) (.slice A5 N c5) (.int .i64 nx)
          have EH7 := (EH.setNew (p := ⟨n7, 0, none⟩) hn7W (.slice A4 N c4)).setNew (p := ⟨n7, 1, none⟩) hn7W (.int .i64 nx)
          have k8 := C8.two
          (refine wpAnyH_ready (rs := [7]) (by kernel_rfl) (by simp) ?_; refine AllReadyH.cons rfl (fun K hK => ?_) AllReadyH.nil; go_simp; refine hK.out _ _ EH7 (fun hHeld => ?_); clear hK K; (try simp only [Act.put]); (try simp only [List.getElem_toArray]); (try simp only [List.getElem_cons_succ]); (try simp only [List.getElem_cons_zero]); (try simp only [List.setIfInBounds_toArray]); (try simp only [List.set_cons_succ]); (try simp only [List.set_cons_zero]))
          (refine wpAnyH_ready (rs := [8]) (by kernel_rfl) (by simp) ?_; refine AllReadyH.cons rfl (fun K hK => ?_) AllReadyH.nil; go_simp; refine hK.out _ _ ((EH7.setNew hn8W _).setNew hn8W _) (fun hHeld => ?_); clear hK K; (try simp only [Act.put]); (try simp only [List.getElem_toArray]); (try simp only [List.getElem_cons_succ]); (try simp only [List.getElem_cons_zero]); (try simp only [List.setIfInBounds_toArray]); (try simp only [List.set_cons_succ]); (try simp only [List.set_cons_zero]))
          refine wpAnyH_done (by kernel_rfl) ?_ _
          go_wp2_with fail
          go_meet
          exact ⟨n7, n8, A4, A5, c4, c5, rfl, rfl, Lib.hid ((C7.far (p := ⟨n8, 0, none⟩) hne _).far (p := ⟨n8, 1, none⟩) hne _), Lib.hid (C8.put2 _ _), Lib.hid (rdy_pr F4.y), Lib.hid (rdy_pr F5.y), hHeld⟩
    case rest =>
      obtain ⟨n7, n8, A4, A5, c4, c5, rfl, rfl, b7, b8, r7, r8, Ec⟩ := hcut
      obtain ⟨W4, hW4⟩ : ∃ W4, W4 = wc := ⟨_, rfl⟩
      subst hW4
      have E04 := E03.trans Ec
      have b6 := Lib.hid (hb6.out.ext Ec)
      clear Ec hb6 hb3 H3 HREF HTO HGR
      obtain ⟨⟨a, ob⟩, hap⟩ : ∃ x, getL l nx pid = x := ⟨_, rfl⟩
      have haok := getL_ok (nx := nx) (pid := pid) hoks.out
      have hawf := getL_wf (nx := nx) (pid := pid) HWF.out
      rw [hap] at haok hawf
      have hg1 := get_any (A := fun _ => False) A4 c4 l nx pid W4 (by rw [HN.out]; exact r7.out)
      have hg2 := fun w h => rget_any (A := fun _ => False) A5 c5 l nx pid w h
      rw [HN.out, hap] at hg1
      rw [HN.out] at hg2
      simp only [hap] at hg2
      have HG1 := Lib.hid hg1
      have HG2 := Lib.hid hg2
      have HAEQ := Lib.hid (fun w => rpr_eql haok hawf w)
      have kb := b7.out.two
      clear hg1 hg2 hap hawf
      go_wp2_with fail
      refine HG1.out.mono ?_
      rintro e w5 ⟨rfl, E5⟩
      have b6 := Lib.hid (b6.out.ext E5)
      have b7 := Lib.hid (b7.out.ext E5)
      have b8 := Lib.hid (b8.out.ext E5)
      have r7 := Lib.hid (r7.out.ext E5)
      have r8 := Lib.hid (r8.out.ext E5)
      have E05 := E04.trans E5
      obtain ⟨n9, hn9⟩ : ∃ n9, w5.heap.size = n9 := ⟨_, rfl⟩
      clear kb E5
      go_wp2_with ((refine wpList_store_A rfl 43 _ _ rfl (n9) _ rfl rfl 43 _ (zero_row w5 n9 hn9) (by rw [List.size_toArray]; exact i43' haok) (Eq.trans (b := 43) (by rfl) (Eq.symm (show (a).cells.toArray.size = 43 from Pr.size haok))) (Pr.one haok) ?_); intro w6 H6 E6; have E56 : Ext w5 w6 := E6 w5.heap.size w5 ((Ext.refl w5).alloc _) (by omega); have b9 := Lib.hid H6; have b6 := Lib.hid (b6.out.ext E56); have b7 := Lib.hid (b7.out.ext E56); have b8 := Lib.hid (b8.out.ext E56); have r7 := Lib.hid (r7.out.ext E56); have r8 := Lib.hid (r8.out.ext E56); have kb := b8.out.two; clear E6 H6)
      refine (HG2.out _ r8.out).mono ?_
      rintro e w7 ⟨rfl, E7⟩
      have b6 := Lib.hid (b6.out.ext E7)
      have b7 := Lib.hid (b7.out.ext E7)
      have b8 := Lib.hid (b8.out.ext E7)
      have b9 := Lib.hid (b9.out.ext E7)
      have r7 := Lib.hid (r7.out.ext E7)
      have r8 := Lib.hid (r8.out.ext E7)
      have E07 := E05.trans (E56.trans E7)
      obtain ⟨n11, hn11⟩ : ∃ n11, w7.heap.size = n11 := ⟨_, rfl⟩
      have hp3 := Pr.len hok
      have hp4 := fold_pr hok
      clear kb E7 E56 hn9
      go_wp2_with (first
        | ((refine wpList_store_A rfl 58 _ _ rfl (n11) _ rfl rfl 58 _ (zero_rowR w7 n11 hn11) (by rw [List.size_toArray]; exact i43r' haok) (Eq.trans (b := 43) (by rfl) (Eq.symm (show (a).cells.toArray.size = 43 from Pr.size haok))) (Pr.one haok) ?_); intro w8 H8 E8; have E78 : Ext w7 w8 := E8 w7.heap.size w7 ((Ext.refl w7).alloc _) (by omega); have b11 := Lib.hid H8; have b6 := Lib.hid (b6.out.ext E78); have b7 := Lib.hid (b7.out.ext E78); have b8 := Lib.hid (b8.out.ext E78); have b9 := Lib.hid (b9.out.ext E78); have r7 := Lib.hid (r7.out.ext E78); have r8 := Lib.hid (r8.out.ext E78); clear E8 H8)
        | (refine wpList_load_row rfl 58 _ rfl _ rfl 58 _ _ _ b6.out Try.underlying58 rfl (by rw [List.size_toArray]; exact i43r' hok) ?_))
      refine (to_any (A := fun _ => False) _ 1 [p] 0 _ (RdY.singleB (rp_rel (fun _ => False) _ hok) (Blk.at_ _ _ rfl)) (by simp)).mono ?_
      rintro e w9 ⟨A9, c9, rfl, O9, E9⟩
      simp only [List.length_cons, List.length_nil, Nat.zero_add] at O9 ⊢
      obtain ⟨g9, rfl, _⟩ := O9.addr (by decide)
      have hc9 := Lib.hid (show ∀ i u, p.cells[i]? = some u → w9.cell? ⟨g9, 0 + i, none⟩ = some u by have := (own_at O9 (show [p][0]? = some p from rfl)).2.2.2.2.2; simpa using this)
      have E89 := ((Ext.refl w8).alloc _).trans E9
      have b6 := Lib.hid (b6.out.ext E89)
      have b7 := Lib.hid (b7.out.ext E89)
      have b8 := Lib.hid (b8.out.ext E89)
      have b9 := Lib.hid (b9.out.ext E89)
      have b11 := Lib.hid (b11.out.ext E89)
      have r7 := Lib.hid (r7.out.ext E89)
      have r8 := Lib.hid (r8.out.ext E89)
      have E09 := E07.trans (E78.trans E89)
      have hfd : ∀ w, (Instr.field 29 (tv (some ⟨g9, 0, none⟩) 1 c9 0) 0).run Try.prog w = .ok (.slice (some ⟨g9, 0, none⟩) 1 c9) w := fun _ => by kernel_rfl
      obtain ⟨n13, hn13⟩ : ∃ n13, w9.heap.size = n13 := ⟨_, rfl⟩
      clear E89 E9 O9 E78 hn11
      go_wp2_with (first
        | (refine wpList_load_mid rfl 43 _ rfl g9 0 rfl p.cells _ hc9.out Try.underlying43 rfl (i43' hok) ?_)
        | ((refine wpList_store_A rfl 43 _ _ rfl (n13) _ rfl rfl 43 _ (zero_row w9 n13 hn13) (by rw [List.size_toArray]; exact i43' hok) (Eq.trans (b := 43) (by rfl) (Eq.symm (show (p).cells.toArray.size = 43 from Pr.size hok))) (Pr.one hok) ?_); intro w10 H10 E10; have E910 : Ext w9 w10 := E10 w9.heap.size w9 ((Ext.refl w9).alloc _) (by omega); have b13 := Lib.hid H10; have b6 := Lib.hid (b6.out.ext E910); have b7 := Lib.hid (b7.out.ext E910); have b8 := Lib.hid (b8.out.ext E910); have b9 := Lib.hid (b9.out.ext E910); have b11 := Lib.hid (b11.out.ext E910); have r7 := Lib.hid (r7.out.ext E910); have r8 := Lib.hid (r8.out.ext E910); clear E10 H10))
      have hlv := fun w h => live_any (A := fun _ => False) A4 c4 l nx pid w h
      have hrl := fun w h => rlive_any (A := fun _ => False) A5 c5 l nx pid w h
      have hst := fun w h => (set_any (A := fun _ => False) A4 c4 l nx p w h hok).mono fun e w' h => set_both h
      have hrs := fun w h => (rset_any (A := fun _ => False) A5 c5 l nx p w h hok).mono fun e w' h => rset_both h
      have hmb := fun w h => members_any (A := fun _ => False) A4 c4 l nx g w h
      have hrm := fun w h => rmembers_any (A := fun _ => False) A5 c5 l nx g w h
      have hor := fun w h => orphaned_any (A := fun _ => False) A4 c4 l nx g w h
      have hro := fun w h => rorphaned_any (A := fun _ => False) A5 c5 l nx g w h
      rw [HN.out] at hlv hrl hst hrs hmb hrm hor hro
      have HLV := Lib.hid hlv
      have HRL := Lib.hid hrl
      have HST := Lib.hid hst
      have HRS := Lib.hid hrs
      have HMB := Lib.hid hmb
      have HRM := Lib.hid hrm
      have HOR := Lib.hid hor
      have HRO := Lib.hid hro
      have HSW := Lib.hid (setL_wf (nx := nx) HWF.out hpw)
      have HSL := Lib.hid (show (setL l nx p).length ≤ 100000 by have := setL_le (l := l) (nx := nx) (q := p); have := HN.out; have := HG.out; omega)
      obtain ⟨S, hS⟩ : ∃ S, setL l nx p = S := ⟨_, rfl⟩
      obtain ⟨nz, hnz⟩ : ∃ nz, setN l nx = nz := ⟨_, rfl⟩
      rw [hS] at HST HRS HSW HSL
      rw [hnz] at HST HRS
      clear hlv hrl hst hrs hmb hrm hor hro hS hnz HG2 HG1 hfd hc9 hn13 hp3 hp4
      simp only [Act.put]
      refine wp_region_held_drew (S := fun w' => Ext w10 w') (by kernel_rfl) (Ext.drew (Ext.refl _)) (fun hHeld => ?_)
      have EH0 : Ext w10 w10.drew := Ext.drew (Ext.refl _)
      have EHZ := EH0
      (refine wpAnyH_take (i := 0) (v := .agg a.cells.toArray) rfl (by kernel_rfl) (by kernel_rfl) (by kernel_rfl) (fun _ _ _ h => h) (yieldsIf_load_row (by rfl) 43 _ rfl _ rfl 43 a.cells.toArray _ _ (fun w' hSw => (b9.out.ext hSw)) Try.underlying43 rfl (by rw [List.size_toArray]; exact i43' haok)) (by assumption) ?_; (try simp only [Act.put]); (try simp only [List.getElem_toArray]); (try simp only [List.getElem_cons_succ]); (try simp only [List.getElem_cons_zero]); (try simp only [List.setIfInBounds_toArray]); (try simp only [List.set_cons_succ]); (try simp only [List.set_cons_zero]))
      (refine wpAnyH_take (i := 2) (v := .agg a.cells.toArray) rfl (by kernel_rfl) (by kernel_rfl) (by kernel_rfl) (fun _ _ _ h => h) (yieldsIf_load_row (by rfl) 58 _ rfl _ rfl 58 a.cells.toArray _ _ (fun w' hSw => (b11.out.ext hSw)) Try.underlying58 rfl (by rw [List.size_toArray]; exact i43r' haok)) (by assumption) ?_; (try simp only [Act.put]); (try simp only [List.getElem_toArray]); (try simp only [List.getElem_cons_succ]); (try simp only [List.getElem_cons_zero]); (try simp only [List.setIfInBounds_toArray]); (try simp only [List.set_cons_succ]); (try simp only [List.set_cons_zero]))
      (refine wpAnyH_ready (rs := [1]) (by kernel_rfl) (by simp) ?_; refine AllReadyH.cons rfl (fun K hK => ?_) AllReadyH.nil; go_simp; go_at_call 23; refine (fromproc_any a _ haok).mono ?_; rintro e x1 ⟨rfl, F1⟩; (try dsimp only); refine hK.out _ _ (EH0.trans F1) (fun hHeld => ?_); clear hK K; (try simp only [Act.put]); (try simp only [List.getElem_toArray]); (try simp only [List.getElem_cons_succ]); (try simp only [List.getElem_cons_zero]); (try simp only [List.setIfInBounds_toArray]); (try simp only [List.set_cons_succ]); (try simp only [List.set_cons_zero]))
      have EH1 := EH0.trans F1
      (refine wpAnyH_take (i := 3) (v := .bool true) rfl (by kernel_rfl) (by kernel_rfl) (by kernel_rfl) (fun _ _ _ h => h) (yieldsIf_eql_struct (by rfl) 58 _ _ rfl a.cells.toArray a.cells.toArray rfl rfl true rpr_guard HAEQ.out) (by assumption) ?_; (try simp only [List.getElem_toArray]); (try simp only [List.getElem_cons_succ]); (try simp only [List.getElem_cons_zero]); (try simp only [Act.put]); (try simp only [List.setIfInBounds_toArray]); (try simp only [List.set_cons_succ]); (try simp only [List.set_cons_zero]))
      (refine wpAnyH_take (i := 4) (v := ?_) rfl (by kernel_rfl) (by kernel_rfl) (by kernel_rfl) (fun _ _ _ h => h) (Or.inl ⟨by rfl, ?_⟩) (by assumption) ?_; rotate_left; (focus (intro w' hSw; go_simp; try with_reducible rfl)); (try simp only [List.getElem_toArray]); (try simp only [List.getElem_cons_succ]); (try simp only [List.getElem_cons_zero]); (try simp only [Act.put]); (try simp only [List.setIfInBounds_toArray]); (try simp only [List.set_cons_succ]); (try simp only [List.set_cons_zero]))
      (refine wpAnyH_take (i := 5) (v := ?_) rfl (by kernel_rfl) (by kernel_rfl) (by kernel_rfl) (fun _ _ _ h => h) (Or.inl ⟨by rfl, ?_⟩) (by assumption) ?_; rotate_left; (focus (intro w' hSw; go_simp; try with_reducible rfl)); (try simp only [List.getElem_toArray]); (try simp only [List.getElem_cons_succ]); (try simp only [List.getElem_cons_zero]); (try simp only [Act.put]); (try simp only [List.setIfInBounds_toArray]); (try simp only [List.set_cons_succ]); (try simp only [List.set_cons_zero]))
      (refine wpAnyH_take (i := 6) (v := ?_) rfl (by kernel_rfl) (by kernel_rfl) (by kernel_rfl) (fun _ _ _ h => h) (Or.inl ⟨by rfl, ?_⟩) (by assumption) ?_; rotate_left; (focus (intro w' hSw; go_simp; try with_reducible rfl)); (try simp only [List.getElem_toArray]); (try simp only [List.getElem_cons_succ]); (try simp only [List.getElem_cons_zero]); (try simp only [Act.put]); (try simp only [List.setIfInBounds_toArray]); (try simp only [List.set_cons_succ]); (try simp only [List.set_cons_zero]))
      (refine wpAnyH_take (i := 7) (v := ?_) rfl (by kernel_rfl) (by kernel_rfl) (by kernel_rfl) (fun _ _ _ h => h) (Or.inl ⟨by rfl, ?_⟩) (by assumption) ?_; rotate_left; (focus (intro w' hSw; go_simp; try with_reducible rfl)); (try simp only [List.getElem_toArray]); (try simp only [List.getElem_cons_succ]); (try simp only [List.getElem_cons_zero]); (try simp only [Act.put]); (try simp only [List.setIfInBounds_toArray]); (try simp only [List.set_cons_succ]); (try simp only [List.set_cons_zero]))
      (refine wpAnyH_take (i := 8) (v := ?_) rfl (by kernel_rfl) (by kernel_rfl) (by kernel_rfl) (fun _ _ _ h => h) (Or.inl ⟨by rfl, ?_⟩) (by assumption) ?_; rotate_left; (focus (intro w' hSw; go_simp; try with_reducible rfl)); (try simp only [List.getElem_toArray]); (try simp only [List.getElem_cons_succ]); (try simp only [List.getElem_cons_zero]); (try simp only [Act.put]); (try simp only [List.setIfInBounds_toArray]); (try simp only [List.set_cons_succ]); (try simp only [List.set_cons_zero]))
      (refine wpAnyH_take (i := 9) (v := ?_) rfl (by kernel_rfl) (by kernel_rfl) (by kernel_rfl) (fun _ _ _ h => h) (Or.inl ⟨by rfl, ?_⟩) (by assumption) ?_; rotate_left; (focus (intro w' hSw; go_simp; try with_reducible rfl)); (try simp only [List.getElem_toArray]); (try simp only [List.getElem_cons_succ]); (try simp only [List.getElem_cons_zero]); (try simp only [Act.put]); (try simp only [List.setIfInBounds_toArray]); (try simp only [List.set_cons_succ]); (try simp only [List.set_cons_zero]))
      (refine wpAnyH_take (i := 10) (v := ?_) rfl (by kernel_rfl) (by kernel_rfl) (by kernel_rfl) (fun _ _ _ h => h) (Or.inl ⟨by rfl, ?_⟩) (by assumption) ?_; rotate_left; (focus (intro w' hSw; have kc := (b7.out.ext hSw).two; go_simp; try with_reducible rfl)); (try simp only [List.getElem_toArray]); (try simp only [List.getElem_cons_succ]); (try simp only [List.getElem_cons_zero]); (try simp only [Act.put]); (try simp only [List.setIfInBounds_toArray]); (try simp only [List.set_cons_succ]); (try simp only [List.set_cons_zero]))
      (refine wpAnyH_take (i := 11) (v := ?_) rfl (by kernel_rfl) (by kernel_rfl) (by kernel_rfl) (fun _ _ _ h => h) (Or.inl ⟨by rfl, ?_⟩) (by assumption) ?_; rotate_left; (focus (intro w' hSw; go_simp; try with_reducible rfl)); (try simp only [List.getElem_toArray]); (try simp only [List.getElem_cons_succ]); (try simp only [List.getElem_cons_zero]); (try simp only [Act.put]); (try simp only [List.setIfInBounds_toArray]); (try simp only [List.set_cons_succ]); (try simp only [List.set_cons_zero]))
      (refine wpAnyH_take (i := 13) (v := ?_) rfl (by kernel_rfl) (by kernel_rfl) (by kernel_rfl) (fun _ _ _ h => h) (Or.inl ⟨by rfl, ?_⟩) (by assumption) ?_; rotate_left; (focus (intro w' hSw; have kc := (b8.out.ext hSw).two; go_simp; try with_reducible rfl)); (try simp only [List.getElem_toArray]); (try simp only [List.getElem_cons_succ]); (try simp only [List.getElem_cons_zero]); (try simp only [Act.put]); (try simp only [List.setIfInBounds_toArray]); (try simp only [List.set_cons_succ]); (try simp only [List.set_cons_zero]))
      (refine wpAnyH_take (i := 14) (v := ?_) rfl (by kernel_rfl) (by kernel_rfl) (by kernel_rfl) (fun _ _ _ h => h) (Or.inl ⟨by rfl, ?_⟩) (by assumption) ?_; rotate_left; (focus (intro w' hSw; go_simp; try with_reducible rfl)); (try simp only [List.getElem_toArray]); (try simp only [List.getElem_cons_succ]); (try simp only [List.getElem_cons_zero]); (try simp only [Act.put]); (try simp only [List.setIfInBounds_toArray]); (try simp only [List.set_cons_succ]); (try simp only [List.set_cons_zero]))
      (refine wpAnyH_ready (rs := [12]) (by kernel_rfl) (by simp) ?_; refine AllReadyH.cons rfl (fun K hK => ?_) AllReadyH.nil; go_simp; go_at_call 17; refine (HLV.out _ (r7.out.ext EH1)).mono ?_; rintro e x2 ⟨rfl, F2⟩; (try dsimp only); refine hK.out _ _ (EH1.trans F2) (fun hHeld => ?_); clear hK K; (try simp only [Act.put]); (try simp only [List.getElem_toArray]); (try simp only [List.getElem_cons_succ]); (try simp only [List.getElem_cons_zero]); (try simp only [List.setIfInBounds_toArray]); (try simp only [List.set_cons_succ]); (try simp only [List.set_cons_zero]))
      have EH2 := EH1.trans F2
      (refine wpAnyH_ready (rs := [15]) (by kernel_rfl) (by simp) ?_; refine AllReadyH.cons rfl (fun K hK => ?_) AllReadyH.nil; go_simp; go_at_call 24; refine (HRL.out _ (r8.out.ext EH2)).mono ?_; rintro e x3 ⟨rfl, F3⟩; (try dsimp only); refine hK.out _ _ (EH2.trans F3) (fun hHeld => ?_); clear hK K; (try simp only [Act.put]); (try simp only [List.getElem_toArray]); (try simp only [List.getElem_cons_succ]); (try simp only [List.getElem_cons_zero]); (try simp only [List.setIfInBounds_toArray]); (try simp only [List.set_cons_succ]); (try simp only [List.set_cons_zero]))
      have EH3 := EH2.trans F3
      (refine wpAnyH_take (i := 16) (v := ?_) rfl (by kernel_rfl) (by kernel_rfl) (by kernel_rfl) (fun _ _ _ h => h) (Or.inl ⟨by rfl, ?_⟩) (by assumption) ?_; rotate_left; (focus (intro w' hSw; go_simp; try with_reducible rfl)); (try simp only [List.getElem_toArray]); (try simp only [List.getElem_cons_succ]); (try simp only [List.getElem_cons_zero]); (try simp only [Act.put]); (try simp only [List.setIfInBounds_toArray]); (try simp only [List.set_cons_succ]); (try simp only [List.set_cons_zero]))
      (refine wpAnyH_take (i := 17) (v := ?_) rfl (by kernel_rfl) (by kernel_rfl) (by kernel_rfl) (fun _ _ _ h => h) (Or.inl ⟨by rfl, ?_⟩) (by assumption) ?_; rotate_left; (focus (intro w' hSw; go_simp; try with_reducible rfl)); (try simp only [List.getElem_toArray]); (try simp only [List.getElem_cons_succ]); (try simp only [List.getElem_cons_zero]); (try simp only [Act.put]); (try simp only [List.setIfInBounds_toArray]); (try simp only [List.set_cons_succ]); (try simp only [List.set_cons_zero]))
      (refine wpAnyH_take (i := 18) (v := ?_) rfl (by kernel_rfl) (by kernel_rfl) (by kernel_rfl) (fun _ _ _ h => h) (Or.inl ⟨by rfl, ?_⟩) (by assumption) ?_; rotate_left; (focus (intro w' hSw; go_simp; try with_reducible rfl)); (try simp only [List.getElem_toArray]); (try simp only [List.getElem_cons_succ]); (try simp only [List.getElem_cons_zero]); (try simp only [Act.put]); (try simp only [List.setIfInBounds_toArray]); (try simp only [List.set_cons_succ]); (try simp only [List.set_cons_zero]))
      (refine wpAnyH_take (i := 19) (v := ?_) rfl (by kernel_rfl) (by kernel_rfl) (by kernel_rfl) (fun _ _ _ h => h) (Or.inl ⟨by rfl, ?_⟩) (by assumption) ?_; rotate_left; (focus (intro w' hSw; have kc := (b7.out.ext hSw).two; go_simp; try with_reducible rfl)); (try simp only [List.getElem_toArray]); (try simp only [List.getElem_cons_succ]); (try simp only [List.getElem_cons_zero]); (try simp only [Act.put]); (try simp only [List.setIfInBounds_toArray]); (try simp only [List.set_cons_succ]); (try simp only [List.set_cons_zero]))
      (refine wpAnyH_take (i := 20) (v := .agg p.cells.toArray) rfl (by kernel_rfl) (by kernel_rfl) (by kernel_rfl) (fun _ _ _ h => h) (yieldsIf_load_row (by rfl) 43 _ rfl _ rfl 43 p.cells.toArray _ _ (fun w' hSw => (b13.out.ext hSw)) Try.underlying43 rfl (by rw [List.size_toArray]; exact i43' hok)) (by assumption) ?_; (try simp only [Act.put]); (try simp only [List.getElem_toArray]); (try simp only [List.getElem_cons_succ]); (try simp only [List.getElem_cons_zero]); (try simp only [List.setIfInBounds_toArray]); (try simp only [List.set_cons_succ]); (try simp only [List.set_cons_zero]))
      (refine wpAnyH_take (i := 23) (v := ?_) rfl (by kernel_rfl) (by kernel_rfl) (by kernel_rfl) (fun _ _ _ h => h) (Or.inl ⟨by rfl, ?_⟩) (by assumption) ?_; rotate_left; (focus (intro w' hSw; have kc := (b8.out.ext hSw).two; go_simp; try with_reducible rfl)); (try simp only [List.getElem_toArray]); (try simp only [List.getElem_cons_succ]); (try simp only [List.getElem_cons_zero]); (try simp only [Act.put]); (try simp only [List.setIfInBounds_toArray]); (try simp only [List.set_cons_succ]); (try simp only [List.set_cons_zero]))
      (refine wpAnyH_take (i := 24) (v := .agg p.cells.toArray) rfl (by kernel_rfl) (by kernel_rfl) (by kernel_rfl) (fun _ _ _ h => h) (yieldsIf_load_row (by rfl) 58 _ rfl _ rfl 58 p.cells.toArray _ _ (fun w' hSw => (b6.out.ext hSw)) Try.underlying58 rfl (by rw [List.size_toArray]; exact i43r' hok)) (by assumption) ?_; (try simp only [Act.put]); (try simp only [List.getElem_toArray]); (try simp only [List.getElem_cons_succ]); (try simp only [List.getElem_cons_zero]); (try simp only [List.setIfInBounds_toArray]); (try simp only [List.set_cons_succ]); (try simp only [List.set_cons_zero]))
      (refine wpAnyH_ready (rs := [21]) (by kernel_rfl) (by simp) ?_; refine AllReadyH.cons rfl (fun K hK => ?_) AllReadyH.nil; go_simp; go_at_call 25; refine (HST.out _ (r7.out.ext EH3)).mono ?_; rintro e x4 ⟨A11, c11, rfl, O11, F4⟩; (try dsimp only); refine hK.out _ _ (EH3.trans F4) (fun hHeld => ?_); clear hK K; (try simp only [Act.put]); (try simp only [List.getElem_toArray]); (try simp only [List.getElem_cons_succ]); (try simp only [List.getElem_cons_zero]); (try simp only [List.setIfInBounds_toArray]); (try simp only [List.set_cons_succ]); (try simp only [List.set_cons_zero]))
      have EH4 := EH3.trans F4
      (refine wpAnyH_ready (rs := [22]) (by kernel_rfl) (by simp) ?_; refine AllReadyH.cons rfl (fun K hK => ?_) AllReadyH.nil; go_simp; go_at_call 14; refine (from_any A11 c11 S nz _ O11 HSL.out).mono ?_; rintro e x5 ⟨A12, c12, rfl, O12, F5⟩; (try dsimp only); refine hK.out _ _ (EH4.trans F5) (fun hHeld => ?_); clear hK K; (try simp only [Act.put]); (try simp only [List.getElem_toArray]); (try simp only [List.getElem_cons_succ]); (try simp only [List.getElem_cons_zero]); (try simp only [List.setIfInBounds_toArray]); (try simp only [List.set_cons_succ]); (try simp only [List.set_cons_zero]))
      have EH5 := EH4.trans F5
      (refine wpAnyH_ready (rs := [25]) (by kernel_rfl) (by simp) ?_; refine AllReadyH.cons rfl (fun K hK => ?_) AllReadyH.nil; go_simp; go_at_call 26; refine (HRS.out _ (r8.out.ext EH5)).mono ?_; rintro e x6 ⟨A13, c13, rfl, O13, F6⟩; (try dsimp only); refine hK.out _ _ (EH5.trans F6) (fun hHeld => ?_); clear hK K; (try simp only [Act.put]); (try simp only [List.getElem_toArray]); (try simp only [List.getElem_cons_succ]); (try simp only [List.getElem_cons_zero]); (try simp only [List.setIfInBounds_toArray]); (try simp only [List.set_cons_succ]); (try simp only [List.set_cons_zero]))
      have EH6 := EH5.trans F6
      (refine wpAnyH_ready (rs := [26]) (by kernel_rfl) (by simp) ?_; refine AllReadyH.cons rfl (fun K hK => ?_) AllReadyH.nil; go_simp; go_at_call 13; refine (same_any A12 A13 c12 c13 S nz _ (rdy_pr (B := fun _ => False) (O12.ext F6).y) O13 HSW.out).mono ?_; rintro e x7 ⟨rfl, F7⟩; (try dsimp only); refine hK.out _ _ (EH6.trans F7) (fun hHeld => ?_); clear hK K; (try simp only [Act.put]); (try simp only [List.getElem_toArray]); (try simp only [List.getElem_cons_succ]); (try simp only [List.getElem_cons_zero]); (try simp only [List.setIfInBounds_toArray]); (try simp only [List.set_cons_succ]); (try simp only [List.set_cons_zero]))
      have EH7 := EH6.trans F7
      (refine wpAnyH_take (i := 27) (v := ?_) rfl (by kernel_rfl) (by kernel_rfl) (by kernel_rfl) (fun _ _ _ h => h) (Or.inl ⟨by rfl, ?_⟩) (by assumption) ?_; rotate_left; (focus (intro w' hSw; go_simp; try with_reducible rfl)); (try simp only [List.getElem_toArray]); (try simp only [List.getElem_cons_succ]); (try simp only [List.getElem_cons_zero]); (try simp only [Act.put]); (try simp only [List.setIfInBounds_toArray]); (try simp only [List.set_cons_succ]); (try simp only [List.set_cons_zero]))
      (refine wpAnyH_take (i := 28) (v := ?_) rfl (by kernel_rfl) (by kernel_rfl) (by kernel_rfl) (fun _ _ _ h => h) (Or.inl ⟨by rfl, ?_⟩) (by assumption) ?_; rotate_left; (focus (intro w' hSw; go_simp; try with_reducible rfl)); (try simp only [List.getElem_toArray]); (try simp only [List.getElem_cons_succ]); (try simp only [List.getElem_cons_zero]); (try simp only [Act.put]); (try simp only [List.setIfInBounds_toArray]); (try simp only [List.set_cons_succ]); (try simp only [List.set_cons_zero]))
      (refine wpAnyH_take (i := 29) (v := ?_) rfl (by kernel_rfl) (by kernel_rfl) (by kernel_rfl) (fun _ _ _ h => h) (Or.inl ⟨by rfl, ?_⟩) (by assumption) ?_; rotate_left; (focus (intro w' hSw; have kc := (b7.out.ext hSw).two; go_simp; try with_reducible rfl)); (try simp only [List.getElem_toArray]); (try simp only [List.getElem_cons_succ]); (try simp only [List.getElem_cons_zero]); (try simp only [Act.put]); (try simp only [List.setIfInBounds_toArray]); (try simp only [List.set_cons_succ]); (try simp only [List.set_cons_zero]))
      (refine wpAnyH_take (i := 30) (v := ?_) rfl (by kernel_rfl) (by kernel_rfl) (by kernel_rfl) (fun _ _ _ h => h) (Or.inl ⟨by rfl, ?_⟩) (by assumption) ?_; rotate_left; (focus (intro w' hSw; go_simp; try with_reducible rfl)); (try simp only [List.getElem_toArray]); (try simp only [List.getElem_cons_succ]); (try simp only [List.getElem_cons_zero]); (try simp only [Act.put]); (try simp only [List.setIfInBounds_toArray]); (try simp only [List.set_cons_succ]); (try simp only [List.set_cons_zero]))
      (refine wpAnyH_take (i := 32) (v := ?_) rfl (by kernel_rfl) (by kernel_rfl) (by kernel_rfl) (fun _ _ _ h => h) (Or.inl ⟨by rfl, ?_⟩) (by assumption) ?_; rotate_left; (focus (intro w' hSw; have kc := (b8.out.ext hSw).two; go_simp; try with_reducible rfl)); (try simp only [List.getElem_toArray]); (try simp only [List.getElem_cons_succ]); (try simp only [List.getElem_cons_zero]); (try simp only [Act.put]); (try simp only [List.setIfInBounds_toArray]); (try simp only [List.set_cons_succ]); (try simp only [List.set_cons_zero]))
      (refine wpAnyH_take (i := 33) (v := ?_) rfl (by kernel_rfl) (by kernel_rfl) (by kernel_rfl) (fun _ _ _ h => h) (Or.inl ⟨by rfl, ?_⟩) (by assumption) ?_; rotate_left; (focus (intro w' hSw; go_simp; try with_reducible rfl)); (try simp only [List.getElem_toArray]); (try simp only [List.getElem_cons_succ]); (try simp only [List.getElem_cons_zero]); (try simp only [Act.put]); (try simp only [List.setIfInBounds_toArray]); (try simp only [List.set_cons_succ]); (try simp only [List.set_cons_zero]))
      (refine wpAnyH_ready (rs := [31]) (by kernel_rfl) (by simp) ?_; refine AllReadyH.cons rfl (fun K hK => ?_) AllReadyH.nil; go_simp; go_at_call 18; refine (HMB.out _ (r7.out.ext EH7)).mono ?_; rintro e x8 ⟨A14, c14, rfl, O14, F8⟩; (try dsimp only); refine hK.out _ _ (EH7.trans F8) (fun hHeld => ?_); clear hK K; (try simp only [Act.put]); (try simp only [List.getElem_toArray]); (try simp only [List.getElem_cons_succ]); (try simp only [List.getElem_cons_zero]); (try simp only [List.setIfInBounds_toArray]); (try simp only [List.set_cons_succ]); (try simp only [List.set_cons_zero]))
      have EH8 := EH7.trans F8
      (refine wpAnyH_ready (rs := [34]) (by kernel_rfl) (by simp) ?_; refine AllReadyH.cons rfl (fun K hK => ?_) AllReadyH.nil; go_simp; go_at_call 28; refine (HRM.out _ (r8.out.ext EH8)).mono ?_; rintro e x9 ⟨A15, c15, rfl, O15, F9⟩; (try dsimp only); refine hK.out _ _ (EH8.trans F9) (fun hHeld => ?_); clear hK K; (try simp only [Act.put]); (try simp only [List.getElem_toArray]); (try simp only [List.getElem_cons_succ]); (try simp only [List.getElem_cons_zero]); (try simp only [List.setIfInBounds_toArray]); (try simp only [List.set_cons_succ]); (try simp only [List.set_cons_zero]))
      have EH9 := EH8.trans F9
      (refine wpAnyH_ready (rs := [35]) (by kernel_rfl) (by simp) ?_; refine AllReadyH.cons rfl (fun K hK => ?_) AllReadyH.nil; go_simp; go_at_call 27; refine (ints_same _ _ _ _ (O14.ext F9).y O15.y).mono ?_; rintro e x10 ⟨rfl, F10⟩; (try dsimp only); refine hK.out _ _ (EH9.trans F10) (fun hHeld => ?_); clear hK K; (try simp only [Act.put]); (try simp only [List.getElem_toArray]); (try simp only [List.getElem_cons_succ]); (try simp only [List.getElem_cons_zero]); (try simp only [List.setIfInBounds_toArray]); (try simp only [List.set_cons_succ]); (try simp only [List.set_cons_zero]))
      have EH10 := EH9.trans F10
      (refine wpAnyH_take (i := 36) (v := ?_) rfl (by kernel_rfl) (by kernel_rfl) (by kernel_rfl) (fun _ _ _ h => h) (Or.inl ⟨by rfl, ?_⟩) (by assumption) ?_; rotate_left; (focus (intro w' hSw; go_simp; try with_reducible rfl)); (try simp only [List.getElem_toArray]); (try simp only [List.getElem_cons_succ]); (try simp only [List.getElem_cons_zero]); (try simp only [Act.put]); (try simp only [List.setIfInBounds_toArray]); (try simp only [List.set_cons_succ]); (try simp only [List.set_cons_zero]))
      (refine wpAnyH_take (i := 37) (v := ?_) rfl (by kernel_rfl) (by kernel_rfl) (by kernel_rfl) (fun _ _ _ h => h) (Or.inl ⟨by rfl, ?_⟩) (by assumption) ?_; rotate_left; (focus (intro w' hSw; go_simp; try with_reducible rfl)); (try simp only [List.getElem_toArray]); (try simp only [List.getElem_cons_succ]); (try simp only [List.getElem_cons_zero]); (try simp only [Act.put]); (try simp only [List.setIfInBounds_toArray]); (try simp only [List.set_cons_succ]); (try simp only [List.set_cons_zero]))
      (refine wpAnyH_take (i := 38) (v := ?_) rfl (by kernel_rfl) (by kernel_rfl) (by kernel_rfl) (fun _ _ _ h => h) (Or.inl ⟨by rfl, ?_⟩) (by assumption) ?_; rotate_left; (focus (intro w' hSw; have kc := (b7.out.ext hSw).two; go_simp; try with_reducible rfl)); (try simp only [List.getElem_toArray]); (try simp only [List.getElem_cons_succ]); (try simp only [List.getElem_cons_zero]); (try simp only [Act.put]); (try simp only [List.setIfInBounds_toArray]); (try simp only [List.set_cons_succ]); (try simp only [List.set_cons_zero]))
      (refine wpAnyH_take (i := 39) (v := ?_) rfl (by kernel_rfl) (by kernel_rfl) (by kernel_rfl) (fun _ _ _ h => h) (Or.inl ⟨by rfl, ?_⟩) (by assumption) ?_; rotate_left; (focus (intro w' hSw; go_simp; try with_reducible rfl)); (try simp only [List.getElem_toArray]); (try simp only [List.getElem_cons_succ]); (try simp only [List.getElem_cons_zero]); (try simp only [Act.put]); (try simp only [List.setIfInBounds_toArray]); (try simp only [List.set_cons_succ]); (try simp only [List.set_cons_zero]))
      (refine wpAnyH_take (i := 41) (v := ?_) rfl (by kernel_rfl) (by kernel_rfl) (by kernel_rfl) (fun _ _ _ h => h) (Or.inl ⟨by rfl, ?_⟩) (by assumption) ?_; rotate_left; (focus (intro w' hSw; have kc := (b8.out.ext hSw).two; go_simp; try with_reducible rfl)); (try simp only [List.getElem_toArray]); (try simp only [List.getElem_cons_succ]); (try simp only [List.getElem_cons_zero]); (try simp only [Act.put]); (try simp only [List.setIfInBounds_toArray]); (try simp only [List.set_cons_succ]); (try simp only [List.set_cons_zero]))
      (refine wpAnyH_take (i := 42) (v := ?_) rfl (by kernel_rfl) (by kernel_rfl) (by kernel_rfl) (fun _ _ _ h => h) (Or.inl ⟨by rfl, ?_⟩) (by assumption) ?_; rotate_left; (focus (intro w' hSw; go_simp; try with_reducible rfl)); (try simp only [List.getElem_toArray]); (try simp only [List.getElem_cons_succ]); (try simp only [List.getElem_cons_zero]); (try simp only [Act.put]); (try simp only [List.setIfInBounds_toArray]); (try simp only [List.set_cons_succ]); (try simp only [List.set_cons_zero]))
      (refine wpAnyH_ready (rs := [40]) (by kernel_rfl) (by simp) ?_; refine AllReadyH.cons rfl (fun K hK => ?_) AllReadyH.nil; go_simp; go_at_call 20; refine (HOR.out _ (r7.out.ext EH10)).mono ?_; rintro e x11 ⟨rfl, F11⟩; (try dsimp only); refine hK.out _ _ (EH10.trans F11) (fun hHeld => ?_); clear hK K; (try simp only [Act.put]); (try simp only [List.getElem_toArray]); (try simp only [List.getElem_cons_succ]); (try simp only [List.getElem_cons_zero]); (try simp only [List.setIfInBounds_toArray]); (try simp only [List.set_cons_succ]); (try simp only [List.set_cons_zero]))
      have EH11 := EH10.trans F11
      (refine wpAnyH_ready (rs := [43]) (by kernel_rfl) (by simp) ?_; refine AllReadyH.cons rfl (fun K hK => ?_) AllReadyH.nil; go_simp; go_at_call 29; refine (HRO.out _ (r8.out.ext EH11)).mono ?_; rintro e x12 ⟨rfl, F12⟩; (try dsimp only); refine hK.out _ _ (EH11.trans F12) (fun hHeld => ?_); clear hK K; (try simp only [Act.put]); (try simp only [List.getElem_toArray]); (try simp only [List.getElem_cons_succ]); (try simp only [List.getElem_cons_zero]); (try simp only [List.setIfInBounds_toArray]); (try simp only [List.set_cons_succ]); (try simp only [List.set_cons_zero]))
      (refine wpAnyH_take (i := 44) (v := ?_) rfl (by kernel_rfl) (by kernel_rfl) (by kernel_rfl) (fun _ _ _ h => h) (Or.inl ⟨by rfl, ?_⟩) (by assumption) ?_; rotate_left; (focus (intro w' hSw; go_simp; try with_reducible rfl)); (try simp only [List.getElem_toArray]); (try simp only [List.getElem_cons_succ]); (try simp only [List.getElem_cons_zero]); (try simp only [Act.put]); (try simp only [List.setIfInBounds_toArray]); (try simp only [List.set_cons_succ]); (try simp only [List.set_cons_zero]))
      (refine wpAnyH_take (i := 45) (v := ?_) rfl (by kernel_rfl) (by kernel_rfl) (by kernel_rfl) (fun _ _ _ h => h) (Or.inl ⟨by rfl, ?_⟩) (by assumption) ?_; rotate_left; (focus (intro w' hSw; go_simp; try with_reducible rfl)); (try simp only [List.getElem_toArray]); (try simp only [List.getElem_cons_succ]); (try simp only [List.getElem_cons_zero]); (try simp only [Act.put]); (try simp only [List.setIfInBounds_toArray]); (try simp only [List.set_cons_succ]); (try simp only [List.set_cons_zero]))
      (refine wpAnyH_take (i := 46) (v := ?_) rfl (by kernel_rfl) (by kernel_rfl) (by kernel_rfl) (fun _ _ _ h => h) (Or.inl ⟨by rfl, ?_⟩) (by assumption) ?_; rotate_left; (focus (intro w' hSw; go_simp; try with_reducible rfl)); (try simp only [List.getElem_toArray]); (try simp only [List.getElem_cons_succ]); (try simp only [List.getElem_cons_zero]); (try simp only [Act.put]); (try simp only [List.setIfInBounds_toArray]); (try simp only [List.set_cons_succ]); (try simp only [List.set_cons_zero]))
      refine wpAnyH_done (by kernel_rfl) ?_ _
      go_wp2
      go_ret
      exact ⟨rfl, E09.trans (E910.trans (EH11.trans F12))⟩
end Go.Proofs.Ytmpmnikgbepphaa
