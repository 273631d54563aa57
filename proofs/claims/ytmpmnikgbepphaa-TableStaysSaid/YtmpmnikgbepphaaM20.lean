/- Function values that change a process in its place, by contract. No condition. -/
import Derived.Test.YtmpmnikgbepphaaL20
namespace Go.Proofs.Ytmpmnikgbepphaa
open Go.RowKit Go.Kb

section
variable {base G n c j : Nat} {B : Nat → Prop} {w w' : World} {l : List Pr} {p p' : Pr}
/-- a store into a cell of a process, in a row of the call's own -/
theorem own_put {i : Nat} {x : Value} (h : OwnS Rp 43 base B w (.slice (some ⟨G, 0, none⟩) n c) l) (hp : l[j]? = some p) (hi : i < 43) (hc : p.cells.set i x = p'.cells) (hk : p'.ok) :
    OwnS Rp 43 base B (w.setCell ⟨G, j * 43 + i, none⟩ x) (.slice (some ⟨G, 0, none⟩) n c) (l.set j p') := by
  have hj : j < l.length := (List.getElem?_eq_some_iff.1 hp).1
  exact OwnS.store (i := i) h hj hi fun cs d hd hr => by
    rw [hp] at hd
    cases hd
    obtain ⟨rfl, _⟩ := hr
    exact ⟨hc, hk⟩
theorem own_at (h : OwnS Rp 43 base B w (.slice (some ⟨G, 0, none⟩) n c) l) (hp : l[j]? = some p) : p.ok ∧ base ≤ G ∧ G < w.heap.size ∧ PrAt w G (j * 43) p ∧ (∀ o, w.frozen? ⟨G, o, none⟩ = false) ∧ ∀ i u, p.cells[i]? = some u → w.cell? ⟨G, j * 43 + i, none⟩ = some u := by
  have hj : j < l.length := (List.getElem?_eq_some_iff.1 hp).1
  obtain ⟨_, _, hv, _⟩ := h.shape
  simp only [Value.slice.injEq] at hv
  obtain ⟨-, hl, -⟩ := hv
  obtain ⟨b, off, q, hb, hd, hok, hc⟩ := pr_at h.y (show j < n by omega)
  cases hb
  rw [hp] at hd
  have hq : p = q := by have := hd.out; cases this; rfl
  subst hq
  have hc := hc.out
  simp only [Nat.zero_add] at hc
  have hf := (h.addr (by omega))
  obtain ⟨g, hg, _, hfr⟩ := hf
  cases hg
  obtain ⟨h1, h2⟩ := h.row G rfl
  exact ⟨hok, h1, h2, prAt_of hok hc, hfr, hc⟩
end
/-- a function value changes a process by g -/
def Turns (k : Nat) (bs fs : Array Value) (g : Pr → Pr) (w : World) : Prop :=
  (∀ args w', (callFunc k args).run Try.prog w' = .ok (.enter k args) w') ∧ ∀ (G base n c j : Nat) (l : List Pr) (p : Pr) (w' : World), Ext w w' → w.heap.size ≤ base →
    OwnS Rp 43 base (fun _ => False) w' (.slice (some ⟨G, 0, none⟩) n c) l → l[j]? = some p →
    Calls Try.prog k (bs.push (.pointer (some ⟨G, j * 43, none⟩)) ++ fs) w' fun e w'' => e = .returned (.tuple #[]) ∧ OwnS Rp 43 base (fun _ => False) w'' (.slice (some ⟨G, 0, none⟩) n c) (l.set j (g p)) ∧ Mod (fun k => k = G) w' w''
theorem Turns.ext {k : Nat} {bs fs : Array Value} {g : Pr → Pr} {w w' : World} (h : Turns k bs fs g w) (hE : Ext w w') : Turns k bs fs g w' :=
  ⟨h.1, fun G base n c j l p w2 h1 h2 => h.2 G base n c j l p w2 (hE.trans h1) (Nat.le_trans hE.size h2)⟩

theorem enters_wait4 (args : Array Value) (w : World) : (callFunc 43 args).run Try.prog w = .ok (.enter 43 args) w := by kernel_rfl
set_option maxRecDepth 100000 in
set_option maxHeartbeats 400000 in
theorem turns_told (w : World) : Turns 43 #[] #[] (fun p => { p with told := true }) w := by
  refine ⟨enters_wait4, fun G base n c j l p w' hE hb O hp => ?_⟩
  obtain ⟨hok, hG, hlt, hat, hfr, _⟩ := own_at O hp
  have c42 := hat.c42
  have O2 := Lib.hid (own_put (p' := { p with told := true }) (i := 42) (x := .bool true) O hp (by omega) (by
    have : p.acts.length = 32 := hok
    simp [Pr.cells, this]) hok)
  have HM := Lib.hid ((Mod.refl (fun k => k = G) w').set1 (.bool true) (o := j * 43 + 42))
  clear O hp hat hok
  show Calls Try.prog _ #[.pointer (some ⟨G, j * 43, none⟩)] w' _
  go_enter Try.func43, Try.ntmps43
  go_wp2
  go_end0
  exact ⟨rfl, O2.out, HM.out⟩

theorem enters_group2 (args : Array Value) (w : World) : (callFunc 68 args).run Try.prog w = .ok (.enter 68 args) w := by kernel_rfl
set_option maxRecDepth 100000 in
set_option maxHeartbeats 400000 in
theorem turns_group {m : Nat} {group : Int} (w : World) (h : Blk w m 3 #[.int .i64 group]) : Turns 68 #[] #[.pointer (some ⟨m, 0, none⟩)] (fun p => { p with group := group }) w := by
  refine ⟨enters_group2, fun G base n c j l p w' hE hb O hp => ?_⟩
  obtain ⟨hok, hG, hlt, hat, hfr, _⟩ := own_at O hp
  have c2 := hat.c2
  have c0 := (h.ext hE).cell0
  have O2 := Lib.hid (own_put (p' := { p with group := group }) (i := 2) (x := .int .i64 group) O hp (by omega) (by
    simp [Pr.cells]) hok)
  have HM := Lib.hid ((Mod.refl (fun k => k = G) w').set1 (.int .i64 group) (o := j * 43 + 2))
  clear O hp hat hok
  show Calls Try.prog _ #[.pointer (some ⟨G, j * 43, none⟩), .pointer (some ⟨m, 0, none⟩)] w' _
  go_enter Try.func68, Try.ntmps68
  go_wp2
  go_end0
  exact ⟨rfl, O2.out, HM.out⟩

theorem enters_session (args : Array Value) (w : World) : (callFunc 69 args).run Try.prog w = .ok (.enter 69 args) w := by kernel_rfl
set_option maxRecDepth 100000 in
set_option maxHeartbeats 800000 in
theorem turns_session {m : Nat} {pid : Int} (w : World) (h : Blk w m 3 #[.int .i64 pid]) : Turns 69 #[] #[.pointer (some ⟨m, 0, none⟩)] (fun p => { p with group := pid, session := pid }) w := by
  refine ⟨enters_session, fun G base n c j l p w0 hE hb O hp => ?_⟩
  have Ed : Ext w0 w0.drew := Ext.drew (Ext.refl _)
  have hB := Lib.hid (h.ext hE)
  have hm := h.lt
  have O := O.ext Ed
  obtain ⟨wd, hwd⟩ : ∃ wd, wd = w0.drew := ⟨_, rfl⟩
  rw [← hwd] at O Ed
  obtain ⟨hok, hG, hlt, hat, hfr, _⟩ := own_at O hp
  have c2 := hat.c2
  have c3 := hat.c3
  have hj : j < l.length := (List.getElem?_eq_some_iff.1 hp).1
  have O2 := own_put (p' := { p with group := pid }) (i := 2) (x := .int .i64 pid) O hp (by omega) (by simp [Pr.cells]) hok
  have O3 := own_put (p := { p with group := pid }) (p' := { p with group := pid, session := pid }) (i := 3) (x := .int .i64 pid) O2 (List.getElem?_set_self hj) (by omega) (by simp [Pr.cells]) hok
  rw [List.set_set] at O3
  have O3 := Lib.hid O3
  have hne : m ≠ G := by omega
  have hm0 : m < w0.heap.size := hB.out.lt
  have HW := Lib.hid hwd
  clear O hp hat hok O2 hwd
  show Calls Try.prog _ #[.pointer (some ⟨G, j * 43, none⟩), .pointer (some ⟨m, 0, none⟩)] w0 _
  go_enter Try.func69, Try.ntmps69
  refine wp_region_held_drew (S := fun w' => Mod (fun k => k = G) w0 w') (by kernel_rfl) (Mod.of_ext (Ext.drew (Ext.refl _))) (fun hHeld => ?_)
  rw [← HW.out] at hHeld ⊢
  (refine wpAnyH_take (i := 0) (v := ?_) rfl (by kernel_rfl) (by kernel_rfl) (by kernel_rfl) (fun _ _ _ h => h) (Or.inl ⟨by rfl, ?_⟩) (by assumption) ?_; rotate_left; (focus (intro w' hSw; go_simp; try with_reducible rfl)); (try simp only [List.getElem_toArray]); (try simp only [List.getElem_cons_succ]); (try simp only [List.getElem_cons_zero]); (try simp only [Act.put]); (try simp only [List.setIfInBounds_toArray]); (try simp only [List.set_cons_succ]); (try simp only [List.set_cons_zero]))
  (refine wpAnyH_take (i := 1) (v := ?_) rfl (by kernel_rfl) (by kernel_rfl) (by kernel_rfl) (fun _ _ _ h => h) (Or.inl ⟨by rfl, ?_⟩) (by assumption) ?_; rotate_left; (focus (intro w' hSw; go_simp; try with_reducible rfl)); (try simp only [List.getElem_toArray]); (try simp only [List.getElem_cons_succ]); (try simp only [List.getElem_cons_zero]); (try simp only [Act.put]); (try simp only [List.setIfInBounds_toArray]); (try simp only [List.set_cons_succ]); (try simp only [List.set_cons_zero]))
  (refine wpAnyH_take (i := 2) (v := ?_) rfl (by kernel_rfl) (by kernel_rfl) (by kernel_rfl) (fun _ _ _ h => h) (Or.inl ⟨by rfl, ?_⟩) (by assumption) ?_; rotate_left; (focus (intro w' hSw; have kc := (hB.out.mod hSw hne).cell0; go_simp; try with_reducible rfl)); (try simp only [List.getElem_toArray]); (try simp only [List.getElem_cons_succ]); (try simp only [List.getElem_cons_zero]); (try simp only [Act.put]); (try simp only [List.setIfInBounds_toArray]); (try simp only [List.set_cons_succ]); (try simp only [List.set_cons_zero]))
  (refine wpAnyH_take (i := 3) (v := ?_) rfl (by kernel_rfl) (by kernel_rfl) (by kernel_rfl) (fun _ _ _ h => h) (Or.inl ⟨by rfl, ?_⟩) (by assumption) ?_; rotate_left; (focus (intro w' hSw; have kc := (hB.out.mod hSw hne).cell0; go_simp; try with_reducible rfl)); (try simp only [List.getElem_toArray]); (try simp only [List.getElem_cons_succ]); (try simp only [List.getElem_cons_zero]); (try simp only [Act.put]); (try simp only [List.setIfInBounds_toArray]); (try simp only [List.set_cons_succ]); (try simp only [List.set_cons_zero]))
  (refine wpAnyH_take (i := 4) (v := ?_) rfl (by kernel_rfl) (by kernel_rfl) (by kernel_rfl) (fun _ _ _ h => h) (Or.inl ⟨by rfl, ?_⟩) (by assumption) ?_; rotate_left; (focus (intro w' hSw; go_simp; try with_reducible rfl)); (try simp only [List.getElem_toArray]); (try simp only [List.getElem_cons_succ]); (try simp only [List.getElem_cons_zero]); (try simp only [Act.put]); (try simp only [List.setIfInBounds_toArray]); (try simp only [List.set_cons_succ]); (try simp only [List.set_cons_zero]))
  (refine wpAnyH_take (i := 5) (v := ?_) rfl (by kernel_rfl) (by kernel_rfl) (by kernel_rfl) (fun _ _ _ h => h) (Or.inl ⟨by rfl, ?_⟩) (by assumption) ?_; rotate_left; (focus (intro w' hSw; go_simp; try with_reducible rfl)); (try simp only [List.getElem_toArray]); (try simp only [List.getElem_cons_succ]); (try simp only [List.getElem_cons_zero]); (try simp only [Act.put]); (try simp only [List.setIfInBounds_toArray]); (try simp only [List.set_cons_succ]); (try simp only [List.set_cons_zero]))
  (refine wpAnyH_ready (rs := [6]) (by kernel_rfl) (by simp) ?_; refine AllReadyH.cons rfl (fun K hK => ?_) AllReadyH.nil; go_simp; refine hK.out _ _ ((Mod.of_ext Ed).set1 _) (fun hHeld => ?_); clear hK K; (try simp only [Act.put]); (try simp only [List.getElem_toArray]); (try simp only [List.getElem_cons_succ]); (try simp only [List.getElem_cons_zero]); (try simp only [List.setIfInBounds_toArray]); (try simp only [List.set_cons_succ]); (try simp only [List.set_cons_zero]))
  (refine wpAnyH_take (i := 7) (v := ?_) rfl (by kernel_rfl) (by kernel_rfl) (by kernel_rfl) (fun _ _ _ h => h) (Or.inl ⟨by rfl, ?_⟩) (by assumption) ?_; rotate_left; (focus (intro w' hSw; go_simp; try with_reducible rfl)); (try simp only [List.getElem_toArray]); (try simp only [List.getElem_cons_succ]); (try simp only [List.getElem_cons_zero]); (try simp only [Act.put]); (try simp only [List.setIfInBounds_toArray]); (try simp only [List.set_cons_succ]); (try simp only [List.set_cons_zero]))
  (refine wpAnyH_take (i := 8) (v := ?_) rfl (by kernel_rfl) (by kernel_rfl) (by kernel_rfl) (fun _ _ _ h => h) (Or.inl ⟨by rfl, ?_⟩) (by assumption) ?_; rotate_left; (focus (intro w' hSw; go_simp; try with_reducible rfl)); (try simp only [List.getElem_toArray]); (try simp only [List.getElem_cons_succ]); (try simp only [List.getElem_cons_zero]); (try simp only [Act.put]); (try simp only [List.setIfInBounds_toArray]); (try simp only [List.set_cons_succ]); (try simp only [List.set_cons_zero]))
  (refine wpAnyH_ready (rs := [9]) (by kernel_rfl) (by simp) ?_; refine AllReadyH.cons rfl (fun K hK => ?_) AllReadyH.nil; go_simp; refine hK.out _ _ (((Mod.of_ext Ed).set1 _).set1 _) (fun hHeld => ?_); clear hK K; (try simp only [Act.put]); (try simp only [List.getElem_toArray]); (try simp only [List.getElem_cons_succ]); (try simp only [List.getElem_cons_zero]); (try simp only [List.setIfInBounds_toArray]); (try simp only [List.set_cons_succ]); (try simp only [List.set_cons_zero]))
  refine wpAnyH_done (by kernel_rfl) ?_ _
  go_end0
  exact ⟨rfl, O3.out, hHeld⟩

theorem enters_end1 (args : Array Value) (w : World) : (callFunc 50 args).run Try.prog w = .ok (.enter 50 args) w := by kernel_rfl
/-- a process that has ended -/
def endP (status : Int) (p : Pr) : Pr := { p with state := 3, status := status, pending := 0 }
set_option maxRecDepth 100000 in
set_option maxHeartbeats 800000 in
theorem turns_end {m : Nat} {st : Int} (w : World) (h : Blk w m 3 #[.int .i64 st]) : Turns 50 #[] #[.pointer (some ⟨m, 0, none⟩)] (endP st) w := by
  refine ⟨enters_end1, fun G base n c j l p w0 hE hb O hp => ?_⟩
  have Ed : Ext w0 w0.drew := Ext.drew (Ext.refl _)
  have hB := Lib.hid (h.ext hE)
  have hm := h.lt
  have O := O.ext Ed
  obtain ⟨wd, hwd⟩ : ∃ wd, wd = w0.drew := ⟨_, rfl⟩
  rw [← hwd] at O Ed
  obtain ⟨hok, hG, hlt, hat, hfr, _⟩ := own_at O hp
  have c4 := hat.c4
  have c7 := hat.c7
  have c41 := hat.c41
  have hj : j < l.length := (List.getElem?_eq_some_iff.1 hp).1
  have hal : p.acts.length = 32 := hok
  have O2 := own_put (p' := { p with state := 3 }) (i := 4) (x := .int .i64 3) O hp (by omega) (by simp [Pr.cells]) hok
  have O3 := own_put (p := { p with state := 3 }) (p' := { p with state := 3, status := st }) (i := 41) (x := .int .i64 st) O2 (List.getElem?_set_self hj) (by omega) (by simp [Pr.cells, hal]) hok
  rw [List.set_set] at O3
  have O4 := own_put (p := { p with state := 3, status := st }) (p' := endP st p) (i := 7) (x := .int .u64 0) O3 (List.getElem?_set_self hj) (by omega) (by simp [Pr.cells, endP]) hok
  rw [List.set_set] at O4
  have O4 := Lib.hid O4
  have hne : m ≠ G := by omega
  have hm0 : m < w0.heap.size := hB.out.lt
  have HW := Lib.hid hwd
  clear O hp hat hok O2 O3 hwd hal
  show Calls Try.prog _ #[.pointer (some ⟨G, j * 43, none⟩), .pointer (some ⟨m, 0, none⟩)] w0 _
  go_enter Try.func50, Try.ntmps50
  refine wp_region_held_drew (S := fun w' => Mod (fun k => k = G) w0 w') (by kernel_rfl) (Mod.of_ext (Ext.drew (Ext.refl _))) (fun hHeld => ?_)
  rw [← HW.out] at hHeld ⊢
  (refine wpAnyH_take (i := 0) (v := ?_) rfl (by kernel_rfl) (by kernel_rfl) (by kernel_rfl) (fun _ _ _ h => h) (Or.inl ⟨by rfl, ?_⟩) (by assumption) ?_; rotate_left; (focus (intro w' hSw; go_simp; try with_reducible rfl)); (try simp only [List.getElem_toArray]); (try simp only [List.getElem_cons_succ]); (try simp only [List.getElem_cons_zero]); (try simp only [Act.put]); (try simp only [List.setIfInBounds_toArray]); (try simp only [List.set_cons_succ]); (try simp only [List.set_cons_zero]))
  (refine wpAnyH_take (i := 1) (v := ?_) rfl (by kernel_rfl) (by kernel_rfl) (by kernel_rfl) (fun _ _ _ h => h) (Or.inl ⟨by rfl, ?_⟩) (by assumption) ?_; rotate_left; (focus (intro w' hSw; go_simp; try with_reducible rfl)); (try simp only [List.getElem_toArray]); (try simp only [List.getElem_cons_succ]); (try simp only [List.getElem_cons_zero]); (try simp only [Act.put]); (try simp only [List.setIfInBounds_toArray]); (try simp only [List.set_cons_succ]); (try simp only [List.set_cons_zero]))
  (refine wpAnyH_take (i := 2) (v := ?_) rfl (by kernel_rfl) (by kernel_rfl) (by kernel_rfl) (fun _ _ _ h => h) (Or.inl ⟨by rfl, ?_⟩) (by assumption) ?_; rotate_left; (focus (intro w' hSw; go_simp; try with_reducible rfl)); (try simp only [List.getElem_toArray]); (try simp only [List.getElem_cons_succ]); (try simp only [List.getElem_cons_zero]); (try simp only [Act.put]); (try simp only [List.setIfInBounds_toArray]); (try simp only [List.set_cons_succ]); (try simp only [List.set_cons_zero]))
  (refine wpAnyH_take (i := 3) (v := ?_) rfl (by kernel_rfl) (by kernel_rfl) (by kernel_rfl) (fun _ _ _ h => h) (Or.inl ⟨by rfl, ?_⟩) (by assumption) ?_; rotate_left; (focus (intro w' hSw; have kc := (hB.out.mod hSw hne).cell0; go_simp; try with_reducible rfl)); (try simp only [List.getElem_toArray]); (try simp only [List.getElem_cons_succ]); (try simp only [List.getElem_cons_zero]); (try simp only [Act.put]); (try simp only [List.setIfInBounds_toArray]); (try simp only [List.set_cons_succ]); (try simp only [List.set_cons_zero]))
  (refine wpAnyH_take (i := 4) (v := ?_) rfl (by kernel_rfl) (by kernel_rfl) (by kernel_rfl) (fun _ _ _ h => h) (Or.inl ⟨by rfl, ?_⟩) (by assumption) ?_; rotate_left; (focus (intro w' hSw; go_simp; try with_reducible rfl)); (try simp only [List.getElem_toArray]); (try simp only [List.getElem_cons_succ]); (try simp only [List.getElem_cons_zero]); (try simp only [Act.put]); (try simp only [List.setIfInBounds_toArray]); (try simp only [List.set_cons_succ]); (try simp only [List.set_cons_zero]))
  (refine wpAnyH_take (i := 5) (v := ?_) rfl (by kernel_rfl) (by kernel_rfl) (by kernel_rfl) (fun _ _ _ h => h) (Or.inl ⟨by rfl, ?_⟩) (by assumption) ?_; rotate_left; (focus (intro w' hSw; go_simp; try with_reducible rfl)); (try simp only [List.getElem_toArray]); (try simp only [List.getElem_cons_succ]); (try simp only [List.getElem_cons_zero]); (try simp only [Act.put]); (try simp only [List.setIfInBounds_toArray]); (try simp only [List.set_cons_succ]); (try simp only [List.set_cons_zero]))
  (refine wpAnyH_ready (rs := [6]) (by kernel_rfl) (by simp) ?_; refine AllReadyH.cons rfl (fun K hK => ?_) AllReadyH.nil; go_simp; refine hK.out _ _ ((Mod.of_ext Ed).set1 _) (fun hHeld => ?_); clear hK K; (try simp only [Act.put]); (try simp only [List.getElem_toArray]); (try simp only [List.getElem_cons_succ]); (try simp only [List.getElem_cons_zero]); (try simp only [List.setIfInBounds_toArray]); (try simp only [List.set_cons_succ]); (try simp only [List.set_cons_zero]))
  (refine wpAnyH_take (i := 7) (v := ?_) rfl (by kernel_rfl) (by kernel_rfl) (by kernel_rfl) (fun _ _ _ h => h) (Or.inl ⟨by rfl, ?_⟩) (by assumption) ?_; rotate_left; (focus (intro w' hSw; go_simp; try with_reducible rfl)); (try simp only [List.getElem_toArray]); (try simp only [List.getElem_cons_succ]); (try simp only [List.getElem_cons_zero]); (try simp only [Act.put]); (try simp only [List.setIfInBounds_toArray]); (try simp only [List.set_cons_succ]); (try simp only [List.set_cons_zero]))
  (refine wpAnyH_take (i := 8) (v := ?_) rfl (by kernel_rfl) (by kernel_rfl) (by kernel_rfl) (fun _ _ _ h => h) (Or.inl ⟨by rfl, ?_⟩) (by assumption) ?_; rotate_left; (focus (intro w' hSw; go_simp; try with_reducible rfl)); (try simp only [List.getElem_toArray]); (try simp only [List.getElem_cons_succ]); (try simp only [List.getElem_cons_zero]); (try simp only [Act.put]); (try simp only [List.setIfInBounds_toArray]); (try simp only [List.set_cons_succ]); (try simp only [List.set_cons_zero]))
  (refine wpAnyH_ready (rs := [9]) (by kernel_rfl) (by simp) ?_; refine AllReadyH.cons rfl (fun K hK => ?_) AllReadyH.nil; go_simp; refine hK.out _ _ (((Mod.of_ext Ed).set1 _).set1 _) (fun hHeld => ?_); clear hK K; (try simp only [Act.put]); (try simp only [List.getElem_toArray]); (try simp only [List.getElem_cons_succ]); (try simp only [List.getElem_cons_zero]); (try simp only [List.setIfInBounds_toArray]); (try simp only [List.set_cons_succ]); (try simp only [List.set_cons_zero]))
  (refine wpAnyH_take (i := 10) (v := ?_) rfl (by kernel_rfl) (by kernel_rfl) (by kernel_rfl) (fun _ _ _ h => h) (Or.inl ⟨by rfl, ?_⟩) (by assumption) ?_; rotate_left; (focus (intro w' hSw; go_simp; try with_reducible rfl)); (try simp only [List.getElem_toArray]); (try simp only [List.getElem_cons_succ]); (try simp only [List.getElem_cons_zero]); (try simp only [Act.put]); (try simp only [List.setIfInBounds_toArray]); (try simp only [List.set_cons_succ]); (try simp only [List.set_cons_zero]))
  (refine wpAnyH_take (i := 11) (v := ?_) rfl (by kernel_rfl) (by kernel_rfl) (by kernel_rfl) (fun _ _ _ h => h) (Or.inl ⟨by rfl, ?_⟩) (by assumption) ?_; rotate_left; (focus (intro w' hSw; go_simp; try with_reducible rfl)); (try simp only [List.getElem_toArray]); (try simp only [List.getElem_cons_succ]); (try simp only [List.getElem_cons_zero]); (try simp only [Act.put]); (try simp only [List.setIfInBounds_toArray]); (try simp only [List.set_cons_succ]); (try simp only [List.set_cons_zero]))
  (refine wpAnyH_ready (rs := [12]) (by kernel_rfl) (by simp) ?_; refine AllReadyH.cons rfl (fun K hK => ?_) AllReadyH.nil; go_simp; refine hK.out _ _ ((((Mod.of_ext Ed).set1 _).set1 _).set1 _) (fun hHeld => ?_); clear hK K; (try simp only [Act.put]); (try simp only [List.getElem_toArray]); (try simp only [List.getElem_cons_succ]); (try simp only [List.getElem_cons_zero]); (try simp only [List.setIfInBounds_toArray]); (try simp only [List.set_cons_succ]); (try simp only [List.set_cons_zero]))
  refine wpAnyH_done (by kernel_rfl) ?_ _
  go_end0
  exact ⟨rfl, O4.out, hHeld⟩
end Go.Proofs.Ytmpmnikgbepphaa
