/- Fork, by contract. No condition. -/
import Derived.Test.YtmpmnikgbepphaaK20
namespace Go.Proofs.Ytmpmnikgbepphaa
open Go.RowKit Go.Kb

theorem wpList_build_eq {P : Program} {ops : Array Oper} {rest : List Oper} {o : Oper} {a : Act} {w : World} {Q : Exit → Act → World → Prop} (hg : o.guard = none) (t : TypeId) (parts : Array (Nat × Operand)) (ho : o.op = .build t parts) {L : Array Value}
    (hf : P.built t (parts.map fun (i, x) => (i, a.eval x)).toList = some L) (h : wpList P ops Q rest (a.put o.dst (.agg L)) w) : wpList P ops Q (o :: rest) a w := by
  refine wpList_build hg t parts ho (by rw [hf]; rfl) ?_
  rw [hf]
  exact h
/-- a child, before it has its number -/
def forkP (p : Pr) (pid prog : Int) : Pr := ⟨0, pid, p.group, p.session, 0, prog, 0, 0, p.mask, p.acts, 0, false⟩
theorem forkP_ok {p : Pr} (pid prog : Int) (h : p.ok) : (forkP p pid prog).ok := h
theorem fork_built {p : Pr} (pid prog : Int) (h : p.ok) : Try.prog.built 43 [(1, .int .i64 pid), (2, .int .i64 p.group), (3, .int .i64 p.session), (5, .int .i64 prog), (8, .int .u64 p.mask), (9, .agg (p.acts.map (Value.int .i64)).toArray)] = some (forkP p pid prog).cells.toArray := by
  unfold Pr.ok at h
  obtain ⟨pid0, parent, group, session, state, prog0, pc, pending, mask, acts, status, told⟩ := p
  simp only at h
  match acts, h with
  | [x0, x1, x2, x3, x4, x5, x6, x7, x8, x9, x10, x11, x12, x13, x14, x15, x16, x17, x18, x19, x20, x21, x22, x23, x24, x25, x26, x27, x28, x29, x30, x31], _ => (show Try.prog.built _ _ = some _; kernel_rfl)
theorem i32a {p : Pr} (h : p.ok) : (Try.prog.info? 41).map (·.size) = some (p.acts.map (Value.int .i64)).length := by
  rw [List.length_map, show p.acts.length = 32 from h]
  kernel_rfl
theorem acts_at {w : World} {b o : Nat} {p : Pr} (h : PrAt w b o p) : ∀ i u, (p.acts.map (Value.int .i64))[i]? = some u → w.cell? ⟨b, o + 9 + i, none⟩ = some u := fun i u hu => by
  rw [List.getElem?_map] at hu
  cases hx : p.acts[i]? with
  | none => rw [hx] at hu; cases hu
  | some x => rw [hx] at hu; cases hu; exact h.ca i x hx
theorem askL_live {l : List Pr} {nx pid : Int} (h : askL l nx [pid] = 0) : rightL l nx = true ∧ ∃ p, getL l nx pid = (p, true) ∧ p ∈ l ∧ p.pid = pid := by
  unfold askL at h
  split at h
  · rename_i hr
    split at h
    · rename_i hl
      simp only [List.all_cons, List.all_nil, Bool.and_true, liveL, hr, Bool.true_and, List.any_eq_true, Bool.and_eq_true, beq_iff_eq] at hl
      obtain ⟨p, hp, hpid, _⟩ := hl
      refine ⟨hr, ?_⟩
      have hg : getL l nx pid = (match l.find? (fun p => p.pid == pid) with | some p => (p, true) | none => (zeroP, false)) := by unfold getL; rw [hr]; rfl
      cases hf : l.find? (fun p => p.pid == pid) with
      | none =>
        have := List.find?_eq_none.1 hf p hp
        simp [hpid] at this
      | some q => exact ⟨q, by rw [hg, hf], List.mem_of_find?_eq_some hf, by simpa using List.find?_some hf⟩
    · cases h
  · cases h
def ForkPost (l : List Pr) (nx pid prog : Int) (Ad : Option Addr) (c : Nat) (w : World) (e : Ending) (w' : World) : Prop :=
  (askL l nx [pid] ≠ 0 ∧ Ext w w' ∧ e = .returned (.tuple #[tv Ad l.length c nx, .int .i64 0, .int .i64 (askL l nx [pid])])) ∨ (askL l nx [pid] = 0 ∧ MorePost l nx (forkP (getL l nx pid).1 pid prog) Ad c w e w')
set_option maxRecDepth 100000 in
set_option maxHeartbeats 800000 in
theorem fork_any {A : Nat → Prop} (Ad : Option Addr) (c : Nat) (l : List Pr) (nx pid prog : Int) (w : World) (h : RdY Rp A w (.slice Ad l.length c) l) :
    Calls Try.prog 16 #[tv Ad l.length c nx, .int .i64 pid, .int .i64 prog] w (ForkPost l nx pid prog Ad c w) := by
  have H := Lib.hid (rdy_pr (B := fun _ => False) h)
  have hres := Lib.hid (Blk.at_ (w := w.alloc (.cells #[.slice Ad l.length c, .int .i64 nx] 29)) (B := w.heap.size + 1) 29 #[.slice none 0 0, .int .i64 0] (by simp))
  have hbox := Lib.hid ((Blk.new w 29 #[.slice Ad l.length c, .int .i64 nx]).alloc (.cells #[.slice none 0 0, .int .i64 0] 29))
  have hoks := RdY.oks h
  clear h
  obtain ⟨e0, he0⟩ : ∃ e0, askL l nx [pid] = e0 := ⟨_, rfl⟩
  have HE := Lib.hid he0
  clear he0
  go_enter Try.func16, Try.ntmps16
  go_wp2_with fail
  refine (ask_any (B := fun _ => True) Ad _ c _ l nx [pid] _ (H.out.ext (by repeat (first | with_reducible exact Ext.refl _ | refine Ext.drewN ?_ _ | refine Ext.drew ?_ | refine Ext.alloc ?_ _ | assumption | (refine Below.trans ?_ (by assumption)) | (refine Ext.trans ?_ (by assumption)) | (refine Below.trans ?_ (Below.mono (by assumption) (by omega)))))) (RdY.singleB (e := Ib) (cs := [.int .i64 pid]) rfl (Blk.at_ _ _ (by simp)))).mono ?_
  rintro e w1 ⟨rfl, E1⟩
  rw [HE.out]
  have E01 : Ext w w1 := (by repeat (first | with_reducible exact Ext.refl _ | refine Ext.drewN ?_ _ | refine Ext.drew ?_ | refine Ext.alloc ?_ _ | assumption | (refine Below.trans ?_ (by assumption)) | (refine Ext.trans ?_ (by assumption)) | (refine Below.trans ?_ (Below.mono (by assumption) (by omega)))))
  have hs := Lib.hid (hres.out.ext (Ext.trans ((Ext.refl _).alloc _) E1))
  have hb := Lib.hid (hbox.out.ext (Ext.trans ((Ext.refl _).alloc _) E1))
  have hsz := hs.out.lt
  clear E1 hres hbox
  have kb := hb.out.two
  have ks := hs.out.two
  by_cases hz : e0 = 0
  · subst hz
    obtain ⟨hr, p, hg, hpl, hpid⟩ := askL_live HE.out
    have hok := hoks p hpl
    have hl := (right_len hr).1
    have HG := Lib.hid hg
    clear hr hg hpl hpid hoks kb ks
    have kb := hb.out.two
    go_wp2_with fail
    refine (get_any Ad c l nx pid _ (H.out.ext E01)).mono ?_
    rintro e w2 ⟨rfl, E2⟩
    rw [HG.out]
    have E02 := E01.trans E2
    have kb := (hb.out.ext E2).two
    have hz2 := E02.size
    have hz3 := E2.size
    go_wp2_with (first
      | ((refine wpList_store_A rfl 43 _ _ rfl (w2.heap.size) _ rfl rfl 43 _ (zero_row w2 _ rfl) (by rw [List.size_toArray]; exact i43' hok) (Eq.trans (b := 43) (by rfl) (Eq.symm (show (p).cells.toArray.size = 43 from Pr.size hok))) (Pr.one hok) ?_); intro w3 H3 E3; have E13 : Ext w1 w3 := E3 w1.heap.size w1 (E2.alloc _) (by omega); have hp3 := prAt_blk hok H3; have c2 := hp3.c2; have c3 := hp3.c3; have c8 := hp3.c8; have kb := (hb.out.ext E13).two; clear E3)
      | (refine wpList_load_mid rfl 41 _ rfl w2.heap.size (0 + 9) rfl (p.acts.map (Value.int .i64)) _ (acts_at hp3) Try.underlying41 rfl (i32a hok) ?_)
      | (refine wpList_build_eq rfl 43 _ rfl (L := (forkP p pid prog).cells.toArray) ?_ ?_; (focus ((try simp [go_sem]); exact fork_built pid prog hok))))
    have E03 : Ext w w3 := E01.trans E13
    have hs := Lib.hid (hs.out.ext E13)
    have hsz := hs.out.lt
    clear c2 c3 c8 kb hp3 H3
    refine (more_any Ad c l nx (forkP p pid prog) _ (H.out.ext E03) (by omega) (forkP_ok _ _ hok)).mono ?_
    rintro e w4 hm
    have hE := hm.1
    have hp0 : forkP p pid prog = forkP (getL l nx pid).1 pid prog := by rw [HG.out]
    obtain ⟨_, ⟨h32, rfl⟩ | ⟨h32, A', c', rfl, _⟩⟩ := id hm
    · clear h32
      have hs2 := hs.out.ext hE
      have ks := hs2.two
      have hM7 : Mod (fun k => k = w.heap.size + 1) w4 _ := ((Mod.refl _ w4).set1 (.slice Ad l.length c) (o := 0)).set1 (.int .i64 nx) (o := 1)
      obtain ⟨q0, q1, _, _⟩ := (hs2.put2 (.slice Ad l.length c) (.int .i64 nx)).two
      go_wp2
      refine bodyPost_ret (v := .tuple #[tv Ad l.length c nx, .int .i64 0, .int .i64 10]) (by simp [results, Try.results16, go_sem, q0, q1]) rfl ?_
      exact .inr ⟨HE.out, by rw [← hp0]; exact hm.box E03 (by omega) hsz hM7⟩
    · have hs2 := hs.out.ext hE
      have ks := hs2.two
      have hM7 : Mod (fun k => k = w.heap.size + 1) w4 _ := ((Mod.refl _ w4).set1 (.slice A' (l.length + 1) c') (o := 0)).set1 (.int .i64 (nextNo nx)) (o := 1)
      obtain ⟨q0, q1, _, _⟩ := (hs2.put2 (.slice A' (l.length + 1) c') (.int .i64 (nextNo nx))).two
      go_wp2
      refine bodyPost_ret (v := .tuple #[tv A' (l.length + 1) c' (nextNo nx), .int .i64 nx, .int .i64 0]) (by simp [results, Try.results16, go_sem, q0, q1]) rfl ?_
      exact .inr ⟨HE.out, by rw [← hp0]; exact hm.box E03 (by omega) hsz hM7⟩
  · have hz2 : (e0 != 0) = true := by simpa using hz
    have hM7 : Mod (fun k => k = w.heap.size + 1) w1 _ := ((Mod.refl _ w1).set1 (.slice Ad l.length c) (o := 0)).set1 (.int .i64 nx) (o := 1)
    obtain ⟨q0, q1, _, _⟩ := (hs.out.put2 (.slice Ad l.length c) (.int .i64 nx)).two
    go_wp2
    refine bodyPost_ret (v := .tuple #[tv Ad l.length c nx, .int .i64 0, .int .i64 e0]) (by simp [results, Try.results16, go_sem, q0, q1]) rfl ?_
    exact .inl ⟨by rw [HE.out]; exact hz, Mod.toExt E01 hM7 (by intro k hk he; omega), by rw [HE.out]⟩
end Go.Proofs.Ytmpmnikgbepphaa
