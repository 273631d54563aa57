/- Written by chain.py of H22[live_ask] N22 O22 P22. No condition. -/
import Derived.Test.YteljobleojhgmaaGreatH21
namespace Go.Proofs.YteljobleojhgmaaGreat
open Go.RowKit Go.Kb Go.Kb.Bits

theorem live_ask {l : List Pr} {nx pid : Int} (h : liveL l nx pid = true) : askL l nx [pid] = 0 := by
  have hr : rightL l nx = true := by
    unfold liveL at h
    rw [Bool.and_eq_true] at h
    exact h.1
  unfold askL
  simp [hr, h]
end Go.Proofs.YteljobleojhgmaaGreat
namespace Go.Proofs.YteljobleojhgmaaGreat
open Go.RowKit Go.Kb

theorem RI.ofBlk {w : World} {g : Nat} {t : TypeId} {l : List Int} (h : Blk w g t (l.map (Value.int .i64)).toArray) (hm : l.length ≤ maxLen) : RI .i64 w (.slice (some ⟨g, 0, none⟩) l.length l.length) l :=
  ⟨by simp, _, _, rfl, Nat.le_refl _, hm, .inr ⟨g, 0, rfl, fun j u hu => by rw [Nat.zero_add, h.cell, List.getElem?_toArray]; exact hu⟩⟩
set_option maxHeartbeats 800000 in
theorem indexI_any (v : Value) (l : List Int) (x : Int) (w : World) (hl : RI .i64 w v l) : Calls Tryz.prog 102 #[v, .int .i64 x] w fun e w' => (∃ i : Int, e = .returned (.int .i64 i) ∧ decide (0 ≤ i) = decide (x ∈ l)) ∧ Ext w w' := by
  obtain ⟨Ad, c, rfl, hc1, hc2⟩ := hl.shape
  have HL := Lib.hid hl
  obtain ⟨n, hn⟩ : ∃ n, l.length = n := ⟨_, rfl⟩
  rw [hn] at HL hc1 ⊢
  have HN := Lib.hid hn
  clear hl hn
  go_enter Tryz.func102, Tryz.ntmps102
  go_wp2
  go_loopw [8] (fun i wr => ∃ m : Nat, m ≤ n ∧ i = .int .i64 m ∧ Hid (¬ x ∈ l.take m) ∧ Ext w wr) (fun i _ => n - (intOf i).toNat)
  case atStart => exact ⟨0, Nat.zero_le _, rfl, Lib.hid (by simp), (by repeat (first | with_reducible exact Ext.refl _ | refine Ext.drewN ?_ _ | refine Ext.drew ?_ | refine Ext.alloc ?_ _ | assumption | (refine Below.trans ?_ (by assumption)) | (refine Ext.trans ?_ (by assumption)) | (refine Below.trans ?_ (Below.mono (by assumption) (by omega)))))⟩
  case round =>
    obtain ⟨m, hm, rfl, HD, hE⟩ := hrel
    by_cases hlt : m < n
    · have Ha := RdN.ext HL.out hE
      obtain ⟨b, off, y, rfl, hc1, hy⟩ := RdN.icell Ha hlt
      have k1 : (m : Int) < (n : Int) := by omega
      have k2 : (0 : Int) ≤ (m : Int) := by omega
      clear Ha
      by_cases hxy : x = y
      · have hb : (x == y) = true := by simpa using hxy
        have HX := Lib.hid hxy
        clear hxy
        go_wp2
        go_ret
        exact ⟨⟨m, rfl, by rw [decide_eq_true k2, decide_eq_true]; rw [HX.out]; exact List.mem_of_getElem? hy.out⟩, hE⟩
      · have hb : (x == y) = false := by simpa using hxy
        go_wp2
        go_roundw
        case rel => exact ⟨m + 1, by omega, by go_num, Lib.hid (by
          rw [List.take_add_one, hy.out]
          intro hq
          rcases List.mem_append.1 hq with h | h
          · exact HD.out h
          · simp at h; exact hxy h), hE⟩
        case measure => simp [intOf]; omega
    · obtain rfl : m = n := by omega
      have ht : l.take m = l := List.take_of_length_le (by have := HN.out; omega)
      rw [ht] at HD
      have HD := Lib.hid HD.out
      go_wp2
      go_ret
      exact ⟨⟨-1, rfl, by rw [decide_eq_false HD.out]; rfl⟩, hE⟩
set_option maxHeartbeats 800000 in
theorem hasI_any (v : Value) (l : List Int) (x : Int) (w : World) (hl : RI .i64 w v l) : Calls Tryz.prog 72 #[v, .int .i64 x] w fun e w' => e = .returned (.bool (decide (x ∈ l))) ∧ Ext w w' := by
  have HI := Lib.hid (indexI_any v l x w hl)
  clear hl
  generalize decide (x ∈ l) = d at *
  go_enter Tryz.func72, Tryz.ntmps72
  go_wp2_with fail
  refine HI.out.mono ?_
  rintro e w1 ⟨⟨i, rfl, hi⟩, E1⟩
  cases d
  · have hi2 : ¬ (0 : Int) ≤ i := of_decide_eq_false hi
    clear hi
    go_wp2
    go_ret
    exact ⟨by show Ending.returned (.bool (decide (0 ≤ i))) = _; rw [decide_eq_false (by omega)], E1⟩
  · have hi2 : (0 : Int) ≤ i := of_decide_eq_true hi
    clear hi
    go_wp2
    go_ret
    exact ⟨rfl, E1⟩
def stopsL : List Int := [19, 20, 21, 22]
theorem stops_any (w : World) : Calls Tryz.prog 70 #[] w fun e w' => ∃ v, e = .returned v ∧ RI .i64 w' v stopsL ∧ Ext w w' := by
  go_enter Tryz.func70, Tryz.ntmps70
  go_wp2
  go_ret
  exact ⟨_, rfl, RI.ofBlk (l := stopsL) (Blk.at_ _ _ rfl) (by decide), (by repeat (first | with_reducible exact Ext.refl _ | refine Ext.drewN ?_ _ | refine Ext.drew ?_ | refine Ext.alloc ?_ _ | assumption | (refine Below.trans ?_ (by assumption)) | (refine Ext.trans ?_ (by assumption)) | (refine Below.trans ?_ (Below.mono (by assumption) (by omega)))))⟩
/-- a process that is sent a signal of those that jobs send -/
def sendP (sig : Int) (p : Pr) : Pr := { p with pending := Sig.addL (if sig = 1 then p.pending else Sig.delL p.pending 18) sig }
theorem pend_cells {p : Pr} {x : Int} : p.cells.toArray.setIfInBounds 7 (.int .u64 x) = (Pr.cells { p with pending := x }).toArray := by
  simp [Pr.cells]
set_option maxRecDepth 100000 in
set_option maxHeartbeats 800000 in
theorem send_any (p : Pr) (sig : Int) (hs : sig = 1 ∨ sig = 21 ∨ sig = 22) (n : Nat) (w : World) (h : Blk w n 42 p.cells.toArray) (hok : p.ok) (hb : Sig.U64 p.pending) :
    Calls Tryz.prog 42 #[.pointer (some ⟨n, 0, none⟩), .int .i64 sig] w fun e w' => e = .returned (.tuple #[]) ∧ Blk w' n 42 (sendP sig p).cells.toArray ∧ Mod (fun k => k = n) w w' := by
  have B := Lib.hid h
  clear h
  rcases hs with rfl | rfl | rfl
  ·
    go_enter Tryz.func42, Tryz.ntmps42
    go_wp2_with fail
    refine (stops_any _).mono ?_
    rintro e w1 ⟨v, rfl, R1, E1⟩
    have R1 := Lib.hid R1
    have B := Lib.hid (B.out.ext E1)
    go_wp2_with fail
    refine (hasI_any v stopsL 1 _ R1.out).mono ?_
    rw [show decide ((1 : Int) ∈ stopsL) = false by decide]
    rintro e w2 ⟨rfl, E2⟩
    have B := Lib.hid (B.out.ext E2)
    have E12 := E1.trans E2
    have pc7 := (prAt_blk hok B.out).c7
    have pf7 := B.out.frozen 7
    clear R1 E1 E2
    go_wp2_with fail
    refine (Sig.add_any p.pending 1 _ hb).mono ?_
    rintro e w3 ⟨rfl, Ew3⟩
    have B := Lib.hid (B.out.ext Ew3)
    have pc7 := (prAt_blk hok B.out).c7
    have pf7 := B.out.frozen 7
    go_wp2
    go_end0
    exact ⟨rfl, by rw [← pend_cells]; exact B.out.set_ 7 _, (Mod.of_ext (E12.trans Ew3)).set1 _⟩
  ·
    go_enter Tryz.func42, Tryz.ntmps42
    go_wp2_with fail
    refine (stops_any _).mono ?_
    rintro e w1 ⟨v, rfl, R1, E1⟩
    have R1 := Lib.hid R1
    have B := Lib.hid (B.out.ext E1)
    go_wp2_with fail
    refine (hasI_any v stopsL 21 _ R1.out).mono ?_
    rw [show decide ((21 : Int) ∈ stopsL) = true by decide]
    rintro e w2 ⟨rfl, E2⟩
    have B := Lib.hid (B.out.ext E2)
    have E12 := E1.trans E2
    have pc7 := (prAt_blk hok B.out).c7
    have pf7 := B.out.frozen 7
    clear R1 E1 E2
    go_wp2_with fail
    refine (Sig.del_any p.pending 18 _ hb).mono ?_
    rintro e w3 ⟨rfl, E3⟩
    have B := Lib.hid (B.out.ext E3)
    have E13 := E12.trans E3
    have pc7 := (prAt_blk hok B.out).c7
    have pf7 := B.out.frozen 7
    go_wp2_with fail
    obtain ⟨q, hq⟩ : ∃ q : Pr, q = { p with pending := Sig.delL p.pending 18 } := ⟨_, rfl⟩
    have M4 : Mod (fun k => k = n) w (w3.setCell ⟨n, 7, none⟩ (.int .u64 (Sig.delL p.pending 18))) := (Mod.of_ext E13).set1 _
    have B := Lib.hid (show Blk (w3.setCell ⟨n, 7, none⟩ (.int .u64 (Sig.delL p.pending 18))) n 42 q.cells.toArray by rw [hq, ← pend_cells]; exact B.out.set_ 7 _)
    have hqok : q.ok := by rw [hq]; exact hok
    have hqp : Sig.delL p.pending 18 = q.pending := by rw [hq]
    have hqb : Sig.U64 q.pending := by rw [hq]; exact Sig.delL_bd hb 18
    have HQ := Lib.hid (show sendP 21 p = { q with pending := Sig.addL q.pending 21 } by rw [hq]; rfl)
    rw [hqp] at B M4 ⊢
    clear hq pc7 pf7 hqp
    generalize w3.setCell _ _ = w4 at *
    refine (Sig.add_any q.pending 21 _ hqb).mono ?_
    rintro e w5 ⟨rfl, E5⟩
    have B := Lib.hid (B.out.ext E5)
    have pc7 := (prAt_blk hqok B.out).c7
    have pf7 := B.out.frozen 7
    go_wp2
    go_end0
    exact ⟨rfl, by rw [HQ.out, ← pend_cells]; exact B.out.set_ 7 _, (M4.ext E5).set1 _⟩
  ·
    go_enter Tryz.func42, Tryz.ntmps42
    go_wp2_with fail
    refine (stops_any _).mono ?_
    rintro e w1 ⟨v, rfl, R1, E1⟩
    have R1 := Lib.hid R1
    have B := Lib.hid (B.out.ext E1)
    go_wp2_with fail
    refine (hasI_any v stopsL 22 _ R1.out).mono ?_
    rw [show decide ((22 : Int) ∈ stopsL) = true by decide]
    rintro e w2 ⟨rfl, E2⟩
    have B := Lib.hid (B.out.ext E2)
    have E12 := E1.trans E2
    have pc7 := (prAt_blk hok B.out).c7
    have pf7 := B.out.frozen 7
    clear R1 E1 E2
    go_wp2_with fail
    refine (Sig.del_any p.pending 18 _ hb).mono ?_
    rintro e w3 ⟨rfl, E3⟩
    have B := Lib.hid (B.out.ext E3)
    have E13 := E12.trans E3
    have pc7 := (prAt_blk hok B.out).c7
    have pf7 := B.out.frozen 7
    go_wp2_with fail
    obtain ⟨q, hq⟩ : ∃ q : Pr, q = { p with pending := Sig.delL p.pending 18 } := ⟨_, rfl⟩
    have M4 : Mod (fun k => k = n) w (w3.setCell ⟨n, 7, none⟩ (.int .u64 (Sig.delL p.pending 18))) := (Mod.of_ext E13).set1 _
    have B := Lib.hid (show Blk (w3.setCell ⟨n, 7, none⟩ (.int .u64 (Sig.delL p.pending 18))) n 42 q.cells.toArray by rw [hq, ← pend_cells]; exact B.out.set_ 7 _)
    have hqok : q.ok := by rw [hq]; exact hok
    have hqp : Sig.delL p.pending 18 = q.pending := by rw [hq]
    have hqb : Sig.U64 q.pending := by rw [hq]; exact Sig.delL_bd hb 18
    have HQ := Lib.hid (show sendP 22 p = { q with pending := Sig.addL q.pending 22 } by rw [hq]; rfl)
    rw [hqp] at B M4 ⊢
    clear hq pc7 pf7 hqp
    generalize w3.setCell _ _ = w4 at *
    refine (Sig.add_any q.pending 22 _ hqb).mono ?_
    rintro e w5 ⟨rfl, E5⟩
    have B := Lib.hid (B.out.ext E5)
    have pc7 := (prAt_blk hqok B.out).c7
    have pf7 := B.out.frozen 7
    go_wp2
    go_end0
    exact ⟨rfl, by rw [HQ.out, ← pend_cells]; exact B.out.set_ 7 _, (M4.ext E5).set1 _⟩
end Go.Proofs.YteljobleojhgmaaGreat
namespace Go.Proofs.YteljobleojhgmaaGreat
open Go.RowKit Go.Kb

set_option maxRecDepth 100000 in
set_option maxHeartbeats 800000 in
theorem dright_any {A : Nat → Prop} (Ad : Option Addr) (c : Nat) (l : List Pr) (nx : Int) (w : World) (h : RdY Rp A w (.slice Ad l.length c) l) :
    Calls Tryz.prog 40 #[tv Ad l.length c nx] w fun e w' => e = .returned (.bool (rightL l nx)) ∧ Ext w w' := by
  have hF := fork_any Ad c l nx 0 0 _ (RdY.ext h ((Ext.refl w).alloc (.cells #[.slice Ad l.length c, .int .i64 nx] 29)))
  unfold ForkPost MorePost at hF
  have HF := Lib.hid hF
  have HA := Lib.hid (show (rightL l nx = false → askL l nx [0] = 4) ∧ (rightL l nx = true → askL l nx [0] = 0 ∨ askL l nx [0] = 8) from ⟨fun hr => by unfold askL; rw [hr]; rfl, fun hr => by
    unfold askL
    rw [hr]
    cases [(0 : Int)].all (liveL l nx)
    · exact .inr rfl
    · exact .inl rfl⟩)
  clear h hF
  generalize rightL l nx = r at *
  generalize askL l nx [0] = a at *
  go_enter Tryz.func40, Tryz.ntmps40
  go_wp2_with fail
  refine HF.out.mono ?_
  rintro e w1 (⟨h, E1, rfl⟩ | ⟨h, E1, (⟨_, rfl⟩ | ⟨_, A1, c1, rfl, _⟩)⟩)
  · cases r
    · have ha := HA.out.1 rfl
      subst ha
      go_wp2
      go_ret
      exact ⟨rfl, (by repeat (first | with_reducible exact Ext.refl _ | refine Ext.drewN ?_ _ | refine Ext.drew ?_ | refine Ext.alloc ?_ _ | assumption | (refine Below.trans ?_ (by assumption)) | (refine Ext.trans ?_ (by assumption)) | (refine Below.trans ?_ (Below.mono (by assumption) (by omega)))))⟩
    · have ha := (HA.out.2 rfl).resolve_left h
      subst ha
      go_wp2
      go_ret
      exact ⟨rfl, (by repeat (first | with_reducible exact Ext.refl _ | refine Ext.drewN ?_ _ | refine Ext.drew ?_ | refine Ext.alloc ?_ _ | assumption | (refine Below.trans ?_ (by assumption)) | (refine Ext.trans ?_ (by assumption)) | (refine Below.trans ?_ (Below.mono (by assumption) (by omega)))))⟩
  · cases r
    · have := HA.out.1 rfl
      omega
    · go_wp2
      go_ret
      exact ⟨rfl, (by repeat (first | with_reducible exact Ext.refl _ | refine Ext.drewN ?_ _ | refine Ext.drew ?_ | refine Ext.alloc ?_ _ | assumption | (refine Below.trans ?_ (by assumption)) | (refine Ext.trans ?_ (by assumption)) | (refine Below.trans ?_ (Below.mono (by assumption) (by omega)))))⟩
  · cases r
    · have := HA.out.1 rfl
      omega
    · go_wp2
      go_ret
      exact ⟨rfl, (by repeat (first | with_reducible exact Ext.refl _ | refine Ext.drewN ?_ _ | refine Ext.drew ?_ | refine Ext.alloc ?_ _ | assumption | (refine Below.trans ?_ (by assumption)) | (refine Ext.trans ?_ (by assumption)) | (refine Below.trans ?_ (Below.mono (by assumption) (by omega)))))⟩
/-- a table one of whose processes is sent a signal -/
def sendL (l : List Pr) (nx pid sig : Int) : List Pr × Int := if rightL l nx = true then if liveL l nx pid = true then (changeL (fun _ => sendP sig (getL l nx pid).1) (getL l nx pid).1.pid l, 0) else (l, 8) else (l, 4)
theorem sendL_len {l : List Pr} {nx pid sig : Int} : (sendL l nx pid sig).1.length = l.length := by
  unfold sendL
  split
  · split
    · exact changeL_len
    · rfl
  · rfl
/-- the slice that was handed in, or one in new memory -/
def TabS (T : TypeId) (Ad : Option Addr) (c : Nat) (l0 : List Pr) (base : Nat) (w : World) (A' : Option Addr) (c' : Nat) (l : List Pr) : Prop :=
  (A' = Ad ∧ c' = c ∧ l = l0) ∨ OwnS Rp T base (fun _ => False) w (.slice A' l0.length c') l
theorem TabS.y {A : Nat → Prop} {T : TypeId} {Ad A' : Option Addr} {c c' base : Nat} {l0 l : List Pr} {w0 w : World} (h : TabS T Ad c l0 base w A' c' l) (hR : RdY Rp A w0 (.slice Ad l0.length c) l0) (E : Ext w0 w) : RdY Rp (fun _ => False) w (.slice A' l0.length c') l := by
  rcases h with ⟨rfl, rfl, rfl⟩ | h
  · exact rdy_pr (hR.ext E)
  · exact rdy_pr h.y
theorem TabS.ext {T : TypeId} {Ad A' : Option Addr} {c c' base : Nat} {l0 l : List Pr} {w w' : World} (h : TabS T Ad c l0 base w A' c' l) (E : Ext w w') : TabS T Ad c l0 base w' A' c' l := by
  rcases h with h | h
  · exact .inl h
  · exact .inr (h.ext E)
theorem TabS.lower {T : TypeId} {Ad A' : Option Addr} {c c' base base' : Nat} {l0 l : List Pr} {w : World} (h : TabS T Ad c l0 base w A' c' l) (hb : base' ≤ base) : TabS T Ad c l0 base' w A' c' l := by
  rcases h with h | h
  · exact .inl h
  · exact .inr (h.lower hb)
theorem TabS.trans {T : TypeId} {Ad A' A2 : Option Addr} {c c' c2 base base2 : Nat} {l0 l l2 : List Pr} {w w' : World} (h : TabS T Ad c l0 base w A' c' l) (g : TabS T A' c' l base2 w' A2 c2 l2) (hl : l.length = l0.length) (E : Ext w w') (hb : base ≤ base2) : TabS T Ad c l0 base w' A2 c2 l2 := by
  rcases g with ⟨rfl, rfl, rfl⟩ | g
  · exact h.ext E
  · rw [hl] at g
    exact .inr (g.lower hb)
theorem TabS.mod {T t : TypeId} {Ad A' : Option Addr} {c c' base k : Nat} {l0 l : List Pr} {w w' : World} {cs : Array Value} (h : TabS T Ad c l0 base w A' c' l) (M : Mod (fun j => j = k) w w') (hb : Blk w k t cs) (hne : T ≠ t) : TabS T Ad c l0 base w' A' c' l := by
  rcases h with h | h
  · exact .inl h
  · exact .inr (h.mod M (fun j hj he => own_blk_ne h.choose_spec.1 hb hne (by rw [← he]; exact hj)) (fun k _ hk _ => hk))
def SendPost (Ad : Option Addr) (c : Nat) (l : List Pr) (nx pid sig : Int) (w : World) (e : Ending) (w' : World) : Prop :=
  ∃ A' c', e = .returned (.tuple #[tv A' l.length c' nx, .int .i64 (sendL l nx pid sig).2]) ∧ TabS 42 Ad c l w.heap.size w' A' c' (sendL l nx pid sig).1 ∧ Ext w w'
theorem sig_known {sig : Int} (hs : sig = 1 ∨ sig = 21 ∨ sig = 22) : Sig.isL sig = true := by
  rcases hs with rfl | rfl | rfl <;> rfl
set_option maxRecDepth 100000 in
set_option maxHeartbeats 800000 in
theorem send_to {A : Nat → Prop} (Ad : Option Addr) (c : Nat) (l : List Pr) (nx pid sig : Int) (hs : sig = 1 ∨ sig = 21 ∨ sig = 22) (w : World) (h : RdY Rp A w (.slice Ad l.length c) l) (hb : ∀ p ∈ l, Sig.U64 p.pending) :
    Calls Tryz.prog 17 #[tv Ad l.length c nx, .int .i64 pid, .int .i64 sig] w (SendPost Ad c l nx pid sig w) := by
  have H := Lib.hid (rdy_pr (B := fun _ => False) h)
  have hoks := Lib.hid (RdY.oks h)
  obtain ⟨W, hW⟩ : ∃ W, W = (w.alloc (.cells #[.slice Ad l.length c, .int .i64 nx] 29)).alloc (.cells #[.slice none 0 0, .int .i64 0] 29) := ⟨_, rfl⟩
  have hres := Lib.hid (show Blk W (w.heap.size + 1) 29 #[.slice none 0 0, .int .i64 0] by rw [hW]; exact Blk.at_ _ _ (by simp))
  have hbox := Lib.hid (show Blk W w.heap.size 29 #[.slice Ad l.length c, .int .i64 nx] by rw [hW]; exact (Blk.new w _ _).alloc _)
  have E0 : Ext w W := by rw [hW]; exact (by repeat (first | with_reducible exact Ext.refl _ | refine Ext.drewN ?_ _ | refine Ext.drew ?_ | refine Ext.alloc ?_ _ | assumption | (refine Below.trans ?_ (by assumption)) | (refine Ext.trans ?_ (by assumption)) | (refine Below.trans ?_ (Below.mono (by assumption) (by omega)))))
  have HW := Lib.hid hW
  have HB := Lib.hid hb
  have hkn := sig_known hs
  have HNM := Lib.hid fun w' => Sig.name_any sig w'
  rw [hkn] at HNM
  have HS := Lib.hid hs
  have hsl : sendL l nx pid sig = if rightL l nx = true then if liveL l nx pid = true then (changeL (fun _ => sendP sig (getL l nx pid).1) (getL l nx pid).1.pid l, 0) else (l, 8) else (l, 4) := rfl
  have HSL := Lib.hid hsl
  clear h hW hb hs hkn hsl
  unfold SendPost
  go_enter Tryz.func17, Tryz.ntmps17
  go_wp2_with fail
  rw [← HW.out]
  refine (HNM.out _).mono ?_
  rintro e w1 ⟨rfl, E1⟩
  generalize (if true = true then Sig.nameB sig.toNat else ⟨#[]⟩ : ByteArray) = nm at *
  have kb := (hbox.out.ext E1).two
  have E01 := E0.trans E1
  have HR := Lib.hid (dright_any (A := fun _ => False) Ad c l nx w1 (H.out.ext E01))
  clear HNM
  go_wp2_with fail
  refine HR.out.mono ?_
  rintro e w2 ⟨rfl, E2⟩
  have E12 := E1.trans E2
  have E02 := E01.trans E2
  have kb := (hbox.out.ext E12).two
  have ks := (hres.out.ext E12).two
  clear HR E2
  cases hr : rightL l nx
  · have HR := Lib.hid hr
    clear hr
    have hM8 : Mod (fun k => k = w.heap.size + 1) w2 _ := ((Mod.refl _ w2).set1 (.slice Ad l.length c) (o := 0)).set1 (.int .i64 nx) (o := 1)
    obtain ⟨q0, q1, _, _⟩ := ((hres.out.ext E12).put2 (.slice Ad l.length c) (.int .i64 nx)).two
    go_wp2
    refine bodyPost_ret (v := .tuple #[tv Ad l.length c nx, .int .i64 4]) (by simp [results, Tryz.results17, go_sem, q0, q1]) rfl ?_
    rw [HSL.out, HR.out]
    have EE : Ext w _ := Mod.toExt E02 hM8 (by intro k hk he; omega)
    exact ⟨Ad, c, rfl, .inl ⟨rfl, rfl, rfl⟩, EE⟩
  · have HR := Lib.hid hr
    clear hr
    have HL := Lib.hid (live_any (A := fun _ => False) Ad c l nx pid w2 (H.out.ext E02))
    clear ks
    go_wp2_with fail
    refine HL.out.mono ?_
    rintro e w3 ⟨rfl, E3⟩
    have E13 := E12.trans E3
    have E03 := E02.trans E3
    have kb := (hbox.out.ext E13).two
    have ks := (hres.out.ext E13).two
    clear HL E3
    cases hl : liveL l nx pid
    · have HL := Lib.hid hl
      clear hl
      have hM8 : Mod (fun k => k = w.heap.size + 1) w3 _ := ((Mod.refl _ w3).set1 (.slice Ad l.length c) (o := 0)).set1 (.int .i64 nx) (o := 1)
      obtain ⟨q0, q1, _, _⟩ := ((hres.out.ext E13).put2 (.slice Ad l.length c) (.int .i64 nx)).two
      go_wp2
      refine bodyPost_ret (v := .tuple #[tv Ad l.length c nx, .int .i64 8]) (by simp [results, Tryz.results17, go_sem, q0, q1]) rfl ?_
      rw [HSL.out, HR.out, HL.out]
      have EE : Ext w _ := Mod.toExt E03 hM8 (by intro k hk he; omega)
      exact ⟨Ad, c, rfl, .inl ⟨rfl, rfl, rfl⟩, EE⟩
    · obtain ⟨_, p, hgp, hpl, _⟩ := askL_live (live_ask hl)
      have HL := Lib.hid hl
      have hpok := hoks.out p hpl
      have hpp := HB.out p hpl
      have hG := get_any (A := fun _ => False) Ad c l nx pid w3 (H.out.ext E03)
      rw [hgp] at hG
      have HG := Lib.hid hG
      have HSL := Lib.hid (HSL.out.trans (by rw [HR.out, HL.out, hgp]; rfl) : sendL l nx pid sig = (changeL (fun _ => sendP sig p) p.pid l, 0))
      have HPP := Lib.hid hpp
      clear hl hgp hG ks hpp hpl
      go_wp2_with fail
      refine HG.out.mono ?_
      rintro e w4 ⟨rfl, E4⟩
      have E14 := E13.trans E4
      have E04 := E03.trans E4
      obtain ⟨n10, hn10⟩ : ∃ n10, w4.heap.size = n10 := ⟨_, rfl⟩
      clear kb HG E4
      go_wp2_with ((refine wpList_store_A rfl 42 _ _ rfl (n10) _ rfl rfl 42 _ (zero_row w4 n10 hn10) (by rw [List.size_toArray]; exact i43' hpok) (Eq.trans (b := 43) (by rfl) (Eq.symm (show (p).cells.toArray.size = 43 from Pr.size hpok))) (Pr.one hpok) ?_); intro w5 H5 E5; have E45 : Ext w4 w5 := E5 w4.heap.size w4 ((Ext.refl w4).alloc _) (by omega); have b10 := Lib.hid H5; clear E5 H5)
      have E15 := E14.trans E45
      have E05 := E04.trans E45
      refine (send_any p sig HS.out n10 w5 b10.out hpok HPP.out).mono ?_
      rintro e w6 ⟨rfl, B6, M6⟩
      have hn1 := (hres.out.ext E14).lt
      have hz0 := E0.size
      have B6 := Lib.hid B6
      have hbox6 := Lib.hid ((hbox.out.ext E15).mod M6 (by omega))
      have hres6 := Lib.hid ((hres.out.ext E15).mod M6 (by omega))
      have E06 : Ext w w6 := Mod.toExt E05 M6 (by intro k hk he; have := E04.size; omega)
      have R6 := Lib.hid ((H.out.ext E04).ext (Mod.toExt E45 M6 (by intro k hk he; omega)))
      have hqok : (sendP sig p).ok := hpok
      have hqp : (sendP sig p).pid = p.pid := rfl
      generalize sendP sig p = q at *
      have kb := hbox6.out.two
      clear b10 M6 hn10 E45 E15 E05 hz0
      go_wp2_with (refine wpList_load_row rfl 42 _ rfl _ rfl 42 _ _ _ B6.out Tryz.underlying42 rfl (by rw [List.size_toArray]; exact i43' hqok) ?_)
      refine (set_any Ad c l nx q _ R6.out hqok).mono ?_
      rintro e w7 ⟨E7, ⟨hr, _⟩ | ⟨_, A7, c7, rfl, O7⟩⟩
      · rw [HR.out] at hr; cases hr
      rw [hqp] at O7
      have E07 := E06.trans E7
      have ks := (hres6.out.ext E7).two
      have hM8 : Mod (fun k => k = w.heap.size + 1) w7 _ := ((Mod.refl _ w7).set1 (.slice A7 l.length c7) (o := 0)).set1 (.int .i64 nx) (o := 1)
      obtain ⟨q0, q1, _, _⟩ := ((hres6.out.ext E7).put2 (.slice A7 l.length c7) (.int .i64 nx)).two
      have hz6 : w.heap.size + 1 < w6.heap.size := hres6.out.lt
      have O8 := Lib.hid (O7.mod hM8 (fun k hk he => by have := (O7.row k hk).1; omega) (fun k _ hk _ => hk))
      clear O7 kb hz6
      go_wp2
      refine bodyPost_ret (v := .tuple #[tv A7 l.length c7 nx, .int .i64 0]) (by simp [results, Tryz.results17, go_sem, q0, q1]) rfl ?_
      rw [HSL.out]
      exact ⟨A7, c7, rfl, .inr (O8.out.lower E06.size), Mod.toExt E07 hM8 (by intro k hk he; omega)⟩
end Go.Proofs.YteljobleojhgmaaGreat
namespace Go.Proofs.YteljobleojhgmaaGreat
open Go.RowKit Go.Kb

/-- processes of a table are sent a signal, one behind the other -/
def sendsL (l : List Pr) (nx sig : Int) (ks : List Int) : List Pr := ks.foldl (fun l k => (sendL l nx k sig).1) l
theorem sendsL_len {nx sig : Int} : ∀ {ks : List Int} {l : List Pr}, (sendsL l nx sig ks).length = l.length
  | [], _ => rfl
  | k :: ks, l => by
    show (sendsL (sendL l nx k sig).1 nx sig ks).length = l.length
    rw [sendsL_len, sendL_len]
theorem sendsL_take {l : List Pr} {nx sig : Int} {ks : List Int} {m : Nat} {x : Int} (h : ks[m]? = some x) : sendsL l nx sig (ks.take (m + 1)) = (sendL (sendsL l nx sig (ks.take m)) nx x sig).1 := by
  unfold sendsL
  rw [List.take_add_one, h, List.foldl_append]
  rfl
theorem change_in {g : Pr → Pr} {k : Int} : ∀ {l : List Pr} {q : Pr}, q ∈ changeL g k l → q ∈ l ∨ ∃ p ∈ l, q = g p
  | [], q, h => by rw [changeL_nil] at h; cases h
  | p :: r, q, h => by
    rw [changeL_cons] at h
    split at h
    · rcases List.mem_cons.1 h with rfl | h
      · exact .inr ⟨p, by simp, rfl⟩
      · exact .inl (by simp [h])
    · rcases List.mem_cons.1 h with rfl | h
      · exact .inl (by simp)
      · rcases change_in h with h | ⟨x, h1, h2⟩
        · exact .inl (by simp [h])
        · exact .inr ⟨x, by simp [h1], h2⟩
theorem sendP_bd {p : Pr} {sig : Int} (h : Sig.U64 p.pending) : Sig.U64 (sendP sig p).pending := by
  show Sig.U64 (Sig.addL (if sig = 1 then p.pending else Sig.delL p.pending 18) sig)
  split
  · exact Sig.addL_bd h _
  · exact Sig.addL_bd (Sig.delL_bd h _) _
theorem sendL_bd {l : List Pr} {nx k sig : Int} (h : ∀ p ∈ l, Sig.U64 p.pending) : ∀ p ∈ (sendL l nx k sig).1, Sig.U64 p.pending := by
  intro q hq
  unfold sendL at hq
  split at hq
  · split at hq
    · rename_i hl
      obtain ⟨_, p, hgp, hpl, _⟩ := askL_live (live_ask hl)
      rcases change_in hq with h1 | ⟨x, h1, rfl⟩
      · exact h q h1
      · rw [hgp]
        exact sendP_bd (h p hpl)
    · exact h q hq
  · exact h q hq
theorem sendsL_bd {nx sig : Int} : ∀ {ks : List Int} {l : List Pr}, (∀ p ∈ l, Sig.U64 p.pending) → ∀ p ∈ sendsL l nx sig ks, Sig.U64 p.pending
  | [], _, h => h
  | k :: ks, l, h => sendsL_bd (ks := ks) (l := (sendL l nx k sig).1) (sendL_bd h)
/-- a group's processes are sent a signal -/
def groupL (l : List Pr) (nx g sig : Int) : List Pr := sendsL l nx sig (memL l nx g)
theorem groupL_len {l : List Pr} {nx g sig : Int} : (groupL l nx g sig).length = l.length := sendsL_len
set_option maxRecDepth 100000 in
set_option maxHeartbeats 3000000 in
theorem sgroup_any {A : Nat → Prop} (Ad : Option Addr) (c : Nat) (l : List Pr) (nx g sig : Int) (hs : sig = 1 ∨ sig = 21 ∨ sig = 22) (w : World) (h : RdY Rp A w (.slice Ad l.length c) l) (hb : ∀ p ∈ l, Sig.U64 p.pending) :
    Calls Tryz.prog 50 #[tv Ad l.length c nx, .int .i64 g, .int .i64 sig] w fun e w' => ∃ A' c' k, e = .returned (.tuple #[tv A' l.length c' nx, .int .i64 k]) ∧ TabS 42 Ad c l w.heap.size w' A' c' (groupL l nx g sig) ∧ Ext w w' := by
  have H := Lib.hid (rdy_pr (B := fun _ => False) h)
  obtain ⟨W, hW⟩ : ∃ W, W = (w.alloc (.cells #[.slice Ad l.length c, .int .i64 nx] 29)).alloc (.cells #[.slice none 0 0, .int .i64 0] 29) := ⟨_, rfl⟩
  have hres := Lib.hid (show Blk W (w.heap.size + 1) 29 #[.slice none 0 0, .int .i64 0] by rw [hW]; exact Blk.at_ _ _ (by simp))
  have hbox := Lib.hid (show Blk W w.heap.size 29 #[.slice Ad l.length c, .int .i64 nx] by rw [hW]; exact (Blk.new w _ _).alloc _)
  have E0 : Ext w W := by rw [hW]; exact (by repeat (first | with_reducible exact Ext.refl _ | refine Ext.drewN ?_ _ | refine Ext.drew ?_ | refine Ext.alloc ?_ _ | assumption | (refine Below.trans ?_ (by assumption)) | (refine Ext.trans ?_ (by assumption)) | (refine Below.trans ?_ (Below.mono (by assumption) (by omega)))))
  have HW := Lib.hid hW
  have HB := Lib.hid hb
  have HS := Lib.hid hs
  clear h hW hb hs
  go_enter Tryz.func50, Tryz.ntmps50
  go_wp2_with fail
  rw [← HW.out]
  have kb := hbox.out.two
  go_wp2_with fail
  refine (members_any (A := fun _ => False) Ad c l nx g W (H.out.ext E0)).mono ?_
  rintro e w1 ⟨A1, c1, rfl, O1, E1⟩
  have E01 := E0.trans E1
  have hbox := Lib.hid (hbox.out.ext E1)
  have hres := Lib.hid (hres.out.ext E1)
  obtain ⟨M, hM⟩ : ∃ M, memL l nx g = M := ⟨_, rfl⟩
  have HG := Lib.hid (show groupL l nx g sig = sendsL l nx sig M by unfold groupL; rw [hM])
  rw [hM] at O1 ⊢
  obtain ⟨K, hK⟩ : ∃ K, M.length = K := ⟨_, rfl⟩
  have hK32 : K ≤ 100000 := by
    rw [← hK, ← hM]
    unfold memL
    split
    · rename_i hr
      have := (right_len hr).1
      have := List.length_filter_le (ofP g) l
      simp only [List.length_map]
      omega
    · simp
  rw [hK] at O1 ⊢
  have HM := Lib.hid hM
  have HK := Lib.hid hK
  have O1 := Lib.hid O1
  obtain ⟨N, hN⟩ : ∃ N, l.length = N := ⟨_, rfl⟩
  rw [hN] at H hbox ⊢
  have HN := Lib.hid hN
  have hlt1 := hres.out.lt
  have HLT := Lib.hid hlt1
  have HW2 := Lib.hid (show W.heap.size = w.heap.size + 2 by rw [HW.out]; simp)
  clear hM hK kb hN hlt1 HW
  go_wp2
  go_loopw [8, 16] (fun n i wr => ∃ (m : Nat) (k : Int) (A' : Option Addr) (c' : Nat), m ≤ K ∧ n = .int .i64 k ∧ i = .int .i64 m ∧ Hid (Blk wr w.heap.size 29 #[.slice A' N c', .int .i64 nx]) ∧ Hid (Blk wr (w.heap.size + 1) 29 #[.slice none 0 0, .int .i64 0]) ∧ Hid (TabS 42 Ad c l w.heap.size wr A' c' (sendsL l nx sig (M.take m))) ∧ Hid (OwnS Ib 3 W.heap.size (fun _ => False) wr (.slice A1 K c1) M) ∧ Ext w wr) (fun _ i _ => K - (intOf i).toNat)
  case atStart => exact ⟨0, 0, Ad, c, Nat.zero_le _, rfl, rfl, hbox, hres, Lib.hid (.inl ⟨rfl, rfl, rfl⟩), O1, E01⟩
  case round =>
    clear hbox hres O1 E01 E1 E0
    obtain ⟨m, k, A', c', hm, rfl, rfl, hbox, hres, HR, HY, hE⟩ := hrel
    by_cases hmn : m < K
    · obtain ⟨b, off, u, x, rfl, hc, hd, hu⟩ := RdY.at1 HY.out.y rfl hmn
      have hu : [u] = [Value.int .i64 x] := hu.out
      cases hu
      have kb := hbox.out.two
      have HT := Lib.hid (sendsL_take (l := l) (nx := nx) (sig := sig) hd.out)
      have hln : (sendsL l nx sig (M.take m)).length = N := by rw [sendsL_len, HN.out]
      have hst := send_to (A := fun _ => False) A' c' (sendsL l nx sig (M.take m)) nx x sig HS.out wr (by rw [hln, ← HN.out]; exact HR.out.y (by rw [HN.out]; exact H.out) hE) (sendsL_bd HB.out)
      unfold SendPost at hst
      rw [hln] at hst
      have HST := Lib.hid hst
      have HLN := Lib.hid hln
      clear hst hln hd
      have Hc := hc
      go_wp2_with fail
      refine HST.out.mono ?_
      rintro e w2 ⟨A2, c2, rfl, R2, E2⟩
      rw [← HT.out] at R2
      generalize (sendL (sendsL l nx sig (M.take m)) nx x sig).2 = er at *
      have R2 := Lib.hid R2
      have kb := (hbox.out.ext E2).two
      have M3 : Mod (fun k => k = w.heap.size) w2 _ := ((Mod.refl _ w2).set1 (.slice A2 N c2) (o := 0)).set1 (.int .i64 nx) (o := 1)
      have B3 := Lib.hid ((hbox.out.ext E2).put2 (.slice A2 N c2) (.int .i64 nx))
      have S3 := Lib.hid ((hres.out.ext E2).mod M3 (by show ¬ _ = _; omega))
      have EE := Mod.toExt (hE.trans E2) M3 (by intro k hk he; omega)
      have Y3 := Lib.hid ((HY.out.ext E2).mod M3 (fun j hj he => by have := (HY.out.row j hj).1; have := HW2.out; omega) (fun k _ hk _ => hk))
      have R3 := Lib.hid ((HR.out.trans R2.out (by rw [HLN.out, HN.out]) E2 hE.size).mod M3 (hbox.out.ext E2) (by decide))
      go_wp2
      all_goals go_roundw
      all_goals first
        | (case rel => exact ⟨m + 1, _, A2, c2, by omega, rfl, by go_num, B3, S3, R3, Y3, EE⟩)
        | (case measure => simp [intOf]; omega)
    · obtain rfl : m = K := by omega
      have kb := hbox.out.two
      have ks := hres.out.two
      have hM7 : Mod (fun k => k = w.heap.size + 1) wr _ := ((Mod.refl _ wr).set1 (.slice A' N c') (o := 0)).set1 (.int .i64 nx) (o := 1)
      obtain ⟨q0, q1, _, _⟩ := (hres.out.put2 (.slice A' N c') (.int .i64 nx)).two
      go_wp2
      refine bodyPost_ret (v := .tuple #[tv A' N c' nx, .int .i64 k]) (by simp [results, Tryz.results50, go_sem, q0, q1]) rfl ?_
      have hf : groupL l nx g sig = sendsL l nx sig (M.take m) := by rw [HG.out, List.take_of_length_le (by have := HK.out; omega)]
      rw [hf, HN.out]
      exact ⟨A', c', k, rfl, HR.out.mod hM7 hres.out (by decide), Mod.toExt hE hM7 (by intro k hk he; omega)⟩
end Go.Proofs.YteljobleojhgmaaGreat
