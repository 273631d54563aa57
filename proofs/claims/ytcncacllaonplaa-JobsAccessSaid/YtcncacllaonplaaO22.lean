/- A process is sent a signal, by contract. Conditions: sets have 64 bits; the signals that jobs send. -/
import Derived.Test.YtcncacllaonplaaN22
namespace Go.Proofs.Ytcncacllaonplaa
open Go.RowKit Go.Kb

set_option maxRecDepth 100000 in
set_option maxHeartbeats 800000 in
theorem dright_any {A : Nat → Prop} (Ad : Option Addr) (c : Nat) (l : List Pr) (nx : Int) (w : World) (h : RdY Rp A w (.slice Ad l.length c) l) :
    Calls Try.prog 91 #[tv Ad l.length c nx] w fun e w' => e = .returned (.bool (rightL l nx)) ∧ Ext w w' := by
  have hF := fork_any Ad c l nx 0 0 _ (RdY.ext h ((Ext.refl w).alloc (.cells #[.slice Ad l.length c, .int .i64 nx] 28)))
  unfold ForkPost MorePost at hF
  have HF := Lib.hid hF
  have HA := Lib.hid (show (rightL l nx = false → askL l nx [0] = 4) ∧ (rightL l nx = true → askL l nx [0] = 0 ∨ askL l nx [0] = 8) from ⟨fun hr => by unfold askL; rw [hr]; rfl, fun hr => by
    unfold askL
    rw [hr]
    cases [(0 : Int)].all (liveL l nx)
    · exact .inr rfl
    · exact .inl rfl⟩)
  clear h hF
  generalize rightL l nx = r at *
  generalize askL l nx [0] = a at *
  go_enter Try.func91, Try.ntmps91
  go_wp2_with fail
  refine HF.out.mono ?_
  rintro e w1 (⟨h, E1, rfl⟩ | ⟨h, E1, (⟨_, rfl⟩ | ⟨_, A1, c1, rfl, _⟩)⟩)
  · cases r
    · have ha := HA.out.1 rfl
      subst ha
      go_wp2
      go_ret
      exact ⟨rfl, (by repeat (first | with_reducible exact Ext.refl _ | refine Ext.drewN ?_ _ | refine Ext.drew ?_ | refine Ext.alloc ?_ _ | assumption | (refine Below.trans ?_ (by assumption)) | (refine Ext.trans ?_ (by assumption)) | (refine Below.trans ?_ (Below.mono (by assumption) (by omega)))))⟩
    · have ha := (HA.out.2 rfl).resolve_left h
      subst ha
      go_wp2
      go_ret
      exact ⟨rfl, (by repeat (first | with_reducible exact Ext.refl _ | refine Ext.drewN ?_ _ | refine Ext.drew ?_ | refine Ext.alloc ?_ _ | assumption | (refine Below.trans ?_ (by assumption)) | (refine Ext.trans ?_ (by assumption)) | (refine Below.trans ?_ (Below.mono (by assumption) (by omega)))))⟩
  · cases r
    · have := HA.out.1 rfl
      omega
    · go_wp2
      go_ret
      exact ⟨rfl, (by repeat (first | with_reducible exact Ext.refl _ | refine Ext.drewN ?_ _ | refine Ext.drew ?_ | refine Ext.alloc ?_ _ | assumption | (refine Below.trans ?_ (by assumption)) | (refine Ext.trans ?_ (by assumption)) | (refine Below.trans ?_ (Below.mono (by assumption) (by omega)))))⟩
  · cases r
    · have := HA.out.1 rfl
      omega
    · go_wp2
      go_ret
      exact ⟨rfl, (by repeat (first | with_reducible exact Ext.refl _ | refine Ext.drewN ?_ _ | refine Ext.drew ?_ | refine Ext.alloc ?_ _ | assumption | (refine Below.trans ?_ (by assumption)) | (refine Ext.trans ?_ (by assumption)) | (refine Below.trans ?_ (Below.mono (by assumption) (by omega)))))⟩
/-- a table one of whose processes is sent a signal -/
def sendL (l : List Pr) (nx pid sig : Int) : List Pr × Int := if rightL l nx = true then if liveL l nx pid = true then (changeL (fun _ => sendP sig (getL l nx pid).1) (getL l nx pid).1.pid l, 0) else (l, 8) else (l, 4)
theorem sendL_len {l : List Pr} {nx pid sig : Int} : (sendL l nx pid sig).1.length = l.length := by
  unfold sendL
  split
  · split
    · exact changeL_len
    · rfl
  · rfl
/-- the slice that was handed in, or one in new memory -/
def TabS (T : TypeId) (Ad : Option Addr) (c : Nat) (l0 : List Pr) (base : Nat) (w : World) (A' : Option Addr) (c' : Nat) (l : List Pr) : Prop :=
  (A' = Ad ∧ c' = c ∧ l = l0) ∨ OwnS Rp T base (fun _ => False) w (.slice A' l0.length c') l
theorem TabS.y {A : Nat → Prop} {T : TypeId} {Ad A' : Option Addr} {c c' base : Nat} {l0 l : List Pr} {w0 w : World} (h : TabS T Ad c l0 base w A' c' l) (hR : RdY Rp A w0 (.slice Ad l0.length c) l0) (E : Ext w0 w) : RdY Rp (fun _ => False) w (.slice A' l0.length c') l := by
  rcases h with ⟨rfl, rfl, rfl⟩ | h
  · exact rdy_pr (hR.ext E)
  · exact rdy_pr h.y
theorem TabS.ext {T : TypeId} {Ad A' : Option Addr} {c c' base : Nat} {l0 l : List Pr} {w w' : World} (h : TabS T Ad c l0 base w A' c' l) (E : Ext w w') : TabS T Ad c l0 base w' A' c' l := by
  rcases h with h | h
  · exact .inl h
  · exact .inr (h.ext E)
theorem TabS.lower {T : TypeId} {Ad A' : Option Addr} {c c' base base' : Nat} {l0 l : List Pr} {w : World} (h : TabS T Ad c l0 base w A' c' l) (hb : base' ≤ base) : TabS T Ad c l0 base' w A' c' l := by
  rcases h with h | h
  · exact .inl h
  · exact .inr (h.lower hb)
theorem TabS.trans {T : TypeId} {Ad A' A2 : Option Addr} {c c' c2 base base2 : Nat} {l0 l l2 : List Pr} {w w' : World} (h : TabS T Ad c l0 base w A' c' l) (g : TabS T A' c' l base2 w' A2 c2 l2) (hl : l.length = l0.length) (E : Ext w w') (hb : base ≤ base2) : TabS T Ad c l0 base w' A2 c2 l2 := by
  rcases g with ⟨rfl, rfl, rfl⟩ | g
  · exact h.ext E
  · rw [hl] at g
    exact .inr (g.lower hb)
theorem TabS.mod {T t : TypeId} {Ad A' : Option Addr} {c c' base k : Nat} {l0 l : List Pr} {w w' : World} {cs : Array Value} (h : TabS T Ad c l0 base w A' c' l) (M : Mod (fun j => j = k) w w') (hb : Blk w k t cs) (hne : T ≠ t) : TabS T Ad c l0 base w' A' c' l := by
  rcases h with h | h
  · exact .inl h
  · exact .inr (h.mod M (fun j hj he => own_blk_ne h.choose_spec.1 hb hne (by rw [← he]; exact hj)) (fun k _ hk _ => hk))
def SendPost (Ad : Option Addr) (c : Nat) (l : List Pr) (nx pid sig : Int) (w : World) (e : Ending) (w' : World) : Prop :=
  ∃ A' c', e = .returned (.tuple #[tv A' l.length c' nx, .int .i64 (sendL l nx pid sig).2]) ∧ TabS 40 Ad c l w.heap.size w' A' c' (sendL l nx pid sig).1 ∧ Ext w w'
theorem sig_known {sig : Int} (hs : sig = 1 ∨ sig = 21 ∨ sig = 22) : Sig.isL sig = true := by
  rcases hs with rfl | rfl | rfl <;> rfl
set_option maxRecDepth 100000 in
set_option maxHeartbeats 800000 in
theorem send_to {A : Nat → Prop} (Ad : Option Addr) (c : Nat) (l : List Pr) (nx pid sig : Int) (hs : sig = 1 ∨ sig = 21 ∨ sig = 22) (w : World) (h : RdY Rp A w (.slice Ad l.length c) l) (hb : ∀ p ∈ l, Sig.U64 p.pending) :
    Calls Try.prog 85 #[tv Ad l.length c nx, .int .i64 pid, .int .i64 sig] w (SendPost Ad c l nx pid sig w) := by
  have H := Lib.hid (rdy_pr (B := fun _ => False) h)
  have hoks := Lib.hid (RdY.oks h)
  obtain ⟨W, hW⟩ : ∃ W, W = (w.alloc (.cells #[.slice Ad l.length c, .int .i64 nx] 28)).alloc (.cells #[.slice none 0 0, .int .i64 0] 28) := ⟨_, rfl⟩
  have hres := Lib.hid (show Blk W (w.heap.size + 1) 28 #[.slice none 0 0, .int .i64 0] by rw [hW]; exact Blk.at_ _ _ (by simp))
  have hbox := Lib.hid (show Blk W w.heap.size 28 #[.slice Ad l.length c, .int .i64 nx] by rw [hW]; exact (Blk.new w _ _).alloc _)
  have E0 : Ext w W := by rw [hW]; exact (by repeat (first | with_reducible exact Ext.refl _ | refine Ext.drewN ?_ _ | refine Ext.drew ?_ | refine Ext.alloc ?_ _ | assumption | (refine Below.trans ?_ (by assumption)) | (refine Ext.trans ?_ (by assumption)) | (refine Below.trans ?_ (Below.mono (by assumption) (by omega)))))
  have HW := Lib.hid hW
  have HB := Lib.hid hb
  have hkn := sig_known hs
  have HNM := Lib.hid fun w' => Sig.name_any sig w'
  rw [hkn] at HNM
  have HS := Lib.hid hs
  have hsl : sendL l nx pid sig = if rightL l nx = true then if liveL l nx pid = true then (changeL (fun _ => sendP sig (getL l nx pid).1) (getL l nx pid).1.pid l, 0) else (l, 8) else (l, 4) := rfl
  have HSL := Lib.hid hsl
  clear h hW hb hs hkn hsl
  unfold SendPost
  go_enter Try.func85, Try.ntmps85
  go_wp2_with fail
  rw [← HW.out]
  refine (HNM.out _).mono ?_
  rintro e w1 ⟨rfl, E1⟩
  generalize (if true = true then Sig.nameB sig.toNat else ⟨#[]⟩ : ByteArray) = nm at *
  have kb := (hbox.out.ext E1).two
  have E01 := E0.trans E1
  have HR := Lib.hid (dright_any (A := fun _ => False) Ad c l nx w1 (H.out.ext E01))
  clear HNM
  go_wp2_with fail
  refine HR.out.mono ?_
  rintro e w2 ⟨rfl, E2⟩
  have E12 := E1.trans E2
  have E02 := E01.trans E2
  have kb := (hbox.out.ext E12).two
  have ks := (hres.out.ext E12).two
  clear HR E2
  cases hr : rightL l nx
  · have HR := Lib.hid hr
    clear hr
    have hM8 : Mod (fun k => k = w.heap.size + 1) w2 _ := ((Mod.refl _ w2).set1 (.slice Ad l.length c) (o := 0)).set1 (.int .i64 nx) (o := 1)
    obtain ⟨q0, q1, _, _⟩ := ((hres.out.ext E12).put2 (.slice Ad l.length c) (.int .i64 nx)).two
    go_wp2
    refine bodyPost_ret (v := .tuple #[tv Ad l.length c nx, .int .i64 4]) (by simp [results, Try.results85, go_sem, q0, q1]) rfl ?_
    rw [HSL.out, HR.out]
    have EE : Ext w _ := Mod.toExt E02 hM8 (by intro k hk he; omega)
    exact ⟨Ad, c, rfl, .inl ⟨rfl, rfl, rfl⟩, EE⟩
  · have HR := Lib.hid hr
    clear hr
    have HL := Lib.hid (live_any (A := fun _ => False) Ad c l nx pid w2 (H.out.ext E02))
    clear ks
    go_wp2_with fail
    refine HL.out.mono ?_
    rintro e w3 ⟨rfl, E3⟩
    have E13 := E12.trans E3
    have E03 := E02.trans E3
    have kb := (hbox.out.ext E13).two
    have ks := (hres.out.ext E13).two
    clear HL E3
    cases hl : liveL l nx pid
    · have HL := Lib.hid hl
      clear hl
      have hM8 : Mod (fun k => k = w.heap.size + 1) w3 _ := ((Mod.refl _ w3).set1 (.slice Ad l.length c) (o := 0)).set1 (.int .i64 nx) (o := 1)
      obtain ⟨q0, q1, _, _⟩ := ((hres.out.ext E13).put2 (.slice Ad l.length c) (.int .i64 nx)).two
      go_wp2
      refine bodyPost_ret (v := .tuple #[tv Ad l.length c nx, .int .i64 8]) (by simp [results, Try.results85, go_sem, q0, q1]) rfl ?_
      rw [HSL.out, HR.out, HL.out]
      have EE : Ext w _ := Mod.toExt E03 hM8 (by intro k hk he; omega)
      exact ⟨Ad, c, rfl, .inl ⟨rfl, rfl, rfl⟩, EE⟩
    · obtain ⟨_, p, hgp, hpl, _⟩ := askL_live (live_ask hl)
      have HL := Lib.hid hl
      have hpok := hoks.out p hpl
      have hpp := HB.out p hpl
      have hG := get_any (A := fun _ => False) Ad c l nx pid w3 (H.out.ext E03)
      rw [hgp] at hG
      have HG := Lib.hid hG
      have HSL := Lib.hid (HSL.out.trans (by rw [HR.out, HL.out, hgp]; rfl) : sendL l nx pid sig = (changeL (fun _ => sendP sig p) p.pid l, 0))
      have HPP := Lib.hid hpp
      clear hl hgp hG ks hpp hpl
      go_wp2_with fail
      refine HG.out.mono ?_
      rintro e w4 ⟨rfl, E4⟩
      have E14 := E13.trans E4
      have E04 := E03.trans E4
      obtain ⟨n10, hn10⟩ : ∃ n10, w4.heap.size = n10 := ⟨_, rfl⟩
      clear kb HG E4
      go_wp2_with ((refine wpList_store_A rfl 40 _ _ rfl (n10) _ rfl rfl 40 _ (zero_row w4 n10 hn10) (by rw [List.size_toArray]; exact i43' hpok) (Eq.trans (b := 43) (by rfl) (Eq.symm (show (p).cells.toArray.size = 43 from Pr.size hpok))) (Pr.one hpok) ?_); intro w5 H5 E5; have E45 : Ext w4 w5 := E5 w4.heap.size w4 ((Ext.refl w4).alloc _) (by omega); have b10 := Lib.hid H5; clear E5 H5)
      have E15 := E14.trans E45
      have E05 := E04.trans E45
      refine (send_any p sig HS.out n10 w5 b10.out hpok HPP.out).mono ?_
      rintro e w6 ⟨rfl, B6, M6⟩
      have hn1 := (hres.out.ext E14).lt
      have hz0 := E0.size
      have B6 := Lib.hid B6
      have hbox6 := Lib.hid ((hbox.out.ext E15).mod M6 (by omega))
      have hres6 := Lib.hid ((hres.out.ext E15).mod M6 (by omega))
      have E06 : Ext w w6 := Mod.toExt E05 M6 (by intro k hk he; have := E04.size; omega)
      have R6 := Lib.hid ((H.out.ext E04).ext (Mod.toExt E45 M6 (by intro k hk he; omega)))
      have hqok : (sendP sig p).ok := hpok
      have hqp : (sendP sig p).pid = p.pid := rfl
      generalize sendP sig p = q at *
      have kb := hbox6.out.two
      clear b10 M6 hn10 E45 E15 E05 hz0
      go_wp2_with (refine wpList_load_row rfl 40 _ rfl _ rfl 40 _ _ _ B6.out Try.underlying40 rfl (by rw [List.size_toArray]; exact i43' hqok) ?_)
      refine (set_any Ad c l nx q _ R6.out hqok).mono ?_
      rintro e w7 ⟨E7, ⟨hr, _⟩ | ⟨_, A7, c7, rfl, O7⟩⟩
      · rw [HR.out] at hr; cases hr
      rw [hqp] at O7
      have E07 := E06.trans E7
      have ks := (hres6.out.ext E7).two
      have hM8 : Mod (fun k => k = w.heap.size + 1) w7 _ := ((Mod.refl _ w7).set1 (.slice A7 l.length c7) (o := 0)).set1 (.int .i64 nx) (o := 1)
      obtain ⟨q0, q1, _, _⟩ := ((hres6.out.ext E7).put2 (.slice A7 l.length c7) (.int .i64 nx)).two
      have hz6 : w.heap.size + 1 < w6.heap.size := hres6.out.lt
      have O8 := Lib.hid (O7.mod hM8 (fun k hk he => by have := (O7.row k hk).1; omega) (fun k _ hk _ => hk))
      clear O7 kb hz6
      go_wp2
      refine bodyPost_ret (v := .tuple #[tv A7 l.length c7 nx, .int .i64 0]) (by simp [results, Try.results85, go_sem, q0, q1]) rfl ?_
      rw [HSL.out]
      exact ⟨A7, c7, rfl, .inr (O8.out.lower E06.size), Mod.toExt E07 hM8 (by intro k hk he; omega)⟩
end Go.Proofs.Ytcncacllaonplaa
