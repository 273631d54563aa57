/- What is typed to a line discipline: a plain byte, an end of a line, the byte that kills; a program's read; by contract. Conditions: the setting turns nothing that comes in; there is room. -/
import Derived.Test.YtfnicinnjkbedaaGreatDoorQL17
namespace Go.Proofs.YtfnicinnjkbedaaGreatDoor
open Go.RowKit Go.Kb
set_option maxRecDepth 100000

theorem enters_plain (args : Array Value) (w : World) : (callFunc 48 args).run Tryz.prog w = .ok (.enter 48 args) w := by kernel_rfl
theorem enters_newline (args : Array Value) (w : World) : (callFunc 97 args).run Tryz.prog w = .ok (.enter 97 args) w := by kernel_rfl
theorem enters_kill (args : Array Value) (w : World) : (callFunc 120 args).run Tryz.prog w = .ok (.enter 120 args) w := by kernel_rfl
/-- a byte that means nothing -/
structure NoC (t : Tm) (c : Int) : Prop where
  bd : 0 ≤ c ∧ c ≤ 255
  cr : c ≠ 13
  no : ∀ op, 1 ≤ op → op ≤ 18 → isL t op c = false
theorem NoC.pl {t : Tm} {c : Int} (h : NoC t c) : PlC t c := ⟨h.bd, h.cr, h.no 8 (by omega) (by omega), h.no 9 (by omega) (by omega), h.no 1 (by omega) (by omega), h.no 2 (by omega) (by omega), h.no 10 (by omega) (by omega)⟩
theorem NoC.fit6 {t : Tm} {c : Int} (h : NoC t c) : ∀ x ∈ ways6, fitL t c x = false := by
  intro x hx
  simp only [ways6, List.mem_cons, List.not_mem_nil, or_false] at hx
  unfold fitL
  rcases hx with rfl | rfl | rfl | rfl | rfl | rfl
  · rw [h.no 14 (by omega) (by omega)]; rfl
  · rw [h.no 3 (by omega) (by omega)]; rfl
  · rw [h.no 13 (by omega) (by omega)]; rfl
  · rw [h.no 4 (by omega) (by omega)]; rfl
  · rw [h.no 12 (by omega) (by omega)]; rfl
  · rw [h.no 5 (by omega) (by omega)]; rfl
theorem NoC.fit2 {t : Tm} {c : Int} (h : NoC t c) : ∀ x ∈ ends2, fitL t c x = false := by
  intro x hx
  simp only [ends2, List.mem_cons, List.not_mem_nil, or_false] at hx
  unfold fitL
  rcases hx with rfl | rfl
  · rw [h.no 6 (by omega) (by omega)]; rfl
  · rw [h.no 7 (by omega) (by omega)]; rfl
/-- the byte that kills, and means nothing else -/
structure KiC (t : Tm) (c : Int) : Prop where
  bd : 0 ≤ c ∧ c ≤ 255
  cr : c ≠ 13
  is : isL t 4 c = true
  no : ∀ op, 1 ≤ op → op ≤ 18 → op ≠ 4 → isL t op c = false
theorem KiC.pl {t : Tm} {c : Int} (h : KiC t c) : PlC t c := ⟨h.bd, h.cr, h.no 8 (by omega) (by omega) (by omega), h.no 9 (by omega) (by omega) (by omega), h.no 1 (by omega) (by omega) (by omega), h.no 2 (by omega) (by omega) (by omega), h.no 10 (by omega) (by omega) (by omega)⟩
theorem KiC.idx {t : Tm} {c : Int} (h : KiC t c) : idxY (fitL t c) ways6 = 3 := by
  refine idxY_some (m := 3) (p := ⟨4, false, 120⟩) rfl ?_ ?_
  · intro x hx
    simp only [ways6, List.take_succ_cons, List.take_zero, List.mem_cons, List.not_mem_nil, or_false] at hx
    unfold fitL
    rcases hx with rfl | rfl | rfl
    · rw [h.no 14 (by omega) (by omega) (by omega)]; rfl
    · rw [h.no 3 (by omega) (by omega) (by omega)]; rfl
    · rw [h.no 13 (by omega) (by omega) (by omega)]; rfl
  · unfold fitL
    rw [h.is]; rfl
def InPost (S : Nat → Prop) (g : Nat) (R : Ds → Prop) (w : World) (e : Ending) (w' : World) : Prop := e = .returned (.slice none 0 0) ∧ ∃ d2, R d2 ∧ Dsc S g w' d2 ∧ Mod (fun j => j = g) w w'
theorem input_text {S : Nat → Prop} {g : Nat} (d : Ds) (c : Int) (w : World) (h : Dsc S g w d) (hnx : d.nx = false) (ht : PlT d.t) (hc : NoC d.t c) (h10 : c ≠ 10) (hl : d.line.length + 1 ≤ 254) (hm : MkOk (d.idle0.takeD c [c])) :
    Calls Tryz.prog 24 #[.pointer (some ⟨g, 0, none⟩), .int .u8 c] w (InPost S g (fun d2 => d2 = d.idle0.takeD c [c]) w) :=
  input_any d c 48 (fun d2 => d2 = d.idle0.takeD c [c]) w h hnx ht hc.pl
    (fun w' h' => (way_none d.idle0 c w' h' hc.fit6 hc.fit2).mono fun e w'' ⟨he, hE⟩ => ⟨by rw [he, if_neg h10], hE⟩) enters_plain
    (fun w' h' => (dplain_any d.idle0 c w' h' hc.bd ht.canon ht.mark hl).mono fun e w'' ⟨he, hD, hM⟩ => ⟨he, _, rfl, hD, hM⟩) (fun d2 h2 => by rw [h2]; exact hm)
theorem input_newline {S : Nat → Prop} {g : Nat} (d : Ds) (w : World) (h : Dsc S g w d) (hnx : d.nx = false) (ht : PlT d.t) (hc : NoC d.t 10) (hroom : Ca.usedL d.ls + Ca.szL (d.line ++ [10], false) ≤ 1024) (hls : d.ls.length ≤ 100000) (hm : MkOk (d.idle0.newlineD 10)) :
    Calls Tryz.prog 24 #[.pointer (some ⟨g, 0, none⟩), .int .u8 10] w (InPost S g (fun d2 => d2 = d.idle0.newlineD 10) w) :=
  input_any d 10 97 (fun d2 => d2 = d.idle0.newlineD 10) w h hnx ht hc.pl
    (fun w' h' => (way_none d.idle0 10 w' h' hc.fit6 hc.fit2).mono fun e w'' ⟨he, hE⟩ => ⟨by rw [he, if_pos rfl], hE⟩) enters_newline
    (fun w' h' => (dnewline_any d.idle0 10 w' h' (by omega) hroom hls).mono fun e w'' ⟨he, hD, hM⟩ => ⟨he, _, rfl, hD, hM⟩) (fun d2 h2 => by rw [h2]; exact hm)
theorem input_kill {S : Nat → Prop} {g : Nat} (d : Ds) (c : Int) (w : World) (h : Dsc S g w d) (hnx : d.nx = false) (ht : PlT d.t) (hc : KiC d.t c) (hm : ∀ d2, KillR d.idle0 d2 → MkOk d2) :
    Calls Tryz.prog 24 #[.pointer (some ⟨g, 0, none⟩), .int .u8 c] w (InPost S g (KillR d.idle0) w) :=
  input_any d c 120 (KillR d.idle0) w h hnx ht hc.pl (fun w' h' => way_kill d.idle0 c w' h' hc.idx) enters_kill
    (fun w' h' => dkill_any d.idle0 c w' h' hc.bd) hm
/-- what a program's read leaves -/
def Ds.readD (d : Ds) (n : Int) : Ds := { d with ls := (Ca.readL d.ls n).2.1 }
theorem readD_ok {d : Ds} (h : d.Ok) (n : Int) : (d.readD n).Ok := ⟨h.t, h.bl, h.bo, h.line, h.out, h.col, h.fr⟩
def RPostD (S : Nat → Prop) (g : Nat) (d : Ds) (n : Int) (w : World) (e : Ending) (w' : World) : Prop :=
  ∃ v, e = .returned (.tuple #[v, .bool (Ca.readL d.ls n).2.2]) ∧ RI .u8 w' v (Ca.readL d.ls n).1 ∧ Dsc S g w' (d.readD n) ∧ Mod (fun j => j = g) w w'
set_option maxHeartbeats 3000000 in
theorem dread_any {S : Nat → Prop} {g : Nat} (d : Ds) (n m : Int) (w : World) (h : Dsc S g w d) (h51 : hasL d.t 51 = true) (hu : Ca.usedL d.ls ≤ 100000) (hls : d.ls.length ≤ 100000) (hm : MkOk (d.readD n)) :
    Calls Tryz.prog 26 #[.pointer (some ⟨g, 0, none⟩), .int .i64 n, .int .i64 m] w (RPostD S g d n w) := by
  have hD0 := Lib.hid h
  obtain ⟨ok, hS, vl, vs, vr, vo, hD, hR⟩ := h
  have hn := Tm.size ok.t
  have hil : (Tryz.prog.info? 26).map (·.size) = some d.t.arr.toList.length := by rw [Array.length_toList, hn]; kernel_rfl
  have HS := Lib.hid hS
  have HR := Lib.hid hR
  have HD := Lib.hid hD
  have HOK := Lib.hid ok
  have KC := Lib.hid (TmC.of hD hn)
  clear hS hR hD ok
  have HH := Lib.hid (fun w' h => dhas_any (S := S) (g := g) d 51 w' h)
  rw [h51] at HH
  obtain ⟨As, cs, rfl, -, -⟩ := HR.out.lines.shape
  have HP := Lib.hid (fun w' (h1 : RdS Ca.Ln (fun k => ¬ S k) w' (.slice As d.ls.length cs) d.ls) => Ca.read_any (.slice As d.ls.length cs) d.ls n w' h1 (by omega) (by omega))
  have HMK := Lib.hid (fun w' h => dmarks_any (S := S) (g := g) (d.readD n) w' h hm.hd hm.used hm.ls hm.line hm.raw)
  have hOK := Lib.hid (readD_ok HOK.out n)
  have hempty : (Ca.readL d.ls n).2.2 = false → (Ca.readL d.ls n).1 = [] ∧ d.readD n = d := by
    unfold Ds.readD
    intro hf
    obtain ⟨t, line, nx, ls, raw, st, hd, out, col, fr, idle⟩ := d
    cases ls with
    | nil => exact ⟨rfl, rfl⟩
    | cons x r =>
      exfalso
      revert hf
      show (Ca.readL (x :: r) n).2.2 = false → False
      obtain ⟨l, f⟩ := x
      unfold Ca.readL
      dsimp only
      split
      · simp
      · split <;> simp
  unfold RPostD
  have k2 := KC.out.k2
  obtain ⟨n3, hn3⟩ : ∃ n, d.ls.length = n := ⟨_, rfl⟩
  have HLS := Lib.hid (show RdS Ca.Ln (fun k => ¬ S k) w (.slice As n3 cs) d.ls by rw [← hn3]; exact HR.out.lines)
  rw [hn3] at k2 HP
  unfold Ca.ReadPost at HP
  obtain ⟨⟨zb, zl, zo⟩, hz⟩ : ∃ z, Ca.readL d.ls n = z := ⟨_, rfl⟩
  have hrd : d.readD n = { d with ls := zl } := by unfold Ds.readD; rw [hz]
  rw [hrd] at hOK HMK hempty ⊢
  rw [hz] at HP hempty ⊢
  dsimp only at HP hempty ⊢
  have HEM := Lib.hid hempty
  have HOKz := Lib.hid hOK.out
  obtain ⟨nb, hnb⟩ : ∃ n, zb.length = n := ⟨_, rfl⟩
  obtain ⟨nl, hnl⟩ : ∃ n, zl.length = n := ⟨_, rfl⟩
  rw [hnb, hnl] at HP
  clear hempty hOK hz hrd hn3 hm h51 hu hls hnb hnl
  go_enter Tryz.func26, Tryz.ntmps26
  go_wp2_with fail
  refine (HH.out _ (hD0.out.ext (by repeat (first | with_reducible exact Ext.refl _ | refine Ext.drewN ?_ _ | refine Ext.drew ?_ | refine Ext.alloc ?_ _ | assumption | (refine Below.trans ?_ (by assumption)) | (refine Ext.trans ?_ (by assumption)) | (refine Below.trans ?_ (Below.mono (by assumption) (by omega))))))).mono ?_
  rintro e w1 ⟨rfl, E1⟩
  have k2 := cell_ext E1 k2
  have E01 : Ext w w1 := (by repeat (first | with_reducible exact Ext.refl _ | refine Ext.drewN ?_ _ | refine Ext.drew ?_ | refine Ext.alloc ?_ _ | assumption | (refine Below.trans ?_ (by assumption)) | (refine Ext.trans ?_ (by assumption)) | (refine Below.trans ?_ (Below.mono (by assumption) (by omega)))))
  clear E1
  go_wp2_with fail
  refine (HP.out _ (HLS.out.ext (by repeat (first | with_reducible exact Ext.refl _ | refine Ext.drewN ?_ _ | refine Ext.drew ?_ | refine Ext.alloc ?_ _ | assumption | (refine Below.trans ?_ (by assumption)) | (refine Ext.trans ?_ (by assumption)) | (refine Below.trans ?_ (Below.mono (by assumption) (by omega))))))).mono ?_
  rintro e w2 ⟨Ab, cb, Ar, cr, rfl, rb, rl, E2⟩
  have E02 : Ext w w2 := E01.trans E2
  have z1 := E01.size
  have RB := Lib.hid rb
  have B2 := HD.out.ext E02
  have HB2 := Lib.hid B2
  have HR2 := Lib.hid (HR.out.ext E02)
  have RL := Lib.hid (show RdS Lnr (fun j => ¬ S j) w2 (.slice Ar nl cr) zl from rl.mono fun k _ hk hs => by have := HS.out.2 k hs; omega)
  have q2 := (TmC.of B2 hn).k2
  have f2 := B2.frozen 26
  clear rb rl E2 B2
  cases zo with
  | false =>
    obtain ⟨rfl, he⟩ := HEM.out rfl
    go_wp2
    go_ret2
    refine ⟨.slice none 0 0, rfl, RdN.nil _ _, ?_, Mod.of_ext E02⟩
    rw [he]
    exact hD0.out.ext E02
  | true =>
    have D3 : Dsc S g (w2.setCell ⟨g, 26, none⟩ (.slice Ar nl cr)) { d with ls := zl } := by
      refine ⟨HOKz.out, ⟨HS.out.1, fun j hj => ?_⟩, vl, .slice Ar nl cr, vr, vo, blk_tmset HB2.out hn 2 rfl _, ⟨(HR2.out.set_ HS.out.1 _ _).line, RL.out.mod (S := fun k => k = g) ((Mod.refl _ _).set1 _) (fun k _ hk he => hk (by subst he; exact HS.out.1)), (HR2.out.set_ HS.out.1 _ _).raw, (HR2.out.set_ HS.out.1 _ _).out⟩⟩
      have := HS.out.2 j hj
      have := E02.size
      simp
      omega
    have HD3 := Lib.hid D3
    have HM3 := Lib.hid ((Mod.of_ext E02).set1 (g := g) (o := 26) (.slice Ar nl cr))
    have hgw := Lib.hid (HS.out.2 g HS.out.1)
    have RB3 := Lib.hid (RB.out.mod (S := fun k => k = g) ((Mod.refl _ _).set1 (o := 26) (.slice Ar nl cr)) (fun k _ hk he => by have h9 := hgw.out; have h8 : w.heap.size ≤ k := Nat.le_trans z1 hk; omega))
    clear D3
    go_wp2_with fail
    refine (HMK.out _ HD3.out).mono ?_
    rintro e w4 ⟨rfl, P4, M4⟩
    have HP4 := Lib.hid P4
    have HM4 := Lib.hid (HM3.out.trans M4)
    have RB4 := Lib.hid (RdS.ri (RB3.out.mod M4 (fun k _ hk he => by have h9 := hgw.out; have h8 : w.heap.size ≤ k := Nat.le_trans z1 hk; omega)))
    clear P4 M4 RB RB3
    go_wp2
    go_ret2
    exact ⟨.slice Ab nb cb, rfl, RB4.out, HP4.out, HM4.out⟩
end Go.Proofs.YtfnicinnjkbedaaGreatDoor
