/- A terminal's slave is read, its master is typed at, by contract. Conditions: it isn't hung up, no group is in front. -/
import Derived.Test.YtfnicinnjkbedaaGreatDoorQM17
namespace Go.Proofs.YtfnicinnjkbedaaGreatDoor
open Go.RowKit Go.Kb
set_option maxRecDepth 100000

def SRPost (X : Nat → Prop) (p g : Nat) (y : Py) (d : Ds) (n : Int) (w : World) (e : Ending) (w' : World) : Prop :=
  ∃ v, e = .returned (.tuple #[v, .int .i64 (if (Ca.readL d.ls n).2.2 = true then 0 else 10)]) ∧ RI .u8 w' v (Ca.readL d.ls n).1 ∧ Pt X p g w' y (d.readD n) ∧ Mod (two p g) w w'
theorem readL_none {ls : List (List Int × Bool)} {n : Int} (h : (Ca.readL ls n).2.2 = false) : (Ca.readL ls n).1 = [] := by
  cases ls with
  | nil => rfl
  | cons x r =>
    exfalso
    obtain ⟨l, f⟩ := x
    revert h
    unfold Ca.readL
    dsimp only
    split
    · simp
    · split <;> simp
set_option maxHeartbeats 800000 in
theorem sread_any {X : Nat → Prop} {p g : Nat} {y : Py} (d : Ds) (n m : Int) (w : World) (h : Pt X p g w y d) (hu : y.hu = false) (h51 : hasL d.t 51 = true) (h1 : Ca.usedL d.ls ≤ 100000) (h2 : d.ls.length ≤ 100000) (hm : MkOk (d.readD n)) :
    Calls Tryz.prog 12 #[.pointer (some ⟨p, 0, none⟩), .int .i64 n, .int .i64 m] w (SRPost X p g y d n w) := by
  have k8 := (ptC h.blk).k8
  rw [hu] at k8
  have HH := Lib.hid h
  have HF := Lib.hid (fun w' h => dread_any (S := pS X p g) (g := g) d n m w' h h51 h1 h2 hm)
  have hno := readL_none (ls := d.ls) (n := n)
  clear h hu h51 h1 h2 hm
  unfold SRPost
  unfold RPostD at HF
  obtain ⟨⟨zb, zl, zo⟩, hz⟩ : ∃ z, Ca.readL d.ls n = z := ⟨_, rfl⟩
  rw [hz] at HF hno ⊢
  dsimp only at HF hno ⊢
  have HNO := Lib.hid hno
  clear hz hno
  go_enter Tryz.func12, Tryz.ntmps12
  go_wp2_with fail
  refine (disc_any _ (HH.out.blk.ext (by repeat (first | with_reducible exact Ext.refl _ | refine Ext.drewN ?_ _ | refine Ext.drew ?_ | refine Ext.alloc ?_ _ | assumption | (refine Below.trans ?_ (by assumption)) | (refine Ext.trans ?_ (by assumption)) | (refine Below.trans ?_ (Below.mono (by assumption) (by omega))))))).mono ?_
  rintro e w1 ⟨rfl, E1⟩
  have E01 : Ext w w1 := (by repeat (first | with_reducible exact Ext.refl _ | refine Ext.drewN ?_ _ | refine Ext.drew ?_ | refine Ext.alloc ?_ _ | assumption | (refine Below.trans ?_ (by assumption)) | (refine Ext.trans ?_ (by assumption)) | (refine Below.trans ?_ (Below.mono (by assumption) (by omega)))))
  go_wp2_with fail
  refine (HF.out _ (HH.out.dsc.ext (by repeat (first | with_reducible exact Ext.refl _ | refine Ext.drewN ?_ _ | refine Ext.drew ?_ | refine Ext.alloc ?_ _ | assumption | (refine Below.trans ?_ (by assumption)) | (refine Ext.trans ?_ (by assumption)) | (refine Below.trans ?_ (Below.mono (by assumption) (by omega))))))).mono ?_
  rintro e w2 ⟨v2, rfl, r2, D2, M2⟩
  have HD := Lib.hid D2
  have HP := Lib.hid (two_ne HH.out.ne HH.out.blk ((Mod.of_ext E01).trans M2))
  have M02 := Lib.hid ((Mod.of_ext E01).trans M2)
  have R2 := Lib.hid r2
  clear D2 M2 E1 r2
  cases zo with
  | false =>
    obtain rfl := HNO.out rfl
    go_wp2
    go_ret2
    exact ⟨.slice none 0 0, rfl, RdN.nil _ _, ⟨HH.out.ne, HP.out, HD.out⟩, Mod.two M02.out⟩
  | true =>
    go_wp2
    go_ret2
    exact ⟨v2, rfl, R2.out, ⟨HH.out.ne, HP.out, HD.out⟩, Mod.two M02.out⟩
set_option maxHeartbeats 800000 in
theorem events_none {p g : Nat} {y : Py} (v : Value) (w : World) (h : Blk w p 67 (ptA g y)) (hg : y.grp = 0) : Calls Tryz.prog 25 #[.pointer (some ⟨p, 0, none⟩), v] w fun e w' => e = .returned (.slice none 0 0) ∧ Ext w w' := by
  have k6 := (ptC h).k6
  rw [hg] at k6
  clear h hg
  go_enter Tryz.func25, Tryz.ntmps25
  go_wp2
  go_ret
  exact ⟨rfl, (by repeat (first | with_reducible exact Ext.refl _ | refine Ext.drewN ?_ _ | refine Ext.drew ?_ | refine Ext.alloc ?_ _ | assumption | (refine Below.trans ?_ (by assumption)) | (refine Ext.trans ?_ (by assumption)) | (refine Below.trans ?_ (Below.mono (by assumption) (by omega)))))⟩
theorem enters_used (args : Array Value) (w : World) : (callFunc 23 args).run Tryz.prog w = .ok (.enter 23 args) w := by kernel_rfl
theorem enters_input (args : Array Value) (w : World) : (callFunc 24 args).run Tryz.prog w = .ok (.enter 24 args) w := by kernel_rfl
/-- what is asked of what is typed: behind k bytes St k holds -/
structure TyOk (S : Nat → Prop) (g : Nat) (b : List Int) (St : Nat → Ds → Prop) : Prop where
  used : ∀ k d, k < b.length → St k d → d.used < 4096 ∧ Ca.usedL d.ls ≤ 100000 ∧ d.line.length ≤ 100000 ∧ d.raw.length ≤ 100000
  step : ∀ k d c w, b[k]? = some c → St k d → Dsc S g w d → Calls Tryz.prog 24 #[.pointer (some ⟨g, 0, none⟩), .int .u8 c] w (InPost S g (St (k + 1)) w)
set_option maxHeartbeats 3000000 in
theorem mwrite_any {X : Nat → Prop} {p g : Nat} {y : Py} (St : Nat → Ds → Prop) (v : Value) (b : List Int) (d : Ds) (w : World) (h : Pt X p g w y d) (hu : y.hu = false) (hg : y.grp = 0) (h0 : St 0 d) (hT : TyOk (pS X p g) g b St) (hlen : b.length ≤ 100000) (hb : ∀ w', Mod (two p g) w w' → RI .u8 w' v b) :
    Calls Tryz.prog 11 #[.pointer (some ⟨p, 0, none⟩), v] w fun e w' => ∃ A c, e = .returned (.tuple #[.int .i64 b.length, .slice A 0 c]) ∧ ∃ d2, St b.length d2 ∧ Pt X p g w' y d2 ∧ Mod (two p g) w w' := by
  obtain ⟨Ab, cb, rfl, -, -⟩ := (hb w (Mod.refl _ _)).shape
  have k8 := (ptC h.blk).k8
  rw [hu] at k8
  have HH := Lib.hid h
  have HB := Lib.hid hb
  have HT := Lib.hid hT
  have H0 := Lib.hid h0
  have HG := Lib.hid hg
  have hm := hmf
  have hen1 := enters_used
  have hen2 := enters_input
  clear h hb hT h0 hu hg
  obtain ⟨N, hN⟩ : ∃ N, b.length = N := ⟨_, rfl⟩
  rw [hN] at HB hlen ⊢
  have HN := Lib.hid hN
  clear hN
  go_enter Tryz.func11, Tryz.ntmps11
  go_wp2_with fail
  refine (disc_any _ (HH.out.blk.ext (by repeat (first | with_reducible exact Ext.refl _ | refine Ext.drewN ?_ _ | refine Ext.drew ?_ | refine Ext.alloc ?_ _ | assumption | (refine Below.trans ?_ (by assumption)) | (refine Ext.trans ?_ (by assumption)) | (refine Below.trans ?_ (Below.mono (by assumption) (by omega))))))).mono ?_
  rintro e w1 ⟨rfl, E1⟩
  have E01 : Ext w w1 := (by repeat (first | with_reducible exact Ext.refl _ | refine Ext.drewN ?_ _ | refine Ext.drew ?_ | refine Ext.alloc ?_ _ | assumption | (refine Below.trans ?_ (by assumption)) | (refine Ext.trans ?_ (by assumption)) | (refine Below.trans ?_ (Below.mono (by assumption) (by omega)))))
  clear E1
  go_wp2_with fail
  refine (disc_any _ (HH.out.blk.ext (by repeat (first | with_reducible exact Ext.refl _ | refine Ext.drewN ?_ _ | refine Ext.drew ?_ | refine Ext.alloc ?_ _ | assumption | (refine Below.trans ?_ (by assumption)) | (refine Ext.trans ?_ (by assumption)) | (refine Below.trans ?_ (Below.mono (by assumption) (by omega))))))).mono ?_
  rintro e w2 ⟨rfl, E2⟩
  have E02 : Ext w w2 := E01.trans E2
  have HP2 := Lib.hid (HH.out.ext E02)
  clear E2
  go_wp2
  have HM2 := Lib.hid (Mod.of_ext E02 : Mod (two p g) w w2)
  go_loopw [6, 27] (fun o i wr => ∃ (k : Nat) (dk : Ds), k ≤ N ∧ o = .slice none 0 0 ∧ i = .int .i64 k ∧ Hid (St k dk) ∧ Hid (Pt X p g wr y dk) ∧ Hid (Mod (two p g) w wr)) (fun _ i _ => N - (intOf i).toNat)
  case atStart => exact ⟨0, d, Nat.zero_le _, rfl, rfl, H0, HP2, HM2⟩
  case round =>
    obtain ⟨k, dk, hk, rfl, rfl, HS, HP, HM⟩ := hrel
    by_cases hlt : k < N
    · obtain ⟨bb, off, c, rfl, hcell, hd⟩ := (HB.out wr HM.out).icell hlt
      obtain ⟨u1, u2, u3, u4⟩ := HT.out.used k dk (by rw [HN.out]; exact hlt) HS.out
      go_wp2_with fail
      refine (dused_any dk _ HP.out.dsc u2 u3 u4).mono ?_
      rintro e w3 ⟨rfl, E3⟩
      have HP3 := Lib.hid (HP.out.ext E3)
      have HM3 := Lib.hid (HM.out.ext E3)
      have hu1 : ¬ (4096 ≤ dk.used) := by omega
      clear HP HM E3 u2 u3 u4 hcell
      go_wp2_with fail
      refine (HT.out.step k dk c _ hd.out HS.out HP3.out.dsc).mono ?_
      rintro e w4 ⟨rfl, d4, S4, D4, M4⟩
      have HS4 := Lib.hid S4
      have HP4 := Lib.hid (show Pt X p g w4 y d4 from ⟨HP3.out.ne, two_ne HP3.out.ne HP3.out.blk M4, D4⟩)
      have HM4 := Lib.hid (HM3.out.trans (Mod.two M4))
      clear S4 D4 M4 HP3 HM3
      go_wp2_with fail
      refine (events_none _ _ HP4.out.blk HG.out).mono ?_
      rintro e w5 ⟨rfl, E5⟩
      have HP5 := Lib.hid (HP4.out.ext E5)
      have HM5 := Lib.hid (HM4.out.ext E5)
      clear HP4 HM4 E5
      go_wp2
      go_roundw
      case rel => exact ⟨k + 1, d4, by omega, rfl, by go_num, HS4, HP5, HM5⟩
      case measure => simp [intOf]; omega
    · obtain rfl : k = N := by omega
      go_wp2
      go_ret2
      exact ⟨none, 0, rfl, dk, HS.out, HP.out, HM.out⟩
end Go.Proofs.YtfnicinnjkbedaaGreatDoor
