/- The document's timers: Due, by contract. Condition: at most 256 timers. -/
import Derived.Test.YtapajcgfdiamdaaU07
import Derived.Deep.CutBlock
namespace Go.Proofs.Ytapajcgfdiamdaa
open Go.RowKit Go.Kb

set_option maxRecDepth 100000 in
set_option maxHeartbeats 3000000 in
theorem rdue_any (R : Nat) (F : Nat → Prop) (L : List (Int × Int)) (now : Int) (hl : L.length ≤ 256) (w : World) (h : Rf R F w L) :
    Calls Try.prog 15 #[.pointer (some ⟨R, 0, none⟩), .int .i64 now] w fun e w' => ∃ A' c', e = .returned (.slice A' (dueL now L).length c') ∧ OwnS Ib 3 w.heap.size (fun _ => False) w' (.slice A' (dueL now L).length c') (dueL now L) ∧ Rf R F w' (restL now L) ∧ Mod (fun k => k = R) w w' := by
  have HT := Lib.hid h
  have HLT := Lib.hid h.lt
  have HRR := Lib.hid h.hR
  clear h
  go_enter Try.func15, Try.ntmps15
  go_wp2
  go_loopw [5] (fun o wr => ∃ (A' : Option Addr) (c' : Nat) (ids : List Int) (cur : List (Int × Int)), o = .slice A' ids.length c' ∧ Hid (ids.length + cur.length = L.length) ∧ Hid (OwnS Ib 3 w.heap.size (fun _ => False) wr (.slice A' ids.length c') ids) ∧ Hid (Rf R F wr cur) ∧ Hid (Mod (fun k => k = R) w wr) ∧ Hid (dueL now L = ids ++ dueL now cur) ∧ Hid (restL now L = restL now cur)) (fun o _ => 300 - lenV o)
  case atStart => exact ⟨none, 0, [], L, rfl, Lib.hid (by simp), Lib.hid (OwnS.nil _ _ _ _ _), HT, Lib.hid (Mod.refl _ _), Lib.hid rfl, Lib.hid rfl⟩
  case round =>
    clear HT
    obtain ⟨A', c', ids, cur, rfl, HLN, O, HT, HM, HD, HR⟩ := hrel
    obtain ⟨v, B, S⟩ := HT.out.ex
    have B := Lib.hid B
    have kR := B.out.cell0
    obtain ⟨Ad, c, rfl, hc1, hc2⟩ := S.shape
    rcases cur with _ | ⟨⟨xi, xt⟩, r⟩
    · have HD := Lib.hid (show dueL now L = ids by rw [HD.out]; simp [dueL])
      have HR := Lib.hid (show restL now L = [] by rw [HR.out]; rfl)
      simp only [List.length_nil] at kR
      clear S hc1 hc2 B
      go_wp2
      go_ret
      rw [HD.out, HR.out]
      exact ⟨A', c', rfl, O.out, HT.out, HM.out⟩
    · obtain ⟨n, hn⟩ : ∃ n, ((xi, xt) :: r).length = n := ⟨_, rfl⟩
      rw [hn] at B S hc1 kR
      have hn0 : 0 < n := by rw [← hn]; simp
      obtain ⟨b, off, d, rfl, hd, k0, k1⟩ := kp_at S.y hn0
      simp only [List.getElem?_cons_zero, Option.some.injEq] at hd
      subst hd
      simp at k0 k1
      have i1 : (0 : Int) < (n : Int) := by omega
      have HS := Lib.hid S
      have HNL := Lib.hid hn
      by_cases hnow : xt ≤ now
      · have hd := due_yes (x := (xi, xt)) (r := r) hnow
        have HD := Lib.hid (show dueL now L = (ids ++ [xi]) ++ dueL now r by rw [HD.out, hd.1]; simp)
        have HR := Lib.hid (show restL now L = restL now r by rw [HR.out, hd.2])
        have HLN := Lib.hid (show (ids ++ [xi]).length + r.length = L.length by have := HLN.out; simp at this ⊢; omega)
        have hidl : ids.length ≤ 256 := by have h1 := HLN.out; simp at h1; omega
        have hwz := HM.out.size
        obtain ⟨A9, hA⟩ : ∃ A9, (if c = 1 then some (⟨b, off, none⟩ : Addr) else some ⟨b, off + 2, none⟩) = A9 := ⟨_, rfl⟩
        have HA := Lib.hid hA
        clear hd hn S
        go_upto_region 4 with (at_builtin; refine wpList_app (e := Ib) (base := w.heap.size) (B := fun _ => False) (A := fun _ => False) rfl (.tmp 23) (.tmp 31) rfl Try.underlying37 info_i64 rfl (O.out.alloc _) rfl (RdY.singleB (e := Ib) (cs := [.int .i64 xi]) (d := xi) rfl (Blk.at_ _ _ rfl)) rfl (fun _ _ h => h.elim) (N := ids.length + 1) (by simp) (by simp [maxLen]; omega) (by omega) (by simp; omega) ?_; intro A5 c5 w5 o5 M5 D5)
        have EA : Ext wr (wr.alloc (.cells #[.int .i64 xi] 3)) := (Ext.refl wr).alloc _
        have hS : ∀ k, (Value.slice A' ids.length c').ownBlock = some k → ¬ F k := fun k hk hf => by have := (O.out.row k hk).1; have := HLT.out k hf; omega
        have T5 := Lib.hid ((HT.out.ext EA).mod M5 hS)
        have B5 := Lib.hid ((B.out.ext EA).mod M5 (fun h => hS R h HRR.out))
        have S5 := Lib.hid ((HS.out.ext EA).mod M5 (fun k _ hk h => hS k h hk.1))
        have HM5 := Lib.hid (show Mod (fun k => k = R) w w5 from ⟨D5.os.trans (HM.out.ext EA).os, D5.tape.trans (HM.out.ext EA).tape, D5.output.trans (HM.out.ext EA).output, Nat.le_trans (HM.out.ext EA).size M5.size, fun k hk hkR => ((D5.block k hk).trans ((HM.out.ext EA).block k hk hkR))⟩)
        have o5 := Lib.hid o5
        have kR := B5.out.cell0
        have fR := B5.out.frozen 0
        clear EA hS M5 D5 k0 k1 B HS HT O HM
        have hlr : n - 1 = r.length := by have := HNL.out; simp at this; omega
        have SN := Lib.hid (RdS.from_ (n := n) S5.out (k := 1) (by omega))
        simp only [List.drop_succ_cons, List.drop_zero] at SN
        have SN := Lib.hid (show RdS Kp (fun k => F k ∧ k ≠ R) w5 (.slice A9 r.length (c - 1)) r by rw [← HA.out, ← hlr]; exact SN.out)
        go_wp2
        have M2 : Mod (fun k => k = R) w5 _ := (Mod.refl _ w5).set1 (.slice A9 r.length (c - 1)) (o := 0)
        have B2 := B5.out.set_ 0 (.slice A9 r.length (c - 1))
        have o6 := Lib.hid (o5.out.mod M2 (fun k hk he => by have := (o5.out.row k hk).1; have := HLT.out R HRR.out; omega) (fun _ _ hk _ => hk))
        have T6 := Lib.hid (show Rf R F _ r from ⟨⟨_, B2, SN.out.mod M2 fun k _ hk he => hk.2 he⟩, HRR.out, fun k hk => Nat.lt_of_lt_of_le (T5.out.lt k hk) M2.size⟩)
        have HM6 := Lib.hid (HM5.out.trans M2)
        go_roundw
        case rel => exact ⟨A5, c5, ids ++ [xi], r, by simp, HLN, by rw [show (ids ++ [xi]).length = ids.length + 1 by simp]; exact o6, T6, HM6, HD, HR⟩
        case measure => simp [lenV]; omega
      · have hd := due_no (x := (xi, xt)) (r := r) hnow
        have HD := Lib.hid (show dueL now L = ids by rw [HD.out, hd.1, List.append_nil])
        have HR := Lib.hid (show restL now L = (xi, xt) :: r by rw [HR.out, hd.2])
        clear hd hn S HS B
        go_wp2
        go_ret
        rw [HD.out, HR.out]
        exact ⟨A', c', rfl, O.out, HT.out, HM.out⟩
end Go.Proofs.Ytapajcgfdiamdaa
