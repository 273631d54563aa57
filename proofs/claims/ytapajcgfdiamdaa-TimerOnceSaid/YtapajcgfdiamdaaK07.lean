/- Cancel and Due of timers, by contract. No condition. -/
import Derived.Test.YtapajcgfdiamdaaJ07
namespace Go.Proofs.Ytapajcgfdiamdaa
open Go.RowKit Go.Kb

theorem rem_same {L : List (Int × Int)} {T : Nat} {F : Nat → Prop} {w w' : World} {es es2 : List En} {M i : Nat} {Fp : Nat → Prop} (h : TM T F w L) (h7 : L.Perm (es.map En.k)) (hF : ∀ k, Fp k → F k) (hMF : F M) (hnM : ¬ Fp M) (hp2 : (ent es i :: es2).Perm es) (P : Pile T Fp (.map (some M)) w' es2) (H : HeapN es2 es2.length) (Mp : MapM M w' es2) (MM : Mod F w w') :
    TM T F w' (remL (ent es i).id L) := by
  have hnd := perm_ids h7 h.nd
  refine ⟨⟨Fp, M, es2, P, H, Mp, hnM, hF, hMF, rem_perm h7 hp2 hnd⟩, rem_srt h.srt, h.nd.sublist (List.filter_sublist.map _), fun x hx => h.wf x (List.mem_filter.1 hx).1, Nat.le_trans (List.length_filter_le _ _) h.small, fun k hk => Nat.lt_of_lt_of_le (h.lt k hk) MM.size⟩
set_option maxRecDepth 100000 in
set_option maxHeartbeats 3000000 in
theorem cancel_any (T : Nat) (F : Nat → Prop) (L : List (Int × Int)) (id : Int) (hw : (Lit.int .i64 id).wf = true) (w : World) (h : TM T F w L) :
    Calls Try.prog 11 #[.pointer (some ⟨T, 0, none⟩), .int .i64 id] w fun e w' => e = .returned (.bool (hasL L id)) ∧ TM T F w' (remL id L) ∧ Mod F w w' := by
  have HT := Lib.hid h
  obtain ⟨Fp, M, es, hp, hh, hm, h4, h5, h6, h7⟩ := h.ex
  have H7 := Lib.hid h7
  have HF := Lib.hid h5
  have HMF := Lib.hid h6
  have HNM := Lib.hid h4
  have HM := Lib.hid hm
  have HWF := Lib.hid hw
  have kt := hp.tcell
  cases hhas : hasL L id
  · have hne : ∀ e ∈ es, e.id ≠ id := by
      intro e he hid
      obtain ⟨i, hi, rfl⟩ := mem_ent he
      have := (any_id h7 id).2 ⟨i, hi, hid⟩
      unfold hasL at hhas
      rw [this] at hhas
      cases hhas
    have HNE := Lib.hid hne
    have HR := Lib.hid (show remL id L = L from rem_none hhas)
    clear h hp hh hm h4 h5 h6 h7 hhas hne hw
    go_enter Try.func11, Try.ntmps11
    go_wp2_with (at_lookup; refine wpList_miss rfl _ _ rfl rfl HM.out id HNE.out rfl HWF.out ?_)
    go_ret
    rw [HR.out]
    exact ⟨rfl, HT.out.ext (by repeat (first | with_reducible exact Ext.refl _ | refine Ext.drewN ?_ _ | refine Ext.drew ?_ | refine Ext.alloc ?_ _ | assumption | (refine Below.trans ?_ (by assumption)) | (refine Ext.trans ?_ (by assumption)) | (refine Below.trans ?_ (Below.mono (by assumption) (by omega))))), Mod.of_ext (by repeat (first | with_reducible exact Ext.refl _ | refine Ext.drewN ?_ _ | refine Ext.drew ?_ | refine Ext.alloc ?_ _ | assumption | (refine Below.trans ?_ (by assumption)) | (refine Ext.trans ?_ (by assumption)) | (refine Below.trans ?_ (Below.mono (by assumption) (by omega)))))⟩
  · obtain ⟨i, hi, hid⟩ := (any_id h7 id).1 hhas
    subst hid
    have HXM := Lib.hid (show ent es i ∈ es from List.mem_of_getElem? (ent_some hi))
    have HRM := Lib.hid (fun w hp hm => remove_any T M Fp es i hi hh (perm_ids h7 h.nd) hw h4 w hp hm)
    have HP := Lib.hid hp
    clear h hp hh hm h4 h5 h6 h7 hhas hw hi
    go_enter Try.func11, Try.ntmps11
    go_wp2_with (at_lookup; refine wpList_hit rfl _ _ rfl rfl HM.out _ HXM.out rfl HWF.out ?_)
    refine (HRM.out w HP.out HM.out).mono ?_
    rintro e w2 ⟨rfl, ⟨es2, p2, hh2, P2, m2⟩, M2⟩
    have MM := Lib.hid (M2.mono (T := F) fun k _ hk => hk.elim (fun h => HF.out k h) fun h => by rw [h]; exact HMF.out)
    have hT := Lib.hid (rem_same HT.out H7.out HF.out HMF.out HNM.out p2 P2 hh2 m2 MM.out)
    clear p2 hh2 P2 m2 M2 HRM
    go_wp2
    go_ret
    exact ⟨rfl, hT.out, MM.out⟩
/-- what is due by a time, and what is left -/
def dueL (now : Int) (L : List (Int × Int)) : List Int := (L.takeWhile fun x => decide (x.2 ≤ now)).map (·.1)
def restL (now : Int) (L : List (Int × Int)) : List (Int × Int) := L.dropWhile fun x => decide (x.2 ≤ now)
theorem rem_head {x : Int × Int} {r : List (Int × Int)} (h : ((x :: r).map (·.1)).Nodup) : remL x.1 (x :: r) = r := by
  unfold remL
  rw [List.filter_cons]
  simp only [bne_self_eq_false, Bool.false_eq_true, if_false]
  rw [List.filter_eq_self]
  intro y hy
  rw [List.map_cons, List.nodup_cons] at h
  have : y.1 ≠ x.1 := fun he => h.1 (by rw [← he]; exact List.mem_map_of_mem hy)
  simpa using this
theorem due_yes {x : Int × Int} {r : List (Int × Int)} {now : Int} (h : x.2 ≤ now) : dueL now (x :: r) = x.1 :: dueL now r ∧ restL now (x :: r) = restL now r := by
  unfold dueL restL
  simp [h]
theorem due_no {x : Int × Int} {r : List (Int × Int)} {now : Int} (h : ¬ x.2 ≤ now) : dueL now (x :: r) = [] ∧ restL now (x :: r) = x :: r := by
  unfold dueL restL
  simp [h]
abbrev Ib : Rep Int := Rep.int .i64
theorem info_i64 : (Try.prog.info? 3).map (fun i => (i.zero, i.size, i.bytes)) = some (some (.int .i64 0), Ib.size, 8) := by kernel_rfl
def lenV : Value → Nat
  | .slice _ n _ => n
  | _ => 0
set_option maxRecDepth 100000 in
set_option maxHeartbeats 3000000 in
theorem due_any (T : Nat) (F : Nat → Prop) (L : List (Int × Int)) (now : Int) (w : World) (h : TM T F w L) :
    Calls Try.prog 14 #[.pointer (some ⟨T, 0, none⟩), .int .i64 now] w fun e w' => ∃ A' c', e = .returned (.slice A' (dueL now L).length c') ∧ OwnS Ib 3 w.heap.size (fun _ => False) w' (.slice A' (dueL now L).length c') (dueL now L) ∧ TM T F w' (restL now L) ∧ Mod F w w' := by
  have HT := Lib.hid h
  have HSM := Lib.hid h.small
  have HLT := Lib.hid h.lt
  clear h
  go_enter Try.func14, Try.ntmps14
  go_wp2
  go_loopw [5] (fun o wr => ∃ (A' : Option Addr) (c' : Nat) (ids : List Int) (cur : List (Int × Int)), o = .slice A' ids.length c' ∧ Hid (ids.length + cur.length = L.length) ∧ Hid (OwnS Ib 3 w.heap.size (fun _ => False) wr (.slice A' ids.length c') ids) ∧ Hid (TM T F wr cur) ∧ Hid (Mod (fun k => F k ∨ w.heap.size ≤ k) w wr) ∧ Hid (dueL now L = ids ++ dueL now cur) ∧ Hid (restL now L = restL now cur)) (fun o _ => 300 - lenV o)
  case atStart => exact ⟨none, 0, [], L, rfl, Lib.hid (by simp), Lib.hid (OwnS.nil _ _ _ _ _), HT, Lib.hid (Mod.refl _ _), Lib.hid rfl, Lib.hid rfl⟩
  case round =>
    clear HT
    obtain ⟨A', c', ids, cur, rfl, HLN, O, HT, HM, HD, HR⟩ := hrel
    have HL := Lib.hid (tlen_any T F cur wr HT.out)
    rcases cur with _ | ⟨x, r⟩
    · have HD := Lib.hid (show dueL now L = ids by rw [HD.out]; simp [dueL])
      have HR := Lib.hid (show restL now L = [] by rw [HR.out]; rfl)
      go_wp2_with fail
      refine HL.out.mono ?_
      rintro e w1 ⟨rfl, E1⟩
      clear HL
      go_wp2
      go_ret
      rw [HD.out, HR.out]
      exact ⟨A', c', rfl, O.out.ext E1, HT.out.ext E1, (HM.out.ext E1).mono fun k hk h => h.elim (fun h => h) fun h => by omega⟩
    · obtain ⟨Fp, M, es, hp, hh, hm, h4, h5, h6, h7⟩ := HT.out.ex
      have hl := h7.length_eq
      rw [List.length_map, List.length_cons] at hl
      have h00 : 0 < es.length := by omega
      obtain ⟨r', hr'⟩ := top_first h7 HT.out.srt hh h00
      obtain ⟨rfl, rfl⟩ := List.cons.inj hr'
      obtain ⟨g, c, hb, _, _, _, _, _, hc⟩ := hp.open h00
      have G := Lib.hid (hc 0 h00).1
      have X := Lib.hid (hp.ents 0 h00)
      have B := Lib.hid hb
      have h1 : (0 : Int) < (es.length : Int) := by omega
      have h2 : (0 : Int) < (((ent es 0).k :: r).length : Int) := by simp
      obtain ⟨N, hN⟩ : ∃ N, es.length = N := ⟨_, rfl⟩
      rw [hN] at h1 B
      by_cases hnow : (ent es 0).due ≤ now
      · have hd := due_yes (x := (ent es 0).k) (r := r) hnow
        have HD := Lib.hid (show dueL now L = (ids ++ [(ent es 0).id]) ++ dueL now r by rw [HD.out, hd.1]; simp [En.k])
        have HR := Lib.hid (show restL now L = restL now r by rw [HR.out, hd.2])
        have HLN := Lib.hid (show (ids ++ [(ent es 0).id]).length + r.length = L.length by have := HLN.out; simp at this ⊢; omega)
        have HRM := Lib.hid (fun w hp hm => remove_any T M Fp es 0 h00 hh (perm_ids h7 HT.out.nd) (tm_w HT.out h7 h00) h4 w hp hm)
        have HP := Lib.hid hp
        have HMM := Lib.hid hm
        have HF := Lib.hid h5
        have HMF := Lib.hid h6
        have HNM := Lib.hid h4
        have H7 := Lib.hid h7
        have HRH := Lib.hid (show remL (ent es 0).id ((ent es 0).k :: r) = r from rem_head HT.out.nd)
        have hidl : ids.length ≤ 256 := by have h1 := HLN.out; have h2 := HSM.out; simp at h1; omega
        have hzr := HM.out.size
        clear hp hh hm h4 h5 h6 h7 hl h00 hr' hb hc hN hd
        go_wp2_with fail
        refine HL.out.mono ?_
        rintro e w1 ⟨rfl, E1⟩
        have k0 := (B.out.ext E1).cell 0
        have kg := cell_ext E1 G.out
        have kd : w1.cell? ⟨(ent es 0).b, 1, none⟩ = some (.int .i64 (ent es 0).due) := (X.out.ext E1).cell 1
        have ki : w1.cell? ⟨(ent es 0).b, 0, none⟩ = some (.int .i64 (ent es 0).id) := (X.out.ext E1).cell 0
        simp at k0
        have hz1 : w.heap.size ≤ w1.heap.size := Nat.le_trans hzr E1.size
        clear HL hzr
        go_wp2_with (at_builtin; refine wpList_app (e := Ib) (base := w.heap.size) (B := fun _ => False) (A := fun _ => False) rfl (.tmp 29) (.tmp 34) rfl Try.underlying37 info_i64 rfl ((O.out.ext E1).alloc _) rfl (RdY.singleB (e := Ib) (cs := [.int .i64 (ent es 0).id]) (d := (ent es 0).id) rfl (Blk.at_ _ _ rfl)) rfl (fun _ _ h => h.elim) (N := ids.length + 1) (by simp) (by simp [maxLen]; omega) (by omega) (by simp; omega) ?_; intro A5 c5 w5 o5 M5 D5)
        have EA : Ext wr (w1.alloc (.cells #[.int .i64 (ent es 0).id] 3)) := E1.alloc _
        have hS : ∀ k, (Value.slice A' ids.length c').ownBlock = some k → ¬ F k := fun k hk hf => by have := (O.out.row k hk).1; have := HLT.out k hf; omega
        have M5 := Lib.hid M5
        have T5 := Lib.hid ((HT.out.ext EA).mod M5.out hS)
        have P5 := Lib.hid ((HP.out.ext EA).mod M5.out (fun k hk hf => hS k hk (HF.out k hf)))
        have m5 := Lib.hid ((HMM.out.ext EA).mod M5.out (fun hk => hS M hk HMF.out))
        have o5 := Lib.hid o5
        have HM5 := Lib.hid ((HM.out.ext EA).trans (M5.out.mono (T := fun k => F k ∨ w.heap.size ≤ k) fun k _ hk => .inr (O.out.row k hk).1))
        have EA := Lib.hid EA
        clear k0 kg kd ki hz1 hS D5 h1 h2
        refine (HRM.out w5 P5.out m5.out).mono ?_
        rintro e w6 ⟨rfl, ⟨es2, p2, hh2, P2, m2⟩, M6⟩
        have MM := Lib.hid (M6.mono (T := F) fun k _ hk => hk.elim (fun h => HF.out k h) fun h => by rw [h]; exact HMF.out)
        have T6 := rem_same T5.out H7.out HF.out HMF.out HNM.out p2 P2 hh2 m2 MM.out
        rw [HRH.out] at T6
        have T6 := Lib.hid T6
        have o6 := Lib.hid (o5.out.mod MM.out (fun k hk hf => by have := (o5.out.row k hk).1; have := HLT.out k hf; omega) (fun _ _ hk _ => hk))
        clear p2 hh2 P2 m2 M6 HRM
        go_wp2
        go_roundw
        case rel => exact ⟨A5, c5, ids ++ [(ent es 0).id], r, by simp, HLN, by rw [show (ids ++ [(ent es 0).id]).length = ids.length + 1 by simp]; exact o6, T6, Lib.hid (HM5.out.trans (MM.out.mono fun k _ hk => .inl hk)), HD, HR⟩
        case measure => simp [lenV]; omega
      · have hd := due_no (x := (ent es 0).k) (r := r) hnow
        have HD := Lib.hid (show dueL now L = ids by rw [HD.out, hd.1, List.append_nil])
        have HR := Lib.hid (show restL now L = (ent es 0).k :: r by rw [HR.out, hd.2])
        clear hp hh hm h4 h5 h6 h7 hl h00 hr' hb hc hN hd
        go_wp2_with fail
        refine HL.out.mono ?_
        rintro e w1 ⟨rfl, E1⟩
        have k0 := (B.out.ext E1).cell 0
        have kg := cell_ext E1 G.out
        have kd : w1.cell? ⟨(ent es 0).b, 1, none⟩ = some (.int .i64 (ent es 0).due) := (X.out.ext E1).cell 1
        simp at k0
        clear HL
        go_wp2
        go_ret
        rw [HD.out, HR.out]
        exact ⟨A', c', rfl, O.out.ext E1, HT.out.ext E1, (HM.out.ext E1).mono fun k hk h => h.elim (fun h => h) fun h => by omega⟩
end Go.Proofs.Ytapajcgfdiamdaa
