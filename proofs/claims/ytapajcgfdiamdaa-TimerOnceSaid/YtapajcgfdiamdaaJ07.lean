/- Set of timers, walked; a timer taken out. No condition. -/
import Derived.Test.YtapajcgfdiamdaaI07
namespace Go.Proofs.Ytapajcgfdiamdaa
open Go.RowKit Go.Kb

set_option maxRecDepth 100000 in
set_option maxHeartbeats 3000000 in
theorem tset_any (T : Nat) (F : Nat → Prop) (L : List (Int × Int)) (id due : Int) (hw : (Lit.int .i64 id).wf = true) (w : World) (h : TM T F w L) :
    Calls Try.prog 9 #[.pointer (some ⟨T, 0, none⟩), .int .i64 id, .int .i64 due] w fun e w' => e = .returned (.int .i64 (setE L id)) ∧ TmPost T F (setT L id due) w w' := by
  have HT := Lib.hid h
  obtain ⟨Fp, M, es, hp, hh, hm, h4, h5, h6, h7⟩ := h.ex
  obtain ⟨Ad, c, hb, _, _⟩ := hp.head
  have H7 := Lib.hid h7
  have HF := Lib.hid h5
  have HMF := Lib.hid h6
  have HNM := Lib.hid h4
  have HH := Lib.hid hh
  have HM := Lib.hid hm
  have HP := Lib.hid hp
  have HWF := Lib.hid hw
  have HB := Lib.hid hb
  have kt : w.cell? ⟨T, 1, none⟩ = some (.map (some M)) := hb.cell 1
  have hl := h7.length_eq
  rw [List.length_map] at hl
  have HL := Lib.hid hl
  cases hhas : hasL L id
  · have hne : ∀ e ∈ es, e.id ≠ id := by
      intro e he hid
      obtain ⟨i, hi, rfl⟩ := mem_ent he
      have := (any_id h7 id).2 ⟨i, hi, hid⟩
      unfold hasL at hhas
      rw [this] at hhas
      cases hhas
    have HNE := Lib.hid hne
    have HHAS := Lib.hid hhas
    by_cases hfl : L.length = 256
    · have HE := Lib.hid (show setE L id = 6 ∧ setT L id due = L by unfold setE setT fullL; rw [hhas, hfl]; exact ⟨rfl, rfl⟩)
      have hes : es.length = 256 := by omega
      have hes2 : (((es.length : Nat) : Int) == 256) = true := by rw [hes]; rfl
      have hes3 : ((es.length : Nat) : Int) = 256 := by omega
      clear h hp hh hm h4 h5 h6 h7 hb hl hhas hne hw hfl hes
      go_enter Try.func9, Try.ntmps9
      go_wp2_with (first
        | (at_lookup; refine wpList_miss rfl _ _ rfl rfl HM.out id HNE.out rfl HWF.out ?_)
        | (at_len; refine wpList_mlen rfl _ rfl rfl (MapM.ext HM.out (by repeat (first | with_reducible exact Ext.refl _ | refine Ext.drewN ?_ _ | refine Ext.drew ?_ | refine Ext.alloc ?_ _ | assumption | (refine Below.trans ?_ (by assumption)) | (refine Ext.trans ?_ (by assumption)) | (refine Below.trans ?_ (Below.mono (by assumption) (by omega)))))) ?_))
      go_ret
      rw [HE.out.1, HE.out.2]
      exact ⟨rfl, F, HT.out.ext (by repeat (first | with_reducible exact Ext.refl _ | refine Ext.drewN ?_ _ | refine Ext.drew ?_ | refine Ext.alloc ?_ _ | assumption | (refine Below.trans ?_ (by assumption)) | (refine Ext.trans ?_ (by assumption)) | (refine Below.trans ?_ (Below.mono (by assumption) (by omega))))), fun k hk => .inl hk, Mod.of_ext (by repeat (first | with_reducible exact Ext.refl _ | refine Ext.drewN ?_ _ | refine Ext.drew ?_ | refine Ext.alloc ?_ _ | assumption | (refine Below.trans ?_ (by assumption)) | (refine Ext.trans ?_ (by assumption)) | (refine Below.trans ?_ (Below.mono (by assumption) (by omega)))))⟩
    · have HE := Lib.hid (show setE L id = 0 by unfold setE fullL; rw [hhas, show (L.length == 256) = false by simpa using hfl]; rfl)
      have hes3 : ¬ ((es.length : Nat) : Int) = 256 := by omega
      have hes2 : (((es.length : Nat) : Int) == 256) = false := by simpa using hes3
      have HFL := Lib.hid hfl
      have hsm := h.small
      have HSM := Lib.hid (show es.length < 1000 by omega)
      have hMl := hm.lt
      have hTl := hb.lt
      obtain ⟨n, hn⟩ : ∃ n, w.heap.size = n := ⟨_, rfl⟩
      obtain ⟨x, hx⟩ : ∃ x : En, x = ⟨n, id, due⟩ := ⟨_, rfl⟩
      obtain ⟨W, hW⟩ : ∃ W, W = w.alloc (.cells #[.int .i64 id, .int .i64 due, .int .i64 0] 59) := ⟨_, rfl⟩
      have EW : Ext w W := by rw [hW]; exact (Ext.refl w).alloc _
      have X := Lib.hid (show Blk W x.b 59 (x.cells 0) by rw [hW, hx]; exact Blk.at_ _ _ hn)
      have HX := Lib.hid hx
      have HW := Lib.hid hW
      have HN := Lib.hid hn
      have HML := Lib.hid hMl
      have HPN := Lib.hid (show ∀ e ∈ es, e.b ≠ x.b by
        intro e he
        obtain ⟨i, hi, rfl⟩ := mem_ent he
        have := (hp.ents i hi).lt
        rw [hx]
        show (ent es i).b ≠ n
        omega)
      have kt2 : W.cell? ⟨T, 1, none⟩ = some (.map (some M)) := cell_ext EW kt
      clear h hp hh hm h4 h5 h6 h7 hb hl hhas hne hw hfl hsm hMl hTl hW hx
      go_enter Try.func9, Try.ntmps9
      go_upto_region 5 with (first
        | (at_lookup; refine wpList_miss rfl _ _ rfl rfl HM.out id HNE.out rfl HWF.out ?_)
        | (at_len; refine wpList_mlen rfl _ rfl rfl (MapM.ext HM.out (by repeat (first | with_reducible exact Ext.refl _ | refine Ext.drewN ?_ _ | refine Ext.drew ?_ | refine Ext.alloc ?_ _ | assumption | (refine Below.trans ?_ (by assumption)) | (refine Ext.trans ?_ (by assumption)) | (refine Below.trans ?_ (Below.mono (by assumption) (by omega)))))) ?_))
      rw [← HW.out]
      go_upto_region 6 with (at_mapUpdate; refine wpList_put rfl _ _ _ rfl rfl (MapM.ext HM.out EW) x (by rw [HX.out]; exact HNE.out) (by rw [HX.out]; rfl) (by rw [HX.out]; rfl) (by rw [HX.out]; exact HWF.out) (by have := HSM.out; omega) ?_; intro w2 m2 M2)
      have m2 := Lib.hid m2
      have hMn : M < n := by rw [← HN.out]; exact HML.out
      have hxn : x.b = n := by rw [HX.out]
      have X2 := Lib.hid (X.out.mod M2 (by omega))
      have P2 := Lib.hid ((HP.out.ext EW).mod M2 (fun k hk => by rw [hk]; exact HNM.out))
      have HPU := Lib.hid (hpush_any T Fp (.map (some M)) es x 0 HPN.out HSM.out HH.out w2 P2.out X2.out)
      rw [hxn] at HPU
      unfold hv at HPU
      have M2 := Lib.hid ((Mod.of_ext (S := fun k => k = M) EW).trans M2)
      have HXN := Lib.hid hxn
      clear hxn kt kt2 EW
      go_wp2_with fail
      refine HPU.out.mono ?_
      rintro e w3 ⟨rfl, ⟨es2, p2, hh2, P3⟩, M3⟩
      have P3 := Lib.hid P3
      have M3 := Lib.hid M3
      have hh2 := Lib.hid hh2
      have p2 := Lib.hid p2
      clear HPU
      go_wp2
      go_ret
      rw [HE.out]
      have hz2 : n ≤ w2.heap.size := by rw [← HN.out]; exact M2.out.size
      have hz3 : w2.heap.size ≤ w3.heap.size := M3.out.size
      have hMw2 : M < w2.heap.size := by omega
      have m3 : MapM M w3 (es ++ [x]) := m2.out.mod M3.out (fun hk => hk.elim HNM.out fun hk => hk.elim (fun h => by omega) fun h => by omega)
      have MM : Mod F w w3 := ((M2.out.mono (T := fun k => F k ∨ n ≤ k) fun k _ hk => .inl (by rw [hk]; exact HMF.out)).trans (M3.out.mono fun k _ hk => hk.elim (fun h => .inl (HF.out k h)) fun hk => hk.elim (fun h => .inr (by have := HXN.out; omega)) fun h => .inr (by omega))).mono fun k hk1 hk => hk.elim (fun h => h) fun h => by have := HN.out; omega
      have hid : x.id = id := by rw [HX.out]
      have hdue : x.due = due := by rw [HX.out]
      have := set_new (x := x) (Fq := fun k => Fp k ∨ k = n ∨ (w2.heap.size ≤ k ∧ k < w3.heap.size)) HT.out H7.out (by rw [hid]; exact HHAS.out) HFL.out (by rw [hid]; exact HWF.out) HF.out HMF.out (fun hk => hk.elim HNM.out fun hk => hk.elim (fun h => by omega) fun h => by omega) (fun k hk => hk.elim .inl fun hk => .inr (by have := HN.out; have := (P3.out.fe x (p2.out.mem_iff.2 (by simp))); have := X2.out.lt; have := HXN.out; exact hk.elim (fun h => by omega) fun h => by omega)) p2.out P3.out hh2.out m3 MM
      rw [hid, hdue] at this
      exact ⟨rfl, this⟩
  · obtain ⟨i, hi, hid⟩ := (any_id h7 id).1 hhas
    subst hid
    have HE := Lib.hid (show setE L (ent es i).id = 0 by unfold setE fullL; rw [hhas]; rfl)
    have HI := Lib.hid hi
    have X := Lib.hid (hp.ents i hi)
    obtain ⟨hp1, m1⟩ := pile_due (due := due) hp hi
    have X2 := hp1.ents i (by rw [List.length_set]; exact hi)
    rw [set_ent hi, if_pos rfl] at X2
    have HFX := Lib.hid (fun w h => fix_any T Fp (.map (some M)) (es.set i { ent es i with due := due }) i (by rw [List.length_set]; exact hi) (fix_start (es := es) (by rw [List.length_set]; exact hh) (fun k hk => by rw [set_ent hi, if_neg hk])) w h)
    have P1 := Lib.hid hp1
    have M1 := Lib.hid m1
    have X2 := Lib.hid X2
    have x1 : w.cell? ⟨(ent es i).b, 1, none⟩ = some (.int .i64 (ent es i).due) := (hp.ents i hi).cell 1
    have f1 := (hp.ents i hi).frozen 1
    have hxm : ent es i ∈ es := List.mem_of_getElem? (ent_some hi)
    have HXM := Lib.hid hxm
    unfold hv at HFX
    clear h hp hh hm h4 h5 h6 h7 hb hl hhas hw hi hp1 m1 hxm
    go_enter Try.func9, Try.ntmps9
    go_upto_region 9 with (at_lookup; refine wpList_hit rfl _ _ rfl rfl HM.out _ HXM.out rfl HWF.out ?_)
    clear kt x1 f1
    generalize World.setCell w _ _ = W at *
    refine wp_region_held_drew (S := fun w' => True) (by kernel_rfl) trivial (fun hHeld => ?_)
    obtain ⟨D, hD⟩ : ∃ D, D = W.drew := ⟨_, rfl⟩
    have ED : Ext W D := by rw [hD]; exact (Ext.refl _).drew
    rw [← hD]
    have kc : D.cell? ⟨(ent es i).b, 2, none⟩ = some (.int .i64 i) := (X2.out.ext ED).cell 2
    clear hD
    (refine wpAnyH_take (i := 0) (v := ?_) rfl (by kernel_rfl) (by kernel_rfl) (by kernel_rfl) (fun _ _ _ h => h) (Or.inl ⟨by rfl, ?_⟩) (by assumption) ?_; rotate_left; (focus (intro w' hSw; go_simp; try with_reducible rfl)); (try simp only [List.getElem_toArray]); (try simp only [List.getElem_cons_succ]); (try simp only [List.getElem_cons_zero]); (try simp only [Act.put]); (try simp only [List.setIfInBounds_toArray]); (try simp only [List.set_cons_succ]); (try simp only [List.set_cons_zero]))
    (refine wpAnyH_take (i := 1) (v := ?_) rfl (by kernel_rfl) (by kernel_rfl) (by kernel_rfl) (fun _ _ _ h => h) (Or.inl ⟨by rfl, ?_⟩) (by assumption) ?_; rotate_left; (focus (intro w' hSw; go_simp; try with_reducible rfl)); (try simp only [List.getElem_toArray]); (try simp only [List.getElem_cons_succ]); (try simp only [List.getElem_cons_zero]); (try simp only [Act.put]); (try simp only [List.setIfInBounds_toArray]); (try simp only [List.set_cons_succ]); (try simp only [List.set_cons_zero]))
    (refine wpAnyH_take (i := 2) (v := ?_) rfl (by kernel_rfl) (by kernel_rfl) (by kernel_rfl) (fun _ _ _ h => h) (Or.inl ⟨by rfl, ?_⟩) (by assumption) ?_; rotate_left; (focus (intro w' hSw; go_simp; try with_reducible rfl)); (try simp only [List.getElem_toArray]); (try simp only [List.getElem_cons_succ]); (try simp only [List.getElem_cons_zero]); (try simp only [Act.put]); (try simp only [List.setIfInBounds_toArray]); (try simp only [List.set_cons_succ]); (try simp only [List.set_cons_zero]))
    (refine wpAnyH_take (i := 3) (v := ?_) rfl (by kernel_rfl) (by kernel_rfl) (by kernel_rfl) (fun _ _ _ h => h) (Or.inl ⟨by rfl, ?_⟩) (by assumption) ?_; rotate_left; (focus (intro w' hSw; go_simp; try with_reducible rfl)); (try simp only [List.getElem_toArray]); (try simp only [List.getElem_cons_succ]); (try simp only [List.getElem_cons_zero]); (try simp only [Act.put]); (try simp only [List.setIfInBounds_toArray]); (try simp only [List.set_cons_succ]); (try simp only [List.set_cons_zero]))
    (refine wpAnyH_take (i := 4) (v := ?_) rfl (by kernel_rfl) (by kernel_rfl) (by kernel_rfl) (fun _ _ _ h => h) (Or.inl ⟨by rfl, ?_⟩) (by assumption) ?_; rotate_left; (focus (intro w' hSw; go_simp; try with_reducible rfl)); (try simp only [List.getElem_toArray]); (try simp only [List.getElem_cons_succ]); (try simp only [List.getElem_cons_zero]); (try simp only [Act.put]); (try simp only [List.setIfInBounds_toArray]); (try simp only [List.set_cons_succ]); (try simp only [List.set_cons_zero]))
    (refine wpAnyH_take (i := 5) (v := ?_) rfl (by kernel_rfl) (by kernel_rfl) (by kernel_rfl) (fun _ _ _ h => h) (Or.inl ⟨by rfl, ?_⟩) (by assumption) ?_; rotate_left; (focus (intro w' hSw; go_simp; try with_reducible rfl)); (try simp only [List.getElem_toArray]); (try simp only [List.getElem_cons_succ]); (try simp only [List.getElem_cons_zero]); (try simp only [Act.put]); (try simp only [List.setIfInBounds_toArray]); (try simp only [List.set_cons_succ]); (try simp only [List.set_cons_zero]))
    (refine wpAnyH_take (i := 6) (v := ?_) rfl (by kernel_rfl) (by kernel_rfl) (by kernel_rfl) (fun _ _ _ h => h) (Or.inl ⟨by rfl, ?_⟩) (by assumption) ?_; rotate_left; (focus (intro w' hSw; go_simp; try with_reducible rfl)); (try simp only [List.getElem_toArray]); (try simp only [List.getElem_cons_succ]); (try simp only [List.getElem_cons_zero]); (try simp only [Act.put]); (try simp only [List.setIfInBounds_toArray]); (try simp only [List.set_cons_succ]); (try simp only [List.set_cons_zero]))
    (refine wpAnyH_ready (rs := [7]) (by kernel_rfl) (by simp) ?_; refine AllReadyH.cons rfl (fun K hK => ?_) AllReadyH.nil; go_simp; refine hK.out _ _ trivial (fun hHeld => ?_); clear hK K; (try simp only [Act.put]); (try simp only [List.getElem_toArray]); (try simp only [List.getElem_cons_succ]); (try simp only [List.getElem_cons_zero]); (try simp only [List.setIfInBounds_toArray]); (try simp only [List.set_cons_succ]); (try simp only [List.set_cons_zero]))
    (refine wpAnyH_ready (rs := [8]) (by kernel_rfl) (by simp) ?_; refine AllReadyH.cons rfl (fun K hK => ?_) AllReadyH.nil; go_simp; go_at_call 18; refine (HFX.out D (P1.out.ext ED)).mono ?_; rintro e w2 ⟨rfl, ⟨es2, p2, hh2, P2⟩, M2⟩; (try dsimp only); refine hK.out _ _ trivial (fun hHeld => ?_); clear hK K; (try simp only [Act.put]); (try simp only [List.getElem_toArray]); (try simp only [List.getElem_cons_succ]); (try simp only [List.getElem_cons_zero]); (try simp only [List.setIfInBounds_toArray]); (try simp only [List.set_cons_succ]); (try simp only [List.set_cons_zero]))
    refine wpAnyH_done (by kernel_rfl) ?_ _
    have P2 := Lib.hid P2
    have M2 := Lib.hid M2
    have hh2 := Lib.hid hh2
    have p2 := Lib.hid p2
    clear kc HFX
    go_wp2
    go_ret
    rw [HE.out]
    have MM : Mod Fp w w2 := (M1.out.trans (Mod.of_ext ED)).trans M2.out
    exact ⟨rfl, set_same HT.out H7.out HI.out HF.out HMF.out HNM.out p2.out P2.out hh2.out (HM.out.mod MM HNM.out) MM⟩
theorem tm_w {L : List (Int × Int)} {T : Nat} {F : Nat → Prop} {w : World} {es : List En} (h : TM T F w L) (h7 : L.Perm (es.map En.k)) {i : Nat} (hi : i < es.length) : (Lit.int .i64 (ent es i).id).wf = true := h.wf (ent es i).k (h7.mem_iff.2 (List.mem_map_of_mem (List.mem_of_getElem? (ent_some hi))))
theorem Pile.tcell {T M : Nat} {F : Nat → Prop} {w : World} {es : List En} (h : Pile T F (.map (some M)) w es) : w.cell? ⟨T, 1, none⟩ = some (.map (some M)) := by
  obtain ⟨_, _, hb, _, _⟩ := h.head
  exact hb.cell 1
/-- a timer taken out -/
def RemovePost (T M : Nat) (Fp : Nat → Prop) (es : List En) (i : Nat) (w : World) (e : Ending) (w' : World) : Prop :=
  e = .returned (.tuple #[]) ∧ (∃ es', (ent es i :: es').Perm es ∧ HeapN es' es'.length ∧ Pile T Fp (.map (some M)) w' es' ∧ MapM M w' es') ∧ Mod (fun k => Fp k ∨ k = M) w w'
set_option maxRecDepth 100000 in
set_option maxHeartbeats 3000000 in
theorem remove_any (T M : Nat) (Fp : Nat → Prop) (es : List En) (i : Nat) (hi : i < es.length) (hh : HeapN es es.length) (hnd : (es.map (·.id)).Nodup) (hw : (Lit.int .i64 (ent es i).id).wf = true) (hnM : ¬ Fp M) (w : World) (hp : Pile T Fp (.map (some M)) w es) (hm : MapM M w es) :
    Calls Try.prog 21 #[.pointer (some ⟨T, 0, none⟩), .pointer (some ⟨(ent es i).b, 0, none⟩)] w (RemovePost T M Fp es i w) := by
  have X := Lib.hid (hp.ents i hi)
  have HR := Lib.hid (fun w h => hrem_any T Fp (.map (some M)) es i hi hh w h)
  have P := Lib.hid hp
  have HM := Lib.hid hm
  have HNM := Lib.hid hnM
  have HND := Lib.hid hnd
  have HWF := Lib.hid hw
  have HFE := Lib.hid (hp.fe _ (List.mem_of_getElem? (ent_some hi)))
  unfold hv at HR
  clear hp hm hnM hnd hw hh hi
  go_enter Try.func21, Try.ntmps21
  go_wp2
  refine wp_region_held_drew (S := fun w' => True) (by kernel_rfl) trivial (fun hHeld => ?_)
  obtain ⟨D, hD⟩ : ∃ D, D = w.drew := ⟨_, rfl⟩
  have ED : Ext w D := by rw [hD]; exact (Ext.refl _).drew
  rw [← hD]
  have kc : D.cell? ⟨(ent es i).b, 2, none⟩ = some (.int .i64 i) := (X.out.ext ED).cell 2
  clear hD
  (refine wpAnyH_take (i := 0) (v := ?_) rfl (by kernel_rfl) (by kernel_rfl) (by kernel_rfl) (fun _ _ _ h => h) (Or.inl ⟨by rfl, ?_⟩) (by assumption) ?_; rotate_left; (focus (intro w' hSw; go_simp; try with_reducible rfl)); (try simp only [List.getElem_toArray]); (try simp only [List.getElem_cons_succ]); (try simp only [List.getElem_cons_zero]); (try simp only [Act.put]); (try simp only [List.setIfInBounds_toArray]); (try simp only [List.set_cons_succ]); (try simp only [List.set_cons_zero]))
  (refine wpAnyH_take (i := 1) (v := ?_) rfl (by kernel_rfl) (by kernel_rfl) (by kernel_rfl) (fun _ _ _ h => h) (Or.inl ⟨by rfl, ?_⟩) (by assumption) ?_; rotate_left; (focus (intro w' hSw; go_simp; try with_reducible rfl)); (try simp only [List.getElem_toArray]); (try simp only [List.getElem_cons_succ]); (try simp only [List.getElem_cons_zero]); (try simp only [Act.put]); (try simp only [List.setIfInBounds_toArray]); (try simp only [List.set_cons_succ]); (try simp only [List.set_cons_zero]))
  (refine wpAnyH_take (i := 2) (v := ?_) rfl (by kernel_rfl) (by kernel_rfl) (by kernel_rfl) (fun _ _ _ h => h) (Or.inl ⟨by rfl, ?_⟩) (by assumption) ?_; rotate_left; (focus (intro w' hSw; go_simp; try with_reducible rfl)); (try simp only [List.getElem_toArray]); (try simp only [List.getElem_cons_succ]); (try simp only [List.getElem_cons_zero]); (try simp only [Act.put]); (try simp only [List.setIfInBounds_toArray]); (try simp only [List.set_cons_succ]); (try simp only [List.set_cons_zero]))
  (refine wpAnyH_take (i := 3) (v := ?_) rfl (by kernel_rfl) (by kernel_rfl) (by kernel_rfl) (fun _ _ _ h => h) (Or.inl ⟨by rfl, ?_⟩) (by assumption) ?_; rotate_left; (focus (intro w' hSw; go_simp; try with_reducible rfl)); (try simp only [List.getElem_toArray]); (try simp only [List.getElem_cons_succ]); (try simp only [List.getElem_cons_zero]); (try simp only [Act.put]); (try simp only [List.setIfInBounds_toArray]); (try simp only [List.set_cons_succ]); (try simp only [List.set_cons_zero]))
  (refine wpAnyH_take (i := 4) (v := ?_) rfl (by kernel_rfl) (by kernel_rfl) (by kernel_rfl) (fun _ _ _ h => h) (Or.inl ⟨by rfl, ?_⟩) (by assumption) ?_; rotate_left; (focus (intro w' hSw; go_simp; try with_reducible rfl)); (try simp only [List.getElem_toArray]); (try simp only [List.getElem_cons_succ]); (try simp only [List.getElem_cons_zero]); (try simp only [Act.put]); (try simp only [List.setIfInBounds_toArray]); (try simp only [List.set_cons_succ]); (try simp only [List.set_cons_zero]))
  (refine wpAnyH_take (i := 5) (v := ?_) rfl (by kernel_rfl) (by kernel_rfl) (by kernel_rfl) (fun _ _ _ h => h) (Or.inl ⟨by rfl, ?_⟩) (by assumption) ?_; rotate_left; (focus (intro w' hSw; go_simp; try with_reducible rfl)); (try simp only [List.getElem_toArray]); (try simp only [List.getElem_cons_succ]); (try simp only [List.getElem_cons_zero]); (try simp only [Act.put]); (try simp only [List.setIfInBounds_toArray]); (try simp only [List.set_cons_succ]); (try simp only [List.set_cons_zero]))
  (refine wpAnyH_take (i := 6) (v := ?_) rfl (by kernel_rfl) (by kernel_rfl) (by kernel_rfl) (fun _ _ _ h => h) (Or.inl ⟨by rfl, ?_⟩) (by assumption) ?_; rotate_left; (focus (intro w' hSw; go_simp; try with_reducible rfl)); (try simp only [List.getElem_toArray]); (try simp only [List.getElem_cons_succ]); (try simp only [List.getElem_cons_zero]); (try simp only [Act.put]); (try simp only [List.setIfInBounds_toArray]); (try simp only [List.set_cons_succ]); (try simp only [List.set_cons_zero]))
  (refine wpAnyH_ready (rs := [7]) (by kernel_rfl) (by simp) ?_; refine AllReadyH.cons rfl (fun K hK => ?_) AllReadyH.nil; go_simp; refine hK.out _ _ trivial (fun hHeld => ?_); clear hK K; (try simp only [Act.put]); (try simp only [List.getElem_toArray]); (try simp only [List.getElem_cons_succ]); (try simp only [List.getElem_cons_zero]); (try simp only [List.setIfInBounds_toArray]); (try simp only [List.set_cons_succ]); (try simp only [List.set_cons_zero]))
  (refine wpAnyH_ready (rs := [8]) (by kernel_rfl) (by simp) ?_; refine AllReadyH.cons rfl (fun K hK => ?_) AllReadyH.nil; go_simp; go_at_call 24; refine (HR.out D (P.out.ext ED)).mono ?_; rintro e w2 ⟨⟨v, rfl⟩, ⟨es2, p2, hh2, P2⟩, M2, ⟨a2, X2⟩⟩; (try dsimp only); refine hK.out _ _ trivial (fun hHeld => ?_); clear hK K; (try simp only [Act.put]); (try simp only [List.getElem_toArray]); (try simp only [List.getElem_cons_succ]); (try simp only [List.getElem_cons_zero]); (try simp only [List.setIfInBounds_toArray]); (try simp only [List.set_cons_succ]); (try simp only [List.set_cons_zero]))
  refine wpAnyH_done (by kernel_rfl) ?_ _
  have MM := Lib.hid ((Mod.of_ext ED).trans M2)
  have P2 := Lib.hid P2
  have hh2 := Lib.hid hh2
  have hp2 := Lib.hid p2
  have X2 := Lib.hid X2
  have M2 := Lib.hid (HM.out.mod MM.out HNM.out)
  clear kc HR p2
  go_wp2
  refine wp_region_held_drew (S := fun w' => Mod (fun k => k = M) w2 w') (by kernel_rfl) ((Mod.refl _ _).drew) (fun hHeld => ?_)
  (refine wpAnyH_take (i := 0) (v := ?_) rfl (by kernel_rfl) (by kernel_rfl) (by kernel_rfl) (fun _ _ _ h => h) (Or.inl ⟨by rfl, ?_⟩) (by assumption) ?_; rotate_left; (focus (intro w' hSw; go_simp; try with_reducible rfl)); (try simp only [List.getElem_toArray]); (try simp only [List.getElem_cons_succ]); (try simp only [List.getElem_cons_zero]); (try simp only [Act.put]); (try simp only [List.setIfInBounds_toArray]); (try simp only [List.set_cons_succ]); (try simp only [List.set_cons_zero]))
  (refine wpAnyH_take (i := 1) (v := ?_) rfl (by kernel_rfl) (by kernel_rfl) (by kernel_rfl) (fun _ _ _ h => h) (Or.inl ⟨by rfl, ?_⟩) (by assumption) ?_; rotate_left; (focus (intro w' hSw; go_simp; try with_reducible rfl)); (try simp only [List.getElem_toArray]); (try simp only [List.getElem_cons_succ]); (try simp only [List.getElem_cons_zero]); (try simp only [Act.put]); (try simp only [List.setIfInBounds_toArray]); (try simp only [List.set_cons_succ]); (try simp only [List.set_cons_zero]))
  (refine wpAnyH_take (i := 2) (v := ?_) rfl (by kernel_rfl) (by kernel_rfl) (by kernel_rfl) (fun _ _ _ h => h) (Or.inl ⟨by rfl, ?_⟩) (by assumption) ?_; rotate_left; (focus (intro w' hSw; go_simp; try with_reducible rfl)); (try simp only [List.getElem_toArray]); (try simp only [List.getElem_cons_succ]); (try simp only [List.getElem_cons_zero]); (try simp only [Act.put]); (try simp only [List.setIfInBounds_toArray]); (try simp only [List.set_cons_succ]); (try simp only [List.set_cons_zero]))
  (refine wpAnyH_take (i := 3) (v := ?_) rfl (by kernel_rfl) (by kernel_rfl) (by kernel_rfl) (fun _ _ _ h => h) (Or.inl ⟨by rfl, ?_⟩) (by assumption) ?_; rotate_left; (focus (intro w' hSw; have kc : w'.cell? ⟨T, 1, none⟩ = some (.map (some M)) := (P2.out.mod hSw (fun k hk => by rw [hk]; exact HNM.out)).tcell; go_simp; try with_reducible rfl)); (try simp only [List.getElem_toArray]); (try simp only [List.getElem_cons_succ]); (try simp only [List.getElem_cons_zero]); (try simp only [Act.put]); (try simp only [List.setIfInBounds_toArray]); (try simp only [List.set_cons_succ]); (try simp only [List.set_cons_zero]))
  (refine wpAnyH_take (i := 4) (v := ?_) rfl (by kernel_rfl) (by kernel_rfl) (by kernel_rfl) (fun _ _ _ h => h) (Or.inl ⟨by rfl, ?_⟩) (by assumption) ?_; rotate_left; (focus (intro w' hSw; go_simp; try with_reducible rfl)); (try simp only [List.getElem_toArray]); (try simp only [List.getElem_cons_succ]); (try simp only [List.getElem_cons_zero]); (try simp only [Act.put]); (try simp only [List.setIfInBounds_toArray]); (try simp only [List.set_cons_succ]); (try simp only [List.set_cons_zero]))
  (refine wpAnyH_take (i := 5) (v := ?_) rfl (by kernel_rfl) (by kernel_rfl) (by kernel_rfl) (fun _ _ _ h => h) (Or.inl ⟨by rfl, ?_⟩) (by assumption) ?_; rotate_left; (focus (intro w' hSw; go_simp; try with_reducible rfl)); (try simp only [List.getElem_toArray]); (try simp only [List.getElem_cons_succ]); (try simp only [List.getElem_cons_zero]); (try simp only [Act.put]); (try simp only [List.setIfInBounds_toArray]); (try simp only [List.set_cons_succ]); (try simp only [List.set_cons_zero]))
  (refine wpAnyH_take (i := 6) (v := ?_) rfl (by kernel_rfl) (by kernel_rfl) (by kernel_rfl) (fun _ _ _ h => h) (Or.inl ⟨by rfl, ?_⟩) (by assumption) ?_; rotate_left; (focus (intro w' hSw; go_simp; try with_reducible rfl)); (try simp only [List.getElem_toArray]); (try simp only [List.getElem_cons_succ]); (try simp only [List.getElem_cons_zero]); (try simp only [Act.put]); (try simp only [List.setIfInBounds_toArray]); (try simp only [List.set_cons_succ]); (try simp only [List.set_cons_zero]))
  (refine wpAnyH_take (i := 7) (v := ?_) rfl (by kernel_rfl) (by kernel_rfl) (by kernel_rfl) (fun _ _ _ h => h) (Or.inl ⟨by rfl, ?_⟩) (by assumption) ?_; rotate_left; (focus (intro w' hSw; have kc : w'.cell? ⟨(ent es i).b, 0, none⟩ = some (.int .i64 (ent es i).id) := (X2.out.mod hSw (by intro he; exact HNM.out (by rw [← he]; exact HFE.out))).cell 0; go_simp; try with_reducible rfl)); (try simp only [List.getElem_toArray]); (try simp only [List.getElem_cons_succ]); (try simp only [List.getElem_cons_zero]); (try simp only [Act.put]); (try simp only [List.setIfInBounds_toArray]); (try simp only [List.set_cons_succ]); (try simp only [List.set_cons_zero]))
  obtain ⟨D2, hD⟩ : ∃ D2, D2 = w2.drew := ⟨_, rfl⟩
  have ED2 : Ext w2 D2 := by rw [hD]; exact (Ext.refl _).drew
  rw [← hD]
  have hne : ∀ e ∈ es2, e.id ≠ (ent es i).id := by
    intro e he hid
    have h2 : ((ent es i).id :: es2.map (·.id)).Nodup := (hp2.out.map (fun e : En => e.id)).nodup_iff.2 HND.out
    exact (List.nodup_cons.1 h2).1 (by rw [← hid]; exact List.mem_map_of_mem he)
  obtain ⟨w9, hrun, m9, M9⟩ := (M2.out.ext ED2).drop hp2.out hne HWF.out 0
  have m9 := Lib.hid m9
  have M9 := Lib.hid M9
  clear hD hne
  trace_state
  (refine wpAnyH_ready (rs := [8]) (by kernel_rfl) (by simp) ?_; refine AllReadyH.cons rfl (fun K hK => ?_) AllReadyH.nil; go_simp; refine hK.out _ _ ((Mod.of_ext ED2).trans M9.out) (fun hHeld => ?_); clear hK K; (try simp only [Act.put]); (try simp only [List.getElem_toArray]); (try simp only [List.getElem_cons_succ]); (try simp only [List.getElem_cons_zero]); (try simp only [List.setIfInBounds_toArray]); (try simp only [List.set_cons_succ]); (try simp only [List.set_cons_zero]))
  refine wpAnyH_done (by kernel_rfl) ?_ _
  go_wp2
  go_end0
  exact ⟨rfl, ⟨es2, hp2.out, hh2.out, (P2.out.ext ED2).mod M9.out (fun k hk => by rw [hk]; exact HNM.out), m9.out⟩, ((MM.out.mono fun k _ hk => .inl hk).ext ED2).trans (M9.out.mono fun k _ hk => .inr hk)⟩
end Go.Proofs.Ytapajcgfdiamdaa
