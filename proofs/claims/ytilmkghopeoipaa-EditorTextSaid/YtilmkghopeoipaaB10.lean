/- A line without its last character, or word: what the functions compute, by contract. Conditions: the setting is one, bytes are bytes, lengths below 10^8. -/
import Derived.Test.YtilmkghopeoipaaA10
namespace Go.Proofs.Ytilmkghopeoipaa
open Go.RowKit Go.Kb

/-- a line cut in two -/
def PartPost (w : World) (l : List Int) (k : Nat) (e : Ending) (w' : World) : Prop :=
  ∃ A c B d, e = .returned (.tuple #[.slice A k c, .slice B (l.length - k) d]) ∧ NewB w w' (.slice A k c) (l.take k) ∧ NewB w w' (.slice B (l.length - k) d) (l.drop k) ∧ Ext w w'
theorem Bs.take {l : List Int} (h : Bs l) (k : Nat) : Bs (l.take k) := fun x hx => h x (List.mem_of_mem_take hx)
theorem Bs.drop {l : List Int} (h : Bs l) (k : Nat) : Bs (l.drop k) := fun x hx => h x (List.mem_of_mem_drop hx)
theorem NewB.ext_ {w0 w w' : World} {v : Value} {l : List Int} (h : NewB w0 w v l) (hE : Ext w w') : NewB w0 w' v l := RdS.ext h hE
theorem NewB.low {w0 w1 w : World} {v : Value} {l : List Int} (h : NewB w1 w v l) (hE : Ext w0 w1) : NewB w0 w v l := RdS.mono h fun _ _ hk => Nat.le_trans hE.size hk
set_option maxHeartbeats 400000 in
theorem erase_any (t : Tm) (v : Value) (l : List Int) (w : World) (h : t.Ok) (hl : RI .u8 w v l) (hB : Bs l) (hn : l.length ≤ 100000000) : Calls Try.prog 10 #[.agg t.arr, v] w (PartPost w l (startL (hasL t 42) l)) := by
  have hsz := t.size h
  have hS := fun w' hr => start_any t v l w' h hr hB
  have hle := startL_le (hasL t 42) l
  generalize startL (hasL t 42) l = s at hS hle ⊢
  generalize t.arr = cs at hS hsz ⊢
  clear h hB
  have H := Lib.hid hl
  clear hl
  have hi : (Try.prog.info? 26).map (·.size) = some cs.size := by rw [hsz]; kernel_rfl
  have hA := Blk.new w 26 cs
  go_enter Try.func10, Try.ntmps10
  go_wp2_with (first | (refine wpList_load_row rfl 26 _ rfl _ rfl 26 _ _ _ hA Try.underlying26 rfl hi ?_) | (go_at_call 22; refine (hS _ (H.out.ext (by repeat (first | with_reducible exact Ext.refl _ | refine Ext.drewN ?_ _ | refine Ext.drew ?_ | refine Ext.alloc ?_ _ | assumption | (refine Below.trans ?_ (by assumption)) | (refine Ext.trans ?_ (by assumption)) | (refine Below.trans ?_ (Below.mono (by assumption) (by omega))))))).mono ?_; rintro e w1 ⟨rfl, E1⟩) | (go_at_call 24; refine (part_any _ l s _ (H.out.ext (by repeat (first | with_reducible exact Ext.refl _ | refine Ext.drewN ?_ _ | refine Ext.drew ?_ | refine Ext.alloc ?_ _ | assumption | (refine Below.trans ?_ (by assumption)) | (refine Ext.trans ?_ (by assumption)) | (refine Below.trans ?_ (Below.mono (by assumption) (by omega)))))) hle hn).mono ?_; rintro e w2 ⟨A, c, B, d, rfl, r1, r2, E2⟩))
  refine bodyPost_ret (v := .tuple #[.slice A s c, .slice B (l.length - s) d]) (by simp [results, Try.results10, go_sem]) rfl ?_
  have E01 : Ext w w1 := (by repeat (first | with_reducible exact Ext.refl _ | refine Ext.drewN ?_ _ | refine Ext.drew ?_ | refine Ext.alloc ?_ _ | assumption | (refine Below.trans ?_ (by assumption)) | (refine Ext.trans ?_ (by assumption)) | (refine Below.trans ?_ (Below.mono (by assumption) (by omega)))))
  exact ⟨A, c, B, d, rfl, NewB.low r1 E01, NewB.low r2 E01, (by repeat (first | with_reducible exact Ext.refl _ | refine Ext.drewN ?_ _ | refine Ext.drew ?_ | refine Ext.alloc ?_ _ | assumption | (refine Below.trans ?_ (by assumption)) | (refine Ext.trans ?_ (by assumption)) | (refine Below.trans ?_ (Below.mono (by assumption) (by omega)))))⟩
set_option maxHeartbeats 800000 in
theorem word_any (t : Tm) (v : Value) (l : List Int) (w : World) (h : t.Ok) (hl : RI .u8 w v l) (hB : Bs l) (hn : l.length ≤ 100000000) : Calls Try.prog 8 #[.agg t.arr, v] w (PartPost w l (wordL (hasL t 42) l)) := by
  have hsz := t.size h
  have hS := fun v l w' hr hB => start_any t v l w' h hr hB
  have hle := wordL_le (hasL t 42) l
  generalize hasL t 42 = u at hS hle ⊢
  generalize t.arr = cs at hS hsz ⊢
  clear h
  obtain ⟨Ad, c, rfl, h1, h2⟩ := hl.shape
  have H := Lib.hid hl
  have HB := Lib.hid hB
  clear hl hB
  have HW : Hid (wordF u l l.length l.length false = wordL u l) := Lib.hid rfl
  generalize wordL u l = z at HW hle ⊢
  have hi : (Try.prog.info? 26).map (·.size) = some cs.size := by rw [hsz]; kernel_rfl
  have hA := Lib.hid (Blk.new w 26 cs)
  go_enter Try.func8, Try.ntmps8
  go_wp2
  go_step3
  go_wp2
  go_step3
  go_wp2
  go_loopw [6, 7] (fun a b wr => ∃ (p n : Nat) (wi : Bool), a = .int .i64 p ∧ b = .bool wi ∧ p ≤ l.length ∧ p ≤ n ∧ Hid (wordF u l n p wi = z) ∧ Hid (Blk wr w.heap.size 26 cs) ∧ Ext w wr) (fun a _ _ => (intOf a).toNat)
  case atStart => exact ⟨l.length, l.length, false, rfl, rfl, Nat.le_refl _, Nat.le_refl _, HW, hA, (by repeat (first | with_reducible exact Ext.refl _ | refine Ext.drewN ?_ _ | refine Ext.drew ?_ | refine Ext.alloc ?_ _ | assumption | (refine Below.trans ?_ (by assumption)) | (refine Ext.trans ?_ (by assumption)) | (refine Below.trans ?_ (Below.mono (by assumption) (by omega)))))⟩
  case round =>
    clear HW hA
    obtain ⟨p, n, wi, rfl, rfl, hp, hpn, HW, HA, hE⟩ := hrel
    by_cases h0 : p = 0
    · subst h0
      have hz : z = 0 := by rw [← HW.out]; exact wordF_stop (Nat.zero_le _) (.inl rfl)
      subst hz
      go_wp2_with ((go_at_call 24; refine (part_any _ l 0 _ (H.out.ext (by repeat (first | with_reducible exact Ext.refl _ | refine Ext.drewN ?_ _ | refine Ext.drew ?_ | refine Ext.alloc ?_ _ | assumption | (refine Below.trans ?_ (by assumption)) | (refine Ext.trans ?_ (by assumption)) | (refine Below.trans ?_ (Below.mono (by assumption) (by omega)))))) hle hn).mono ?_; rintro e w2 ⟨A, c2, B, d, rfl, r1, r2, E2⟩))
      rw [Exit.noGoto_ret]
      refine bodyPost_ret (v := .tuple #[.slice A 0 c2, .slice B (l.length - 0) d]) (by simp [results, Try.results8, go_sem]) rfl ?_
      exact ⟨A, c2, B, d, rfl, NewB.low r1 hE, NewB.low r2 hE, (by repeat (first | with_reducible exact Ext.refl _ | refine Ext.drewN ?_ _ | refine Ext.drew ?_ | refine Ext.alloc ?_ _ | assumption | (refine Below.trans ?_ (by assumption)) | (refine Ext.trans ?_ (by assumption)) | (refine Below.trans ?_ (Below.mono (by assumption) (by omega)))))⟩
    · have d0 : (0 : Int) < p := by omega
      have hq := start_take (u := u) (l := l) (show 0 < p by omega) hp
      have HR := Lib.hid (H.out.toA hp)
      have HS := Lib.hid fun w' (hr : RI .u8 w' (.slice Ad p c) (l.take p)) => hS _ _ w' hr (Bs.take HB.out p)
      have HF := Lib.hid fun hb => wordF_step (u := u) (l := l) (n := n) (wi := wi) (show 0 < p by omega) hpn hp hb
      have HG := Lib.hid fun hb => wordF_stop (u := u) (l := l) (n := n) (wi := wi) hpn (.inr hb)
      have hcq : ¬ c = startL u (l.take p) := by omega
      have HQ := HR.out.fromB (Nat.le_of_lt hq)
      rw [if_neg hcq] at HQ
      have HQ := Lib.hid HQ
      generalize startL u (l.take p) = q at hq HS HF HG HQ hcq
      have i1 : (0 : Int) ≤ (p : Int) := by omega
      have i2 : (p : Int) ≤ (l.length : Int) := by omega
      have i3 : (p : Int) ≤ (c : Int) := by omega
      have i4 : (0 : Int) ≤ (q : Int) := by omega
      have i5 : (q : Int) ≤ (p : Int) := by omega
      clear hS
      go_wp2
      refine wp_region_held_drew (S := fun w' => Ext wr w') (by kernel_rfl) (by repeat (first | with_reducible exact Ext.refl _ | refine Ext.drewN ?_ _ | refine Ext.drew ?_ | refine Ext.alloc ?_ _ | assumption | (refine Below.trans ?_ (by assumption)) | (refine Ext.trans ?_ (by assumption)) | (refine Below.trans ?_ (Below.mono (by assumption) (by omega))))) (fun hHeld => ?_)
      (refine wpAnyH_take (i := 0) (v := .agg cs) rfl (by kernel_rfl) (by kernel_rfl) (by kernel_rfl) (fun _ _ _ h => h) (yieldsIf_load_row (by rfl) 26 _ rfl _ rfl 26 cs _ _ (fun w' hw' => Blk.ext HA.out hw') Try.underlying26 rfl hi) (by assumption) ?_; (try simp only [Act.put]); (try simp only [List.getElem_toArray]); (try simp only [List.getElem_cons_succ]); (try simp only [List.getElem_cons_zero]); (try simp only [List.setIfInBounds_toArray]); (try simp only [List.set_cons_succ]); (try simp only [List.set_cons_zero]))
      (refine wpAnyH_take (i := 1) (v := ?_) rfl (by kernel_rfl) (by kernel_rfl) (by kernel_rfl) (fun _ _ _ h => h) (Or.inl ⟨by rfl, ?_⟩) (by assumption) ?_; rotate_left; focus (intro w' hSw; go_simp; try with_reducible rfl); (try simp only [Act.put]); (try simp only [List.getElem_toArray]); (try simp only [List.getElem_cons_succ]); (try simp only [List.getElem_cons_zero]); (try simp only [List.setIfInBounds_toArray]); (try simp only [List.set_cons_succ]); (try simp only [List.set_cons_zero]))
      (refine wpAnyH_take (i := 2) (v := ?_) rfl (by kernel_rfl) (by kernel_rfl) (by kernel_rfl) (fun _ _ _ h => h) (Or.inl ⟨by rfl, ?_⟩) (by assumption) ?_; rotate_left; focus (intro w' hSw; go_simp; try with_reducible rfl); (try simp only [Act.put]); (try simp only [List.getElem_toArray]); (try simp only [List.getElem_cons_succ]); (try simp only [List.getElem_cons_zero]); (try simp only [List.setIfInBounds_toArray]); (try simp only [List.set_cons_succ]); (try simp only [List.set_cons_zero]))
      (refine wpAnyH_take (i := 3) (v := ?_) rfl (by kernel_rfl) (by kernel_rfl) (by kernel_rfl) (fun _ _ _ h => h) (Or.inl ⟨by rfl, ?_⟩) (by assumption) ?_; rotate_left; focus (intro w' hSw; go_simp; try with_reducible rfl); (try simp only [Act.put]); (try simp only [List.getElem_toArray]); (try simp only [List.getElem_cons_succ]); (try simp only [List.getElem_cons_zero]); (try simp only [List.setIfInBounds_toArray]); (try simp only [List.set_cons_succ]); (try simp only [List.set_cons_zero]))
      (refine wpAnyH_ready (rs := [4]) (by kernel_rfl) (by simp) ?_; refine AllReadyH.cons rfl (fun K hK => ?_) AllReadyH.nil; go_simp; go_at_call 22; refine (HS.out _ (HR.out.ext (by repeat (first | with_reducible exact Ext.refl _ | refine Ext.drewN ?_ _ | refine Ext.drew ?_ | refine Ext.alloc ?_ _ | assumption | (refine Below.trans ?_ (by assumption)) | (refine Ext.trans ?_ (by assumption)) | (refine Below.trans ?_ (Below.mono (by assumption) (by omega))))))).mono ?_; rintro e w1 ⟨rfl, E1⟩; (try dsimp only); refine hK.out _ _ (by repeat (first | with_reducible exact Ext.refl _ | refine Ext.drewN ?_ _ | refine Ext.drew ?_ | refine Ext.alloc ?_ _ | assumption | (refine Below.trans ?_ (by assumption)) | (refine Ext.trans ?_ (by assumption)) | (refine Below.trans ?_ (Below.mono (by assumption) (by omega))))) (fun hHeld => ?_); clear hK K; (try simp only [Act.put]); (try simp only [List.getElem_toArray]); (try simp only [List.getElem_cons_succ]); (try simp only [List.getElem_cons_zero]); (try simp only [List.setIfInBounds_toArray]); (try simp only [List.set_cons_succ]); (try simp only [List.set_cons_zero]))
      (refine wpAnyH_take (i := 5) (v := ?_) rfl (by kernel_rfl) (by kernel_rfl) (by kernel_rfl) (fun _ _ _ h => h) (Or.inl ⟨by rfl, ?_⟩) (by assumption) ?_; rotate_left; focus (intro w' hSw; go_simp; try with_reducible rfl); (try simp only [Act.put]); (try simp only [List.getElem_toArray]); (try simp only [List.getElem_cons_succ]); (try simp only [List.getElem_cons_zero]); (try simp only [List.setIfInBounds_toArray]); (try simp only [List.set_cons_succ]); (try simp only [List.set_cons_zero]))
      refine wpAnyH_done (by kernel_rfl) ?_ _
      have E01 : Ext wr w1 := (by repeat (first | with_reducible exact Ext.refl _ | refine Ext.drewN ?_ _ | refine Ext.drew ?_ | refine Ext.alloc ?_ _ | assumption | (refine Below.trans ?_ (by assumption)) | (refine Ext.trans ?_ (by assumption)) | (refine Below.trans ?_ (Below.mono (by assumption) (by omega)))))
      have Ew1 : Ext w w1 := (by repeat (first | with_reducible exact Ext.refl _ | refine Ext.drewN ?_ _ | refine Ext.drew ?_ | refine Ext.alloc ?_ _ | assumption | (refine Below.trans ?_ (by assumption)) | (refine Ext.trans ?_ (by assumption)) | (refine Below.trans ?_ (Below.mono (by assumption) (by omega)))))
      clear E1
      have HQ1 : RI .u8 w1 (.slice (Option.map (fun x => x.add q) Ad) (p - q) (c - q)) ((l.take p).drop q) := RdN.ext HQ.out Ew1
      rcases Bool.eq_false_or_eq_true (blankL ((l.take p).drop q)) with hb | hb
      · have hbl := blank_any _ ((l.take p).drop q) w1 HQ1
        rw [hb] at hbl HF HG
        cases wi
        · go_wp2_with (go_at_call 23; refine hbl.mono ?_; rintro e w2 ⟨rfl, E2⟩)
          obtain ⟨f1, f2⟩ := HF.out rfl
          go_roundw
          case rel => exact ⟨q, n - 1, false, rfl, rfl, by omega, f1, Lib.hid (by rw [← HW.out, f2]; rfl), Lib.hid ((HA.out.ext E01).ext E2), Ew1.trans E2⟩
          case measure => simp [intOf]; omega
        · have hz : p = z := by rw [← HW.out]; exact (HG.out rfl).symm
          subst hz
          go_wp2_with (first
            | (go_at_call 23; refine hbl.mono ?_; rintro e w2 ⟨rfl, E2⟩; have Ew2 := Ew1.trans E2)
            | (go_at_call 24; refine (part_any _ l p _ (H.out.ext (by repeat (first | with_reducible exact Ext.refl _ | refine Ext.drewN ?_ _ | refine Ext.drew ?_ | refine Ext.alloc ?_ _ | assumption | (refine Below.trans ?_ (by assumption)) | (refine Ext.trans ?_ (by assumption)) | (refine Below.trans ?_ (Below.mono (by assumption) (by omega)))))) hle hn).mono ?_; rintro e w3 ⟨A, c2, B, d, rfl, r1, r2, E3⟩))
          rw [Exit.noGoto_ret]
          refine bodyPost_ret (v := .tuple #[.slice A p c2, .slice B (l.length - p) d]) (by simp [results, Try.results8, go_sem]) rfl ?_
          exact ⟨A, c2, B, d, rfl, NewB.low r1 Ew2, NewB.low r2 Ew2, Ew2.trans E3⟩
      · have hbl := blank_any _ ((l.take p).drop q) w1 HQ1
        rw [hb] at hbl HF
        obtain ⟨f1, f2⟩ := HF.out (by simp)
        have F := Lib.hid (show wordF u l (n - 1) q true = z by rw [← HW.out, f2]; simp)
        clear f2 hb
        go_wp2_with (go_at_call 23; refine hbl.mono ?_; rintro e w2 ⟨rfl, E2⟩)
        all_goals
          go_roundw
          case rel => exact ⟨q, n - 1, true, rfl, rfl, by omega, f1, F, Lib.hid ((HA.out.ext E01).ext E2), Ew1.trans E2⟩
          case measure => simp [intOf]; omega
end Go.Proofs.Ytilmkghopeoipaa
