/- Read of the document, by contract. Conditions: lengths within the reach. -/
import Derived.Test.YtgahpclgdhghjaaN13
namespace Go.Proofs.Ytgahpclgdhghjaa
open Go.RowKit Go.Kb

/-- what the document's read says -/
def RReadPost (r : List Int × List (List Int × Bool) × Bool) (w : World) (e : Ending) (w' : World) : Prop :=
  ∃ Ab cb Ar cr, e = .returned (.tuple #[.slice Ab r.1.length cb, .slice Ar r.2.1.length cr, .bool r.2.2]) ∧ RdS Ub (fun _ => True) w' (.slice Ab r.1.length cb) r.1 ∧ RdS Ln (fun _ => True) w' (.slice Ar r.2.1.length cr) r.2.1 ∧ Ext w w'
set_option maxHeartbeats 800000 in
theorem rread_any {A : Nat → Prop} (v : Value) (ls : List (List Int × Bool)) (n : Int) (w : World) (h : RdS Ln A w v ls) (hn : usedL ls ≤ 140737488355328) (hm : ls.length ≤ 1000000) :
    Calls Try.prog 19 #[v, .int .i64 n] w (RReadPost (readL ls n) w) := by
  obtain ⟨Ad, c, rfl, hc1, hc2⟩ := h.shape
  have H := Lib.hid (h.mono (B := fun _ => True) fun _ _ _ => trivial)
  have hn1 := Lib.hid hn
  clear h
  rcases ls with _ | ⟨⟨l, f⟩, t⟩
  · have HR : Hid (readL [] n = ([], [], false)) := Lib.hid rfl
    rw [HR.out]
    go_enter Try.func19, Try.ntmps19
    go_wp2_with fail
    refine (copy_any _ [] _ (H.out.y.ext (by repeat (first | with_reducible exact Ext.refl _ | refine Ext.drewN ?_ _ | refine Ext.drew ?_ | refine Ext.alloc ?_ _ | assumption | (refine Below.trans ?_ (by assumption)) | (refine Ext.trans ?_ (by assumption)) | (refine Below.trans ?_ (Below.mono (by assumption) (by omega)))))) hn1.out (by simp)).mono ?_
    rintro e w1 ⟨A1, c1, rfl, O1, E1⟩
    have O1 := Lib.hid O1
    have h0 : ([] : List (List Int × Bool)).length = 0 := rfl
    rw [h0] at O1 ⊢
    go_wp2
    refine bodyPost_ret (v := .tuple #[.slice none 0 0, .slice A1 0 c1, .bool false]) (by simp [results, Try.results19, go_sem]) rfl ?_
    exact ⟨_, _, _, _, rfl, RdS.nil _ _ _, O1.out.rdT, E1⟩
  · have hlen : ((l, f) :: t).length = t.length + 1 := rfl
    simp only [hlen] at hc1 hm
    have h1 := szL_nn (l, f)
    have h2 := usedL_nn t
    have h3 : szL (l, f) + usedL t ≤ 140737488355328 := by rw [← usedL_cons]; exact hn
    have h5 : l.length ≤ 140737488355328 := by
      have : (l.length : Int) ≤ szL (l, f) := by unfold szL; split <;> simp <;> omega
      omega
    have hne : ¬ ((t.length : Int) + 1 = 0) := by omega
    have i1 : (1 : Int) ≤ (t.length : Int) + 1 := by omega
    have i2 : (0 : Int) < (t.length : Int) + 1 := by omega
    clear hn h1 h2 h3
    by_cases hn0 : n ≤ 0
    · have HR : Hid (readL ((l, f) :: t) n = ([], (l, f) :: t, true)) := Lib.hid (by simp [readL, hn0])
      rw [HR.out]
      go_enter Try.func19, Try.ntmps19
      go_wp2_with fail
      refine (copy_any _ ((l, f) :: t) _ (H.out.y.ext (by repeat (first | with_reducible exact Ext.refl _ | refine Ext.drewN ?_ _ | refine Ext.drew ?_ | refine Ext.alloc ?_ _ | assumption | (refine Below.trans ?_ (by assumption)) | (refine Ext.trans ?_ (by assumption)) | (refine Below.trans ?_ (Below.mono (by assumption) (by omega)))))) hn1.out (by simp; omega)).mono ?_
      rintro e w1 ⟨A1, c1, rfl, O1, E1⟩
      have O1 := Lib.hid O1
      rw [hlen] at O1 ⊢
      go_wp2
      refine bodyPost_ret (v := .tuple #[.slice none 0 0, .slice A1 (t.length + 1) c1, .bool true]) (by simp [results, Try.results19, go_sem]) rfl ?_
      exact ⟨_, _, _, _, rfl, RdS.nil _ _ _, O1.out.rdT, E1⟩
    · go_enter Try.func19, Try.ntmps19
      go_wp2_with fail
      refine (copy_any _ ((l, f) :: t) _ (H.out.y.ext (by repeat (first | with_reducible exact Ext.refl _ | refine Ext.drewN ?_ _ | refine Ext.drew ?_ | refine Ext.alloc ?_ _ | assumption | (refine Below.trans ?_ (by assumption)) | (refine Ext.trans ?_ (by assumption)) | (refine Below.trans ?_ (Below.mono (by assumption) (by omega)))))) hn1.out (by simp; omega)).mono ?_
      rintro e w1 ⟨A1, c1, rfl, O1, E1⟩
      rw [hlen] at O1 ⊢
      obtain ⟨g, rfl, hg, hfr⟩ := O1.addr (by omega)
      obtain ⟨b3, off3, A4, l4, f4, c4, hb3, hx3, hy3, hd3, hr3, hl3, hl4⟩ := ln_at O1.y (j := 0) (by omega)
      have hd0 := hd3.out
      simp only [List.getElem?_cons_zero, Option.some.injEq, Prod.mk.injEq] at hd0
      obtain ⟨rfl, rfl⟩ := hd0
      simp only [Option.some.injEq, Addr.mk.injEq, and_true] at hb3
      obtain ⟨rfl, rfl⟩ := hb3
      simp only [Nat.zero_mul, Nat.add_zero] at hx3 hy3
      have hf0 := hfr 0
      have HO := Lib.hid O1
      clear hd3 O1 hfr
      by_cases hle : (l.length : Int) ≤ n
      · have HR : Hid (readL ((l, f) :: t) n = (l, t, true)) := Lib.hid (by simp [readL, hn0, hle])
        rw [HR.out]
        have HT := Lib.hid (ln_tail HO.out.rdT)
        rcases Decidable.em (c1 = 1) with hc | hc
        · subst hc
          simp only [if_true] at HT
          go_wp2
          go_region
          go_wp2
          rw [HR.out]
          refine bodyPost_ret (v := .tuple #[.slice A4 l.length c4, .slice (some ⟨g, 0, none⟩) t.length 0, .bool true]) (by simp [results, Try.results19, go_sem]) rfl ?_
          exact ⟨_, _, _, _, rfl, (hr3.out.mono fun _ _ _ => trivial).ext (by repeat (first | with_reducible exact Ext.refl _ | refine Ext.drewN ?_ _ | refine Ext.drew ?_ | refine Ext.alloc ?_ _ | assumption | (refine Below.trans ?_ (by assumption)) | (refine Ext.trans ?_ (by assumption)) | (refine Below.trans ?_ (Below.mono (by assumption) (by omega))))), (show RdS Ln (fun _ => True) w1 (.slice (some ⟨g, 0, none⟩) t.length 0) t by simpa using HT.out).ext (by repeat (first | with_reducible exact Ext.refl _ | refine Ext.drewN ?_ _ | refine Ext.drew ?_ | refine Ext.alloc ?_ _ | assumption | (refine Below.trans ?_ (by assumption)) | (refine Ext.trans ?_ (by assumption)) | (refine Below.trans ?_ (Below.mono (by assumption) (by omega))))), (by repeat (first | with_reducible exact Ext.refl _ | refine Ext.drewN ?_ _ | refine Ext.drew ?_ | refine Ext.alloc ?_ _ | assumption | (refine Below.trans ?_ (by assumption)) | (refine Ext.trans ?_ (by assumption)) | (refine Below.trans ?_ (Below.mono (by assumption) (by omega)))))⟩
        · simp only [if_neg hc] at HT
          go_wp2
          go_region
          go_wp2
          rw [HR.out]
          refine bodyPost_ret (v := .tuple #[.slice A4 l.length c4, .slice (some ⟨g, 2, none⟩) t.length (c1 - 1), .bool true]) (by simp [results, Try.results19, go_sem]) rfl ?_
          exact ⟨_, _, _, _, rfl, (hr3.out.mono fun _ _ _ => trivial).ext (by repeat (first | with_reducible exact Ext.refl _ | refine Ext.drewN ?_ _ | refine Ext.drew ?_ | refine Ext.alloc ?_ _ | assumption | (refine Below.trans ?_ (by assumption)) | (refine Ext.trans ?_ (by assumption)) | (refine Below.trans ?_ (Below.mono (by assumption) (by omega))))), (show RdS Ln (fun _ => True) w1 (.slice (some ⟨g, 2, none⟩) t.length (c1 - 1)) t by simpa using HT.out).ext (by repeat (first | with_reducible exact Ext.refl _ | refine Ext.drewN ?_ _ | refine Ext.drew ?_ | refine Ext.alloc ?_ _ | assumption | (refine Below.trans ?_ (by assumption)) | (refine Ext.trans ?_ (by assumption)) | (refine Below.trans ?_ (Below.mono (by assumption) (by omega))))), (by repeat (first | with_reducible exact Ext.refl _ | refine Ext.drewN ?_ _ | refine Ext.drew ?_ | refine Ext.alloc ?_ _ | assumption | (refine Below.trans ?_ (by assumption)) | (refine Ext.trans ?_ (by assumption)) | (refine Below.trans ?_ (Below.mono (by assumption) (by omega)))))⟩
      · obtain ⟨m, rfl⟩ := Int.eq_ofNat_of_zero_le (show 0 ≤ n by omega)
        have hm1 : 0 < m := by omega
        have hm2 : m < l.length := by omega
        have HR : Hid (readL ((l, f) :: t) (m : Int) = (l.take m, (l.drop m, f) :: t, true)) := Lib.hid (by unfold readL; simp only; rw [if_neg (show ¬ (m : Int) ≤ 0 by omega), if_neg (show ¬ (l.length : Int) ≤ m by omega)]; rfl)
        have hrow := (HO.out.row g rfl)
        have hc : ¬ c4 = m := by omega
        obtain ⟨b4, off4, x0, rfl, -, -⟩ := hr3.out.ri.icell (j := 0) (by omega)
        have hbg : b4 ≠ g := fun h => (hr3.out.2 (by omega) b4 rfl).2 (by rw [h]; rfl)
        have HD := hr3.out.from_ (k := m) (by omega)
        rw [if_neg hc] at HD
        have e4 : (Option.map (fun x => x.add (m * Ub.size)) (some ⟨b4, off4, none⟩ : Option Addr)) = some ⟨b4, off4 + m, none⟩ := by simp only [Option.map_some, Addr.add_lit]; rw [show m * Ub.size = m from Nat.mul_one m]
        rw [e4] at HD
        have HT := Lib.hid ((RdS.to_ hr3.out (k := m) (by omega)))
        have HD := Lib.hid HD
        have lt : (l.take m).length = m := by simp; omega
        have ld : (l.drop m).length = l.length - m := by simp
        go_wp2_with (at_builtin; go_loud (refine wpList_app (e := Ub) (base := w.heap.size) (B := fun _ => False) (A := fun _ => False) rfl (.tmp 35) (.tmp 38) rfl Try.underlying25 info_u8 rfl (OwnS.empty Ub _ (fun _ => False) (by simp) E1.size) rfl (RI.y (RdN.alloc (RdN.mod HT.out.ri (S := fun k => k = g) (Mod.set1 (Mod.refl _ _) _) (fun k hk hs => hbg (by simp only [Value.ownBlock, Option.some.injEq] at hk; rw [hk]; exact hs))) _)) rfl (fun _ _ h => h.elim) (N := m) (by rw [lt]; simp) (by simp [maxLen]; omega) (by omega) (by simp; have := E1.size; omega) ?_; intro A6 c6 w6 O6 M6 B6))
        rw [List.nil_append] at O6
        rw [HR.out]
        have hM1 : Mod (fun k => k = g) w1 (w1.setCell ⟨g, 0, none⟩ (.slice (some ⟨b4, off4 + m, none⟩) (l.length - m) (c4 - m))) := Mod.set1 (Mod.refl _ _) _
        have hO := HO.out.store (j := 0) (i := 0) (x := .slice (some ⟨b4, off4 + m, none⟩) (l.length - m) (c4 - m)) (d' := (l.drop m, f)) (by simp) (by decide) (fun cs d hd hrel => by
          simp only [List.getElem?_cons_zero, Option.some.injEq] at hd
          subst hd
          have hln := Ln.len hrel
          match cs, hln with
          | [u, u2], _ =>
            obtain ⟨_, rfl⟩ := ln_cells hrel
            exact ln_rel (HD.out.mono fun k _ hk => ⟨hk.1, fun h => hk.2 (by rw [h]; rfl)⟩))
        have hs1 := E1.size
        have EW : Ext w ((w1.setCell ⟨g, 0, none⟩ (.slice (some ⟨b4, off4 + m, none⟩) (l.length - m) (c4 - m))).alloc (.cells #[] 5)) := Ext.alloc (Mod.toExt E1 hM1 (fun k hk hs => by omega)) _
        have hO2 := ((hO.mono (B := fun k => w.heap.size ≤ k ∧ k < w1.heap.size) fun k hk hb => ⟨hb, by simpa [World.setCell] using hk⟩).alloc (.cells #[] 5)).mod M6 (fun k hk hs => by simp [Value.ownBlock] at hk hs; omega) (fun k _ hb hs => by simp [Value.ownBlock] at hs; omega)
        refine bodyPost_ret (v := .tuple #[.slice A6 m c6, .slice (some ⟨g, 0, none⟩) (t.length + 1) c1, .bool true]) (by simp [results, Try.results19, go_sem]) rfl ?_
        refine ⟨A6, c6, some ⟨g, 0, none⟩, c1, by rw [lt]; rfl, by rw [lt]; exact O6.rdT, hO2.rdT, Mod.toExt EW M6 fun k hk hs => by simp [Value.ownBlock] at hs; omega⟩
end Go.Proofs.Ytgahpclgdhghjaa
