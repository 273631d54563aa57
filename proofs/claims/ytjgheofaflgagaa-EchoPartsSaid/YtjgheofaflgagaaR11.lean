/- append onto a slice that is full, from another place. Conditions: both may be read, a nil slice is empty. -/
import Derived.Test.YtjgheofaflgagaaE11
import Derived.Deep.Upon
import Derived.Deep.RegionLawGrows
namespace Go.Proofs.Ytjgheofaflgagaa
open Go.RowKit Go.Kb

theorem step_app_full {ops : Array Oper} {o : Oper} {a : Act} {w : World} {K : Act → World → Prop} {Q : Exit → Act → World → Prop} {E : Prop} (hgd : o.guard = none) (s x : Operand)
    (ho : o.op = .call { callee := .builtin .append, args := #[s, x], argTypes := #[27, 27] })
    {A A2 : Option Addr} {n m c2 : Nat} {xs ys : List Int} (hs : a.eval s = .slice A n n) (hr : RI .u8 w (.slice A n n) xs) (hA0 : n = 0 → A = none) (hx : a.eval x = .slice A2 m c2) (hr2 : RI .u8 w (.slice A2 m c2) ys)
    (hxl : xs.length = n) (hyl : ys.length = m) (hb : n + m ≤ 1000000)
    (h : ∀ A' c' w', RI .u8 w' (.slice A' (n + m) c') (xs ++ ys) → Ext w w' → K (a.put o.dst (.slice A' (n + m) c')) w') :
    if Region.wanted o (yielded ops a.tmps) = true then Oper.wp Try.prog o a w K Q else E := by
  by_cases h0 : xs = []
  · subst h0
    obtain rfl : 0 = n := hxl
    obtain rfl := hA0 rfl
    refine step_app (e := Ub) (base := w.heap.size) (B := fun _ => False) (A := fun _ => False) hgd s x ho Try.underlying27 info_u8 rfl (OwnS.nil _ _ _ _ _) hs (RI.y hr2) hx (fun _ _ h => h.elim) (N := 0 + m) (by simp [hyl]) (by simp [maxLen]; omega) (by omega) (Nat.le_refl _) fun Ad c w' h1 h2 h3 => ?_
    have E1 : Ext w w' := (by repeat (first | with_reducible exact Ext.refl _ | refine Ext.drewN ?_ _ | refine Ext.drew ?_ | refine Ext.alloc ?_ _ | assumption | (refine Below.trans ?_ (by assumption)) | (refine Ext.trans ?_ (by assumption)) | (refine Below.trans ?_ (Below.mono (by assumption) (by omega)))))
    exact h _ _ _ h1.rdT.ri E1
  · obtain ⟨i, hi, hz, hs1, hb1⟩ := info_parts (P := Try.prog) info_u8
    have hw : Region.wanted o (yielded ops a.tmps) = true := by simp [Region.wanted, hgd]
    obtain ⟨hl, A', c', hv, hnc, hcm, hA⟩ := hr
    simp only [Value.slice.injEq] at hv
    obtain ⟨rfl, _, rfl⟩ := hv
    have hn0 : n ≠ 0 := by
      intro h1
      rw [h1] at hxl
      exact h0 (List.length_eq_zero_iff.1 hxl)
    rcases hA with hA | ⟨b, off, rfl, hc⟩
    · exact absurd hA hn0
    · by_cases h1 : ys = []
      · subst h1
        obtain rfl : 0 = m := hyl
        have hsrc : Src Try.prog i.size 27 (.slice A2 0 c2) 0 [] w := by
          cases A2 with
          | none => exact Src.ofNil (P := Try.prog) w Try.underlying27 c2
          | some ad => exact Src.ofSlice (P := Try.prog) w Try.underlying27 ad 0 c2 [] (by simp) (by simp) (by simp)
        have hrun := run_append_nothing (P := Try.prog) w 27 27 o.type 5 i Try.underlying27 hi (some ⟨b, off, none⟩) n n (Nat.le_refl _) (.slice A2 0 c2) hsrc
        rw [if_pos hw]
        unfold Oper.wp
        simp [execOp, ho, resolve, invoke, builtin, hs, hx, hrun, Result.andThen]
        have hk := h (some ⟨b, off, none⟩) n w (by rw [List.append_nil]; exact ⟨hl, _, _, by rw [hxl]; rfl, by omega, hcm, .inr ⟨b, off, rfl, hc⟩⟩) (Ext.refl _)
        exact hk
      · obtain ⟨hl2, A'', c'', hv2, hnc2, hcm2, hA2⟩ := hr2
        simp only [Value.slice.injEq] at hv2
        obtain ⟨rfl, _, rfl⟩ := hv2
        have hm0 : m ≠ 0 := by
          intro h2
          rw [h2] at hyl
          exact h1 (List.length_eq_zero_iff.1 hyl)
        rcases hA2 with hA2 | ⟨b2, off2, rfl, hc2⟩
        · omega
        · refine step_append_grows hgd s x 27 ho 5 i _ 1 1 Try.underlying27 hi hz hs1 hb1 rfl (by omega) _ n n (xs.map (.int .u8)) hs (by simp) (by simp [hxl]) ?_ _ m c2 (ys.map (.int .u8)) hx (by simp [hyl]) ?_ (by simp [Value.oneCell']) (by omega) (by simp [maxLen]; omega) (by omega) ?_
          · rintro _ ⟨⟩ j u hj
            rw [Addr.add_lit]
            exact hc j u hj
          · intro j u hj
            rw [Addr.add_lit]
            exact hc2 j u hj
          · intro v' w' ho1 hg1
            obtain ⟨Ad, c, rfl⟩ := own_shape ho1
            have B1 : Below w.heap.size w w' := (Below.refl _ _).grown hg1 (Nat.le_refl _) fun k hk => by cases hk
            refine h _ _ _ ?_ (by repeat (first | with_reducible exact Ext.refl _ | refine Ext.drewN ?_ _ | refine Ext.drew ?_ | refine Ext.alloc ?_ _ | assumption | (refine Below.trans ?_ (by assumption)) | (refine Ext.trans ?_ (by assumption)) | (refine Below.trans ?_ (Below.mono (by assumption) (by omega)))))
            have hh := RdN.of_own ho1
            rw [← List.map_append] at hh
            have e1 : (xs ++ ys).length = n + m := by simp [hxl, hyl]
            show RdN w' 1 _ (xs ++ ys).length _
            rw [e1]
            exact hh
end Go.Proofs.Ytjgheofaflgagaa
