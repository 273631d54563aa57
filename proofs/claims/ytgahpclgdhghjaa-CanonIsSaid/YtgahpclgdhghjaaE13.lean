/- The lines that were typed: reads of them, by contract. Conditions: lengths within the reach. -/
import Derived.Test.YtgahpclgdhghjaaD13
namespace Go.Proofs.Ytgahpclgdhghjaa
open Go.RowKit Go.Kb

/-- what a read takes, what is left, whether there was a line -/
def readL (ls : List (List Int × Bool)) (n : Int) : List Int × List (List Int × Bool) × Bool :=
  match ls with
  | [] => ([], [], false)
  | (l, f) :: t => if n ≤ 0 then ([], (l, f) :: t, true) else if (l.length : Int) ≤ n then (l, t, true) else (l.take n.toNat, (l.drop n.toNat, f) :: t, true)
theorem usedL_cons (x : List Int × Bool) (l : List (List Int × Bool)) : usedL (x :: l) = szL x + usedL l := by simp [usedL]
theorem ln_tail {A : Nat → Prop} {w : World} {b off n c : Nat} {x : List Int × Bool} {t : List (List Int × Bool)} (h : RdS Ln A w (.slice (some ⟨b, off, none⟩) (n + 1) c) (x :: t)) :
    RdS Ln A w (.slice (if c = 1 then some ⟨b, off, none⟩ else some ⟨b, off + 2, none⟩) n (c - 1)) t := by
  have h1 := h.from_ (k := 1) (by omega)
  by_cases hc : c = 1
  · rw [if_pos hc] at h1 ⊢; exact h1
  · rw [if_neg hc] at h1 ⊢; exact h1
/-- what the contracts of reads say -/
def ReadPost (base : Nat) (r : List Int × List (List Int × Bool) × Bool) (w : World) (e : Ending) (w' : World) : Prop :=
  ∃ Ab cb Ar cr, e = .returned (.tuple #[.slice Ab r.1.length cb, .slice Ar r.2.1.length cr, .bool r.2.2]) ∧ RdS Ub (fun k => base ≤ k) w' (.slice Ab r.1.length cb) r.1 ∧ RdS Ln (fun k => base ≤ k) w' (.slice Ar r.2.1.length cr) r.2.1 ∧ Ext w w'
set_option maxHeartbeats 800000 in
theorem read_any {A : Nat → Prop} (v : Value) (ls : List (List Int × Bool)) (n : Int) (w : World) (h : RdS Ln A w v ls) (hn : usedL ls ≤ 140737488355328) (hm : ls.length ≤ 1000000) :
    Calls Try.prog 9 #[v, .int .i64 n] w (ReadPost w.heap.size (readL ls n) w) := by
  obtain ⟨Ad, c, rfl, hc1, hc2⟩ := h.shape
  have H := Lib.hid (h.mono (B := fun _ => True) fun _ _ _ => trivial)
  clear h
  rcases ls with _ | ⟨⟨l, f⟩, t⟩
  · have HR : Hid (readL [] n = ([], [], false)) := Lib.hid rfl
    rw [HR.out]
    go_enter Try.func9, Try.ntmps9
    go_wp2
    refine bodyPost_ret (v := .tuple #[.slice none 0 0, .slice none 0 0, .bool false]) (by simp [results, Try.results9, go_sem]) rfl ?_
    exact ⟨_, _, _, _, rfl, RdS.nil _ _ _, RdS.nil _ _ _, (by repeat (first | with_reducible exact Ext.refl _ | refine Ext.drewN ?_ _ | refine Ext.drew ?_ | refine Ext.alloc ?_ _ | assumption | (refine Below.trans ?_ (by assumption)) | (refine Ext.trans ?_ (by assumption)) | (refine Below.trans ?_ (Below.mono (by assumption) (by omega)))))⟩
  · have hlen : ((l, f) :: t).length = t.length + 1 := rfl
    simp only [hlen] at hc1 hm
    have h1 := szL_nn (l, f)
    have h2 := usedL_nn t
    have h3 : szL (l, f) + usedL t ≤ 140737488355328 := by rw [← usedL_cons]; exact hn
    have h5 : l.length ≤ 140737488355328 := by
      have : (l.length : Int) ≤ szL (l, f) := by unfold szL; split <;> simp <;> omega
      omega
    obtain ⟨b, off, Ad', l', f', c', rfl, hx, hy, hd, hr, hl1, hl2⟩ := ln_at (H.out.y) (j := 0) (by simp)
    have hd0 := hd.out
    simp only [List.getElem?_cons_zero, Option.some.injEq, Prod.mk.injEq] at hd0
    obtain ⟨rfl, rfl⟩ := hd0
    rw [Nat.zero_mul, Nat.add_zero] at hx hy
    have hbl : b < w.heap.size := World.block_lt_of_cell? w _ hx
    clear hd
    by_cases hn0 : n ≤ 0
    · have HR : Hid (readL ((l, f) :: t) n = ([], (l, f) :: t, true)) := Lib.hid (by simp [readL, hn0])
      rw [HR.out]
      have hn1 := Lib.hid hn
      clear hn h1 h2 h3 h5
      go_enter Try.func9, Try.ntmps9
      go_wp2_with ((go_at_call 22; refine (twins_any (A := fun _ => True) _ _ ((l, f) :: t) [] _ (H.out.ext (by repeat (first | with_reducible exact Ext.refl _ | refine Ext.drewN ?_ _ | refine Ext.drew ?_ | refine Ext.alloc ?_ _ | assumption | (refine Below.trans ?_ (by assumption)) | (refine Ext.trans ?_ (by assumption)) | (refine Below.trans ?_ (Below.mono (by assumption) (by omega)))))) (RdS.nil _ _ _) (by rw [List.append_nil]; exact hn1.out) (by simp; omega)).mono ?_; rintro e w3 ⟨A3, c3, rfl, hown3, hE3⟩); rw [List.append_nil] at hown3 ⊢)
      refine bodyPost_ret (v := .tuple #[.slice none 0 0, .slice A3 (t.length + 1) c3, .bool true]) (by simp [results, Try.results9, go_sem]) rfl ?_
      exact ⟨_, _, _, _, rfl, RdS.nil _ _ _, hown3.rd (fun _ h => h) (fun _ h => h), (by repeat (first | with_reducible exact Ext.refl _ | refine Ext.drewN ?_ _ | refine Ext.drew ?_ | refine Ext.alloc ?_ _ | assumption | (refine Below.trans ?_ (by assumption)) | (refine Ext.trans ?_ (by assumption)) | (refine Below.trans ?_ (Below.mono (by assumption) (by omega)))))⟩
    · by_cases hle : (l.length : Int) ≤ n
      · have HR : Hid (readL ((l, f) :: t) n = (l, t, true)) := Lib.hid (by simp [readL, hn0, hle])
        rw [HR.out]
        have HT := Lib.hid (ln_tail H.out)
        have h6 := Lib.hid (show usedL (t ++ []) ≤ 140737488355328 by rw [List.append_nil]; omega)
        have h7 := Lib.hid (show (t ++ []).length ≤ 100000000 by simp; omega)
        have i1 : (1 : Int) ≤ (t.length : Int) + 1 := by omega
        clear h1 h2 h3 hn
        rcases Decidable.em (c = 1) with hc | hc
        all_goals
          simp only [hc, if_true, if_false] at HT
          go_enter Try.func9, Try.ntmps9
          go_wp2
          go_region_held3 (fun w' => w'.cell? ⟨b, off, none⟩ = some (.slice Ad' l.length c')) (go_keep) (first
            | (((go_at_call 23; refine (clone_u8 (A := fun _ => False) _ l _ (RI.y (RdS.ri (hr.out.ext (by repeat (first | with_reducible exact Ext.refl _ | refine Ext.drewN ?_ _ | refine Ext.drew ?_ | refine Ext.alloc ?_ _ | assumption | (refine Below.trans ?_ (by assumption)) | (refine Ext.trans ?_ (by assumption)) | (refine Below.trans ?_ (Below.mono (by assumption) (by omega)))))))) (by omega)).mono ?_; rintro e w1 ⟨A1, c1, rfl, hown1, hE1⟩); have hc1 := Bc hE1; have hf1 := Bf hE1; have hz1 := Below.size hE1; (try simp at hz1); have hd1 := hc1 b off (by (try simp) <;> omega)))
            | (((go_at_call 22; refine (twins_any (A := fun _ => True) _ _ t [] _ (HT.out.ext (by repeat (first | with_reducible exact Ext.refl _ | refine Ext.drewN ?_ _ | refine Ext.drew ?_ | refine Ext.alloc ?_ _ | assumption | (refine Below.trans ?_ (by assumption)) | (refine Ext.trans ?_ (by assumption)) | (refine Below.trans ?_ (Below.mono (by assumption) (by omega)))))) (RdS.nil _ _ _) h6.out h7.out).mono ?_; rintro e w3 ⟨A3, c3, rfl, hown3, hE3⟩); have hc3 := Bc hE3; have hf3 := Bf hE3; have hz3 := Below.size hE3; (try simp at hz3); have hd3 := hc3 b off (by (try simp) <;> omega); rw [List.append_nil] at hown3 ⊢)))
          all_goals
            go_wp2
            refine bodyPost_ret (v := .tuple #[.slice A1 l.length c1, .slice A3 t.length c3, .bool true]) (by simp [results, Try.results9, go_sem]) rfl ?_
            first
              | exact ⟨_, _, _, _, rfl, (hown1.ext hE3).rd (fun k hk => Nat.le_trans (by (try simp) <;> omega) hk) (fun k hk => hk.1.elim), hown3.rd (fun k hk => Nat.le_trans (by (try simp) <;> omega) hk) (fun k hk => Nat.le_trans (by (try simp) <;> omega) hk), (by repeat (first | with_reducible exact Ext.refl _ | refine Ext.drewN ?_ _ | refine Ext.drew ?_ | refine Ext.alloc ?_ _ | assumption | (refine Below.trans ?_ (by assumption)) | (refine Ext.trans ?_ (by assumption)) | (refine Below.trans ?_ (Below.mono (by assumption) (by omega)))))⟩
              | exact ⟨_, _, _, _, rfl, hown1.rd (fun k hk => Nat.le_trans (by (try simp) <;> omega) hk) (fun k hk => hk.1.elim), (hown3.ext hE1).rd (fun k hk => Nat.le_trans (by (try simp) <;> omega) hk) (fun k hk => Nat.le_trans (by (try simp) <;> omega) hk), (by repeat (first | with_reducible exact Ext.refl _ | refine Ext.drewN ?_ _ | refine Ext.drew ?_ | refine Ext.alloc ?_ _ | assumption | (refine Below.trans ?_ (by assumption)) | (refine Ext.trans ?_ (by assumption)) | (refine Below.trans ?_ (Below.mono (by assumption) (by omega)))))⟩
      · have HR : Hid (readL ((l, f) :: t) n = (l.take n.toNat, (l.drop n.toNat, f) :: t, true)) := Lib.hid (by simp [readL, hn0, hle])
        rw [HR.out]
        obtain ⟨m, rfl⟩ := Int.eq_ofNat_of_zero_le (show 0 ≤ n by omega)
        have hm1 : 0 < m := by omega
        have hm2 : m < l.length := by omega
        have hn1 := Lib.hid (show usedL ((l, f) :: t ++ []) ≤ 140737488355328 by rw [List.append_nil]; exact hn)
        have h7 := Lib.hid (show ((l, f) :: t ++ []).length ≤ 100000000 by simp; omega)
        clear h1 h2 h3 hn
        go_enter Try.func9, Try.ntmps9
        go_wp2_with fail
        refine (twins_any (A := fun _ => True) _ _ ((l, f) :: t) [] _ (H.out.ext (by repeat (first | with_reducible exact Ext.refl _ | refine Ext.drewN ?_ _ | refine Ext.drew ?_ | refine Ext.alloc ?_ _ | assumption | (refine Below.trans ?_ (by assumption)) | (refine Ext.trans ?_ (by assumption)) | (refine Below.trans ?_ (Below.mono (by assumption) (by omega)))))) (RdS.nil _ _ _) hn1.out h7.out).mono ?_
        rintro e w3 ⟨A3, c3, rfl, hown3, hE3⟩
        rw [List.append_nil] at hown3 ⊢
        obtain ⟨g, rfl, hg, hfr⟩ := hown3.addr (by simp)
        obtain ⟨b3, off3, A4, l4, f4, c4, hb3, hx3, hy3, hd3, hr3, hl3, hl4⟩ := ln_at hown3.y (j := 0) (by simp)
        have hd0 := hd3.out
        simp only [List.getElem?_cons_zero, Option.some.injEq, Prod.mk.injEq] at hd0
        obtain ⟨rfl, rfl⟩ := hd0
        simp only [Option.some.injEq, Addr.mk.injEq, and_true] at hb3
        obtain ⟨rfl, rfl⟩ := hb3
        simp only [Nat.zero_mul, Nat.add_zero] at hx3 hy3
        have hf0 := hfr 0
        have HO := Lib.hid hown3
        have hrow := (hown3.row g rfl).2
        clear hd3 hown3 hfr
        rcases Decidable.em (c4 = m) with hc | hc
        · omega
        have HF := Lib.hid (RI.fromB (hr3.out.ri) (lo := m) (by omega))
        simp only [hc, if_false] at HF
        go_wp2_with ((go_at_call 23; refine (clone_u8 (A := fun _ => False) _ (l.drop m) _ (RI.y HF.out) (by simp; omega)).mono ?_; rintro e w4 ⟨A5, c5, rfl, hown5, hE5⟩); have hc5 := Bc hE5; have hf5 := Bf hE5; have hz5 := Below.size hE5; (try simp at hz5); have hd5 := hc5 g 0 hrow; have he5 := hf5 g 0 hrow)
        refine bodyPost_ret (v := .tuple #[.slice A4 m m, .slice (some ⟨g, 0, none⟩) (t.length + 1) c3, .bool true]) (by simp [results, Try.results9, go_sem]) rfl ?_
        have hM : Mod (fun k => k = g) w4 (w4.setCell ⟨g, 0, none⟩ (.slice A5 (l.length - m) c5)) := (by repeat (first | with_reducible exact Mod.refl _ _ | refine Mod.drew ?_ | refine Mod.drewN ?_ _ | refine Mod.set1 ?_ _))
        have hl : (l.drop m).length = l.length - m := by simp
        rw [hl] at hown5
        have hO := (HO.out.ext hE5).store (j := 0) (i := 0) (x := .slice A5 (l.length - m) c5) (d' := (l.drop m, f)) (by simp) (by decide) (fun cs d hd hrel => by
          simp only [List.getElem?_cons_zero, Option.some.injEq] at hd
          subst hd
          have hln := Ln.len hrel
          match cs, hln with
          | [u, u2], _ =>
            obtain ⟨_, rfl⟩ := ln_cells hrel
            exact ln_rel (hown5.rd (fun k hk => ⟨by omega, by omega⟩) (fun k hk => hk.1.elim)))
        refine ⟨A4, m, some ⟨g, 0, none⟩, c3, by simp; omega, ?_, hO.rd (fun _ h => h) (fun _ h => h), ?_⟩
        · have h1 := ((((RdS.to_ (k := m) (h := ⟨hr3.out.y, hr3.out.2⟩) (by omega)).cap (c' := m) (Nat.le_refl _) (by omega)).ext hE5).mod hM (fun k _ hk => by have := hk.2; simp [Value.ownBlock] at this; omega)).mono (B := fun k => w.heap.size ≤ k) (fun k _ hk => hk.1)
          have h2 : (l.take m).length = m := by simp; omega
          simpa [h2] using h1
        · exact Mod.toExt (by repeat (first | with_reducible exact Ext.refl _ | refine Ext.drewN ?_ _ | refine Ext.drew ?_ | refine Ext.alloc ?_ _ | assumption | (refine Below.trans ?_ (by assumption)) | (refine Ext.trans ?_ (by assumption)) | (refine Below.trans ?_ (Below.mono (by assumption) (by omega))))) hM (by intro k hk; omega)
end Go.Proofs.Ytgahpclgdhghjaa
