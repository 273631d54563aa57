/- The document's characters of a line, by contract. Conditions: the setting is one, bytes are bytes, lengths below 10^8. -/
import Derived.Test.YtilmkghopeoipaaL10
import Derived.Test.YtilmkghopeoipaaH10
namespace Go.Proofs.Ytilmkghopeoipaa
open Go.RowKit Go.Kb

theorem unitsR_fuel {u : Bool} {l : List Int} : ∀ (n m p : Nat), p ≤ n → p ≤ m → p ≤ l.length → unitsR u l n p = unitsR u l m p
  | 0, m, p, h1, _, _ => by
    obtain rfl : p = 0 := by omega
    rw [unitsR_zero, unitsR_zero]
  | n + 1, m, p, h1, h2, h3 => by
    rcases Nat.eq_zero_or_pos p with rfl | hp
    · rw [unitsR_zero, unitsR_zero]
    · have hq := start_take (u := u) hp h3
      obtain ⟨a1, a2⟩ := unitsR_step (u := u) hp h1 h3
      obtain ⟨b1, b2⟩ := unitsR_step (u := u) hp h2 h3
      rw [a2, b2, Nat.add_sub_cancel, unitsR_fuel (u := u) (l := l) n (m - 1) (startL u (l.take p)) (by omega) b1 (by omega)]
theorem unitsR_take {u : Bool} {l : List Int} {k : Nat} : ∀ (n p : Nat), p ≤ k → unitsR u (l.take k) n p = unitsR u l n p
  | 0, _, _ => rfl
  | n + 1, p, h => by
    simp only [unitsR]
    have e : (l.take k).take p = l.take p := by rw [List.take_take, Nat.min_eq_left h]
    rw [e]
    split
    · rfl
    · rw [unitsR_take n (startL u (l.take p)) (by have := startL_le u (l.take p); rw [List.length_take] at this; omega)]
theorem unitsL_step {u : Bool} {l : List Int} (h : l ≠ []) : unitsL u l = unitsL u (l.take (startL u l)) ++ [l.drop (startL u l)] := by
  have hp : 0 < l.length := List.length_pos_iff.2 h
  obtain ⟨a1, a2⟩ := unitsR_step (u := u) (n := l.length) hp (Nat.le_refl _) (Nat.le_refl _)
  rw [List.take_length] at a1 a2
  have hq := startL_lt (u := u) h
  have hlen : (l.take (startL u l)).length = startL u l := by rw [List.length_take]; omega
  unfold unitsL
  rw [a2, List.reverse_cons, hlen, unitsR_take _ _ (Nat.le_refl _), unitsR_fuel (l.length - 1) (startL u l) (startL u l) a1 (Nat.le_refl _) (by omega)]
set_option maxHeartbeats 800000 in
theorem runits_any (t : Tm) (ht : t.Ok) : ∀ (N : Nat) (v : Value) (l : List Int) (w : World), l.length ≤ N → RI .u8 w v l → Bs l → l.length ≤ 100000000 → Calls Try.prog 20 #[.agg t.arr, v] w fun e w' =>
    ∃ A c, e = .returned (.slice A (unitsL (hasL t 42) l).length c) ∧ OwnS Lb 27 w.heap.size (fun k => w.heap.size ≤ k) w' (.slice A (unitsL (hasL t 42) l).length c) (unitsL (hasL t 42) l) ∧ Ext w w' := by
  intro N
  induction N with
  | zero =>
    intro v l w h0 hl _ _
    obtain rfl : l = [] := List.eq_nil_of_length_eq_zero (by omega)
    have e0 : unitsL (hasL t 42) [] = [] := rfl
    rw [e0]
    obtain ⟨Ad, c, rfl, h1, h2⟩ := hl.shape
    generalize t.arr = cs
    clear hl
    simp only [List.length_nil] at *
    go_enter Try.func20, Try.ntmps20
    go_wp2
    go_ret
    exact ⟨none, 0, rfl, OwnS.nil _ _ _ _ _, (by repeat (first | with_reducible exact Ext.refl _ | refine Ext.drewN ?_ _ | refine Ext.drew ?_ | refine Ext.alloc ?_ _ | assumption | (refine Below.trans ?_ (by assumption)) | (refine Ext.trans ?_ (by assumption)) | (refine Below.trans ?_ (Below.mono (by assumption) (by omega)))))⟩
  | succ N ih =>
    intro v l w h0 hl hB hn
    obtain ⟨Ad, c, rfl, h1, h2⟩ := hl.shape
    by_cases hne : l = []
    · subst hne
      have e0 : unitsL (hasL t 42) [] = [] := rfl
      rw [e0]
      generalize t.arr = cs
      clear hl ih
      simp only [List.length_nil] at *
      go_enter Try.func20, Try.ntmps20
      go_wp2
      go_ret
      exact ⟨none, 0, rfl, OwnS.nil _ _ _ _ _, (by repeat (first | with_reducible exact Ext.refl _ | refine Ext.drewN ?_ _ | refine Ext.drew ?_ | refine Ext.alloc ?_ _ | assumption | (refine Below.trans ?_ (by assumption)) | (refine Ext.trans ?_ (by assumption)) | (refine Below.trans ?_ (Below.mono (by assumption) (by omega)))))⟩
    · have hsz := t.size ht
      have hq := startL_lt (u := hasL t 42) hne
      have hE := fun w' hr => rerase_any t (.slice Ad l.length c) l w' ht hr hB hn
      have hlt : (l.take (startL (hasL t 42) l)).length = startL (hasL t 42) l := by rw [List.length_take]; omega
      have hI := fun v' w' hr => ih v' (l.take (startL (hasL t 42) l)) w' (by rw [hlt]; omega) hr (Bs.take hB _) (by rw [hlt]; omega)
      rw [unitsL_step hne]
      have hUl : (unitsL (hasL t 42) (l.take (startL (hasL t 42) l))).length ≤ 100000000 := by
        rw [unitsL, List.length_reverse]
        have := unitsR_len (u := hasL t 42) (l := l.take (startL (hasL t 42) l)) (l.take (startL (hasL t 42) l)).length (l.take (startL (hasL t 42) l)).length (Nat.le_refl _)
        omega
      generalize unitsL (hasL t 42) (l.take (startL (hasL t 42) l)) = U at hI hUl ⊢
      generalize startL (hasL t 42) l = q at hq hE hI hlt ⊢
      have hl0 : ((l.length : Int) == 0) = false := by rw [beq_eq_false_iff_ne]; omega
      have hlU : (U ++ [l.drop q]).length = U.length + 1 := by simp
      generalize t.arr = cs at hE hI hsz ⊢
      have H := Lib.hid hl
      clear hl hB ih hne
      have hi : (Try.prog.info? 26).map (·.size) = some cs.size := by rw [hsz]; kernel_rfl
      have hA := Lib.hid (Blk.new w 26 cs)
      go_enter Try.func20, Try.ntmps20
      go_wp2_with (first | (refine wpList_load_row rfl 26 _ rfl _ rfl 26 _ _ _ hA.out Try.underlying26 rfl hi ?_))
      refine (hE _ (H.out.ext (by repeat (first | with_reducible exact Ext.refl _ | refine Ext.drewN ?_ _ | refine Ext.drew ?_ | refine Ext.alloc ?_ _ | assumption | (refine Below.trans ?_ (by assumption)) | (refine Ext.trans ?_ (by assumption)) | (refine Below.trans ?_ (Below.mono (by assumption) (by omega))))))).mono ?_
      rintro e w2 ⟨A2, c2, B2, d2, rfl, r2, s2, E2⟩
      have E02 : Ext w w2 := (by repeat (first | with_reducible exact Ext.refl _ | refine Ext.drewN ?_ _ | refine Ext.drew ?_ | refine Ext.alloc ?_ _ | assumption | (refine Below.trans ?_ (by assumption)) | (refine Ext.trans ?_ (by assumption)) | (refine Below.trans ?_ (Below.mono (by assumption) (by omega)))))
      have HA2 := Lib.hid (hA.out.ext E2)
      have R2 := Lib.hid (RdS.ri r2)
      have S2 := Lib.hid ((NewB.low s2 (show Ext w (w.alloc (.cells cs 26)) from (by repeat (first | with_reducible exact Ext.refl _ | refine Ext.drewN ?_ _ | refine Ext.drew ?_ | refine Ext.alloc ?_ _ | assumption | (refine Below.trans ?_ (by assumption)) | (refine Ext.trans ?_ (by assumption)) | (refine Below.trans ?_ (Below.mono (by assumption) (by omega))))))).lt)
      clear r2 s2 hA E2
      go_wp2_with (first | (refine wpList_load_row rfl 26 _ rfl _ rfl 26 _ _ _ HA2.out Try.underlying26 rfl hi ?_))
      refine (hI _ _ R2.out).mono ?_
      rintro e w3 ⟨A3, c3, rfl, o3, E3⟩
      have hs3 := E3.size
      have hs2 := E02.size
      have O3 := Lib.hid (o3.mono (B := fun k => w.heap.size ≤ k) (fun k _ hk => by omega))
      have HN : ∀ k, k < w2.heap.size → (Value.slice A3 U.length c3).ownBlock ≠ some k := fun k hk he => by have := (O3.out.row k he).1; omega
      clear o3 hI hE
      go_wp2_with (at_builtin; refine wpList_app (e := Lb) (base := w2.heap.size) (B := fun k => w.heap.size ≤ k) (A := fun k => w.heap.size ≤ k ∧ k < w2.heap.size) rfl (.tmp 18) (.tmp 20) rfl Try.underlying35 info_lb rfl (O3.out.alloc _) rfl (RdY.singleB (cs := [.slice B2 (l.length - q) d2]) (lb_rel (RdS.alloc (RdS.ext S2.out E3) _)) (Blk.new _ _ _)) rfl (fun k _ hk => ⟨hk.1, HN k hk.2⟩) (N := U.length + 1) (by simp) (by simp [maxLen]; omega) (by omega) (by simp; omega) ?_; intro A4 c4 w4 o4 M4 B4)
      go_ret
      exact ⟨A4, c4, by rw [hlU]; rfl, by rw [hlU]; exact o4.lower hs2, Below.trans ((E02.trans E3).alloc _) (B4.mono hs2)⟩
end Go.Proofs.Ytilmkghopeoipaa
