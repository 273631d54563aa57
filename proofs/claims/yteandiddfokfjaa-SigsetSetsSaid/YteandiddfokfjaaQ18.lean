/- The first signal that a mask lets through is the document's, walked. Conditions: sets have 64 bits. -/
import Derived.Test.YteandiddfokfjaaO18
namespace Go.Proofs.Yteandiddfokfjaa
open Go.RowKit Go.Kb Go.Kb.Bits

theorem hasL_del {s : Int} (h : U64 s) (a q : Int) : hasL (delL s a) q = if q = a then false else hasL s q := by
  unfold hasL delL
  cases hq : isL q
  · simp
  · simp only [Bool.true_and]
    by_cases ha : isL a = true
    · rw [if_pos ha, onL_fset false h (sig_bd ha) (sig_bd hq)]
    · rw [if_neg ha, if_neg (by rintro rfl; exact ha hq)]
theorem hasL_add {s : Int} (h : U64 s) (a q : Int) : hasL (addL s a) q = if isL a = true ∧ q = a then true else hasL s q := by
  unfold hasL addL
  by_cases ha : isL a = true
  · rw [if_pos ha]
    cases hq : isL q
    · rw [if_neg (by rintro ⟨_, rfl⟩; rw [ha] at hq; cases hq)]; rfl
    · simp only [Bool.true_and]
      rw [onL_fset true h (sig_bd ha) (sig_bd hq)]
      simp [ha]
  · rw [if_neg ha, if_neg (fun h => ha h.1)]
theorem hasL_is {s q : Int} (h : hasL s q = true) : isL q = true := by unfold hasL at h; simp at h; exact h.1
theorem hasL_fold (q : Int) : ∀ (l : List Int) {s : Int}, U64 s → hasL (l.foldl addL s) q = (hasL s q || (isL q && decide (q ∈ l)))
  | [], s, _ => by simp
  | x :: l, s, h => by
    show hasL (l.foldl addL (addL s x)) q = _
    rw [hasL_fold q l (addL_bd h x), hasL_add h]
    by_cases hx : q = x
    · subst hx
      cases hq : isL q
      · have : hasL s q = false := by unfold hasL; rw [hq]; rfl
        simp [this]
      · simp
    · simp only [hx, and_false, if_false, List.mem_cons, false_or]
theorem mem_listL {s q : Int} : q ∈ listL s ↔ hasL s q = true := by
  unfold listL
  rw [List.mem_filter]
  constructor
  · exact fun h => h.2
  · intro h
    refine ⟨?_, h⟩
    have hb := isL_bd (hasL_is h)
    unfold sigs29
    rw [List.mem_map]
    exact ⟨q.toNat, by simp; omega, by omega⟩
theorem zero_has (q : Int) : hasL 0 q = false := by
  unfold hasL onL
  simp
theorem hasL_ofL (l : List Int) (q : Int) : hasL (ofL l) q = (isL q && decide (q ∈ l)) := by
  unfold ofL
  rw [hasL_fold q l ⟨by decide, by decide⟩, zero_has]
  simp
theorem hasL_ofList {s : Int} (q : Int) : hasL (ofL (listL s)) q = hasL s q := by
  rw [hasL_ofL]
  cases hq : hasL s q
  · have : ¬ q ∈ listL s := fun h => by rw [mem_listL.1 h] at hq; cases hq
    simp [this]
  · rw [hasL_is hq, decide_eq_true (mem_listL.2 hq)]; rfl
theorem hasL_block {s q : Int} (h9 : ¬ q = 9) (h19 : ¬ q = 19) : hasL (blockL s) q = hasL s q := by
  unfold blockL
  rw [hasL_del (delL_bd (ofL_bd _) _), if_neg h19, hasL_del (ofL_bd _), if_neg h9, hasL_ofList]
theorem pick_has {p m n : Int} (h : pickL p m = (n, true)) : hasL (openL p m) n = true := by
  unfold pickL at h
  by_cases h9 : hasL (openL p m) 9 = true
  · rw [if_pos h9] at h
    cases h; exact h9
  · rw [if_neg h9] at h
    by_cases h19 : hasL (openL p m) 19 = true
    · rw [if_pos h19] at h
      cases h; exact h19
    · rw [if_neg h19] at h
      by_cases h18 : hasL (openL p m) 18 = true
      · rw [if_pos h18] at h
        cases h; exact h18
      · rw [if_neg h18] at h
        cases hl : listL (openL p m) with
        | nil => rw [hl] at h; cases h
        | cons x xs =>
          rw [hl] at h
          cases h
          exact mem_listL.1 (by rw [hl]; simp)
theorem pick_zero {p m n : Int} (h : pickL p m = (n, false)) : n = 0 := by
  unfold pickL at h
  by_cases h9 : hasL (openL p m) 9 = true
  · rw [if_pos h9] at h; cases h
  · rw [if_neg h9] at h
    by_cases h19 : hasL (openL p m) 19 = true
    · rw [if_pos h19] at h; cases h
    · rw [if_neg h19] at h
      by_cases h18 : hasL (openL p m) 18 = true
      · rw [if_pos h18] at h; cases h
      · rw [if_neg h18] at h
        cases hl : listL (openL p m) with
        | nil => rw [hl] at h; cases h; rfl
        | cons x xs => rw [hl] at h; cases h
theorem pick_law {p m n : Int} (hp : U64 p) (h : pickL p m = (n, true)) : hasL p n = true ∧ (¬ n = 9 → ¬ n = 19 → hasL m n = false) ∧ ∀ k, pickL (delL p n) m = (k, true) → ¬ k = n := by
  have h1 := pick_has h
  rw [hasL_open hp] at h1
  simp only [Bool.and_eq_true, Bool.not_eq_true'] at h1
  refine ⟨h1.1, fun h9 h19 => by rw [← hasL_block h9 h19]; exact h1.2, fun k hk => ?_⟩
  have h2 := pick_has hk
  rw [hasL_open (delL_bd hp n), hasL_del hp] at h2
  rintro rfl
  simp at h2
set_option maxRecDepth 100000 in
set_option maxHeartbeats 800000 in
theorem sigsetPicks_walk (p m : Int) (w : World) (hp : U64 p) (hm : U64 m) :
    Calls Try.prog 5 #[.int .u64 p, .int .u64 m] w fun e w' => e = .returned (.bool true) ∧ Ext w w' := by
  have f1 := fun w' => pick_any p m w' hp hm
  have f2 := fun w' => rpick_any p m w' hp hm
  rw [pick_eq hp] at f2
  have hz := fun n => pick_zero (p := p) (m := m) (n := n)
  have hL := fun n => pick_law (p := p) (m := m) (n := n) hp
  generalize pickL p m = r at *
  obtain ⟨n, ok⟩ := r
  simp only at f1 f2
  have F1 := Lib.hid f1
  have F2 := Lib.hid f2
  have bn : (n == n) = true := by simp
  have bo : (ok == ok) = true := by simp
  clear f1 f2
  cases ok
  · have h0 : n = 0 := hz n rfl
    subst h0
    clear hz hL
    go_enter Try.func5, Try.ntmps5
    (go_wp2_with fail; refine (alive_any _).mono ?_; rintro e w1 ⟨rfl, E1⟩)
    go_wp2_with fail
    (with_reducible refine (F1.out _).mono ?_); rintro e w2 ⟨rfl, E2⟩
    go_wp2_with fail
    (with_reducible refine (F2.out _).mono ?_); rintro e w3 ⟨rfl, E3⟩
    go_wp2
    go_ret
    exact ⟨by simp, (by repeat (first | with_reducible exact Ext.refl _ | refine Ext.drewN ?_ _ | refine Ext.drew ?_ | refine Ext.alloc ?_ _ | assumption | (refine Below.trans ?_ (by assumption)) | (refine Ext.trans ?_ (by assumption)) | (refine Below.trans ?_ (Below.mono (by assumption) (by omega)))))⟩
  · obtain ⟨h1, h2, h3⟩ := hL n rfl
    have F3 := Lib.hid fun w' => has_any p n w' hp
    rw [h1] at F3
    have F4 := Lib.hid fun w' => has_any m n w' hm
    have F5 := Lib.hid fun w' => del_any p n w' hp
    have f6 := fun w' => pick_any (delL p n) m w' (delL_bd hp n) hm
    generalize delL p n = d at *
    generalize pickL d m = r at *
    obtain ⟨k, again⟩ := r
    simp only at f6
    have F6 := Lib.hid f6
    have hfin : (!again || !(k == n)) = true := by
      cases again
      · rfl
      · have := h3 k rfl
        simpa using this
    have HF := Lib.hid hfin
    clear f6 h3 h1 hz hL hfin
    by_cases h9 : n = 9
    · subst h9
      clear h2
      go_enter Try.func5, Try.ntmps5
      (go_wp2_with fail; refine (alive_any _).mono ?_; rintro e w1 ⟨rfl, E1⟩)
      go_wp2_with fail
      (with_reducible refine (F1.out _).mono ?_); rintro e w2 ⟨rfl, E2⟩
      go_wp2_with fail
      (with_reducible refine (F2.out _).mono ?_); rintro e w3 ⟨rfl, E3⟩
      go_wp2_with fail
      (with_reducible refine (F3.out _).mono ?_); rintro e w4 ⟨rfl, E4⟩
      go_wp2_with fail
      (with_reducible refine (F5.out _).mono ?_); rintro e w6 ⟨rfl, E6⟩
      go_wp2_with fail
      (with_reducible refine (F6.out _).mono ?_); rintro e w7 ⟨rfl, E7⟩
      go_wp2
      all_goals go_ret
      all_goals refine ⟨?_, (by repeat (first | with_reducible exact Ext.refl _ | refine Ext.drewN ?_ _ | refine Ext.drew ?_ | refine Ext.alloc ?_ _ | assumption | (refine Below.trans ?_ (by assumption)) | (refine Ext.trans ?_ (by assumption)) | (refine Below.trans ?_ (Below.mono (by assumption) (by omega)))))⟩
      all_goals (show Ending.returned (Value.bool _) = _)
      all_goals (have := HF.out; congr 2; (try simp_all))
    · by_cases h19 : n = 19
      · subst h19
        clear h2
        go_enter Try.func5, Try.ntmps5
        (go_wp2_with fail; refine (alive_any _).mono ?_; rintro e w1 ⟨rfl, E1⟩)
        go_wp2_with fail
        (with_reducible refine (F1.out _).mono ?_); rintro e w2 ⟨rfl, E2⟩
        go_wp2_with fail
        (with_reducible refine (F2.out _).mono ?_); rintro e w3 ⟨rfl, E3⟩
        go_wp2_with fail
        (with_reducible refine (F3.out _).mono ?_); rintro e w4 ⟨rfl, E4⟩
        go_wp2_with fail
        (with_reducible refine (F5.out _).mono ?_); rintro e w6 ⟨rfl, E6⟩
        go_wp2_with fail
        (with_reducible refine (F6.out _).mono ?_); rintro e w7 ⟨rfl, E7⟩
        go_wp2
        all_goals go_ret
        all_goals refine ⟨?_, (by repeat (first | with_reducible exact Ext.refl _ | refine Ext.drewN ?_ _ | refine Ext.drew ?_ | refine Ext.alloc ?_ _ | assumption | (refine Below.trans ?_ (by assumption)) | (refine Ext.trans ?_ (by assumption)) | (refine Below.trans ?_ (Below.mono (by assumption) (by omega)))))⟩
        all_goals (show Ending.returned (Value.bool _) = _)
        all_goals (have := HF.out; congr 2; (try simp_all))
      · have hmn := h2 h9 h19
        rw [hmn] at F4
        have b9 : (n == 9) = false := by simpa using h9
        have b19 : (n == 19) = false := by simpa using h19
        clear h2 hmn
        go_enter Try.func5, Try.ntmps5
        (go_wp2_with fail; refine (alive_any _).mono ?_; rintro e w1 ⟨rfl, E1⟩)
        go_wp2_with fail
        (with_reducible refine (F1.out _).mono ?_); rintro e w2 ⟨rfl, E2⟩
        go_wp2_with fail
        (with_reducible refine (F2.out _).mono ?_); rintro e w3 ⟨rfl, E3⟩
        go_wp2_with fail
        (with_reducible refine (F3.out _).mono ?_); rintro e w4 ⟨rfl, E4⟩
        go_wp2_with fail
        (with_reducible refine (F4.out _).mono ?_); rintro e w5 ⟨rfl, E5⟩
        go_wp2_with fail
        (with_reducible refine (F5.out _).mono ?_); rintro e w6 ⟨rfl, E6⟩
        go_wp2_with fail
        (with_reducible refine (F6.out _).mono ?_); rintro e w7 ⟨rfl, E7⟩
        go_wp2
        all_goals go_ret
        all_goals refine ⟨?_, (by repeat (first | with_reducible exact Ext.refl _ | refine Ext.drewN ?_ _ | refine Ext.drew ?_ | refine Ext.alloc ?_ _ | assumption | (refine Below.trans ?_ (by assumption)) | (refine Ext.trans ?_ (by assumption)) | (refine Below.trans ?_ (Below.mono (by assumption) (by omega)))))⟩
        all_goals (show Ending.returned (Value.bool _) = _)
        all_goals (have := HF.out; congr 2; (try simp_all))
end Go.Proofs.Yteandiddfokfjaa
