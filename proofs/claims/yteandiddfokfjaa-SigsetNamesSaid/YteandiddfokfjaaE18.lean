/- Names and numbers by the document's rows; what a client may name; what a signal does by itself; by contract. Conditions: none, or the signal is one. -/
import Derived.Test.YteandiddfokfjaaD18
namespace Go.Proofs.Yteandiddfokfjaa
open Go.RowKit Go.Kb Go.Kb.Bits

theorem rowL_name (sig : Int) : (rowL sig).2.1 = if isL sig then nameB sig.toNat else ⟨#[]⟩ := by
  by_cases hs : isL sig = true
  · rw [if_pos hs]
    have hb := isL_bd hs
    have : ∀ k : Nat, k < 29 → isL (k : Int) = true → (rowL (k : Int)).2.1 = nameB k := by decide +kernel
    obtain ⟨k, rfl⟩ := Int.eq_ofNat_of_zero_le (show 0 ≤ sig by omega)
    exact this k (by omega) hs
  · rw [if_neg hs, rowL_none fun j hj h => hs (by rw [← h]; exact rowAt_is j hj)]
    rfl
def wireL (sig : Int) : Bool := (rowL sig).2.2.2
theorem wireL_eq (sig : Int) : wireL sig = (isL sig && decide (sig ≤ 15) && !(sig == 5 || sig == 7)) := by
  by_cases hs : isL sig = true
  · have hb := isL_bd hs
    have : ∀ k : Nat, k < 29 → isL (k : Int) = true → wireL (k : Int) = (isL (k : Int) && decide ((k : Int) ≤ 15) && !((k : Int) == 5 || (k : Int) == 7)) := by decide +kernel
    obtain ⟨k, rfl⟩ := Int.eq_ofNat_of_zero_le (show 0 ≤ sig by omega)
    exact this k (by omega) hs
  · unfold wireL
    rw [rowL_none fun j hj h => hs (by rw [← h]; exact rowAt_is j hj)]
    simp [hs, row0]
def rnumL (name : ByteArray) : Int × Bool := match rowsT.find? (fun r => r.2.1.toList == name.toList) with | some r => (r.1, true) | none => (0, false)
theorem rnum_some {name : ByteArray} {k : Nat} (hk : k < 22) (h : ((rowAt k).2.1.toList == name.toList) = true) (hn : ∀ j : Nat, j < k → ((rowAt j).2.1.toList == name.toList) = false) : rnumL name = ((rowAt k).1, true) := by
  unfold rnumL
  rw [find_some hk h hn]
theorem rnum_none {name : ByteArray} (hn : ∀ j : Nat, j < 22 → ((rowAt j).2.1.toList == name.toList) = false) : rnumL name = (0, false) := by
  unfold rnumL
  rw [find_none hn]
theorem sameB_list {x y : ByteArray} (h : sameB x y = true) : x.toList = y.toList := by simpa [sameB] using h
theorem rnum_num (name : ByteArray) : rnumL name = numL name := by
  have tab : ∀ k : Nat, k < 29 → isL (k : Int) = true → rnumL (nameB k) = ((k : Int), true) := by decide +kernel
  have tabE : ∀ k : Nat, k < 29 → isL (k : Int) = false → (nameB k).toList.isEmpty = true := fun k hk h => by rw [name_is k hk, h]; rfl
  have rows : ∀ j : Nat, j < 22 → ∃ k : Nat, k < 29 ∧ (rowAt j).2.1 = nameB k ∧ isL (k : Int) = true := by decide +kernel
  have congrR : ∀ x y : ByteArray, x.toList = y.toList → rnumL x = rnumL y := fun x y h => by unfold rnumL; rw [h]
  unfold numL
  by_cases he : name.toList.isEmpty = true
  · rw [if_pos he]
    refine rnum_none fun j hj => ?_
    obtain ⟨k, hk, h1, h2⟩ := rows j hj
    have h3 := name_is k hk
    rw [h2] at h3
    rw [h1]
    rw [List.isEmpty_iff] at he
    rw [he]
    cases hq : (nameB k).toList with
    | nil => rw [hq] at h3; simp at h3
    | cons a l => rfl
  · rw [if_neg he]
    cases ho : idxO name with
    | some k =>
      unfold idxO at ho
      rw [List.find?_range_eq_some] at ho
      obtain ⟨h1, h2, h3⟩ := ho
      have hk : k < 29 := by simpa using h2
      have hl := sameB_list h1
      have hi : isL (k : Int) = true := by
        cases hq : isL (k : Int)
        · have := tabE k hk hq
          rw [← hl] at this
          exact absurd this he
        · rfl
      have hb := isL_bd hi
      have hx : idxL name = (k : Int) := idx_some hk h1 fun j hj => by simpa using h3 j hj
      rw [congrR name (nameB k) hl, tab k hk hi, hx]
      simp only [Prod.mk.injEq]
      refine ⟨by omega, ?_⟩
      simp; omega
    | none =>
      have hx : idxL name = -1 := by unfold idxL; rw [ho]
      unfold idxO at ho
      rw [List.find?_range_eq_none] at ho
      rw [hx]
      refine (rnum_none fun j hj => ?_).trans rfl
      obtain ⟨k, hk, h1, h2⟩ := rows j hj
      have := ho k hk
      rw [h1]
      cases hq : (nameB k).toList == name.toList
      · rfl
      · exfalso
        have hq2 : (nameB k).toList = name.toList := by simpa using hq
        simp [sameB, hq2] at this
set_option maxRecDepth 100000 in
set_option maxHeartbeats 800000 in
theorem rname_any (sig : Int) (w : World) : Calls Try.prog 30 #[.int .i64 sig] w fun e w' => e = .returned (.tuple #[.string (if isL sig then nameB sig.toNat else ⟨#[]⟩), .bool (isL sig)]) ∧ Ext w w' := by
  have hO := fun w' => of_any sig w'
  have hn := rowL_name sig
  generalize (if isL sig then nameB sig.toNat else ⟨#[]⟩) = s0 at *
  generalize rowL sig = rr at *
  obtain ⟨n, s, d, wi⟩ := rr
  simp only [rowV] at hO
  simp only at hn
  subst hn
  generalize isL sig = il at *
  have HO := Lib.hid hO
  clear hO
  go_enter Try.func30, Try.ntmps30
  go_wp2_with ((go_at_call 35; (with_reducible refine (HO.out _).mono ?_); rintro e w1 ⟨rfl, E1⟩))
  go_ret2
  exact ⟨rfl, (by repeat (first | with_reducible exact Ext.refl _ | refine Ext.drewN ?_ _ | refine Ext.drew ?_ | refine Ext.alloc ?_ _ | assumption | (refine Below.trans ?_ (by assumption)) | (refine Ext.trans ?_ (by assumption)) | (refine Below.trans ?_ (Below.mono (by assumption) (by omega)))))⟩
set_option maxHeartbeats 800000 in
theorem rwire_any (sig : Int) (w : World) : Calls Try.prog 33 #[.int .i64 sig] w fun e w' => e = .returned (.bool (wireL sig)) ∧ Ext w w' := by
  have hO := fun w' => of_any sig w'
  have hn : wireL sig = (rowL sig).2.2.2 := rfl
  generalize wireL sig = s0 at *
  generalize rowL sig = rr at *
  obtain ⟨n, s, d, wi⟩ := rr
  simp only [rowV] at hO
  simp only at hn
  subst hn
  generalize isL sig = il at *
  have HO := Lib.hid hO
  clear hO
  go_enter Try.func33, Try.ntmps33
  go_wp2_with ((go_at_call 35; (with_reducible refine (HO.out _).mono ?_); rintro e w1 ⟨rfl, E1⟩))
  go_ret
  exact ⟨rfl, (by repeat (first | with_reducible exact Ext.refl _ | refine Ext.drewN ?_ _ | refine Ext.drew ?_ | refine Ext.alloc ?_ _ | assumption | (refine Below.trans ?_ (by assumption)) | (refine Ext.trans ?_ (by assumption)) | (refine Below.trans ?_ (Below.mono (by assumption) (by omega)))))⟩
set_option maxHeartbeats 800000 in
theorem wire_any (sig : Int) (w : World) : Calls Try.prog 32 #[.int .i64 sig] w fun e w' => e = .returned (.bool (wireL sig)) ∧ Ext w w' := by
  have hW := wireL_eq sig
  have HI := Lib.hid fun w' => is_any sig w'
  generalize wireL sig = wl at *
  generalize isL sig = il at *
  by_cases h5 : sig = 5
  · subst h5
    have : wl = false := by rw [hW]; simp
    subst this
    clear hW
    go_enter Try.func32, Try.ntmps32
    go_wp2
    go_ret
    exact ⟨rfl, (by repeat (first | with_reducible exact Ext.refl _ | refine Ext.drewN ?_ _ | refine Ext.drew ?_ | refine Ext.alloc ?_ _ | assumption | (refine Below.trans ?_ (by assumption)) | (refine Ext.trans ?_ (by assumption)) | (refine Below.trans ?_ (Below.mono (by assumption) (by omega)))))⟩
  · by_cases h7 : sig = 7
    · subst h7
      have : wl = false := by rw [hW]; simp
      subst this
      clear hW h5
      go_enter Try.func32, Try.ntmps32
      go_wp2
      go_ret
      exact ⟨rfl, (by repeat (first | with_reducible exact Ext.refl _ | refine Ext.drewN ?_ _ | refine Ext.drew ?_ | refine Ext.alloc ?_ _ | assumption | (refine Below.trans ?_ (by assumption)) | (refine Ext.trans ?_ (by assumption)) | (refine Below.trans ?_ (Below.mono (by assumption) (by omega)))))⟩
    · have b5 : (sig == 5) = false := by simpa using h5
      have b7 : (sig == 7) = false := by simpa using h7
      rw [b5, b7] at hW
      clear h5 h7
      cases il
      · have : wl = false := by rw [hW]; simp
        subst this
        clear hW
        go_enter Try.func32, Try.ntmps32
        go_wp2_with ((go_at_call 39; (with_reducible refine (HI.out _).mono ?_); rintro e w1 ⟨rfl, E1⟩))
        go_ret
        exact ⟨rfl, (by repeat (first | with_reducible exact Ext.refl _ | refine Ext.drewN ?_ _ | refine Ext.drew ?_ | refine Ext.alloc ?_ _ | assumption | (refine Below.trans ?_ (by assumption)) | (refine Ext.trans ?_ (by assumption)) | (refine Below.trans ?_ (Below.mono (by assumption) (by omega)))))⟩
      · by_cases h15 : sig ≤ 15
        · have : wl = true := by rw [hW]; simpa using h15
          subst this
          clear hW
          go_enter Try.func32, Try.ntmps32
          go_wp2_with ((go_at_call 39; (with_reducible refine (HI.out _).mono ?_); rintro e w1 ⟨rfl, E1⟩))
          go_ret
          exact ⟨by simp, (by repeat (first | with_reducible exact Ext.refl _ | refine Ext.drewN ?_ _ | refine Ext.drew ?_ | refine Ext.alloc ?_ _ | assumption | (refine Below.trans ?_ (by assumption)) | (refine Ext.trans ?_ (by assumption)) | (refine Below.trans ?_ (Below.mono (by assumption) (by omega)))))⟩
        · have : wl = false := by rw [hW]; simpa using h15
          subst this
          clear hW
          go_enter Try.func32, Try.ntmps32
          go_wp2_with ((go_at_call 39; (with_reducible refine (HI.out _).mono ?_); rintro e w1 ⟨rfl, E1⟩))
          go_ret
          exact ⟨by simp; omega, (by repeat (first | with_reducible exact Ext.refl _ | refine Ext.drewN ?_ _ | refine Ext.drew ?_ | refine Ext.alloc ?_ _ | assumption | (refine Below.trans ?_ (by assumption)) | (refine Ext.trans ?_ (by assumption)) | (refine Below.trans ?_ (Below.mono (by assumption) (by omega)))))⟩
set_option maxHeartbeats 800000 in
theorem sure_any (sig : Int) (w : World) : Calls Try.prog 40 #[.int .i64 sig] w fun e w' => e = .returned (.bool (sig == 9 || sig == 19)) ∧ Ext w w' := by
  have hs : (sig == 9 || sig == 19) = (decide (sig = 9) || decide (sig = 19)) := by rw [Bool.eq_iff_iff]; simp
  rw [hs]
  by_cases h9 : sig = 9
  · subst h9
    go_enter Try.func40, Try.ntmps40
    go_wp2
    go_ret
    exact ⟨rfl, (by repeat (first | with_reducible exact Ext.refl _ | refine Ext.drewN ?_ _ | refine Ext.drew ?_ | refine Ext.alloc ?_ _ | assumption | (refine Below.trans ?_ (by assumption)) | (refine Ext.trans ?_ (by assumption)) | (refine Below.trans ?_ (Below.mono (by assumption) (by omega)))))⟩
  · by_cases h19 : sig = 19
    · subst h19
      go_enter Try.func40, Try.ntmps40
      go_wp2
      go_ret
      exact ⟨rfl, (by repeat (first | with_reducible exact Ext.refl _ | refine Ext.drewN ?_ _ | refine Ext.drew ?_ | refine Ext.alloc ?_ _ | assumption | (refine Below.trans ?_ (by assumption)) | (refine Ext.trans ?_ (by assumption)) | (refine Below.trans ?_ (Below.mono (by assumption) (by omega)))))⟩
    · rw [decide_eq_false h9, decide_eq_false h19]
      have b9 : (sig == 9) = false := by simpa using h9
      have b19 : (sig == 19) = false := by simpa using h19
      clear h9 h19 hs
      go_enter Try.func40, Try.ntmps40
      go_wp2
      go_ret
      exact ⟨rfl, (by repeat (first | with_reducible exact Ext.refl _ | refine Ext.drewN ?_ _ | refine Ext.drew ?_ | refine Ext.alloc ?_ _ | assumption | (refine Below.trans ?_ (by assumption)) | (refine Ext.trans ?_ (by assumption)) | (refine Below.trans ?_ (Below.mono (by assumption) (by omega)))))⟩
def doesL (sig : Int) : Int := (rowL sig).2.2.1
set_option maxRecDepth 100000 in
set_option maxHeartbeats 3000000 in
theorem itself_any (sig : Int) (w : World) (h : isL sig = true) : Calls Try.prog 41 #[.int .i64 sig] w fun e w' => e = .returned (.int .i64 (doesL sig)) ∧ Ext w w' := by
  have hb := isL_bd h
  obtain ⟨k, rfl⟩ := Int.eq_ofNat_of_zero_le (show 0 ≤ sig by omega)
  have hk : k < 29 := by omega
  have hd : ∃ d, doesL (k : Int) = d := ⟨_, rfl⟩
  obtain ⟨d, hd⟩ := hd
  rw [hd]
  rcases k with _ | _ | _ | _ | _ | _ | _ | _ | _ | _ | _ | _ | _ | _ | _ | _ | _ | _ | _ | _ | _ | _ | _ | _ | _ | _ | _ | _ | _ | k
  all_goals first
    | (exfalso; simp [isL] at h; done)
    | omega
    | (rw [← hd]
       clear hd h hb hk
       go_enter Try.func41, Try.ntmps41
       go_wp2
       go_ret
       exact ⟨rfl, (by repeat (first | with_reducible exact Ext.refl _ | refine Ext.drewN ?_ _ | refine Ext.drew ?_ | refine Ext.alloc ?_ _ | assumption | (refine Below.trans ?_ (by assumption)) | (refine Ext.trans ?_ (by assumption)) | (refine Below.trans ?_ (Below.mono (by assumption) (by omega)))))⟩)
end Go.Proofs.Yteandiddfokfjaa
