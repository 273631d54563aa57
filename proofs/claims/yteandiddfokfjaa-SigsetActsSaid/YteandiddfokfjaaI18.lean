/- A set's list, the set of a list, a mask that may be; by contract. Conditions: the set has 64 bits. -/
import Derived.Test.YteandiddfokfjaaH18
namespace Go.Proofs.Yteandiddfokfjaa
open Go.RowKit Go.Kb Go.Kb.Bits

abbrev Ib : Rep Int := Rep.int .i64
theorem info_i64 : (Try.prog.info? 3).map (fun i => (i.zero, i.size, i.bytes)) = some (some (.int .i64 0), Ib.size, 8) := by kernel_rfl
def sigs29 : List Int := (List.range 29).map fun (j : Nat) => (j : Int)
def listL (s : Int) : List Int := sigs29.filter (hasL s)
def listK (s : Int) (k : Nat) : List Int := ((List.range k).map fun (j : Nat) => (j : Int)).filter (hasL s)
theorem listK_succ (s : Int) (k : Nat) : listK s (k + 1) = listK s k ++ if hasL s (k : Int) then [(k : Int)] else [] := by
  unfold listK
  rw [List.range_succ, List.map_append, List.filter_append]
  cases h : hasL s (k : Int) <;> simp [h]
theorem listK_len (s : Int) (k : Nat) : (listK s k).length ≤ k := by
  have := List.length_filter_le (hasL s) ((List.range k).map fun (j : Nat) => (j : Int))
  simpa [listK] using this
def rowsN : List Int := rowsT.map (·.1)
def rowsK (s : Int) (k : Nat) : List Int := (rowsN.take k).filter (hasL s)
theorem rowsN_at (k : Nat) (hk : k < 22) : rowsN[k]? = some (rowAt k).1 := by
  have hl : k < rowsT.length := hk
  unfold rowsN rowAt
  simp [hl]
theorem rowsK_succ (s : Int) (k : Nat) (hk : k < 22) : rowsK s (k + 1) = rowsK s k ++ if hasL s (rowAt k).1 then [(rowAt k).1] else [] := by
  unfold rowsK
  rw [take_succ_of (rowsN_at k hk), List.filter_append]
  cases h : hasL s (rowAt k).1 <;> simp [h]
theorem rowsK_len (s : Int) (k : Nat) : (rowsK s k).length ≤ 22 := by
  have h1 := List.length_filter_le (hasL s) (rowsN.take k)
  have h2 : (rowsN.take k).length ≤ 22 := by rw [List.length_take]; exact Nat.min_le_right _ _
  unfold rowsK
  omega
theorem rows_list (s : Int) : rowsK s 22 = listL s := by
  have h1 : rowsN.take 22 = rowsN := by decide +kernel
  have h2 : rowsN = sigs29.filter isL := by decide +kernel
  unfold rowsK listL
  rw [h1, h2, List.filter_filter]
  congr 1
  funext x
  unfold hasL
  cases isL x <;> simp
set_option maxRecDepth 100000 in
set_option maxHeartbeats 800000 in
theorem list_any (s : Int) (w : World) (h : U64 s) : Calls Try.prog 16 #[.int .u64 s] w fun e w' => ∃ A c, e = .returned (.slice A (listL s).length c) ∧ RI .i64 w' (.slice A (listL s).length c) (listL s) ∧ Ext w w' := by
  have HH := Lib.hid fun sig w' => has_any s sig w' h
  have HS := Lib.hid fun k => listK_succ s k
  have HN := Lib.hid fun k => listK_len s k
  have HA := Lib.hid (show listK s 29 = listL s from rfl)
  clear h
  go_enter Try.func16, Try.ntmps16
  go_wp2
  go_loopw [3, 5] (fun o i wr => ∃ (k n c : Nat) (A : Option Addr), k ≤ 29 ∧ i = .int .i64 k ∧ o = .slice A n c ∧ Hid ((listK s k).length = n) ∧ Hid (OwnS Ib 3 w.heap.size (fun _ => False) wr (.slice A n c) (listK s k)) ∧ Ext w wr) (fun _ i _ => 29 - (intOf i).toNat)
  case atStart => exact ⟨0, 0, 0, none, by omega, rfl, rfl, Lib.hid rfl, Lib.hid (OwnS.nil _ _ _ _ _), (by repeat (first | with_reducible exact Ext.refl _ | refine Ext.drewN ?_ _ | refine Ext.drew ?_ | refine Ext.alloc ?_ _ | assumption | (refine Below.trans ?_ (by assumption)) | (refine Ext.trans ?_ (by assumption)) | (refine Below.trans ?_ (Below.mono (by assumption) (by omega)))))⟩
  case round =>
    obtain ⟨k, n, c, A, hk, rfl, rfl, hn, hO, hE⟩ := hrel
    have hn29 := HN.out k
    rw [hn.out] at hn29
    by_cases hlt : k < 29
    · have k1 : (k : Int) < 29 := by omega
      have hst := HS.out k
      have hH := Lib.hid fun w' => HH.out (k : Int) w'
      cases hq : hasL s (k : Int)
      · rw [hq] at hH hst
        simp only [Bool.false_eq_true, if_false, List.append_nil] at hst
        go_wp2_with ((go_at_call 9; (with_reducible refine (hH.out _).mono ?_); rintro e w1 ⟨rfl, E1⟩))
        go_roundw
        case rel => exact ⟨k + 1, n, c, A, by omega, by first | rfl | go_num | simp, rfl, Lib.hid (by rw [hst]; exact hn.out), Lib.hid (by rw [hst]; exact hO.out.ext E1), hE.trans E1⟩
        case measure => first | (simp [intOf]; omega) | (show 29 - _ < _; simp [intOf]; omega)
      · rw [hq] at hH hst
        simp only [if_true] at hst
        go_wp2_with (first
          | ((go_at_call 9; (with_reducible refine (hH.out _).mono ?_); rintro e w1 ⟨rfl, E1⟩))
          | (at_builtin; refine wpList_app (e := Ib) (base := w.heap.size) (B := fun _ => False) (A := fun _ => False) rfl _ (.tmp 13) rfl Try.underlying23 info_i64 rfl (OwnS.ext hO.out (by repeat (first | with_reducible exact Ext.refl _ | refine Ext.drewN ?_ _ | refine Ext.drew ?_ | refine Ext.alloc ?_ _ | assumption | (refine Below.trans ?_ (by assumption)) | (refine Ext.trans ?_ (by assumption)) | (refine Below.trans ?_ (Below.mono (by assumption) (by omega)))))) rfl (RI.y (RI.lit .i64 [(k : Int)] _ rfl (by simp))) rfl (fun _ _ h => h.elim) (N := n + 1) (by rw [hn.out]; rfl) (by simp [maxLen]; omega) (by omega) (by have := hE.size; have := E1.size; simp; omega) ?_; intro A5 c5 w5 o5 M5 B5; have E5 : Ext w w5 := Ext.trans_below (show Ext w _ from (hE.trans E1).alloc _) B5 (Nat.le_refl _)))
        go_roundw
        case rel => exact ⟨k + 1, n + 1, c5, A5, by omega, by first | rfl | go_num | simp, rfl, Lib.hid (by rw [hst, List.length_append, hn.out]; rfl), Lib.hid (by rw [hst]; exact o5), E5⟩
        case measure => first | (simp [intOf]; omega) | (show 29 - _ < _; simp [intOf]; omega)
    · obtain rfl : k = 29 := by omega
      have hOk := hO.out.rdT.ri
      rw [HA.out] at hOk
      have hnn := hn.out
      rw [HA.out] at hnn
      go_wp2
      go_ret
      exact ⟨A, c, by rw [hnn]; rfl, by rw [hnn]; exact hOk, hE⟩
set_option maxRecDepth 100000 in
set_option maxHeartbeats 800000 in
theorem rlist_any (s : Int) (w : World) (h : U64 s) : Calls Try.prog 17 #[.int .u64 s] w fun e w' => ∃ A c, e = .returned (.slice A (listL s).length c) ∧ RI .i64 w' (.slice A (listL s).length c) (listL s) ∧ Ext w w' := by
  have HH := Lib.hid fun sig w' => rhas_any s sig w' h
  have HS := Lib.hid fun k hk => rowsK_succ s k hk
  have HN := Lib.hid fun k => rowsK_len s k
  have HA := Lib.hid (rows_list s)
  clear h
  go_enter Try.func17, Try.ntmps17
  go_wp2_with ((go_at_call 37; (with_reducible refine (rows_any _).mono ?_); rintro e w1 ⟨rfl, hB, E1⟩))
  have HB := Lib.hid hB
  clear hB
  go_loopw [3, 8] (fun o i wr => ∃ (k n c : Nat) (A : Option Addr), k ≤ 22 ∧ i = .int .i64 k ∧ o = .slice A n c ∧ Hid ((rowsK s k).length = n) ∧ Hid (OwnS Ib 3 w1.heap.size (fun _ => False) wr (.slice A n c) (rowsK s k)) ∧ Ext w1 wr) (fun _ i _ => 22 - (intOf i).toNat)
  case atStart => exact ⟨0, 0, 0, none, by omega, rfl, rfl, Lib.hid rfl, Lib.hid (OwnS.nil _ _ _ _ _), Ext.refl _⟩
  case round =>
    obtain ⟨k, n, c, A, hk, rfl, rfl, hn, hO, hE⟩ := hrel
    have hn22 := HN.out k
    rw [hn.out] at hn22
    by_cases hlt : k < 22
    · have k1 : (k : Int) < 22 := by omega
      have k2 : (0 : Int) ≤ (k : Int) := by omega
      obtain ⟨r0, r1, r2, r3⟩ := rowsA_at k hlt
      have hBr := HB.out.ext hE
      have c0 := hBr.cell (k * 4)
      have c1 := hBr.cell (k * 4 + 1)
      have c2 := hBr.cell (k * 4 + 2)
      have c3 := hBr.cell (k * 4 + 3)
      rw [r0] at c0
      rw [r1] at c1
      rw [r2] at c2
      rw [r3] at c3
      clear r0 r1 r2 r3
      have hst := HS.out k hlt
      generalize rowAt k = row at *
      obtain ⟨x, nm, d, wi⟩ := row
      simp only at c0 c1 c2 c3 hst
      have hH := Lib.hid fun w' => HH.out x w'
      cases hq : hasL s x
      · rw [hq] at hH hst
        simp only [Bool.false_eq_true, if_false, List.append_nil] at hst
        go_wp2_with ((go_at_call 10; (with_reducible refine (hH.out _).mono ?_); rintro e w3 ⟨rfl, E3⟩))
        have E3' : Ext wr w3 := (by repeat (first | with_reducible exact Ext.refl _ | refine Ext.drewN ?_ _ | refine Ext.drew ?_ | refine Ext.alloc ?_ _ | assumption | (refine Below.trans ?_ (by assumption)) | (refine Ext.trans ?_ (by assumption)) | (refine Below.trans ?_ (Below.mono (by assumption) (by omega)))))
        go_roundw
        case rel => exact ⟨k + 1, n, c, A, by omega, by first | rfl | go_num | simp, rfl, Lib.hid (by rw [hst]; exact hn.out), Lib.hid (by rw [hst]; exact hO.out.ext E3'), hE.trans E3'⟩
        case measure => first | (simp [intOf]; omega) | (show 22 - _ < _; simp [intOf]; omega)
      · rw [hq] at hH hst
        simp only [if_true] at hst
        have hbx : ∀ o, (wr.alloc (.cells #[.int .i64 x, .string nm, .int .i64 d, .bool wi] 58)).cell? ⟨wr.heap.size, o, none⟩ = (#[.int .i64 x, .string nm, .int .i64 d, .bool wi] : Array Value)[o]? := fun o => (Blk.new wr _ _).cell o
        go_wp2_with fail
        (with_reducible refine (hH.out _).mono ?_); rintro e w3 ⟨rfl, E3⟩
        have hc3 := (Blk.ext (Blk.new wr 58 #[.int .i64 x, .string nm, .int .i64 d, .bool wi]) E3).cell 0
        have E3' : Ext wr w3 := (by repeat (first | with_reducible exact Ext.refl _ | refine Ext.drewN ?_ _ | refine Ext.drew ?_ | refine Ext.alloc ?_ _ | assumption | (refine Below.trans ?_ (by assumption)) | (refine Ext.trans ?_ (by assumption)) | (refine Below.trans ?_ (Below.mono (by assumption) (by omega)))))
        go_wp2_with (at_builtin; refine wpList_app (e := Ib) (base := w1.heap.size) (B := fun _ => False) (A := fun _ => False) rfl _ (.tmp 19) rfl Try.underlying23 info_i64 rfl (OwnS.ext hO.out (by repeat (first | with_reducible exact Ext.refl _ | refine Ext.drewN ?_ _ | refine Ext.drew ?_ | refine Ext.alloc ?_ _ | assumption | (refine Below.trans ?_ (by assumption)) | (refine Ext.trans ?_ (by assumption)) | (refine Below.trans ?_ (Below.mono (by assumption) (by omega)))))) rfl (RI.y (RI.lit .i64 [x] _ rfl (by simp))) rfl (fun _ _ h => h.elim) (N := n + 1) (by rw [hn.out]; rfl) (by simp [maxLen]; omega) (by omega) (by have := hE.size; have := E3'.size; simp; omega) ?_; intro A5 c5 w5 o5 M5 B5; have E5 : Ext w1 w5 := Ext.trans_below (show Ext w1 _ from (hE.trans E3').alloc _) B5 (Nat.le_refl _))
        go_roundw
        case rel => exact ⟨k + 1, n + 1, c5, A5, by omega, by first | rfl | go_num | simp, rfl, Lib.hid (by rw [hst, List.length_append, hn.out]; rfl), Lib.hid (by rw [hst]; exact o5), E5⟩
        case measure => first | (simp [intOf]; omega) | (show 22 - _ < _; simp [intOf]; omega)
    · obtain rfl : k = 22 := by omega
      have hOk := hO.out.rdT.ri
      rw [HA.out] at hOk
      have hnn := hn.out
      rw [HA.out] at hnn
      go_wp2
      go_ret
      exact ⟨A, c, by rw [hnn]; rfl, by rw [hnn]; exact hOk, E1.trans hE⟩
end Go.Proofs.Yteandiddfokfjaa
