/- The first signal that a mask lets through, by contract. Conditions: sets have 64 bits. -/
import Derived.Test.YteandiddfokfjaaL18
namespace Go.Proofs.Yteandiddfokfjaa
open Go.RowKit Go.Kb Go.Kb.Bits

def first3 (k : Nat) : Int := if k = 0 then 9 else if k = 1 then 19 else 18
theorem index_first (k : Nat) (hk : k < 3) : ∀ w, (Instr.index 67 (.agg #[.int .i64 9, .int .i64 19, .int .i64 18]) (.int .i64 (k : Int))).run Try.prog w = .ok (.int .i64 (first3 k)) w := by
  rcases k with _ | _ | _ | k
  all_goals first | exact fun w => by kernel_rfl | omega
theorem pick_some {p m : Int} {k : Nat} (hk : k < 3) (h : hasL (openL p m) (first3 k) = true) (hn : ∀ j : Nat, j < k → hasL (openL p m) (first3 j) = false) : pickL p m = (first3 k, true) := by
  have h0 : 0 < k → hasL (openL p m) 9 = false := fun hj => hn 0 hj
  have h1 : 1 < k → hasL (openL p m) 19 = false := fun hj => hn 1 hj
  unfold pickL
  rcases k with _ | _ | _ | k
  · have h : hasL (openL p m) 9 = true := h
    rw [if_pos h]; rfl
  · have h : hasL (openL p m) 19 = true := h
    rw [if_neg (by rw [h0 (by omega)]; decide), if_pos h]; rfl
  · have h : hasL (openL p m) 18 = true := h
    rw [if_neg (by rw [h0 (by omega)]; decide), if_neg (by rw [h1 (by omega)]; decide), if_pos h]; rfl
  · omega
theorem pick_rest {p m : Int} (hn : ∀ j : Nat, j < 3 → hasL (openL p m) (first3 j) = false) : pickL p m = match listL (openL p m) with | x :: _ => (x, true) | [] => (0, false) := by
  have h0 : hasL (openL p m) 9 = false := hn 0 (by omega)
  have h1 : hasL (openL p m) 19 = false := hn 1 (by omega)
  have h2 : hasL (openL p m) 18 = false := hn 2 (by omega)
  unfold pickL
  rw [h0, h1, h2]
  cases listL (openL p m) <;> rfl
set_option maxRecDepth 100000 in
set_option maxHeartbeats 800000 in
theorem pick_any (p m : Int) (w : World) (hp : U64 p) (hm : U64 m) : Calls Try.prog 26 #[.int .u64 p, .int .u64 m] w fun e w' => e = .returned (.tuple #[.int .i64 (pickL p m).1, .bool (pickL p m).2]) ∧ Ext w w' := by
  have HB := Lib.hid fun w' => block_any m w' hm
  have hop : bits .andNot .u64 p (blockL m) = openL p m := rfl
  have HS := Lib.hid fun k hk h hn => pick_some (p := p) (m := m) (k := k) hk h hn
  have HR := Lib.hid fun hn => pick_rest (p := p) (m := m) hn
  have hob := openL_bd hp m
  have HH := Lib.hid fun sig w' => has_any (openL p m) sig w' hob
  have HLI := Lib.hid fun w' => list_any (openL p m) w' hob
  generalize pickL p m = r at *
  generalize openL p m = o at *
  generalize blockL m = b at *
  clear hp hm hob
  go_enter Try.func26, Try.ntmps26
  go_wp2_with ((go_at_call 20; (with_reducible refine (HB.out _).mono ?_); rintro e w1 ⟨rfl, E1⟩))
  go_loopw [15] (fun i wr => ∃ k : Nat, k ≤ 3 ∧ i = .int .i64 k ∧ Hid (∀ j : Nat, j < k → hasL o (first3 j) = false) ∧ Ext w1 wr) (fun i _ => 3 - (intOf i).toNat)
  case atStart => exact ⟨0, by omega, rfl, Lib.hid fun j hj => by omega, Ext.refl _⟩
  case round =>
    obtain ⟨k, hk, rfl, hj, hE⟩ := hrel
    by_cases hlt : k < 3
    · have k1 : (k : Int) < 3 := by omega
      have k2 : (0 : Int) ≤ (k : Int) := by omega
      have hix := index_first k hlt
      have hH := Lib.hid fun w' => HH.out (first3 k) w'
      have HJ := Lib.hid fun (h : hasL o (first3 k) = false) (j : Nat) (hjk : j < k + 1) => show hasL o (first3 j) = false by
        rcases Nat.lt_succ_iff_lt_or_eq.1 hjk with h1 | h1
        · exact hj.out j h1
        · rw [h1]; exact h
      have HSk := Lib.hid fun h => HS.out k hlt h hj.out
      generalize first3 k = x at *
      cases hq : hasL o x
      · rw [hq] at hH
        go_wp2_with ((go_at_call 9; (with_reducible refine (hH.out _).mono ?_); rintro e w2 ⟨rfl, E2⟩))
        go_roundw
        case rel => exact ⟨k + 1, by omega, by first | rfl | go_num | simp, Lib.hid (HJ.out hq), hE.trans E2⟩
        case measure => first | (simp [intOf]; omega) | (show 3 - _ < _; simp [intOf]; omega)
      · rw [hq] at hH
        have hr := HSk.out hq
        subst hr
        clear HS HR HSk
        go_wp2_with ((go_at_call 9; (with_reducible refine (hH.out _).mono ?_); rintro e w2 ⟨rfl, E2⟩))
        go_ret2
        exact ⟨rfl, E1.trans (hE.trans E2)⟩
    · obtain rfl : k = 3 := by omega
      have hr := HR.out hj.out
      clear HS HR
      go_wp2_with fail
      (with_reducible refine (HLI.out _).mono ?_); rintro e w2 ⟨A2, c2, rfl, r2, E2⟩
      cases hl : listL o with
      | nil =>
        rw [hl] at hr
        simp only at hr
        subst hr
        simp only [List.length_nil]
        go_wp2
        go_ret2
        exact ⟨rfl, E1.trans (hE.trans E2)⟩
      | cons x xs =>
        rw [hl] at hr r2
        simp only at hr
        subst hr
        have hlen := listK_len o 29
        have hlo : listK o 29 = listL o := rfl
        rw [hlo, hl] at hlen
        obtain ⟨bb, off, y, rfl, hc, hx⟩ := RdN.icell r2 (j := 0) (by simp)
        have hxy : x = y := by have := hx.out; simpa using this
        subst hxy
        rw [Nat.add_zero] at hc
        clear r2 hx
        generalize hN : (x :: xs).length = N at *
        have hN0 : 0 < N := by rw [← hN]; simp
        clear hN hl hlo
        have n0 : (0 : Int) < (N : Int) := by omega
        go_wp2
        go_ret2
        exact ⟨rfl, E1.trans (hE.trans E2)⟩
theorem rpick_some {p m : Int} {l : List Int} (hl : [9, 19, 18] ++ listL p = l) {k : Nat} {x : Int} (hx : l[k]? = some x) (h : okP p m x = true) (hn : ∀ (j : Nat) y, j < k → l[j]? = some y → okP p m y = false) : rpickL p m = (x, true) := by
  subst hl
  have : ([9, 19, 18] ++ listL p).find? (okP p m) = some x := by
    rw [List.find?_eq_some_iff_getElem]
    obtain ⟨hk, hxx⟩ := List.getElem?_eq_some_iff.1 hx
    exact ⟨h, k, hk, hxx, fun j hj => by rw [hn j _ hj (List.getElem?_eq_getElem (by omega))]; rfl⟩
  unfold rpickL
  rw [this]
theorem rpick_none {p m : Int} {l : List Int} (hl : [9, 19, 18] ++ listL p = l) (hn : ∀ (j : Nat) y, j < l.length → l[j]? = some y → okP p m y = false) : rpickL p m = (0, false) := by
  subst hl
  have : ([9, 19, 18] ++ listL p).find? (okP p m) = none := by
    rw [List.find?_eq_none]
    intro x hx
    obtain ⟨j, hj, rfl⟩ := List.getElem_of_mem hx
    rw [hn j _ hj (List.getElem?_eq_getElem hj)]
    decide
  unfold rpickL
  rw [this]
set_option maxRecDepth 100000 in
set_option maxHeartbeats 800000 in
theorem rpick_any (p m : Int) (w : World) (hp : U64 p) (hm : U64 m) : Calls Try.prog 27 #[.int .u64 p, .int .u64 m] w fun e w' => e = .returned (.tuple #[.int .i64 (rpickL p m).1, .bool (rpickL p m).2]) ∧ Ext w w' := by
  have HB := Lib.hid fun w' => rblock_any m w' hm
  have HL := Lib.hid fun w' => rlist_any p w' hp
  have HH := Lib.hid fun sig w' => rhas_any p sig w' hp
  have HH2 := Lib.hid fun sig w' => rhas_any (blockL m) sig w' (blockL_bd m)
  have hok0 : ∀ x, okP p m x = (hasL p x && !hasL (blockL m) x) := fun _ => rfl
  have HOK := Lib.hid hok0
  clear hok0
  have HS := Lib.hid fun l hl k x hx h hn => rpick_some (p := p) (m := m) (l := l) hl (k := k) (x := x) hx h hn
  have HN := Lib.hid fun l hl hn => rpick_none (p := p) (m := m) (l := l) hl hn
  have hll := listK_len p 29
  have hlo : listK p 29 = listL p := rfl
  rw [hlo] at hll
  generalize rpickL p m = r at *
  generalize blockL m = b at *
  generalize listL p = lp at *
  clear hp hm hlo
  go_enter Try.func27, Try.ntmps27
  go_wp2_with fail
  (with_reducible refine (HL.out _).mono ?_); rintro e w1 ⟨A1, c1, rfl, r1, E1⟩
  have R1 := Lib.hid r1
  have HBk := Lib.hid (Blk.ext (Blk.new w 3 #[.int .i64 9, .int .i64 19, .int .i64 18]) E1)
  have E01 : Ext w w1 := (by repeat (first | with_reducible exact Ext.refl _ | refine Ext.drewN ?_ _ | refine Ext.drew ?_ | refine Ext.alloc ?_ _ | assumption | (refine Below.trans ?_ (by assumption)) | (refine Ext.trans ?_ (by assumption)) | (refine Below.trans ?_ (Below.mono (by assumption) (by omega)))))
  have hlw : w.heap.size < w1.heap.size := HBk.out.lt
  clear r1
  have hOl : OwnS Ib 3 w.heap.size (fun _ => False) w1 (.slice (some ⟨w.heap.size, 0, none⟩) 3 3) [9, 19, 18] := OwnS.litB (A := fun _ => False) (RdE.ints (l := [9, 19, 18])) HBk.out (fun _ _ h => h.elim) (Nat.le_refl _) rfl (by decide)
  have HOl := Lib.hid hOl
  have hl3 : ([9, 19, 18] ++ lp).length = lp.length + 3 := by simp
  clear hOl
  go_wp2_with (at_builtin; refine wpList_app (e := Ib) (base := w.heap.size) (B := fun _ => False) (A := fun _ => False) rfl (.tmp 8) (.tmp 10) rfl Try.underlying23 info_i64 rfl HOl.out rfl (RI.y R1.out) rfl (fun _ _ h => h.elim) (N := lp.length + 3) (by simp; omega) (by simp [maxLen]; omega) (by omega) (by omega) ?_; intro A5 c5 w5 o5 M5 B5; have O5 := Lib.hid o5.rdT.ri; have E5 : Ext w w5 := Ext.trans_below E01 B5 (Nat.le_refl _); clear o5 M5 B5)
  have HSL := Lib.hid fun k x hx h hn => HS.out _ rfl k x hx h hn
  have HNL := Lib.hid fun hn => HN.out _ rfl hn
  generalize [9, 19, 18] ++ lp = l at *
  generalize hN : lp.length + 3 = N at *
  clear HS HN HOl HBk R1 E1
  go_loopw [13] (fun i wr => ∃ k : Nat, k ≤ N ∧ i = .int .i64 k ∧ Hid (∀ (j : Nat) y, j < k → l[j]? = some y → okP p m y = false) ∧ Ext w5 wr) (fun i _ => N - (intOf i).toNat)
  case atStart => exact ⟨0, by omega, rfl, Lib.hid fun j y hj => by omega, Ext.refl _⟩
  case round =>
    obtain ⟨k, hk, rfl, hj, hE⟩ := hrel
    by_cases hlt : k < N
    · have k1 : (k : Int) < (N : Int) := by omega
      have k2 : (0 : Int) ≤ (k : Int) := by omega
      have k3 : IntKind.i64.wrap ((k : Int) + 1) = (k : Int) + 1 := IntWalk.i64_in _ (by omega)
      obtain ⟨bb, off, x, rfl, hc, hx⟩ := RdN.icell (RdN.ext O5.out hE) (j := k) (by omega)
      have HJ := Lib.hid fun (h : okP p m x = false) (j : Nat) y (hjk : j < k + 1) (hy : l[j]? = some y) => show okP p m y = false by
        rcases Nat.lt_succ_iff_lt_or_eq.1 hjk with h1 | h1
        · exact hj.out j y h1 hy
        · rw [h1, hx.out] at hy
          cases hy
          exact h
      have HSk := Lib.hid fun h => HSL.out k x hx.out h hj.out
      have hok := HOK.out x
      have HOx := Lib.hid hok
      have h1 := Lib.hid fun w' => HH.out x w'
      have h2 := Lib.hid fun w' => HH2.out x w'
      clear hok
      cases hq : hasL p x
      · rw [hq] at h1 HOx
        go_wp2_with ((go_at_call 10; (with_reducible refine (h1.out _).mono ?_); rintro e w6 ⟨rfl, E6⟩))
        go_roundw
        case rel => exact ⟨k + 1, by omega, by first | rfl | go_num | simp, Lib.hid (HJ.out (by rw [HOx.out]; rfl)), hE.trans E6⟩
        case measure => first | (simp [intOf]; omega) | (show N - _ < _; simp [intOf]; omega)
      · rw [hq] at h1 HOx
        cases hq2 : hasL b x
        · rw [hq2] at h2 HOx
          have hr := HSk.out (by rw [HOx.out]; rfl)
          subst hr
          clear HSk HSL HNL
          go_wp2_with fail
          (with_reducible refine (h1.out _).mono ?_); rintro e w6 ⟨rfl, E6⟩
          go_wp2_with fail
          (with_reducible refine (HB.out _).mono ?_); rintro e w7 ⟨rfl, E7⟩
          go_wp2_with fail
          (with_reducible refine (h2.out _).mono ?_); rintro e w8 ⟨rfl, E8⟩
          go_wp2
          go_ret2
          exact ⟨rfl, E5.trans (hE.trans (by repeat (first | with_reducible exact Ext.refl _ | refine Ext.drewN ?_ _ | refine Ext.drew ?_ | refine Ext.alloc ?_ _ | assumption | (refine Below.trans ?_ (by assumption)) | (refine Ext.trans ?_ (by assumption)) | (refine Below.trans ?_ (Below.mono (by assumption) (by omega))))))⟩
        · rw [hq2] at h2 HOx
          go_wp2_with fail
          (with_reducible refine (h1.out _).mono ?_); rintro e w6 ⟨rfl, E6⟩
          go_wp2_with fail
          (with_reducible refine (HB.out _).mono ?_); rintro e w7 ⟨rfl, E7⟩
          go_wp2_with fail
          (with_reducible refine (h2.out _).mono ?_); rintro e w8 ⟨rfl, E8⟩
          go_wp2
          go_roundw
          case rel => exact ⟨k + 1, by omega, by first | rfl | go_num | simp, Lib.hid (HJ.out (by rw [HOx.out]; rfl)), hE.trans (by repeat (first | with_reducible exact Ext.refl _ | refine Ext.drewN ?_ _ | refine Ext.drew ?_ | refine Ext.alloc ?_ _ | assumption | (refine Below.trans ?_ (by assumption)) | (refine Ext.trans ?_ (by assumption)) | (refine Below.trans ?_ (Below.mono (by assumption) (by omega)))))⟩
          case measure => first | (simp [intOf]; omega) | (show N - _ < _; simp [intOf]; omega)
    · obtain rfl : k = N := by omega
      have hr := HNL.out fun j y hj2 hy => hj.out j y (by omega) hy
      subst hr
      go_wp2
      go_ret2
      exact ⟨rfl, E5.trans hE⟩
end Go.Proofs.Yteandiddfokfjaa
