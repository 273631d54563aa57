/- Written by chain.py of J18[arrV,arrV_size,arrV_at]@Sig K18[-ract_any]@Sig L18[onL_andNot,andNot_bd,openL,openL_bd,hasL_open,pickL]@Sig M18[-rpick_some,-rpick_none,-rpick_any]@Sig. No condition. -/
import Derived.Test.YteljobleojhgmaaGreatG21
namespace Go.Proofs.YteljobleojhgmaaGreat.Sig
open Go.RowKit Go.Kb Go.Kb.Bits

def arrV (a : List Int) : Array Value := (a.map (Value.int .i64)).toArray
theorem arrV_size {a : List Int} (h : a.length = 32) : (arrV a).size = 32 := by simp [arrV, h]
theorem arrV_at {a : List Int} {k : Nat} (h : k < a.length) : (arrV a)[k]? = some (.int .i64 (a.getD k 0)) := by
  simp [arrV, h]
end Go.Proofs.YteljobleojhgmaaGreat.Sig
namespace Go.Proofs.YteljobleojhgmaaGreat.Sig
open Go.RowKit Go.Kb Go.Kb.Bits

def effL (a : List Int) (sig : Int) : Int := if !isL sig then 0 else if sig == 9 || sig == 19 then doesL sig else if a.getD sig.toNat 0 = 1 then (if sig = 18 then 5 else 3) else if a.getD sig.toNat 0 = 2 then 6 else doesL sig
set_option maxRecDepth 100000 in
set_option maxHeartbeats 800000 in
theorem effect_any (a : List Int) (sig : Int) (w : World) (ha : a.length = 32) : Calls Tryz.prog 55 #[.agg (arrV a), .int .i64 sig] w fun e w' => e = .returned (.int .i64 (effL a sig)) ∧ Ext w w' := by
  have HI := Lib.hid fun w' => is_any sig w'
  have HS := Lib.hid fun w' => sure_any sig w'
  have heff : effL a sig = if !isL sig then 0 else if sig == 9 || sig == 19 then doesL sig else if a.getD sig.toNat 0 = 1 then (if sig = 18 then 5 else 3) else if a.getD sig.toNat 0 = 2 then 6 else doesL sig := rfl
  obtain ⟨x, hxx⟩ : ∃ x, a.getD sig.toNat 0 = x := ⟨_, rfl⟩
  rw [hxx] at heff
  have HT := Lib.hid fun h w' => itself_any sig w' h
  have hat : ∀ k : Nat, k < 32 → (arrV a)[k]? = some (.int .i64 (a.getD k 0)) := fun k hk => arrV_at (by omega)
  have hz := arrV_size ha
  have h18 : sig = 18 → doesL sig = 5 := by rintro rfl; decide +kernel
  generalize effL a sig = ef at *
  have hbd : isL sig = true → 1 ≤ sig ∧ sig ≤ 28 := isL_bd
  generalize doesL sig = ds at *
  generalize isL sig = il at *
  generalize arrV a = cs at *
  have hB := Blk.new w 40 cs
  cases il
  · have he : ef = 0 := by rw [heff]; rfl
    subst he
    clear heff hat HT
    go_enter Tryz.func55, Tryz.ntmps55
    go_wp2_with ((go_at_call 68; (with_reducible refine (HI.out _).mono ?_); rintro e w1 ⟨rfl, E1⟩))
    go_ret
    exact ⟨rfl, (by repeat (first | with_reducible exact Ext.refl _ | refine Ext.drewN ?_ _ | refine Ext.drew ?_ | refine Ext.alloc ?_ _ | assumption | (refine Below.trans ?_ (by assumption)) | (refine Ext.trans ?_ (by assumption)) | (refine Below.trans ?_ (Below.mono (by assumption) (by omega)))))⟩
  · obtain ⟨hs1, hs2⟩ := hbd rfl
    have HTT := Lib.hid fun w' => HT.out rfl w'
    cases hsu : (sig == 9 || sig == 19)
    · rw [hsu] at heff HS
      simp only [Bool.not_true, Bool.false_eq_true, if_false] at heff
      obtain ⟨k, rfl⟩ := Int.eq_ofNat_of_zero_le (show 0 ≤ sig by omega)
      have hxk : a.getD k 0 = x := hxx
      have hc := hB.cell k
      rw [hat k (by omega), hxk] at hc
      have hlt : w.heap.size < (w.alloc (.cells cs 40)).heap.size := by simp
      have HC := Lib.hid fun w' (h : Ext (w.alloc (.cells cs 40)) w') => cell_ext h hc
      have k1 : (k : Int) < 32 := by omega
      have k2 : (0 : Int) ≤ (k : Int) := by omega
      clear hat hc hbd HT hsu hlt hxx hxk
      by_cases h1 : x = 1
      · subst h1
        rw [if_pos rfl] at heff
        by_cases hk : k = 18
        · have h5 := h18 (by omega)
          subst h5
          rw [if_pos (by omega)] at heff
          have b18 : ((k : Int) == 18) = true := by rw [beq_iff_eq]; omega
          subst heff
          clear h18 hk
          go_enter Tryz.func55, Tryz.ntmps55
          go_wp2_with fail
          (with_reducible refine (HI.out _).mono ?_); rintro e w1 ⟨rfl, E1⟩
          go_wp2_with fail
          (with_reducible refine (HS.out _).mono ?_); rintro e w2 ⟨rfl, E2⟩
          have c := HC.out w2 (Ext.trans E1 E2)
          go_wp2_with fail
          (with_reducible refine (HTT.out _).mono ?_); rintro e w3 ⟨rfl, E3⟩
          go_wp2
          go_ret
          exact ⟨rfl, (by repeat (first | with_reducible exact Ext.refl _ | refine Ext.drewN ?_ _ | refine Ext.drew ?_ | refine Ext.alloc ?_ _ | assumption | (refine Below.trans ?_ (by assumption)) | (refine Ext.trans ?_ (by assumption)) | (refine Below.trans ?_ (Below.mono (by assumption) (by omega)))))⟩
        · rw [if_neg (by omega)] at heff
          have b18 : ((k : Int) == 18) = false := by rw [beq_eq_false_iff_ne]; omega
          subst heff
          clear h18 hk
          go_enter Tryz.func55, Tryz.ntmps55
          go_wp2_with fail
          (with_reducible refine (HI.out _).mono ?_); rintro e w1 ⟨rfl, E1⟩
          go_wp2_with fail
          (with_reducible refine (HS.out _).mono ?_); rintro e w2 ⟨rfl, E2⟩
          have c := HC.out w2 (Ext.trans E1 E2)
          go_wp2
          go_ret
          exact ⟨rfl, (by repeat (first | with_reducible exact Ext.refl _ | refine Ext.drewN ?_ _ | refine Ext.drew ?_ | refine Ext.alloc ?_ _ | assumption | (refine Below.trans ?_ (by assumption)) | (refine Ext.trans ?_ (by assumption)) | (refine Below.trans ?_ (Below.mono (by assumption) (by omega)))))⟩
      · have b1 : (x == 1) = false := by simpa using h1
        rw [if_neg h1] at heff
        clear h1 h18
        by_cases h2 : x = 2
        · subst h2
          rw [if_pos rfl] at heff
          subst heff
          go_enter Tryz.func55, Tryz.ntmps55
          go_wp2_with fail
          (with_reducible refine (HI.out _).mono ?_); rintro e w1 ⟨rfl, E1⟩
          go_wp2_with fail
          (with_reducible refine (HS.out _).mono ?_); rintro e w2 ⟨rfl, E2⟩
          have c := HC.out w2 (Ext.trans E1 E2)
          go_wp2
          go_ret
          exact ⟨rfl, (by repeat (first | with_reducible exact Ext.refl _ | refine Ext.drewN ?_ _ | refine Ext.drew ?_ | refine Ext.alloc ?_ _ | assumption | (refine Below.trans ?_ (by assumption)) | (refine Ext.trans ?_ (by assumption)) | (refine Below.trans ?_ (Below.mono (by assumption) (by omega)))))⟩
        · have b2 : (x == 2) = false := by simpa using h2
          rw [if_neg h2] at heff
          subst heff
          clear h2
          go_enter Tryz.func55, Tryz.ntmps55
          go_wp2_with fail
          (with_reducible refine (HI.out _).mono ?_); rintro e w1 ⟨rfl, E1⟩
          go_wp2_with fail
          (with_reducible refine (HS.out _).mono ?_); rintro e w2 ⟨rfl, E2⟩
          have c := HC.out w2 (Ext.trans E1 E2)
          go_wp2_with fail
          (with_reducible refine (HTT.out _).mono ?_); rintro e w3 ⟨rfl, E3⟩
          go_wp2
          go_ret
          exact ⟨rfl, (by repeat (first | with_reducible exact Ext.refl _ | refine Ext.drewN ?_ _ | refine Ext.drew ?_ | refine Ext.alloc ?_ _ | assumption | (refine Below.trans ?_ (by assumption)) | (refine Ext.trans ?_ (by assumption)) | (refine Below.trans ?_ (Below.mono (by assumption) (by omega)))))⟩
    · rw [hsu] at heff HS
      simp only [Bool.not_true, Bool.false_eq_true, if_false, if_true] at heff
      subst heff
      clear hat h18 hsu HT hbd hxx
      go_enter Tryz.func55, Tryz.ntmps55
      go_wp2_with (first | ((go_at_call 68; (with_reducible refine (HI.out _).mono ?_); rintro e w1 ⟨rfl, E1⟩)) | ((go_at_call 84; (with_reducible refine (HS.out _).mono ?_); rintro e w2 ⟨rfl, E2⟩)) | ((go_at_call 85; (with_reducible refine (HTT.out _).mono ?_); rintro e w3 ⟨rfl, E3⟩)))
      go_ret
      exact ⟨rfl, (by repeat (first | with_reducible exact Ext.refl _ | refine Ext.drewN ?_ _ | refine Ext.drew ?_ | refine Ext.alloc ?_ _ | assumption | (refine Below.trans ?_ (by assumption)) | (refine Ext.trans ?_ (by assumption)) | (refine Below.trans ?_ (Below.mono (by assumption) (by omega)))))⟩
end Go.Proofs.YteljobleojhgmaaGreat.Sig
namespace Go.Proofs.YteljobleojhgmaaGreat.Sig
open Go.RowKit Go.Kb Go.Kb.Bits

theorem onL_andNot {f g x : Int} (hf : U64 f) (hg : U64 g) (hx : 0 ≤ x ∧ x ≤ 63) : onL (bits .andNot .u64 f g) x = (onL f x && !onL g x) := by
  rw [u64_andNot f g hf.1 hf.2 hg.1 hg.2]
  obtain ⟨X, rfl⟩ := Int.eq_ofNat_of_zero_le hf.1
  obtain ⟨Y, rfl⟩ := Int.eq_ofNat_of_zero_le hg.1
  have hY : Y < 2 ^ 64 := by have := hg.2; omega
  rw [onL_bit, onL_bit, Int.toNat_natCast, Int.toNat_natCast, onL_bit, Nat.testBit_and]
  have e : (18446744073709551615 - Y) = 2 ^ 64 - (Y + 1) := by omega
  rw [e, Nat.testBit_two_pow_sub_succ hY]
  have hi : x.toNat < 64 := by omega
  simp [hi]
theorem andNot_bd {f g : Int} (hf : U64 f) (hg : U64 g) : U64 (bits .andNot .u64 f g) := by
  rw [u64_andNot f g hf.1 hf.2 hg.1 hg.2]
  have := Nat.and_le_left (n := f.toNat) (m := 18446744073709551615 - g.toNat)
  have := hf.2
  constructor <;> omega
def openL (p m : Int) : Int := bits .andNot .u64 p (blockL m)
theorem openL_bd {p : Int} (hp : U64 p) (m : Int) : U64 (openL p m) := andNot_bd hp (blockL_bd m)
theorem hasL_open {p : Int} (hp : U64 p) (m x : Int) : hasL (openL p m) x = (hasL p x && !hasL (blockL m) x) := by
  unfold hasL
  cases hx : isL x
  · simp
  · simp only [Bool.true_and]
    exact onL_andNot hp (blockL_bd m) (sig_bd hx)
def pickL (p m : Int) : Int × Bool :=
  if hasL (openL p m) 9 then (9, true) else if hasL (openL p m) 19 then (19, true) else if hasL (openL p m) 18 then (18, true) else
  match listL (openL p m) with | x :: _ => (x, true) | [] => (0, false)
end Go.Proofs.YteljobleojhgmaaGreat.Sig
namespace Go.Proofs.YteljobleojhgmaaGreat.Sig
open Go.RowKit Go.Kb Go.Kb.Bits

def first3 (k : Nat) : Int := if k = 0 then 9 else if k = 1 then 19 else 18
set_option maxRecDepth 100000 in
theorem index_first (k : Nat) (hk : k < 3) : ∀ w, (Instr.index 68 (.agg #[.int .i64 9, .int .i64 19, .int .i64 18]) (.int .i64 (k : Int))).run Tryz.prog w = .ok (.int .i64 (first3 k)) w := by
  rcases k with _ | _ | _ | k
  all_goals first | exact fun w => by kernel_rfl | omega
theorem pick_some {p m : Int} {k : Nat} (hk : k < 3) (h : hasL (openL p m) (first3 k) = true) (hn : ∀ j : Nat, j < k → hasL (openL p m) (first3 j) = false) : pickL p m = (first3 k, true) := by
  have h0 : 0 < k → hasL (openL p m) 9 = false := fun hj => hn 0 hj
  have h1 : 1 < k → hasL (openL p m) 19 = false := fun hj => hn 1 hj
  unfold pickL
  rcases k with _ | _ | _ | k
  · have h : hasL (openL p m) 9 = true := h
    rw [if_pos h]; rfl
  · have h : hasL (openL p m) 19 = true := h
    rw [if_neg (by rw [h0 (by omega)]; decide), if_pos h]; rfl
  · have h : hasL (openL p m) 18 = true := h
    rw [if_neg (by rw [h0 (by omega)]; decide), if_neg (by rw [h1 (by omega)]; decide), if_pos h]; rfl
  · omega
theorem pick_rest {p m : Int} (hn : ∀ j : Nat, j < 3 → hasL (openL p m) (first3 j) = false) : pickL p m = match listL (openL p m) with | x :: _ => (x, true) | [] => (0, false) := by
  have h0 : hasL (openL p m) 9 = false := hn 0 (by omega)
  have h1 : hasL (openL p m) 19 = false := hn 1 (by omega)
  have h2 : hasL (openL p m) 18 = false := hn 2 (by omega)
  unfold pickL
  rw [h0, h1, h2]
  cases listL (openL p m) <;> rfl
set_option maxRecDepth 100000 in
set_option maxHeartbeats 800000 in
theorem pick_any (p m : Int) (w : World) (hp : U64 p) (hm : U64 m) : Calls Tryz.prog 12 #[.int .u64 p, .int .u64 m] w fun e w' => e = .returned (.tuple #[.int .i64 (pickL p m).1, .bool (pickL p m).2]) ∧ Ext w w' := by
  have HB := Lib.hid fun w' => block_any m w' hm
  have hop : bits .andNot .u64 p (blockL m) = openL p m := rfl
  have HS := Lib.hid fun k hk h hn => pick_some (p := p) (m := m) (k := k) hk h hn
  have HR := Lib.hid fun hn => pick_rest (p := p) (m := m) hn
  have hob := openL_bd hp m
  have HH := Lib.hid fun sig w' => has_any (openL p m) sig w' hob
  have HLI := Lib.hid fun w' => list_any (openL p m) w' hob
  generalize pickL p m = r at *
  generalize openL p m = o at *
  generalize blockL m = b at *
  clear hp hm hob
  go_enter Tryz.func12, Tryz.ntmps12
  go_wp2_with ((go_at_call 27; (with_reducible refine (HB.out _).mono ?_); rintro e w1 ⟨rfl, E1⟩))
  go_loopw [15] (fun i wr => ∃ k : Nat, k ≤ 3 ∧ i = .int .i64 k ∧ Hid (∀ j : Nat, j < k → hasL o (first3 j) = false) ∧ Ext w1 wr) (fun i _ => 3 - (intOf i).toNat)
  case atStart => exact ⟨0, by omega, rfl, Lib.hid fun j hj => by omega, Ext.refl _⟩
  case round =>
    obtain ⟨k, hk, rfl, hj, hE⟩ := hrel
    by_cases hlt : k < 3
    · have k1 : (k : Int) < 3 := by omega
      have k2 : (0 : Int) ≤ (k : Int) := by omega
      have hix := index_first k hlt
      have hH := Lib.hid fun w' => HH.out (first3 k) w'
      have HJ := Lib.hid fun (h : hasL o (first3 k) = false) (j : Nat) (hjk : j < k + 1) => show hasL o (first3 j) = false by
        rcases Nat.lt_succ_iff_lt_or_eq.1 hjk with h1 | h1
        · exact hj.out j h1
        · rw [h1]; exact h
      have HSk := Lib.hid fun h => HS.out k hlt h hj.out
      generalize first3 k = x at *
      cases hq : hasL o x
      · rw [hq] at hH
        go_wp2_with ((go_at_call 21; (with_reducible refine (hH.out _).mono ?_); rintro e w2 ⟨rfl, E2⟩))
        go_roundw
        case rel => exact ⟨k + 1, by omega, by first | rfl | go_num | simp, Lib.hid (HJ.out hq), hE.trans E2⟩
        case measure => first | (simp [intOf]; omega) | (show 3 - _ < _; simp [intOf]; omega)
      · rw [hq] at hH
        have hr := HSk.out hq
        subst hr
        clear HS HR HSk
        go_wp2_with ((go_at_call 21; (with_reducible refine (hH.out _).mono ?_); rintro e w2 ⟨rfl, E2⟩))
        go_ret2
        exact ⟨rfl, E1.trans (hE.trans E2)⟩
    · obtain rfl : k = 3 := by omega
      have hr := HR.out hj.out
      clear HS HR
      go_wp2_with fail
      (with_reducible refine (HLI.out _).mono ?_); rintro e w2 ⟨A2, c2, rfl, r2, E2⟩
      cases hl : listL o with
      | nil =>
        rw [hl] at hr
        simp only at hr
        subst hr
        simp only [List.length_nil]
        go_wp2
        go_ret2
        exact ⟨rfl, E1.trans (hE.trans E2)⟩
      | cons x xs =>
        rw [hl] at hr r2
        simp only at hr
        subst hr
        have hlen := listK_len o 29
        have hlo : listK o 29 = listL o := rfl
        rw [hlo, hl] at hlen
        obtain ⟨bb, off, y, rfl, hc, hx⟩ := RdN.icell r2 (j := 0) (by simp)
        have hxy : x = y := by have := hx.out; simpa using this
        subst hxy
        rw [Nat.add_zero] at hc
        clear r2 hx
        generalize hN : (x :: xs).length = N at *
        have hN0 : 0 < N := by rw [← hN]; simp
        clear hN hl hlo
        have n0 : (0 : Int) < (N : Int) := by omega
        go_wp2
        go_ret2
        exact ⟨rfl, E1.trans (hE.trans E2)⟩
end Go.Proofs.YteljobleojhgmaaGreat.Sig
