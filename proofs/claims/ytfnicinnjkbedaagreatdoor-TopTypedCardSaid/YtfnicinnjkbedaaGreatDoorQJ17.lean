/- A line discipline finds no signal in a character, by contract. Conditions: the discipline is one, the character sends none. -/
import Derived.Test.YtfnicinnjkbedaaGreatDoorQI17
namespace Go.Proofs.YtfnicinnjkbedaaGreatDoor
open Go.RowKit Go.Kb
set_option maxRecDepth 100000

abbrev sgA : Array Value := #[.int .i64 1, .int .i64 2, .int .i64 2, .int .i64 3, .int .i64 10, .int .i64 20]
set_option maxHeartbeats 400000 in
theorem signals_any (w : World) : Calls Tryz.prog 89 #[] w fun e w' => e = .returned (.agg sgA) ∧ Ext w w' := by
  go_enter Tryz.func89, Tryz.ntmps89
  go_wp2
  refine bodyPost_ret (v := .agg sgA) (by simp [results, Tryz.results89, go_sem]) rfl ?_
  exact ⟨rfl, (by repeat (first | with_reducible exact Ext.refl _ | refine Ext.drewN ?_ _ | refine Ext.drew ?_ | refine Ext.alloc ?_ _ | assumption | (refine Below.trans ?_ (by assumption)) | (refine Ext.trans ?_ (by assumption)) | (refine Below.trans ?_ (Below.mono (by assumption) (by omega)))))⟩
theorem sg_i0 (w : World) : (Instr.index 145 (.agg sgA) (.int .i64 0)).run Tryz.prog w = .ok (.agg #[.int .i64 1, .int .i64 2]) w := by kernel_rfl
theorem sg_i1 (w : World) : (Instr.index 145 (.agg sgA) (.int .i64 1)).run Tryz.prog w = .ok (.agg #[.int .i64 2, .int .i64 3]) w := by kernel_rfl
theorem sg_i2 (w : World) : (Instr.index 145 (.agg sgA) (.int .i64 2)).run Tryz.prog w = .ok (.agg #[.int .i64 10, .int .i64 20]) w := by kernel_rfl
/-- the characters and their signals -/
def sgO (k : Nat) : Int × Int := match k with | 0 => (1, 2) | 1 => (2, 3) | _ => (10, 20)
theorem sg_index (k : Nat) (hk : k < 3) (w : World) : (Instr.index 145 (.agg sgA) (.int .i64 k)).run Tryz.prog w = .ok (.agg #[.int .i64 (sgO k).1, .int .i64 (sgO k).2]) w := by
  match k, hk with
  | 0, _ => exact sg_i0 w
  | 1, _ => exact sg_i1 w
  | 2, _ => exact sg_i2 w
set_option maxHeartbeats 800000 in
theorem signal_none {S : Nat → Prop} {g : Nat} (d : Ds) (c : Int) (w : World) (h : Dsc S g w d) (h1 : isL d.t 1 c = false) (h2 : isL d.t 2 c = false) (h10 : isL d.t 10 c = false) :
    Calls Tryz.prog 45 #[.pointer (some ⟨g, 0, none⟩), .int .u8 c] w fun e w' => e = .returned (.int .i64 0) ∧ Ext w w' := by
  have HD := Lib.hid h
  have HH := Lib.hid (fun w' h => dhas_any (S := S) (g := g) d 50 w' h)
  have HI : ∀ k, k < 3 → ∀ w', Dsc S g w' d → Calls Tryz.prog 90 #[.pointer (some ⟨g, 0, none⟩), .int .i64 (sgO k).1, .int .u8 c] w' fun e w'' => e = .returned (.bool false) ∧ Ext w' w'' := by
    intro k hk w' h'
    match k, hk with
    | 0, _ => have := dis_any (S := S) (g := g) d 1 c w' h'; rw [h1] at this; exact this
    | 1, _ => have := dis_any (S := S) (g := g) d 2 c w' h'; rw [h2] at this; exact this
    | 2, _ => have := dis_any (S := S) (g := g) d 10 c w' h'; rw [h10] at this; exact this
  have HI := Lib.hid HI
  clear h h1 h2 h10
  obtain ⟨q, hq⟩ : ∃ q, hasL d.t 50 = q := ⟨_, rfl⟩
  rw [hq] at HH
  clear hq
  have hsg := sg_index
  obtain ⟨A, hA⟩ : ∃ A, sgA = A := ⟨_, rfl⟩
  have hsa := signals_any
  rw [hA] at hsg hsa
  have HSA := Lib.hid hsa
  have HSG := Lib.hid hsg
  clear hA hsa hsg
  go_enter Tryz.func45, Tryz.ntmps45
  go_wp2_with fail
  refine (HH.out _ (HD.out.ext (by repeat (first | with_reducible exact Ext.refl _ | refine Ext.drewN ?_ _ | refine Ext.drew ?_ | refine Ext.alloc ?_ _ | assumption | (refine Below.trans ?_ (by assumption)) | (refine Ext.trans ?_ (by assumption)) | (refine Below.trans ?_ (Below.mono (by assumption) (by omega))))))).mono ?_
  rintro e w1 ⟨rfl, E1⟩
  cases q with
  | false =>
    go_wp2
    go_ret
    exact ⟨rfl, (by repeat (first | with_reducible exact Ext.refl _ | refine Ext.drewN ?_ _ | refine Ext.drew ?_ | refine Ext.alloc ?_ _ | assumption | (refine Below.trans ?_ (by assumption)) | (refine Ext.trans ?_ (by assumption)) | (refine Below.trans ?_ (Below.mono (by assumption) (by omega)))))⟩
  | true =>
    go_wp2_with fail
    refine (HSA.out _).mono ?_
    rintro e w2 ⟨rfl, E2⟩
    have E02 : Ext w w2 := (by repeat (first | with_reducible exact Ext.refl _ | refine Ext.drewN ?_ _ | refine Ext.drew ?_ | refine Ext.alloc ?_ _ | assumption | (refine Below.trans ?_ (by assumption)) | (refine Ext.trans ?_ (by assumption)) | (refine Below.trans ?_ (Below.mono (by assumption) (by omega)))))
    clear E1 E2
    go_wp2
    go_loopw [10] (fun i wr => ∃ k : Nat, k ≤ 3 ∧ i = .int .i64 k ∧ Ext w wr) (fun i _ => 3 - (intOf i).toNat)
    case atStart => exact ⟨0, by omega, rfl, E02⟩
    case round =>
      obtain ⟨k, hk, rfl, hE⟩ := hrel
      by_cases hlt : k < 3
      · have hx := HSG.out k hlt
        obtain ⟨x0, hx0⟩ : ∃ x, (sgO k).1 = x := ⟨_, rfl⟩
        obtain ⟨x1, hx1⟩ : ∃ x, (sgO k).2 = x := ⟨_, rfl⟩
        have HX := Lib.hid (HI.out k hlt)
        rw [hx0] at HX
        rw [hx0, hx1] at hx
        clear hx0 hx1
        go_wp2_with fail
        refine (HX.out _ (HD.out.ext (by repeat (first | with_reducible exact Ext.refl _ | refine Ext.drewN ?_ _ | refine Ext.drew ?_ | refine Ext.alloc ?_ _ | assumption | (refine Below.trans ?_ (by assumption)) | (refine Ext.trans ?_ (by assumption)) | (refine Below.trans ?_ (Below.mono (by assumption) (by omega))))))).mono ?_
        rintro e w3 ⟨rfl, E3⟩
        have E03 : Ext w w3 := (by repeat (first | with_reducible exact Ext.refl _ | refine Ext.drewN ?_ _ | refine Ext.drew ?_ | refine Ext.alloc ?_ _ | assumption | (refine Below.trans ?_ (by assumption)) | (refine Ext.trans ?_ (by assumption)) | (refine Below.trans ?_ (Below.mono (by assumption) (by omega)))))
        go_wp2
        go_roundw
        case rel => exact ⟨k + 1, by omega, by go_num, E03⟩
        case measure => simp [intOf]; omega
      · obtain rfl : k = 3 := by omega
        go_wp2
        go_ret
        exact ⟨rfl, (by repeat (first | with_reducible exact Ext.refl _ | refine Ext.drewN ?_ _ | refine Ext.drew ?_ | refine Ext.alloc ?_ _ | assumption | (refine Below.trans ?_ (by assumption)) | (refine Ext.trans ?_ (by assumption)) | (refine Below.trans ?_ (Below.mono (by assumption) (by omega)))))⟩
end Go.Proofs.YtfnicinnjkbedaaGreatDoor
