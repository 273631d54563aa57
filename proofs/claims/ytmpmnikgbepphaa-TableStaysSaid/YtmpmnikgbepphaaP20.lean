/- Signals of a set: whether there is one, its bit, a set with it, whether a set has it; by contract. Conditions: none. -/
import Derived.Test.YtmpmnikgbepphaaN20
import Derived.Test.YtmpmnikgbepphaaBits
import Derived.Test.YtmpmnikgbepphaaChecked
import Derived.Laws.ShiftsVarLaws
import Derived.Laws.Shifts
namespace Go.Proofs.Ytmpmnikgbepphaa
open Go.RowKit Go.Kb Go.Kb.Bits

def namesB : List ByteArray := [⟨#[]⟩, ⟨#[72, 85, 80]⟩, ⟨#[73, 78, 84]⟩, ⟨#[81, 85, 73, 84]⟩, ⟨#[73, 76, 76]⟩, ⟨#[84, 82, 65, 80]⟩, ⟨#[65, 66, 82, 84]⟩, ⟨#[66, 85, 83]⟩, ⟨#[70, 80, 69]⟩, ⟨#[75, 73, 76, 76]⟩, ⟨#[85, 83, 82, 49]⟩, ⟨#[83, 69, 71, 86]⟩, ⟨#[85, 83, 82, 50]⟩, ⟨#[80, 73, 80, 69]⟩, ⟨#[65, 76, 82, 77]⟩, ⟨#[84, 69, 82, 77]⟩, ⟨#[]⟩, ⟨#[67, 72, 76, 68]⟩, ⟨#[67, 79, 78, 84]⟩, ⟨#[83, 84, 79, 80]⟩, ⟨#[84, 83, 84, 80]⟩, ⟨#[84, 84, 73, 78]⟩, ⟨#[84, 84, 79, 85]⟩, ⟨#[]⟩, ⟨#[]⟩, ⟨#[]⟩, ⟨#[]⟩, ⟨#[]⟩, ⟨#[87, 73, 78, 67, 72]⟩]
def nameB (k : Nat) : ByteArray := namesB.getD k ⟨#[]⟩
def namesA : Array Value := (namesB.map Value.string).toArray
def isL (sig : Int) : Bool := decide ((1 ≤ sig ∧ sig ≤ 15) ∨ (17 ≤ sig ∧ sig ≤ 22) ∨ sig = 28)
theorem isL_bd {sig : Int} (h : isL sig = true) : 1 ≤ sig ∧ sig ≤ 28 := by
  simp [isL] at h; omega
set_option maxRecDepth 100000 in
theorem index_names (k : Nat) (hk : k < 29) : ∀ w, (Instr.index 105 (.agg namesA) (.int .i64 (k : Int))).run Try.prog w = .ok (.string (nameB k)) w := by
  rcases k with _ | _ | _ | _ | _ | _ | _ | _ | _ | _ | _ | _ | _ | _ | _ | _ | _ | _ | _ | _ | _ | _ | _ | _ | _ | _ | _ | _ | _ | k
  all_goals first | exact fun w => by kernel_rfl | omega
set_option maxRecDepth 100000 in
theorem name_is (k : Nat) (hk : k < 29) : (nameB k).toList.isEmpty = !isL (k : Int) := by
  have : ∀ k : Nat, k < 29 → (nameB k).toList.isEmpty = !isL (k : Int) := by decide +kernel
  exact this k hk
set_option maxRecDepth 100000 in
theorem names_info : (Try.prog.info? 105).map (·.size) = some namesA.size := by kernel_rfl
set_option maxRecDepth 100000 in
theorem names_one : namesA.all (·.oneCell') = true := by kernel_rfl
set_option maxRecDepth 100000 in
theorem names_size : namesA.size = 29 := by kernel_rfl
set_option maxHeartbeats 800000 in
theorem names_any (w : World) : Calls Try.prog 71 #[] w fun e w' => e = .returned (.agg namesA) ∧ Ext w w' := by
  have hi := names_info
  have h1 := names_one
  have hz := names_size
  go_enter Try.func71, Try.ntmps71
  go_wp2_with (first
    | (refine wpList_build_eq rfl 105 _ rfl (L := namesA) (by kernel_rfl) ?_)
    | (refine wpList_store_A rfl 105 _ _ rfl w.heap.size _ rfl rfl 105 _ (Blk.at_ _ _ rfl) hi (by rw [hz]; rfl) h1 ?_; intro w2 H2 E2; have E2 : Ext w w2 := E2 w.heap.size w (by repeat (first | with_reducible exact Ext.refl _ | refine Ext.drewN ?_ _ | refine Ext.drew ?_ | refine Ext.alloc ?_ _ | assumption | (refine Below.trans ?_ (by assumption)) | (refine Ext.trans ?_ (by assumption)) | (refine Below.trans ?_ (Below.mono (by assumption) (by omega))))) (Nat.le_refl _)))
  refine bodyPost_ret_by (results_cell_row Try.results71 _ _ w.heap.size 105 _ _ _ rfl H2 Try.underlying105 rfl hi) rfl ?_
  exact ⟨rfl, E2⟩
set_option maxHeartbeats 800000 in
theorem sig_any (sig : Int) (w : World) : Calls Try.prog 70 #[.int .i64 sig] w fun e w' => e = .returned (.bool (isL sig)) ∧ Ext w w' := by
  by_cases h0 : 0 < sig
  · by_cases h28 : sig ≤ 28
    · obtain ⟨k, rfl⟩ := Int.eq_ofNat_of_zero_le (show 0 ≤ sig by omega)
      have hix := index_names k (by omega)
      have hnm := name_is k (by omega)
      generalize isL (k : Int) = r at *
      generalize nameB k = b at *
      go_enter Try.func70, Try.ntmps70
      have hN := fun w' => names_any w'
      generalize namesA = A at *
      go_wp2_with ((go_at_call 71; (with_reducible refine (hN _).mono ?_); rintro e w1 ⟨rfl, E1⟩))
      go_ret
      exact ⟨by simp, E1⟩
    · have hr : isL sig = false := by simp [isL]; omega
      rw [hr]
      go_enter Try.func70, Try.ntmps70
      go_wp2
      go_ret
      exact ⟨rfl, (by repeat (first | with_reducible exact Ext.refl _ | refine Ext.drewN ?_ _ | refine Ext.drew ?_ | refine Ext.alloc ?_ _ | assumption | (refine Below.trans ?_ (by assumption)) | (refine Ext.trans ?_ (by assumption)) | (refine Below.trans ?_ (Below.mono (by assumption) (by omega)))))⟩
  · have hr : isL sig = false := by simp [isL]; omega
    rw [hr]
    go_enter Try.func70, Try.ntmps70
    go_wp2
    go_ret
    exact ⟨rfl, (by repeat (first | with_reducible exact Ext.refl _ | refine Ext.drewN ?_ _ | refine Ext.drew ?_ | refine Ext.alloc ?_ _ | assumption | (refine Below.trans ?_ (by assumption)) | (refine Ext.trans ?_ (by assumption)) | (refine Below.trans ?_ (Below.mono (by assumption) (by omega)))))⟩
theorem sig_bd {sig : Int} (h : isL sig = true) : 0 ≤ sig ∧ sig ≤ 63 := by have := isL_bd h; omega
def bitL (sig : Int) : Int := if isL sig then pw sig else 0
def orL (s sig : Int) : Int := bits .or .u64 s (bitL sig)
def hasL (s sig : Int) : Bool := !(bits .and .u64 s (bitL sig) == 0)
theorem bit_any (sig : Int) (w : World) : Calls Try.prog 59 #[.int .i64 sig] w fun e w' => e = .returned (.int .u64 (bitL sig)) ∧ Ext w w' := by
  have HI := Lib.hid fun w' => sig_any sig w'
  unfold bitL
  cases hs : isL sig
  · rw [hs] at HI
    go_enter Try.func59, Try.ntmps59
    go_wp2_with ((go_at_call 70; (with_reducible refine (HI.out _).mono ?_); rintro e w1 ⟨rfl, E1⟩))
    go_ret
    exact ⟨rfl, (by repeat (first | with_reducible exact Ext.refl _ | refine Ext.drewN ?_ _ | refine Ext.drew ?_ | refine Ext.alloc ?_ _ | assumption | (refine Below.trans ?_ (by assumption)) | (refine Ext.trans ?_ (by assumption)) | (refine Below.trans ?_ (Below.mono (by assumption) (by omega)))))⟩
  · rw [hs] at HI
    obtain ⟨h1, h2⟩ := isL_bd hs
    have h4 : min sig.toNat 64 = sig.toNat := by omega
    have h5 : IntKind.u64.wrap (2 ^ sig.toNat) = pw sig := by
      have := pw_bd (sig_bd hs)
      unfold pw at *
      simp only [IntKind.wrap, IntKind.bits, IntKind.signed]
      simp
      omega
    go_enter Try.func59, Try.ntmps59
    go_wp2_with ((go_at_call 70; (with_reducible refine (HI.out _).mono ?_); rintro e w1 ⟨rfl, E1⟩))
    go_ret
    exact ⟨by simp, (by repeat (first | with_reducible exact Ext.refl _ | refine Ext.drewN ?_ _ | refine Ext.drew ?_ | refine Ext.alloc ?_ _ | assumption | (refine Below.trans ?_ (by assumption)) | (refine Ext.trans ?_ (by assumption)) | (refine Below.trans ?_ (Below.mono (by assumption) (by omega)))))⟩
set_option maxHeartbeats 800000 in
theorem has_any (s sig : Int) (w : World) : Calls Try.prog 32 #[.int .u64 s, .int .i64 sig] w fun e w' => e = .returned (.bool (hasL s sig)) ∧ Ext w w' := by
  have HB := Lib.hid fun w' => bit_any sig w'
  unfold hasL
  generalize bitL sig = b at *
  go_enter Try.func32, Try.ntmps32
  go_wp2_with ((go_at_call 59; (with_reducible refine (HB.out _).mono ?_); rintro e w1 ⟨rfl, E1⟩))
  go_ret
  exact ⟨rfl, (by repeat (first | with_reducible exact Ext.refl _ | refine Ext.drewN ?_ _ | refine Ext.drew ?_ | refine Ext.alloc ?_ _ | assumption | (refine Below.trans ?_ (by assumption)) | (refine Ext.trans ?_ (by assumption)) | (refine Below.trans ?_ (Below.mono (by assumption) (by omega)))))⟩
set_option maxHeartbeats 800000 in
theorem add_any (s sig : Int) (w : World) : Calls Try.prog 51 #[.int .u64 s, .int .i64 sig] w fun e w' => e = .returned (.int .u64 (orL s sig)) ∧ Ext w w' := by
  have HB := Lib.hid fun w' => bit_any sig w'
  unfold orL
  generalize bitL sig = b at *
  go_enter Try.func51, Try.ntmps51
  go_wp2_with ((go_at_call 59; (with_reducible refine (HB.out _).mono ?_); rintro e w1 ⟨rfl, E1⟩))
  go_ret
  exact ⟨rfl, (by repeat (first | with_reducible exact Ext.refl _ | refine Ext.drewN ?_ _ | refine Ext.drew ?_ | refine Ext.alloc ?_ _ | assumption | (refine Below.trans ?_ (by assumption)) | (refine Ext.trans ?_ (by assumption)) | (refine Below.trans ?_ (Below.mono (by assumption) (by omega)))))⟩
end Go.Proofs.Ytmpmnikgbepphaa
