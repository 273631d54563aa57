/- What is left of the flags when all are set off, as a fold: plain. No condition. -/
import Derived.Test.YtpngnmokagbekaaH08
namespace Go.Proofs.Ytpngnmokagbekaa
open Go.RowKit Go.Kb

/-- all flags, in order -/
def flagsAll : List Int := [30, 31, 32, 33, 34, 35, 36, 37, 38, 39, 40, 41, 42, 50, 51, 52, 53, 54, 55, 56, 57, 58, 59, 60, 61, 62, 70, 71, 72, 73, 74, 75, 90, 91, 92, 93]
def offF (f : Int) (l : List Int) : Int := l.foldl (fun f op => fset f op false) f
theorem offF_snoc (f : Int) (l : List Int) (op : Int) : offF f (l ++ [op]) = fset (offF f l) op false := by
  simp [offF, List.foldl_append]
theorem flagsAll_eq : flagsAll = ((List.range 64).map fun (j : Nat) => (30 : Int) + (j : Int)).filter flagL := by decide +kernel
theorem offT_f (t : Tm) : ∀ k, (offT k t).f = offF t.f (((List.range k).map fun (j : Nat) => (30 : Int) + (j : Int)).filter flagL)
  | 0 => rfl
  | k + 1 => by
    rw [List.range_succ, List.map_append, List.filter_append]
    show (setL (offT k t) (30 + k) false).f = _
    unfold setL
    by_cases h : flagL (30 + (k : Int)) = true
    · rw [if_pos h]
      simp only [List.map_cons, List.map_nil, List.filter_cons, List.filter_nil, h, if_true]
      rw [offF_snoc, ← offT_f t k]
    · rw [if_neg h]
      simp only [List.map_cons, List.map_nil, List.filter_cons, List.filter_nil, h]
      rw [offT_f t k]
      simp
theorem offT_all (t : Tm) : (offT 64 t).f = offF t.f flagsAll := by rw [offT_f, flagsAll_eq]
theorem flagsAll_flag : ∀ op ∈ flagsAll, flagL op = true := by decide
end Go.Proofs.Ytpngnmokagbekaa
