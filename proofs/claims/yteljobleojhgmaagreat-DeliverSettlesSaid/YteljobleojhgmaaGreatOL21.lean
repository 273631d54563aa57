/- A set with a signal, as the machine's word says it, by contract. No condition. -/
import Derived.Test.YteljobleojhgmaaGreatQ21
namespace Go.Proofs.YteljobleojhgmaaGreat
open Go.RowKit Go.Kb

def orL (s sig : Int) : Int := bits .or .u64 s (Sig.bitL sig)
theorem orL_add {s : Int} (h : Sig.U64 s) (sig : Int) : orL s sig = Sig.addL s sig := Sig.or_bit h sig
set_option maxHeartbeats 800000 in
theorem add_any (s sig : Int) (w : World) : Calls Tryz.prog 52 #[.int .u64 s, .int .i64 sig] w fun e w' => e = .returned (.int .u64 (orL s sig)) ∧ Ext w w' := by
  have HB := Lib.hid fun w' => Sig.bit_any sig w'
  unfold orL
  generalize Sig.bitL sig = b at *
  go_enter Tryz.func52, Tryz.ntmps52
  go_wp2_with ((go_at_call 53; (with_reducible refine (HB.out _).mono ?_); rintro e w1 ⟨rfl, E1⟩))
  go_ret
  exact ⟨rfl, (by repeat (first | with_reducible exact Ext.refl _ | refine Ext.drewN ?_ _ | refine Ext.drew ?_ | refine Ext.alloc ?_ _ | assumption | (refine Below.trans ?_ (by assumption)) | (refine Ext.trans ?_ (by assumption)) | (refine Below.trans ?_ (Below.mono (by assumption) (by omega)))))⟩
end Go.Proofs.YteljobleojhgmaaGreat
