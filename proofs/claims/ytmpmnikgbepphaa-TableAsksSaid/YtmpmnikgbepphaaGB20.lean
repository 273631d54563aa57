/- TableAsks: for every argument the law answers true, and leaves its arguments as they were. No condition. -/
import Derived.Test.YtmpmnikgbepphaaRows
import Derived.Test.YtmpmnikgbepphaaRA20
import Derived.Test.YtmpmnikgbepphaaFB20
namespace Go.Proofs.Ytmpmnikgbepphaa
open Go.RowKit Go.Kb Go.ChangeShapes Go.WideShapes Go.ChangeAt Go.Deep

set_option maxRecDepth 100000 in
theorem open_asked {H : Type} {enc : TypeId × Value → H} {W : World} {v : Value} {d : DataW H} {p : List MemPlace} {r : Reach} {b0 : Nat}
    (hok : Value.okWide Try.prog W r b0 60 v) (h : DataW.Trod enc Try.prog W 0 (fun _ => true) true 60 v d p) (hw : (d.weights Try.prog 60).all (· ≤ reachBytes) = true) :
    ∃ (Ad : Option Addr) (c : Nat) (l : List Pr) (nx pid g : Int) (q : Pr), v = .agg (askA Ad c l.length nx pid g q) ∧ RdY Rp (fun _ => True) W (.slice Ad l.length c) l ∧ (∀ p ∈ l, p.wf) ∧ q.ok ∧ q.wf := by
  obtain ⟨cs, rfl, hl, hf⟩ := open_fields Try.underlying60 hok h hw
  have cT : Try.prog.cellsOf 60 = 47 := by kernel_rfl
  rw [cT] at hl
  have f0 : FieldOpens enc Try.prog W cs.toList 24 0 := hf 0 _ rfl
  have f1 : FieldOpens enc Try.prog W cs.toList 3 2 := hf 1 _ rfl
  have f2 : FieldOpens enc Try.prog W cs.toList 3 3 := hf 2 _ rfl
  have f3 : FieldOpens enc Try.prog W cs.toList 58 4 := hf 3 _ rfl
  have hT : Opens enc Try.prog W 24 (Rep.pair (Rep.sl Rp) (Rep.int .i64)) (fun d => ((∀ x ∈ d.1, x.wf) ∧ d.1.length * Try.prog.bytesOf 58 ≤ 140737488351232) ∧ (Lit.int .i64 d.2).wf = true) :=
    opens_pair Try.underlying24 rfl rfl (by kernel_rfl) (by kernel_rfl) (by kernel_rfl) (opens_slice Try.underlying22 (by kernel_rfl) (opens_proc W)) (opens_int Try.underlying3)
  obtain ⟨⟨l, nx⟩, ⟨xs, ys, hxy, ⟨v, hv, hr⟩, hn⟩, hR, _⟩ := f0.opens hT (n := 2) (by kernel_rfl)
  obtain ⟨pid, hpid, _⟩ := f1.int Try.underlying3 (by kernel_rfl)
  obtain ⟨g, hg, _⟩ := f2.int Try.underlying3 (by kernel_rfl)
  obtain ⟨q, ⟨hq, hqok⟩, hqw⟩ := f3.opens (opens_proc W) (n := 43) (by kernel_rfl)
  obtain ⟨Ad, c, rfl, _, _⟩ := hr.shape
  have hn : ys = [.int .i64 nx] := hn
  have hv : xs = [.slice Ad l.length c] := hv
  rw [hv, hn, List.drop_zero] at hxy
  refine ⟨Ad, c, l, nx, pid, g, q, ?_, hr.y, hR.1, hqok, hqw⟩
  have hls : cs.toList.length = 47 := by simpa using hl
  have key : cs.toList = [.slice Ad l.length c, .int .i64 nx, .int .i64 pid, .int .i64 g] ++ q.cells := by
    rw [← hq]
    generalize cs.toList = L at *
    match L, hls with
    | a0 :: a1 :: a2 :: a3 :: r, hls =>
      simp at hxy hpid hg hls
      obtain ⟨h0, h1⟩ := hxy
      subst h0 h1 hpid hg
      show _ :: _ :: _ :: _ :: r = _ :: _ :: _ :: _ :: (r.take 43)
      rw [List.take_of_length_le (by omega)]
  unfold askA
  rw [← key]
set_option maxHeartbeats 800000 in
set_option maxRecDepth 100000 in
theorem tableAsks_lifted (os : Os) (started : os.Started) (H : Type) (enc : TypeId × Value → H) :
    ReturnsInHanded {} Try.checked os 6 .any (Rows.tableAsksSpec.pre6 enc Try.prog Try.f6 Rows.tableAsksRow.domain false) (Rows.tableAsksSpec.post enc Try.prog Try.f6 false true false false) := by
  refine returnsInHanded_of_change_sized (C := Try.checked) (by kernel_rfl) started (by kernel_rfl) Try.func6
    (ChangeSpec.witness6 (enc := enc) (C := Try.checked) false ⟨#[], #[.agg (askA none 0 0 0 0 0 zeroP)], []⟩ 8 (by kernel_rfl) (by kernel_rfl) (by kernel_rfl) (by kernel_rfl)) ?_
  intro W base args ds gs before hval0 hW _ hsz0 _
  have hsz : (DataW.weightsEach Try.prog (Try.f6.params.toList ++ Rows.tableAsksSpec.plain.varTypes Try.prog) (ds ++ gs)).all (· ≤ reachBytes) = true := hsz0
  clear hsz0
  have hval : ∀ (j : Nat) t v, Try.f6.params[j]? = some t → args[j]? = some v → Value.okWide Try.prog W .any base t v := hval0
  have hW' := hW
  obtain ⟨p, q, hA0, hV, rfl, _, _⟩ := hW
  have hA : DataW.TrodAll enc Try.prog W 0 (fun _ => true) true Try.f6.params.toList args.toList ds p := hA0
  rw [Try.params6] at hA hval hsz
  obtain ⟨rfl, rfl⟩ := trodVars_none hV
  have hkeep := hA
  have hlt : ∀ x ∈ p, x.block < W.heap.size := fun x hx => hW'.lt x (by simpa using hx)
  clear hA0 hval0
  obtain ⟨v0, vs0, d0, ds0, p0, q0, hargs, rfl, rfl, h0, r0⟩ := trodAll_cons hA
  obtain ⟨rfl, rfl, rfl⟩ := trodAll_nil r0
  obtain rfl : args = #[v0] := by cases args; simp_all
  simp only [List.cons_append, List.nil_append, DataW.weightsEach, List.all_append, Bool.and_eq_true] at hsz
  obtain ⟨Ad, c, l, nx, pid, g, q, rfl, hl, hwf, hqok, hqw⟩ := open_asked (hval 0 60 v0 rfl rfl) h0 hsz.1
  refine (tableAsks_walk Ad c l nx pid g q W hl hwf hqok hqw).mono fun e W' ⟨he, hE⟩ => ?_
  subst he
  exact ⟨_, rfl, _, _, _, [], _, [], hW', trodAll_mk1 (shut_bool Try.underlying4 _), trodAll_stays (by kernel_rfl) (by kernel_rfl) hkeep hE hlt, rfl, hE.frame _, fun h => by cases h⟩
/-- THE STATEMENT -/
theorem tableAsks_holds : Rows.TableAsksSaid :=
  OpenClaim.holds_of_wide 6 Try.f6 rfl rfl rfl rfl rfl rfl rfl ⟨rfl, rfl, rfl, rfl, rfl⟩ rfl rfl rfl rfl rfl (by kernel_rfl) Try.func6 (by kernel_rfl)
    (of_decide_eq_true (by kernel_rfl)) (by unfold Func.isWrapper; first | (rw [if_pos (by decide +kernel)]; kernel_rfl) | (rw [if_neg (by decide +kernel)]; exact ⟨rfl, rfl⟩))
    (fun os started H enc _ => tableAsks_lifted os started H enc)
end Go.Proofs.Ytmpmnikgbepphaa
