/- A process of the program as the document's, by contract. No condition. -/
import Derived.Test.YtmpmnikgbepphaaCA20
namespace Go.Proofs.Ytmpmnikgbepphaa
open Go.RowKit Go.Kb

theorem i43r : (Try.prog.info? 58).map (·.size) = some 43 := by kernel_rfl
theorem i43r' {p : Pr} (h : p.ok) : (Try.prog.info? 58).map (·.size) = some p.cells.length := by rw [Pr.len h]; exact i43r
theorem i32r {p : Pr} (h : p.ok) : (Try.prog.info? 40).map (·.size) = some (p.acts.map (Value.int .i64)).length := by
  rw [List.length_map, show p.acts.length = 32 from h]
  kernel_rfl
theorem zero_rowR (w : World) (n : Nat) (hn : w.heap.size = n) : Blk (w.alloc (.cells #[.int .i64 0, .int .i64 0, .int .i64 0, .int .i64 0, .int .i64 0, .int .i64 0, .int .i64 0, .int .u64 0, .int .u64 0, .int .i64 0, .int .i64 0, .int .i64 0, .int .i64 0, .int .i64 0, .int .i64 0, .int .i64 0, .int .i64 0, .int .i64 0, .int .i64 0, .int .i64 0, .int .i64 0, .int .i64 0, .int .i64 0, .int .i64 0, .int .i64 0, .int .i64 0, .int .i64 0, .int .i64 0, .int .i64 0, .int .i64 0, .int .i64 0, .int .i64 0, .int .i64 0, .int .i64 0, .int .i64 0, .int .i64 0, .int .i64 0, .int .i64 0, .int .i64 0, .int .i64 0, .int .i64 0, .int .i64 0, .bool false] 58)) n 58 zeroP.cells.toArray := Blk.at_ _ _ hn
theorem from_built {p : Pr} (h : p.ok) : Try.prog.built 58 [(0, .int .i64 p.pid), (1, .int .i64 p.parent), (2, .int .i64 p.group), (3, .int .i64 p.session), (4, .int .i64 p.state), (5, .int .i64 p.prog), (6, .int .i64 p.pc), (7, .int .u64 p.pending), (8, .int .u64 p.mask), (9, .agg (p.acts.map (Value.int .i64)).toArray), (10, .int .i64 p.status), (11, .bool p.told)] = some p.cells.toArray := by
  unfold Pr.ok at h
  obtain ⟨pid0, parent, group, session, state, prog0, pc, pending, mask, acts, status, told⟩ := p
  simp only at h
  match acts, h with
  | [x0, x1, x2, x3, x4, x5, x6, x7, x8, x9, x10, x11, x12, x13, x14, x15, x16, x17, x18, x19, x20, x21, x22, x23, x24, x25, x26, x27, x28, x29, x30, x31], _ => (show Try.prog.built _ _ = some _; kernel_rfl)
theorem to_built {p : Pr} (h : p.ok) : Try.prog.built 43 [(0, .int .i64 p.pid), (1, .int .i64 p.parent), (2, .int .i64 p.group), (3, .int .i64 p.session), (4, .int .i64 p.state), (5, .int .i64 p.prog), (6, .int .i64 p.pc), (7, .int .u64 p.pending), (8, .int .u64 p.mask), (9, .agg (p.acts.map (Value.int .i64)).toArray), (10, .int .i64 p.status), (11, .bool p.told)] = some p.cells.toArray := by
  unfold Pr.ok at h
  obtain ⟨pid0, parent, group, session, state, prog0, pc, pending, mask, acts, status, told⟩ := p
  simp only at h
  match acts, h with
  | [x0, x1, x2, x3, x4, x5, x6, x7, x8, x9, x10, x11, x12, x13, x14, x15, x16, x17, x18, x19, x20, x21, x22, x23, x24, x25, x26, x27, x28, x29, x30, x31], _ => (show Try.prog.built _ _ = some _; kernel_rfl)
set_option maxRecDepth 100000 in
set_option maxHeartbeats 800000 in
theorem fromproc_any (p : Pr) (w : World) (hok : p.ok) :
    Calls Try.prog 23 #[.agg p.cells.toArray] w fun e w' => e = .returned (.agg p.cells.toArray) ∧ Ext w w' := by
  have hp3 := (pr_new w 43 hok).ext ((Ext.refl _).alloc (.cells #[.int .i64 0, .int .i64 0, .int .i64 0, .int .i64 0, .int .i64 0, .int .i64 0, .int .i64 0, .int .u64 0, .int .u64 0, .int .i64 0, .int .i64 0, .int .i64 0, .int .i64 0, .int .i64 0, .int .i64 0, .int .i64 0, .int .i64 0, .int .i64 0, .int .i64 0, .int .i64 0, .int .i64 0, .int .i64 0, .int .i64 0, .int .i64 0, .int .i64 0, .int .i64 0, .int .i64 0, .int .i64 0, .int .i64 0, .int .i64 0, .int .i64 0, .int .i64 0, .int .i64 0, .int .i64 0, .int .i64 0, .int .i64 0, .int .i64 0, .int .i64 0, .int .i64 0, .int .i64 0, .int .i64 0, .int .i64 0, .bool false] 58))
  have hz := Lib.hid (zero_rowR (w.alloc (.cells p.cells.toArray 43)) (w.heap.size + 1) (by simp))
  have hbl := Lib.hid (from_built hok)
  have hi := Lib.hid (show (Try.prog.info? 58).map (·.size) = some p.cells.toArray.size by rw [List.size_toArray]; exact i43r' hok)
  have hia := Lib.hid (i32a hok)
  have h43 := Lib.hid (show p.cells.toArray.size = 43 from Pr.size hok)
  have hone := Lib.hid (Pr.one hok)
  have hat := Lib.hid (acts_at hp3)
  have E0 : Ext w ((w.alloc (.cells p.cells.toArray 43)).alloc (.cells #[.int .i64 0, .int .i64 0, .int .i64 0, .int .i64 0, .int .i64 0, .int .i64 0, .int .i64 0, .int .u64 0, .int .u64 0, .int .i64 0, .int .i64 0, .int .i64 0, .int .i64 0, .int .i64 0, .int .i64 0, .int .i64 0, .int .i64 0, .int .i64 0, .int .i64 0, .int .i64 0, .int .i64 0, .int .i64 0, .int .i64 0, .int .i64 0, .int .i64 0, .int .i64 0, .int .i64 0, .int .i64 0, .int .i64 0, .int .i64 0, .int .i64 0, .int .i64 0, .int .i64 0, .int .i64 0, .int .i64 0, .int .i64 0, .int .i64 0, .int .i64 0, .int .i64 0, .int .i64 0, .int .i64 0, .int .i64 0, .bool false] 58)) := (by repeat (first | with_reducible exact Ext.refl _ | refine Ext.drewN ?_ _ | refine Ext.drew ?_ | refine Ext.alloc ?_ _ | assumption | (refine Below.trans ?_ (by assumption)) | (refine Ext.trans ?_ (by assumption)) | (refine Below.trans ?_ (Below.mono (by assumption) (by omega)))))
  obtain ⟨c0, c1, c2, c3, c4, c5, c6, c7, c8, -, c41, c42⟩ := hp3
  generalize p.cells.toArray = cs at *
  generalize (p.acts.map (Value.int .i64)) = acs at *
  clear hok
  go_enter Try.func23, Try.ntmps23
  go_wp2_with (first
    | (refine wpList_load_mid rfl 41 _ rfl w.heap.size (0 + 9) rfl acs _ hat.out Try.underlying41 rfl hia.out ?_)
    | (refine wpList_build_eq rfl 58 _ rfl (L := cs) ?_ ?_; (focus ((try simp [go_sem]); exact hbl.out)))
    | (refine wpList_store_A rfl 58 _ _ rfl (w.heap.size + 1) _ rfl rfl 58 _ hz.out hi.out (Eq.trans (b := 43) (by rfl) h43.out.symm) hone.out ?_; intro w2 H2 E2; have E2 : Ext w w2 := E2 w.heap.size w E0 (by omega)))
  refine bodyPost_ret_by (results_cell_row Try.results23 _ _ (w.heap.size + 1) 58 _ _ _ rfl H2 Try.underlying58 rfl hi.out) rfl ?_
  exact ⟨rfl, E2⟩
end Go.Proofs.Ytmpmnikgbepphaa
