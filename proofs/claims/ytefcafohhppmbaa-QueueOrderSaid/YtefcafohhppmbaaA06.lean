/- A queue of records: how it lies in memory, and its small functions, by contract. Conditions: the records are few and short. -/
import Derived.Test.YtefcafohhppmbaaRows
import Derived.Test.YtefcafohhppmbaaTail
import Derived.IntWalk
namespace Go.Proofs.Ytefcafohhppmbaa
open Go.RowKit Go.Kb

/-- bytes, and records -/
abbrev Ub : Rep Int := Rep.int .u8
abbrev Rc : Rep (List Int) := Rep.sl Ub
/- slices.Clone at one slice type: slices.Clone[[]byte,byte] (u8), slice type []uint8, element uint8, rep Ub -/
theorem info_u8 : (Try.prog.info? 5).map (fun i => (i.zero, i.size, i.bytes)) = some (some (.int .u8 0), (Ub).size, 1) := by kernel_rfl
set_option maxHeartbeats 400000 in
theorem clone_u8 {A : Nat → Prop} (v : Value) (ds : List _) (w : World) (h : RdY Ub A w v ds) (hn : ds.length * 1 ≤ 140737488355328) :
    Calls Try.prog 26 #[v] w fun e w' => ∃ Ad c, e = .returned (.slice Ad ds.length c) ∧ OwnS Ub 5 w.heap.size (fun k => A k ∧ k < w.heap.size) w' (.slice Ad ds.length c) ds ∧ Ext w w' := by
  obtain ⟨us, ⟨hl, Ad, c, rfl, hnc, hcm, hA⟩, he⟩ := id h
  have H := Lib.hid h
  have HL := Lib.hid hl
  clear h hl he
  have heq := fun u => Lib.run_eql_slice_nil (P := Try.prog) u 34 _ Ad ds.length c 0 0 Try.underlying34
  rcases Ad with _ | ad
  · have h0 : ds.length = 0 ∧ c = 0 := by
      rcases hA with rfl | ⟨b, off, h0, _⟩
      · omega
      · cases h0
    obtain ⟨h1, rfl⟩ := h0
    obtain rfl : ds = [] := List.eq_nil_of_length_eq_zero h1
    clear hA HL h1
    simp only [List.length_nil] at heq ⊢
    go_enter Try.func26, Try.ntmps26
    go_wp2
    go_ret
    exact ⟨_, _, rfl, OwnS.nil _ _ _ _ _, (by repeat (first | with_reducible exact Ext.refl _ | refine Ext.drewN ?_ _ | refine Ext.drew ?_ | refine Ext.alloc ?_ _ | assumption | (refine Below.trans ?_ (by assumption)) | (refine Ext.trans ?_ (by assumption)) | (refine Below.trans ?_ (Below.mono (by assumption) (by omega)))))⟩
  · clear hA
    go_enter Try.func26, Try.ntmps26
    go_wp2_with ((at_builtin; refine wpList_app (e := Ub) (base := w.heap.size) (B := fun k => A k ∧ k < w.heap.size) (A := fun k => A k ∧ k < w.heap.size) rfl _ _ rfl Try.underlying34 info_u8 rfl (OwnS.empty _ _ _ rfl (Nat.le_refl _)) rfl (RdY.alloc (RdY.lt H.out) _) rfl (fun k _ hk => ⟨hk, fun h => by have := hk.2; simp [Value.ownBlock] at h; omega⟩) (N := ds.length) (by simp) (by simp [maxLen]; omega) (by omega) (by simp) ?_; intro A1 c1 w1 hown hM hB; simp only [List.nil_append] at hown))
    go_ret
    exact ⟨_, _, rfl, hown, (by repeat (first | with_reducible exact Ext.refl _ | refine Ext.drewN ?_ _ | refine Ext.drew ?_ | refine Ext.alloc ?_ _ | assumption | (refine Below.trans ?_ (by assumption)) | (refine Ext.trans ?_ (by assumption)) | (refine Below.trans ?_ (Below.mono (by assumption) (by omega)))))⟩
/-- how a queue is to be -/
structure Cf where
  (B R H L : Int)
/-- how many bytes records have -/
def usedL (l : List (List Int)) : Int := (l.map fun b => (b.length : Int)).sum
theorem usedL_nn (l : List (List Int)) : 0 ≤ usedL l := by
  induction l with
  | nil => simp [usedL]
  | cons x l ih => simp only [usedL, List.map_cons, List.sum_cons] at *; omega
theorem usedL_snoc (l : List (List Int)) (b : List Int) : usedL (l ++ [b]) = usedL l + b.length := by simp [usedL, List.sum_append]
theorem usedL_cons (l : List (List Int)) (b : List Int) : usedL (b :: l) = b.length + usedL l := by simp [usedL]
/-- a queue's cells -/
def qb (c : Cf) (v : Value) (u : Int) (o : Bool) : Array Value := #[.int .i64 c.B, .int .i64 c.R, .int .i64 c.H, .int .i64 c.L, v, .int .i64 u, .bool o]
theorem qb_cells {w : World} {g : Nat} {c : Cf} {v : Value} {u : Int} {o : Bool} (h : Blk w g 54 (qb c v u o)) :
    w.cell? ⟨g, 0, none⟩ = some (.int .i64 c.B) ∧ w.cell? ⟨g, 1, none⟩ = some (.int .i64 c.R) ∧ w.cell? ⟨g, 2, none⟩ = some (.int .i64 c.H) ∧ w.cell? ⟨g, 3, none⟩ = some (.int .i64 c.L) ∧ w.cell? ⟨g, 4, none⟩ = some v ∧ w.cell? ⟨g, 5, none⟩ = some (.int .i64 u) ∧ w.cell? ⟨g, 6, none⟩ = some (.bool o) ∧
      ∀ j, w.frozen? ⟨g, j, none⟩ = false :=
  ⟨h.cell 0, h.cell 1, h.cell 2, h.cell 3, h.cell 4, h.cell 5, h.cell 6, h.frozen⟩
theorem qb_used {w : World} {g : Nat} {c : Cf} {v : Value} {u u' : Int} {o : Bool} (h : Blk w g 54 (qb c v u o)) : Blk (w.setCell ⟨g, 5, none⟩ (.int .i64 u')) g 54 (qb c v u' o) := h.set_ 5 _
theorem qb_over {w : World} {g : Nat} {c : Cf} {v : Value} {u : Int} {o o' : Bool} (h : Blk w g 54 (qb c v u o)) : Blk (w.setCell ⟨g, 6, none⟩ (.bool o')) g 54 (qb c v u o') := h.set_ 6 _
theorem qb_list {w : World} {g : Nat} {c : Cf} {v v' : Value} {u : Int} {o : Bool} (h : Blk w g 54 (qb c v u o)) : Blk (w.setCell ⟨g, 4, none⟩ v') g 54 (qb c v' u o) := h.set_ 4 _
set_option maxHeartbeats 400000 in
theorem grown_any (g : Nat) (c : Cf) (v : Value) (u : Int) (o : Bool) (w : World) (h : Blk w g 54 (qb c v u o)) :
    Calls Try.prog 30 #[.pointer (some ⟨g, 0, none⟩)] w fun e w' => e = .returned (.tuple #[]) ∧ Blk w' g 54 (qb c v u (o.or (decide (c.H ≤ u)))) ∧ Mod (fun k => k = g) w w' := by
  obtain ⟨c0, c1, c2, c3, c4, c5, c6, cf⟩ := qb_cells h
  have H := Lib.hid h
  clear h
  cases o
  all_goals
    go_enter Try.func30, Try.ntmps30
    go_wp2
    go_region
    go_wp2
    refine bodyPost_end (v := .tuple #[]) (by simp [results, Try.results30]) rfl ?_
    exact ⟨rfl, Blk.drew (by simpa using qb_over H.out), (by repeat (first | with_reducible exact Mod.refl _ _ | refine Mod.drew ?_ | refine Mod.drewN ?_ _ | refine Mod.set1 ?_ _))⟩
set_option maxHeartbeats 400000 in
theorem shrunk_any (g : Nat) (c : Cf) (v : Value) (u : Int) (o : Bool) (w : World) (h : Blk w g 54 (qb c v u o)) :
    Calls Try.prog 29 #[.pointer (some ⟨g, 0, none⟩)] w fun e w' => e = .returned (.tuple #[]) ∧ Blk w' g 54 (qb c v u (o.and (decide (c.L < u)))) ∧ Mod (fun k => k = g) w w' := by
  obtain ⟨c0, c1, c2, c3, c4, c5, c6, cf⟩ := qb_cells h
  have H := Lib.hid h
  clear h
  cases o
  all_goals
    go_enter Try.func29, Try.ntmps29
    go_wp2
    go_region
    go_wp2
    refine bodyPost_end (v := .tuple #[]) (by simp [results, Try.results29]) rfl ?_
    exact ⟨rfl, Blk.drew (by simpa using qb_over H.out), (by repeat (first | with_reducible exact Mod.refl _ _ | refine Mod.drew ?_ | refine Mod.drewN ?_ _ | refine Mod.set1 ?_ _))⟩
set_option maxHeartbeats 400000 in
theorem by_grown (g : Nat) (c : Cf) (v : Value) (u n : Int) (o : Bool) (w : World) (h : Blk w g 54 (qb c v u o)) (hn : IntKind.i64.wrap (u + n) = u + n) :
    Calls Try.prog 28 #[.pointer (some ⟨g, 0, none⟩), .int .i64 n, .func (.func 30) #[.pointer (some ⟨g, 0, none⟩)] #[]] w fun e w' => e = .returned (.tuple #[]) ∧ Blk w' g 54 (qb c v (u + n) (o.or (decide (c.H ≤ u + n)))) ∧ Mod (fun k => k = g) w w' := by
  obtain ⟨c0, c1, c2, c3, c4, c5, c6, cf⟩ := qb_cells h
  have H := Lib.hid h
  clear h
  go_enter Try.func28, Try.ntmps28
  go_wp2_with fail
  refine (grown_any g c v (u + n) o _ (qb_used H.out)).mono ?_
  rintro e w' ⟨rfl, hB, hM⟩
  go_wp2
  refine bodyPost_end (v := .tuple #[]) (by simp [results, Try.results28]) rfl ?_
  exact ⟨rfl, hB, Mod.trans (by exact (by repeat (first | with_reducible exact Mod.refl _ _ | refine Mod.drew ?_ | refine Mod.drewN ?_ _ | refine Mod.set1 ?_ _))) hM⟩
set_option maxHeartbeats 400000 in
theorem by_shrunk (g : Nat) (c : Cf) (v : Value) (u n : Int) (o : Bool) (w : World) (h : Blk w g 54 (qb c v u o)) (hn : IntKind.i64.wrap (u + n) = u + n) :
    Calls Try.prog 28 #[.pointer (some ⟨g, 0, none⟩), .int .i64 n, .func (.func 29) #[.pointer (some ⟨g, 0, none⟩)] #[]] w fun e w' => e = .returned (.tuple #[]) ∧ Blk w' g 54 (qb c v (u + n) (o.and (decide (c.L < u + n)))) ∧ Mod (fun k => k = g) w w' := by
  obtain ⟨c0, c1, c2, c3, c4, c5, c6, cf⟩ := qb_cells h
  have H := Lib.hid h
  clear h
  go_enter Try.func28, Try.ntmps28
  go_wp2_with fail
  refine (shrunk_any g c v (u + n) o _ (qb_used H.out)).mono ?_
  rintro e w' ⟨rfl, hB, hM⟩
  go_wp2
  refine bodyPost_end (v := .tuple #[]) (by simp [results, Try.results28]) rfl ?_
  exact ⟨rfl, hB, Mod.trans (by exact (by repeat (first | with_reducible exact Mod.refl _ _ | refine Mod.drew ?_ | refine Mod.drewN ?_ _ | refine Mod.set1 ?_ _))) hM⟩
set_option maxHeartbeats 400000 in
theorem count_any {g : Nat} {c : Cf} {A : Option Addr} {n k : Nat} {u : Int} {o : Bool} (w : World) (h : Blk w g 54 (qb c (.slice A n k) u o)) :
    Calls Try.prog 14 #[.pointer (some ⟨g, 0, none⟩)] w fun e w' => e = .returned (.int .i64 n) ∧ Ext w w' := by
  obtain ⟨-, -, -, -, c4, -, -, cf⟩ := qb_cells h
  clear h
  go_enter Try.func14, Try.ntmps14
  go_wp2
  go_ret
  exact ⟨rfl, (by repeat (first | with_reducible exact Ext.refl _ | refine Ext.drewN ?_ _ | refine Ext.drew ?_ | refine Ext.alloc ?_ _ | assumption | (refine Below.trans ?_ (by assumption)) | (refine Ext.trans ?_ (by assumption)) | (refine Below.trans ?_ (Below.mono (by assumption) (by omega)))))⟩
set_option maxHeartbeats 400000 in
theorem count_nil (w : World) : Calls Try.prog 14 #[.pointer none] w fun e w' => e = .returned (.int .i64 0) ∧ Ext w w' := by
  go_enter Try.func14, Try.ntmps14
  go_wp2
  go_ret
  exact ⟨rfl, (by repeat (first | with_reducible exact Ext.refl _ | refine Ext.drewN ?_ _ | refine Ext.drew ?_ | refine Ext.alloc ?_ _ | assumption | (refine Below.trans ?_ (by assumption)) | (refine Ext.trans ?_ (by assumption)) | (refine Below.trans ?_ (Below.mono (by assumption) (by omega)))))⟩
set_option maxHeartbeats 400000 in
theorem used_any {g : Nat} {c : Cf} {v : Value} {u : Int} {o : Bool} (w : World) (h : Blk w g 54 (qb c v u o)) :
    Calls Try.prog 15 #[.pointer (some ⟨g, 0, none⟩)] w fun e w' => e = .returned (.int .i64 u) ∧ Ext w w' := by
  obtain ⟨-, -, -, -, -, c5, -, cf⟩ := qb_cells h
  clear h
  go_enter Try.func15, Try.ntmps15
  go_wp2
  go_ret
  exact ⟨rfl, (by repeat (first | with_reducible exact Ext.refl _ | refine Ext.drewN ?_ _ | refine Ext.drew ?_ | refine Ext.alloc ?_ _ | assumption | (refine Below.trans ?_ (by assumption)) | (refine Ext.trans ?_ (by assumption)) | (refine Below.trans ?_ (Below.mono (by assumption) (by omega)))))⟩
set_option maxHeartbeats 400000 in
theorem over_any {g : Nat} {c : Cf} {v : Value} {u : Int} {o : Bool} (w : World) (h : Blk w g 54 (qb c v u o)) :
    Calls Try.prog 17 #[.pointer (some ⟨g, 0, none⟩)] w fun e w' => e = .returned (.bool o) ∧ Ext w w' := by
  obtain ⟨-, -, -, -, -, -, c6, cf⟩ := qb_cells h
  clear h
  go_enter Try.func17, Try.ntmps17
  go_wp2
  go_ret
  exact ⟨rfl, (by repeat (first | with_reducible exact Ext.refl _ | refine Ext.drewN ?_ _ | refine Ext.drew ?_ | refine Ext.alloc ?_ _ | assumption | (refine Below.trans ?_ (by assumption)) | (refine Ext.trans ?_ (by assumption)) | (refine Below.trans ?_ (Below.mono (by assumption) (by omega)))))⟩
/-- a queue can't be so -/
def badC (c : Cf) : Prop := c.B < 1 ∨ c.B > 65536 ∨ c.R < 1 ∨ c.R > 4096 ∨ c.L < 0 ∨ c.H ≤ c.L ∨ c.H > c.B
def NewPost (c : Cf) (w : World) (e : Ending) (w' : World) : Prop :=
  (¬ badC c ∧ ∃ g, w.heap.size ≤ g ∧ e = .returned (.tuple #[.pointer (some ⟨g, 0, none⟩), .int .i64 0]) ∧ Blk w' g 54 (qb c (.slice none 0 0) 0 false) ∧ Ext w w') ∨
  (badC c ∧ e = .returned (.tuple #[.pointer none, .int .i64 2]) ∧ Ext w w')
set_option maxHeartbeats 400000 in
theorem new_any (B R H L : Int) (w : World) : Calls Try.prog 21 #[.int .i64 B, .int .i64 R, .int .i64 H, .int .i64 L] w (NewPost ⟨B, R, H, L⟩ w) := by
  go_enter Try.func21, Try.ntmps21
  go_wp2
  all_goals
    go_ret2
    unfold NewPost badC
    first
    | exact .inr ⟨by simp only; omega, rfl, (by repeat (first | with_reducible exact Ext.refl _ | refine Ext.drewN ?_ _ | refine Ext.drew ?_ | refine Ext.alloc ?_ _ | assumption | (refine Below.trans ?_ (by assumption)) | (refine Ext.trans ?_ (by assumption)) | (refine Below.trans ?_ (Below.mono (by assumption) (by omega)))))⟩
    | exact .inl ⟨by simp only; omega, _, Nat.le_refl _, rfl, Blk.at_ _ _ rfl, (by repeat (first | with_reducible exact Ext.refl _ | refine Ext.drewN ?_ _ | refine Ext.drew ?_ | refine Ext.alloc ?_ _ | assumption | (refine Below.trans ?_ (by assumption)) | (refine Ext.trans ?_ (by assumption)) | (refine Below.trans ?_ (Below.mono (by assumption) (by omega)))))⟩
set_option maxHeartbeats 400000 in
theorem made_any (B R H L : Int) (w : World) : Calls Try.prog 9 #[.agg #[.int .i64 B, .int .i64 R, .int .i64 H, .int .i64 L]] w (NewPost ⟨B, R, H, L⟩ w) := by
  go_enter Try.func9, Try.ntmps9
  go_wp2_with fail
  refine (new_any B R H L _).mono ?_
  rintro e w1 (⟨hb, g, hg, rfl, hB, hE⟩ | ⟨hb, rfl, hE⟩)
  · go_wp2
    go_ret2
    exact .inl ⟨hb, g, by simp at hg; omega, rfl, hB, (by repeat (first | with_reducible exact Ext.refl _ | refine Ext.drewN ?_ _ | refine Ext.drew ?_ | refine Ext.alloc ?_ _ | assumption | (refine Below.trans ?_ (by assumption)) | (refine Ext.trans ?_ (by assumption)) | (refine Below.trans ?_ (Below.mono (by assumption) (by omega)))))⟩
  · go_wp2
    go_ret2
    exact .inr ⟨hb, rfl, (by repeat (first | with_reducible exact Ext.refl _ | refine Ext.drewN ?_ _ | refine Ext.drew ?_ | refine Ext.alloc ?_ _ | assumption | (refine Below.trans ?_ (by assumption)) | (refine Ext.trans ?_ (by assumption)) | (refine Below.trans ?_ (Below.mono (by assumption) (by omega)))))⟩
end Go.Proofs.Ytefcafohhppmbaa
