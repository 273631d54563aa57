/- A line's last character: what the functions that find it compute, by contract. Conditions: the setting is one, bytes are bytes. -/
import Derived.Test.YtilmkghopeoipaaRows
import Derived.Test.YtilmkghopeoipaaRep
import Derived.Test.YtilmkghopeoipaaP10
import Derived.Test.YtilmkghopeoipaaMoC
import Derived.Deep.RegionHeld3
namespace Go.Proofs.Ytilmkghopeoipaa
open Go.RowKit Go.Kb

abbrev Ub : Rep Int := Rep.int .u8
/- slices.Clone at one slice type: slices.Clone[[]byte,byte] (u8), slice type []uint8, element uint8, rep Ub -/
theorem info_u8 : (Try.prog.info? 5).map (fun i => (i.zero, i.size, i.bytes)) = some (some (.int .u8 0), (Ub).size, 1) := by kernel_rfl
set_option maxHeartbeats 400000 in
theorem clone_u8 {A : Nat → Prop} (v : Value) (ds : List _) (w : World) (h : RdY Ub A w v ds) (hn : ds.length * 1 ≤ 140737488355328) :
    Calls Try.prog 27 #[v] w fun e w' => ∃ Ad c, e = .returned (.slice Ad ds.length c) ∧ OwnS Ub 5 w.heap.size (fun k => A k ∧ k < w.heap.size) w' (.slice Ad ds.length c) ds ∧ Ext w w' := by
  obtain ⟨us, ⟨hl, Ad, c, rfl, hnc, hcm, hA⟩, he⟩ := id h
  have H := Lib.hid h
  have HL := Lib.hid hl
  clear h hl he
  have heq := fun u => Lib.run_eql_slice_nil (P := Try.prog) u 27 _ Ad ds.length c 0 0 Try.underlying27
  rcases Ad with _ | ad
  · have h0 : ds.length = 0 ∧ c = 0 := by
      rcases hA with rfl | ⟨b, off, h0, _⟩
      · omega
      · cases h0
    obtain ⟨h1, rfl⟩ := h0
    obtain rfl : ds = [] := List.eq_nil_of_length_eq_zero h1
    clear hA HL h1
    simp only [List.length_nil] at heq ⊢
    go_enter Try.func27, Try.ntmps27
    go_wp2
    go_ret
    exact ⟨_, _, rfl, OwnS.nil _ _ _ _ _, (by repeat (first | with_reducible exact Ext.refl _ | refine Ext.drewN ?_ _ | refine Ext.drew ?_ | refine Ext.alloc ?_ _ | assumption | (refine Below.trans ?_ (by assumption)) | (refine Ext.trans ?_ (by assumption)) | (refine Below.trans ?_ (Below.mono (by assumption) (by omega)))))⟩
  · clear hA
    go_enter Try.func27, Try.ntmps27
    go_wp2_with ((at_builtin; refine wpList_app (e := Ub) (base := w.heap.size) (B := fun k => A k ∧ k < w.heap.size) (A := fun k => A k ∧ k < w.heap.size) rfl _ _ rfl Try.underlying27 info_u8 rfl (OwnS.empty _ _ _ rfl (Nat.le_refl _)) rfl (RdY.alloc (RdY.lt H.out) _) rfl (fun k _ hk => ⟨hk, fun h => by have := hk.2; simp [Value.ownBlock] at h; omega⟩) (N := ds.length) (by simp) (by simp [maxLen]; omega) (by omega) (by simp) ?_; intro A1 c1 w1 hown hM hB; simp only [List.nil_append] at hown))
    go_ret
    exact ⟨_, _, rfl, hown, (by repeat (first | with_reducible exact Ext.refl _ | refine Ext.drewN ?_ _ | refine Ext.drew ?_ | refine Ext.alloc ?_ _ | assumption | (refine Below.trans ?_ (by assumption)) | (refine Ext.trans ?_ (by assumption)) | (refine Below.trans ?_ (Below.mono (by assumption) (by omega)))))⟩

theorem yieldsIf_load_row {P : Program} {ops : Array Oper} {S : World → Prop} {op : Oper} {a : Act} (hw : Region.wanted op (yielded ops a.tmps) = true) (ty : TypeId) (x : Operand) (ho : op.op = .load ty x)
    (g : Nat) (hx : a.eval x = .pointer (some ⟨g, 0, none⟩)) (t : TypeId) (cs : Array Value) (fr : Nat × Nat) (d : TypeDesc) (hg : ∀ w, S w → w.heap[g]? = some (.cells cs t fr))
    (hu : P.underlying ty = some d) (hd : (match d with | .struct _ | .array _ _ => true | _ => false) = true) (hi : (P.info? ty).map (·.size) = some cs.size) : YieldsIf P ops S op (.agg cs) a :=
  .inl ⟨hw, fun w hw' => by
    unfold execOp
    simp only [ho, hx, Instr.loadAt, Instr.sureAddr, Sem.run_bind, Sem.run_pure, Result.andThen_ok, run_loadVar_row w g t ty cs fr d (hg w hw') hu hd hi]⟩

theorem and192 : ∀ n : Nat, n < 256 → (bits .and .u8 (n : Int) 192 == 128) = innerL n := by decide +kernel
theorem inner_any (c : Int) (w : World) (h : 0 ≤ c ∧ c ≤ 255) : Calls Try.prog 32 #[.int .u8 c] w fun e w' => e = .returned (.bool (innerL c)) ∧ Ext w w' := by
  have h1 : (bits .and .u8 c 192 == 128) = innerL c := by
    obtain ⟨n, rfl⟩ := Int.eq_ofNat_of_zero_le h.1
    exact and192 n (by omega)
  clear h
  generalize innerL c = b at *
  go_enter Try.func32, Try.ntmps32
  go_wp2
  go_ret
  exact ⟨by first | rw [h1] | rfl, (by repeat (first | with_reducible exact Ext.refl _ | refine Ext.drewN ?_ _ | refine Ext.drew ?_ | refine Ext.alloc ?_ _ | assumption | (refine Below.trans ?_ (by assumption)) | (refine Ext.trans ?_ (by assumption)) | (refine Below.trans ?_ (Below.mono (by assumption) (by omega)))))⟩
/-- a blank -/
theorem blank_any (v : Value) (l : List Int) (w : World) (h : RI .u8 w v l) : Calls Try.prog 23 #[v] w fun e w' => e = .returned (.bool (blankL l)) ∧ Ext w w' := by
  obtain ⟨Ad, c, rfl, h1, h2⟩ := h.shape
  by_cases hl : l.length = 1
  · obtain ⟨x, rfl⟩ := List.length_eq_one_iff.1 hl
    obtain ⟨b, off, y, rfl, hc, hy⟩ := h.icell (j := 0) (by simp)
    have hy := hy.out
    simp at hy
    subst hy
    have hB : blankL [x] = (x == 32 || x == 9) := by simp [blankL, blankc]
    rw [hB]
    rw [Nat.add_zero] at hc
    clear h hl hB
    by_cases hx : x = 32
    · subst hx
      go_enter Try.func23, Try.ntmps23
      go_wp2
      go_ret
      exact ⟨rfl, (by repeat (first | with_reducible exact Ext.refl _ | refine Ext.drewN ?_ _ | refine Ext.drew ?_ | refine Ext.alloc ?_ _ | assumption | (refine Below.trans ?_ (by assumption)) | (refine Ext.trans ?_ (by assumption)) | (refine Below.trans ?_ (Below.mono (by assumption) (by omega)))))⟩
    · have hx2 : (x == 32) = false := by simpa using hx
      rw [hx2]
      go_enter Try.func23, Try.ntmps23
      go_wp2
      go_ret
      exact ⟨by simp, (by repeat (first | with_reducible exact Ext.refl _ | refine Ext.drewN ?_ _ | refine Ext.drew ?_ | refine Ext.alloc ?_ _ | assumption | (refine Below.trans ?_ (by assumption)) | (refine Ext.trans ?_ (by assumption)) | (refine Below.trans ?_ (Below.mono (by assumption) (by omega)))))⟩
  · have hB : blankL l = false := by simp [blankL, hl]
    have hi : ((l.length : Int) == 1) = false := by rw [beq_eq_false_iff_ne]; omega
    rw [hB]
    clear h hl hB
    go_enter Try.func23, Try.ntmps23
    go_wp2
    go_ret
    exact ⟨rfl, (by repeat (first | with_reducible exact Ext.refl _ | refine Ext.drewN ?_ _ | refine Ext.drew ?_ | refine Ext.alloc ?_ _ | assumption | (refine Below.trans ?_ (by assumption)) | (refine Ext.trans ?_ (by assumption)) | (refine Below.trans ?_ (Below.mono (by assumption) (by omega)))))⟩
set_option maxHeartbeats 400000 in
theorem start_any (t : Tm) (v : Value) (l : List Int) (w : World) (h : t.Ok) (hl : RI .u8 w v l) (hB : Bs l) : Calls Try.prog 22 #[.agg t.arr, v] w fun e w' => e = .returned (.int .i64 (startL (hasL t 42) l)) ∧ Ext w w' := by
  have hn := t.size h
  have hc := fun w' => has_any t 42 w' h
  generalize hasL t 42 = u at hc ⊢
  generalize t.arr = cs at hn hc ⊢
  clear h
  obtain ⟨Ad, c, rfl, h1, h2⟩ := hl.shape
  have H := Lib.hid hl
  have HB := Lib.hid hB
  clear hl hB
  have hi : (Try.prog.info? 26).map (·.size) = some cs.size := by rw [hn]; kernel_rfl
  have hA := Blk.new w 26 cs
  by_cases h0 : l = []
  · subst h0
    have e : (startL u [] : Int) = 0 := by rw [startL_nil]; rfl
    rw [e]
    clear hA hc
    go_enter Try.func22, Try.ntmps22
    go_wp2
    go_ret
    exact ⟨rfl, (by repeat (first | with_reducible exact Ext.refl _ | refine Ext.drewN ?_ _ | refine Ext.drew ?_ | refine Ext.alloc ?_ _ | assumption | (refine Below.trans ?_ (by assumption)) | (refine Ext.trans ?_ (by assumption)) | (refine Below.trans ?_ (Below.mono (by assumption) (by omega)))))⟩
  · have hpos : 0 < l.length := List.length_pos_iff.2 h0
    have hw1 : IntKind.i64.wrap ((l.length : Int) - 1) = (l.length : Int) - 1 := IntWalk.i64_in _ (by omega)
    have hs0 : ¬ ((l.length : Int) - 1 < 0) := by omega
    have H0 := Lib.hid h0
    clear h0
    cases u
    · go_enter Try.func22, Try.ntmps22
      go_wp2_with (first | (refine wpList_load_row rfl 26 _ rfl _ rfl 26 _ _ _ hA Try.underlying26 rfl hi ?_) | (go_at_call 12; refine (hc _).mono ?_; rintro e w1 ⟨rfl, E1⟩))
      go_ret
      exact ⟨ret_int (by rw [start_false H0.out]; omega), (by repeat (first | with_reducible exact Ext.refl _ | refine Ext.drewN ?_ _ | refine Ext.drew ?_ | refine Ext.alloc ?_ _ | assumption | (refine Below.trans ?_ (by assumption)) | (refine Ext.trans ?_ (by assumption)) | (refine Below.trans ?_ (Below.mono (by assumption) (by omega)))))⟩
    · go_enter Try.func22, Try.ntmps22
      go_wp2_with (first | (refine wpList_load_row rfl 26 _ rfl _ rfl 26 _ _ _ hA Try.underlying26 rfl hi ?_) | (go_at_call 12; refine (hc _).mono ?_; rintro e w1 ⟨rfl, E1⟩))
      have E01 : Ext w w1 := (by repeat (first | with_reducible exact Ext.refl _ | refine Ext.drewN ?_ _ | refine Ext.drew ?_ | refine Ext.alloc ?_ _ | assumption | (refine Below.trans ?_ (by assumption)) | (refine Ext.trans ?_ (by assumption)) | (refine Below.trans ?_ (Below.mono (by assumption) (by omega)))))
      clear hA hc E1
      go_loopw [5] (fun i wr => ∃ m k : Nat, m + 1 + k = l.length ∧ k < 4 ∧ i = .int .i64 m ∧ In l k ∧ Ext w wr) (fun i _ => (intOf i).toNat)
      case atStart => exact ⟨l.length - 1, 0, by omega, by omega, by congr 1; omega, In.zero _, (by repeat (first | with_reducible exact Ext.refl _ | refine Ext.drewN ?_ _ | refine Ext.drew ?_ | refine Ext.alloc ?_ _ | assumption | (refine Below.trans ?_ (by assumption)) | (refine Ext.trans ?_ (by assumption)) | (refine Below.trans ?_ (Below.mono (by assumption) (by omega)))))⟩
      case round =>
        obtain ⟨m, k, hm, hk, rfl, hIn, hE⟩ := hrel
        have hml : m < l.length := by omega
        obtain ⟨b, off, x, rfl, hx, hd⟩ := (H.out.ext hE).icell hml
        have hxb := HB.out x (List.mem_of_getElem? hd.out)
        have HI := Lib.hid hIn
        have hw2 : IntKind.i64.wrap ((l.length : Int) - m) = (l.length : Int) - m := IntWalk.i64_in _ (by omega)
        clear hIn hw1 hs0
        rcases Bool.eq_false_or_eq_true (innerL x) with hin | hin
        · by_cases hgo : 0 < m ∧ k + 1 < 4
          · have d1 : (0 : Int) < m := by omega
            have d2 : (l.length : Int) - m < 4 := by omega
            have hw3 : IntKind.i64.wrap ((m : Int) - 1) = (m : Int) - 1 := IntWalk.i64_in _ (by omega)
            go_wp2_with ((go_at_call 32; refine (inner_any x _ hxb).mono ?_; rintro e w2 ⟨rfl, E2⟩); rw [hin])
            go_roundw
            case rel => exact ⟨m - 1, k + 1, by omega, by omega, by congr 1; omega, HI.out.succ hm hd.out hin, (by repeat (first | with_reducible exact Ext.refl _ | refine Ext.drewN ?_ _ | refine Ext.drew ?_ | refine Ext.alloc ?_ _ | assumption | (refine Below.trans ?_ (by assumption)) | (refine Ext.trans ?_ (by assumption)) | (refine Below.trans ?_ (Below.mono (by assumption) (by omega)))))⟩
            case measure => simp [intOf]; omega
          · by_cases hm0 : m = 0
            · subst hm0
              rw [Nat.add_zero] at hx
              go_wp2_with ((go_at_call 32; refine (inner_any x _ hxb).mono ?_; rintro e w2 ⟨rfl, E2⟩); rw [hin])
              go_ret
              exact ⟨ret_int (by rw [start_eq hm hk HI.out (fun a _ => by omega)]; rfl), (by repeat (first | with_reducible exact Ext.refl _ | refine Ext.drewN ?_ _ | refine Ext.drew ?_ | refine Ext.alloc ?_ _ | assumption | (refine Below.trans ?_ (by assumption)) | (refine Ext.trans ?_ (by assumption)) | (refine Below.trans ?_ (Below.mono (by assumption) (by omega)))))⟩
            · have d1 : (0 : Int) < m := by omega
              have d2 : ¬ ((l.length : Int) - m < 4) := by omega
              go_wp2_with ((go_at_call 32; refine (inner_any x _ hxb).mono ?_; rintro e w2 ⟨rfl, E2⟩); rw [hin])
              go_ret
              exact ⟨ret_int (by rw [start_eq hm hk HI.out (fun a b => by omega)]), (by repeat (first | with_reducible exact Ext.refl _ | refine Ext.drewN ?_ _ | refine Ext.drew ?_ | refine Ext.alloc ?_ _ | assumption | (refine Below.trans ?_ (by assumption)) | (refine Ext.trans ?_ (by assumption)) | (refine Below.trans ?_ (Below.mono (by assumption) (by omega)))))⟩
        · go_wp2_with ((go_at_call 32; refine (inner_any x _ hxb).mono ?_; rintro e w2 ⟨rfl, E2⟩); rw [hin])
          go_ret
          exact ⟨ret_int (by rw [start_eq hm hk HI.out (fun _ _ => ⟨x, hd.out, hin⟩)]), (by repeat (first | with_reducible exact Ext.refl _ | refine Ext.drewN ?_ _ | refine Ext.drew ?_ | refine Ext.alloc ?_ _ | assumption | (refine Below.trans ?_ (by assumption)) | (refine Ext.trans ?_ (by assumption)) | (refine Below.trans ?_ (Below.mono (by assumption) (by omega)))))⟩
/-- bytes that are this call's own -/
abbrev NewB (w0 w : World) (v : Value) (l : List Int) : Prop := RdS Ub (fun k => w0.heap.size ≤ k) w v l
theorem own_new {w0 w : World} {T : TypeId} {base : Nat} {B : Nat → Prop} {v : Value} {l : List Int} (h : OwnS Ub T base B w v l) (hb : w0.heap.size ≤ base) : NewB w0 w v l :=
  (OwnS.of_ints (B := fun _ => False) h.ints).rd (fun _ hk => Nat.le_trans hb hk) (fun _ h => h.elim)
set_option maxHeartbeats 400000 in
theorem part_any (v : Value) (l : List Int) (k : Nat) (w : World) (h : RI .u8 w v l) (hk : k ≤ l.length) (hn : l.length ≤ 100000000) : Calls Try.prog 24 #[v, .int .i64 k] w fun e w' =>
    ∃ A c B d, e = .returned (.tuple #[.slice A k c, .slice B (l.length - k) d]) ∧ NewB w w' (.slice A k c) (l.take k) ∧ NewB w w' (.slice B (l.length - k) d) (l.drop k) ∧ Ext w w' := by
  obtain ⟨Ad, c, rfl, h1, h2⟩ := h.shape
  have H := Lib.hid h
  have H1 := Lib.hid (h.toA hk)
  have H2 := Lib.hid (h.fromB hk)
  clear h
  have e1 : (l.take k).length = k := by rw [List.length_take]; omega
  have e2 : (l.drop k).length = l.length - k := List.length_drop
  have i1 : (0 : Int) ≤ (k : Int) := by omega
  have i2 : (k : Int) ≤ (l.length : Int) := by omega
  have i3 : (k : Int) ≤ (c : Int) := by omega
  have i4 : (l.length : Int) ≤ (c : Int) := by omega
  go_enter Try.func24, Try.ntmps24
  go_wp2
  refine wp_region_held_drew (S := fun w' => Ext w w') (by kernel_rfl) (by repeat (first | with_reducible exact Ext.refl _ | refine Ext.drewN ?_ _ | refine Ext.drew ?_ | refine Ext.alloc ?_ _ | assumption | (refine Below.trans ?_ (by assumption)) | (refine Ext.trans ?_ (by assumption)) | (refine Below.trans ?_ (Below.mono (by assumption) (by omega))))) (fun hHeld => ?_)
  (refine wpAnyH_take (i := 0) (v := ?_) rfl (by kernel_rfl) (by kernel_rfl) (by kernel_rfl) (fun _ _ _ h => h) (Or.inl ⟨by rfl, ?_⟩) (by assumption) ?_; rotate_left; focus (intro w' hSw; go_simp; try with_reducible rfl); (try simp only [Act.put]); (try simp only [List.getElem_toArray]); (try simp only [List.getElem_cons_succ]); (try simp only [List.getElem_cons_zero]); (try simp only [List.setIfInBounds_toArray]); (try simp only [List.set_cons_succ]); (try simp only [List.set_cons_zero]))
  (refine wpAnyH_take (i := 1) (v := ?_) rfl (by kernel_rfl) (by kernel_rfl) (by kernel_rfl) (fun _ _ _ h => h) (Or.inl ⟨by rfl, ?_⟩) (by assumption) ?_; rotate_left; focus (intro w' hSw; go_simp; try with_reducible rfl); (try simp only [Act.put]); (try simp only [List.getElem_toArray]); (try simp only [List.getElem_cons_succ]); (try simp only [List.getElem_cons_zero]); (try simp only [List.setIfInBounds_toArray]); (try simp only [List.set_cons_succ]); (try simp only [List.set_cons_zero]))
  (refine wpAnyH_take (i := 2) (v := ?_) rfl (by kernel_rfl) (by kernel_rfl) (by kernel_rfl) (fun _ _ _ h => h) (Or.inl ⟨by rfl, ?_⟩) (by assumption) ?_; rotate_left; focus (intro w' hSw; go_simp; try with_reducible rfl); (try simp only [Act.put]); (try simp only [List.getElem_toArray]); (try simp only [List.getElem_cons_succ]); (try simp only [List.getElem_cons_zero]); (try simp only [List.setIfInBounds_toArray]); (try simp only [List.set_cons_succ]); (try simp only [List.set_cons_zero]))
  (refine wpAnyH_take (i := 4) (v := ?_) rfl (by kernel_rfl) (by kernel_rfl) (by kernel_rfl) (fun _ _ _ h => h) (Or.inl ⟨by rfl, ?_⟩) (by assumption) ?_; rotate_left; focus (intro w' hSw; go_simp; try with_reducible rfl); (try simp only [Act.put]); (try simp only [List.getElem_toArray]); (try simp only [List.getElem_cons_succ]); (try simp only [List.getElem_cons_zero]); (try simp only [List.setIfInBounds_toArray]); (try simp only [List.set_cons_succ]); (try simp only [List.set_cons_zero]))
  (refine wpAnyH_take (i := 5) (v := ?_) rfl (by kernel_rfl) (by kernel_rfl) (by kernel_rfl) (fun _ _ _ h => h) (Or.inl ⟨by rfl, ?_⟩) (by assumption) ?_; rotate_left; focus (intro w' hSw; go_simp; try with_reducible rfl); (try simp only [Act.put]); (try simp only [List.getElem_toArray]); (try simp only [List.getElem_cons_succ]); (try simp only [List.getElem_cons_zero]); (try simp only [List.setIfInBounds_toArray]); (try simp only [List.set_cons_succ]); (try simp only [List.set_cons_zero]))
  (refine wpAnyH_take (i := 6) (v := ?_) rfl (by kernel_rfl) (by kernel_rfl) (by kernel_rfl) (fun _ _ _ h => h) (Or.inl ⟨by rfl, ?_⟩) (by assumption) ?_; rotate_left; focus (intro w' hSw; go_simp; try with_reducible rfl); (try simp only [Act.put]); (try simp only [List.getElem_toArray]); (try simp only [List.getElem_cons_succ]); (try simp only [List.getElem_cons_zero]); (try simp only [List.setIfInBounds_toArray]); (try simp only [List.set_cons_succ]); (try simp only [List.set_cons_zero]))
  (refine wpAnyH_ready (rs := [3]) (by kernel_rfl) (by simp) ?_; refine AllReadyH.cons rfl (fun K hK => ?_) AllReadyH.nil; go_simp; go_at_call 27; refine (clone_u8 _ (l.take k) _ (RI.y (A := fun _ => True) (H1.out.ext (by repeat (first | with_reducible exact Ext.refl _ | refine Ext.drewN ?_ _ | refine Ext.drew ?_ | refine Ext.alloc ?_ _ | assumption | (refine Below.trans ?_ (by assumption)) | (refine Ext.trans ?_ (by assumption)) | (refine Below.trans ?_ (Below.mono (by assumption) (by omega))))))) (by rw [e1]; omega)).mono ?_; rintro e w1 ⟨A1, c1, rfl, o1, E1⟩; (try dsimp only); refine hK.out _ _ (by repeat (first | with_reducible exact Ext.refl _ | refine Ext.drewN ?_ _ | refine Ext.drew ?_ | refine Ext.alloc ?_ _ | assumption | (refine Below.trans ?_ (by assumption)) | (refine Ext.trans ?_ (by assumption)) | (refine Below.trans ?_ (Below.mono (by assumption) (by omega))))) (fun hHeld => ?_); clear hK K; (try simp only [Act.put]); (try simp only [List.getElem_toArray]); (try simp only [List.getElem_cons_succ]); (try simp only [List.getElem_cons_zero]); (try simp only [List.setIfInBounds_toArray]); (try simp only [List.set_cons_succ]); (try simp only [List.set_cons_zero]))
  (refine wpAnyH_ready (rs := [7]) (by kernel_rfl) (by simp) ?_; refine AllReadyH.cons rfl (fun K hK => ?_) AllReadyH.nil; go_simp; go_at_call 27; refine (clone_u8 _ (l.drop k) _ (RI.y (A := fun _ => True) (H2.out.ext (by repeat (first | with_reducible exact Ext.refl _ | refine Ext.drewN ?_ _ | refine Ext.drew ?_ | refine Ext.alloc ?_ _ | assumption | (refine Below.trans ?_ (by assumption)) | (refine Ext.trans ?_ (by assumption)) | (refine Below.trans ?_ (Below.mono (by assumption) (by omega))))))) (by rw [e2]; omega)).mono ?_; rintro e w2 ⟨A2, c2, rfl, o2, E2⟩; (try dsimp only); refine hK.out _ _ (by repeat (first | with_reducible exact Ext.refl _ | refine Ext.drewN ?_ _ | refine Ext.drew ?_ | refine Ext.alloc ?_ _ | assumption | (refine Below.trans ?_ (by assumption)) | (refine Ext.trans ?_ (by assumption)) | (refine Below.trans ?_ (Below.mono (by assumption) (by omega))))) (fun hHeld => ?_); clear hK K; (try simp only [Act.put]); (try simp only [List.getElem_toArray]); (try simp only [List.getElem_cons_succ]); (try simp only [List.getElem_cons_zero]); (try simp only [List.setIfInBounds_toArray]); (try simp only [List.set_cons_succ]); (try simp only [List.set_cons_zero]))
  (refine wpAnyH_take (i := 8) (v := ?_) rfl (by kernel_rfl) (by kernel_rfl) (by kernel_rfl) (fun _ _ _ h => h) (Or.inl ⟨by rfl, ?_⟩) (by assumption) ?_; rotate_left; focus (intro w' hSw; go_simp; try with_reducible rfl); (try simp only [Act.put]); (try simp only [List.getElem_toArray]); (try simp only [List.getElem_cons_succ]); (try simp only [List.getElem_cons_zero]); (try simp only [List.setIfInBounds_toArray]); (try simp only [List.set_cons_succ]); (try simp only [List.set_cons_zero]))
  (refine wpAnyH_take (i := 9) (v := ?_) rfl (by kernel_rfl) (by kernel_rfl) (by kernel_rfl) (fun _ _ _ h => h) (Or.inl ⟨by rfl, ?_⟩) (by assumption) ?_; rotate_left; focus (intro w' hSw; go_simp; try with_reducible rfl); (try simp only [Act.put]); (try simp only [List.getElem_toArray]); (try simp only [List.getElem_cons_succ]); (try simp only [List.getElem_cons_zero]); (try simp only [List.setIfInBounds_toArray]); (try simp only [List.set_cons_succ]); (try simp only [List.set_cons_zero]))
  generalize (if c = k then Ad else Option.map (fun x => x.add k) Ad) = Bd at H2 ⊢
  rw [e1] at o1
  rw [e2] at o2
  try simp only [e2]
  refine wpAnyH_done (by kernel_rfl) ?_ _
  go_wp2
  refine bodyPost_ret (v := .tuple #[.slice A1 k c1, .slice A2 (l.length - k) c2]) (by simp [results, Try.results24, go_sem]) rfl ?_
  exact ⟨A1, c1, A2, c2, rfl, (own_new o1 (by simp)).ext E2, own_new o2 E1.size, (by repeat (first | with_reducible exact Ext.refl _ | refine Ext.drewN ?_ _ | refine Ext.drew ?_ | refine Ext.alloc ?_ _ | assumption | (refine Below.trans ?_ (by assumption)) | (refine Ext.trans ?_ (by assumption)) | (refine Below.trans ?_ (Below.mono (by assumption) (by omega)))))⟩
end Go.Proofs.Ytilmkghopeoipaa
