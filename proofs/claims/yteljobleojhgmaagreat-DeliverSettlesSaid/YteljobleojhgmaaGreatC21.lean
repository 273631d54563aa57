/- Written by chain.py of Late I20 J20 K20 L20 M20[own_put,own_at,Turns,Turns.ext,enters_group2,turns_group] N20. No condition. -/
import Derived.Test.YteljobleojhgmaaGreatB21
import Derived.Deep.RegionHeld
namespace Go.Kb
open Go

section
variable {P : Program} {ops : Array Oper} {Q : Exit → Act → World → Prop} {md : Region.Mode} {T : World → Prop} {k : Nat}

/-- whatever comes up next: behind it, unless it is number k, T holds, and the rest goes in whatever order -/
def AnyTill (P : Program) (md : Region.Mode) (ops : Array Oper) (Q : Exit → Act → World → Prop) (k : Nat) (T : World → Prop) : Nat → Array Bool → Act → World → Prop
  | 0, listed, a, w => Region.ready md ops listed = [] ∧ Q .normal a w
  | fuel + 1, listed, a, w =>
    (Region.ready md ops listed = [] → Q .normal a w) ∧
    ∀ i ∈ Region.ready md ops listed, wpOp P ops Q i (fun a' w' => (i ≠ k → T w') ∧ AnyTill P md ops Q k T fuel (listed.setIfInBounds i true) a' w') a w

theorem any_of_till : ∀ (fuel : Nat) (listed : Array Bool) (a : Act) (w : World), AnyTill P md ops Q k T fuel listed a w → wpAny P md ops Q fuel listed a w
  | 0, _, _, _, h => h
  | fuel + 1, _, _, _, h => ⟨h.1, fun i hi => wpOp_mono (fun _ _ h' => any_of_till fuel _ _ _ h'.2) (h.2 i hi)⟩

/-- number k waits for number i -/
def lateOf (md : Region.Mode) (ops : Array Oper) (k i : Nat) : Bool :=
  match ops[k]? with
  | some o => o.after.any fun e => Region.binds md e && e.on == i
  | none => false
theorem late_spec {i : Nat} (h : lateOf md ops k i = true) : ∃ o, ops[k]? = some o ∧ ∃ e ∈ o.after, Region.binds md e = true ∧ e.on = i := by
  unfold lateOf at h
  split at h
  · rename_i o ho
    obtain ⟨n, hn, h2⟩ := Array.any_eq_true.1 h
    simp only [Bool.and_eq_true, beq_iff_eq] at h2
    exact ⟨o, ho, o.after[n], Array.getElem_mem hn, h2⟩
  · cases h

theorem till_first {i : Nat} {oi : Oper} {v : Value} (hi : ops[i]? = some oi) (hsel : ∀ (j : Nat) (o : Oper) cs b, ops[j]? = some o → o.op ≠ .select cs b)
    (hQ : ∀ c a w, Q (.panic c) (a.put oi.dst v) w → Q (.panic c) a w) (hk : lateOf md ops k i = true) :
    ∀ (fuel : Nat) (listed : Array Bool) (a : Act) (w : World),
      (∀ j oj, ops[j]? = some oj → j ≠ i → listed.getD j true = false → (∀ e ∈ oj.after, Region.binds md e = true → e.on ≠ i) → oi.apart ops oj = true) →
      i ∈ Region.ready md ops listed → YieldsIf P ops T oi v a → T w → i ≠ k →
      AnyTill P md ops Q k T fuel (listed.setIfInBounds i true) (a.put oi.dst v) w → AnyTill P md ops Q k T (fuel + 1) listed a w := by
  intro fuel
  induction fuel with
  | zero =>
    intro listed a w _ hr hy hS hik H
    refine ⟨fun h => (by rw [h] at hr; cases hr), fun j hj => ?_⟩
    by_cases hji : j = i
    · subst hji; exact hy.wpOp hi hS ⟨fun _ => hS, H⟩
    · have := ready_mono hj hji
      rw [H.1] at this
      cases this
  | succ fuel ih =>
    intro listed a w hfree hr hy hS hik H
    refine ⟨fun h => (by rw [h] at hr; cases hr), fun j hj => ?_⟩
    by_cases hji : j = i
    · subst hji; exact hy.wpOp hi hS ⟨fun _ => hS, H⟩
    · have h1 := H.2 j (ready_mono hj hji)
      obtain ⟨hjun, oj, hoj, hall⟩ := mem_ready.1 hj
      have hnot : ∀ e ∈ oj.after, Region.binds md e = true → e.on ≠ i := fun e he hb heq => by
        have h1 := hall e he hb
        have h0 := (mem_ready.1 hr).1
        rw [heq] at h1
        rcases Nat.lt_or_ge i listed.size with h' | h'
        · simp [h'] at h0 h1; rw [h0] at h1; cases h1
        · simp [Array.getElem?_eq_none h'] at h1
      have hjk : j ≠ k := by
        rintro rfl
        obtain ⟨o, ho, e, he, hb, heq⟩ := late_spec hk
        rw [hoj] at ho
        cases ho
        exact hnot e he hb heq
      have h2 := wpOp_putIf hoj (hfree j oj hoj hji hjun hnot) (fun cs b => hsel i oi cs b hi) (fun cs b => hsel j oj cs b hoj) hQ hy h1
      have hfree' : ∀ m om, ops[m]? = some om → m ≠ i → (listed.setIfInBounds j true).getD m true = false →
          (∀ e ∈ om.after, Region.binds md e = true → e.on ≠ i) → oi.apart ops om = true := fun m om hm hmi hun hno => by
        refine hfree m om hm hmi ?_ hno
        by_cases hjm : j = m
        · subst hjm; exact hjun
        · rw [getD_set_ne true hjm] at hun; exact hun
      refine wpOp_mono (fun a' w' h3 => ⟨h3.2.1, ih (listed.setIfInBounds j true) a' w' hfree' (ready_mono hr (Ne.symm hji)) h3.1 (h3.2.1 hjk) hik ?_⟩) h2
      rw [Array.setIfInBounds_comm _ _ hji]
      exact h3.2.2

/-- a value, before the store comes -/
theorem till_take {i : Nat} {oi : Oper} {v : Value} {fuel : Nat} {listed : Array Bool} {a : Act} {w : World} (hi : ops[i]? = some oi)
    (hs : Region.noSelect ops = true) (hf : Region.free md ops listed i = true) (hr : (Region.ready md ops listed).contains i = true) (hk : (lateOf md ops k i && i != k) = true)
    (hQ : ∀ c a w, Q (.panic c) (a.put oi.dst v) w → Q (.panic c) a w) (hy : YieldsIf P ops T oi v a) (hS : T w)
    (h : AnyTill P md ops Q k T fuel (listed.setIfInBounds i true) (a.put oi.dst v) w) : AnyTill P md ops Q k T (fuel + 1) listed a w := by
  simp only [Bool.and_eq_true, bne_iff_ne] at hk
  exact till_first hi (Region.noSelect_spec hs) hQ hk.1 fuel listed a w (Region.free_spec hi hf) (by simpa using hr) hy hS hk.2 h

def AllTill (P : Program) (md : Region.Mode) (ops : Array Oper) (Q : Exit → Act → World → Prop) (k : Nat) (T : World → Prop) (fuel : Nat) (listed : Array Bool) (a : Act) (w : World) (rs : List Nat) : Prop :=
  ∀ i ∈ rs, wpOp P ops Q i (fun a' w' => (i ≠ k → T w') ∧ AnyTill P md ops Q k T fuel (listed.setIfInBounds i true) a' w') a w
theorem AllTill.nil {fuel : Nat} {listed : Array Bool} {a : Act} {w : World} : AllTill P md ops Q k T fuel listed a w [] := fun _ h => by cases h
/-- one that comes ahead of the store -/
theorem AllTill.cons {fuel : Nat} {listed : Array Bool} {a : Act} {w : World} {i : Nat} {o : Oper} {rs : List Nat} (ho : ops[i]? = some o)
    (h : ∀ K' : Act → World → Prop, Shut (∀ a w, T w → (T w → AnyTill P md ops Q k T fuel (listed.setIfInBounds i true) a w) → K' a w) → if Region.wanted o (yielded ops a.tmps) = true then Oper.wp P o a w K' Q else K' (a.put o.dst undef) w)
    (hs : AllTill P md ops Q k T fuel listed a w rs) : AllTill P md ops Q k T fuel listed a w (i :: rs) := fun j hj => by
  rcases List.mem_cons.1 hj with rfl | hj
  · exact wpOp_step ho (fun K' hK => h K' (fun a w hS hW => hK a w ⟨fun _ => hS, hW hS⟩))
  · exact hs j hj
/-- the store -/
theorem AllTill.last {fuel : Nat} {listed : Array Bool} {a : Act} {w : World} {o : Oper} {rs : List Nat} (ho : ops[k]? = some o)
    (h : ∀ K' : Act → World → Prop, Shut (∀ a w, AnyTill P md ops Q k T fuel (listed.setIfInBounds k true) a w → K' a w) → if Region.wanted o (yielded ops a.tmps) = true then Oper.wp P o a w K' Q else K' (a.put o.dst undef) w)
    (hs : AllTill P md ops Q k T fuel listed a w rs) : AllTill P md ops Q k T fuel listed a w (k :: rs) := fun j hj => by
  rcases List.mem_cons.1 hj with rfl | hj
  · exact wpOp_step ho (fun K' hK => h K' (fun a w hW => hK a w ⟨fun hn => (hn rfl).elim, hW⟩))
  · exact hs j hj
theorem till_ready {rs : List Nat} {fuel : Nat} {listed : Array Bool} {a : Act} {w : World} (hr : Region.ready md ops listed = rs) (hne : rs ≠ [])
    (h : AllTill P md ops Q k T fuel listed a w rs) : AnyTill P md ops Q k T (fuel + 1) listed a w :=
  ⟨fun h0 => absurd (hr ▸ h0) hne, hr ▸ h⟩
theorem till_done {listed : Array Bool} {a : Act} {w : World} (hr : Region.ready md ops listed = []) (h : Q .normal a w) :
    ∀ fuel, AnyTill P md ops Q k T fuel listed a w
  | 0 => ⟨hr, h⟩
  | _ + 1 => ⟨fun _ => h, by rw [hr]; simp⟩
/-- the beginning -/
theorem region_till {id : Nat} {a : Act} {w : World} (k : Nat) (T : World → Prop) (hm : P.follows .mixedOrders = true) (hS : T w.drew)
    (h : T w.drew → AnyTill P .any ops Q k T ops.size (Array.replicate ops.size false) a w.drew) : (Code.region id ops true).wp P Q a w :=
  wp_region_any hm (any_of_till _ _ _ _ (h hS))
end
end Go.Kb
namespace Go.Proofs.YteljobleojhgmaaGreat
open Go.RowKit Go.Kb

theorem fold_zip : ∀ (cs pre post : List Value), post.length = cs.length → List.foldl (fun (a : Array Value) (x : Value × Nat) => a.setIfInBounds x.snd x.fst) (pre ++ post).toArray (cs.zipIdx pre.length) = (pre ++ cs).toArray
  | [], pre, post, h => by
    have : post = [] := List.eq_nil_of_length_eq_zero h
    rw [this]; rfl
  | c :: cs, pre, [], h => by simp at h
  | c :: cs, pre, d :: post, h => by
    have ih := fold_zip cs (pre ++ [c]) post (by simpa using h)
    rw [List.zipIdx_cons, List.foldl_cons]
    have e : ((pre ++ d :: post).toArray.setIfInBounds pre.length c) = (pre ++ [c] ++ post).toArray := by simp
    simp only [e]
    rw [show pre.length + 1 = (pre ++ [c]).length by simp, ih]
    simp
/-- a process put together from a process's cells -/
theorem fold_pr {q : Pr} (h : q.ok) : List.foldl (fun (a : Array Value) (x : Value × Nat) => a.setIfInBounds x.snd x.fst) #[.int .i64 0, .int .i64 0, .int .i64 0, .int .i64 0, .int .i64 0, .int .i64 0, .int .i64 0, .int .u64 0, .int .u64 0, .int .i64 0, .int .i64 0, .int .i64 0, .int .i64 0, .int .i64 0, .int .i64 0, .int .i64 0, .int .i64 0, .int .i64 0, .int .i64 0, .int .i64 0, .int .i64 0, .int .i64 0, .int .i64 0, .int .i64 0, .int .i64 0, .int .i64 0, .int .i64 0, .int .i64 0, .int .i64 0, .int .i64 0, .int .i64 0, .int .i64 0, .int .i64 0, .int .i64 0, .int .i64 0, .int .i64 0, .int .i64 0, .int .i64 0, .int .i64 0, .int .i64 0, .int .i64 0, .int .i64 0, .bool false] q.cells.zipIdx = q.cells.toArray := by
  have := fold_zip q.cells [] [.int .i64 0, .int .i64 0, .int .i64 0, .int .i64 0, .int .i64 0, .int .i64 0, .int .i64 0, .int .u64 0, .int .u64 0, .int .i64 0, .int .i64 0, .int .i64 0, .int .i64 0, .int .i64 0, .int .i64 0, .int .i64 0, .int .i64 0, .int .i64 0, .int .i64 0, .int .i64 0, .int .i64 0, .int .i64 0, .int .i64 0, .int .i64 0, .int .i64 0, .int .i64 0, .int .i64 0, .int .i64 0, .int .i64 0, .int .i64 0, .int .i64 0, .int .i64 0, .int .i64 0, .int .i64 0, .int .i64 0, .int .i64 0, .int .i64 0, .int .i64 0, .int .i64 0, .int .i64 0, .int .i64 0, .int .i64 0, .bool false] (by rw [Pr.len h]; rfl)
  exact this
theorem rp_rel (A : Nat → Prop) (w : World) {q : Pr} (h : q.ok) : Rp.rel A w q.cells q := ⟨rfl, h⟩
/-- a new process's number and state -/
def Pr.newAs (p : Pr) (nx : Int) : Pr := { p with pid := nx, state := 1 }
theorem Pr.newAs_ok {p : Pr} {nx : Int} (h : p.ok) : (p.newAs nx).ok := h
theorem newAs_cells (p : Pr) (nx : Int) : (p.cells.set 0 (.int .i64 nx)).set 4 (.int .i64 1) = (p.newAs nx).cells := by
  simp [Pr.cells, Pr.newAs]
/-- the number behind a number -/
def nextNo (nx : Int) : Int := IntKind.i64.wrap (nx + 1)
def MorePost (l : List Pr) (nx : Int) (p : Pr) (Ad : Option Addr) (c : Nat) (w : World) (e : Ending) (w' : World) : Prop :=
  Ext w w' ∧ ((l.length = 32 ∧ e = .returned (.tuple #[tv Ad l.length c nx, .int .i64 0, .int .i64 10])) ∨
    (l.length ≠ 32 ∧ ∃ A' c', e = .returned (.tuple #[tv A' (l.length + 1) c' (nextNo nx), .int .i64 nx, .int .i64 0]) ∧
      OwnS Rp 42 w.heap.size (fun _ => False) w' (.slice A' (l.length + 1) c') (l ++ [p.newAs nx])))
set_option maxRecDepth 100000 in
set_option maxHeartbeats 800000 in
theorem more_any {A : Nat → Prop} (Ad : Option Addr) (c : Nat) (l : List Pr) (nx : Int) (p : Pr) (w : World) (h : RdY Rp A w (.slice Ad l.length c) l) (hn : l.length ≤ 100000) (hok : p.ok) :
    Calls Tryz.prog 31 #[tv Ad l.length c nx, .agg p.cells.toArray] w (MorePost l nx p Ad c w) := by
  have H := Lib.hid (rdy_pr (B := fun _ => False) h)
  clear h
  by_cases hl : l.length = 32
  · have hl2 : ((l.length : Int) = 32) := by omega
    have k4 := (prAt_blk hok (Blk.new w 42 p.arr)).c0
    go_enter Tryz.func31, Tryz.ntmps31
    go_wp2
    refine bodyPost_ret (v := .tuple #[tv Ad 32 c nx, .int .i64 0, .int .i64 10]) (by simp [results, Tryz.results31, go_sem]) rfl ?_
    exact ⟨(by repeat (first | with_reducible exact Ext.refl _ | refine Ext.drewN ?_ _ | refine Ext.drew ?_ | refine Ext.alloc ?_ _ | assumption | (refine Below.trans ?_ (by assumption)) | (refine Ext.trans ?_ (by assumption)) | (refine Below.trans ?_ (Below.mono (by assumption) (by omega))))), .inl ⟨hl, by rw [hl]⟩⟩
  · have hl2 : ((l.length : Int) = 32) = False := by simp; omega
    have k4 : (w.alloc (.cells #[.slice Ad l.length c, .int .i64 nx] 29)).heap.size = w.heap.size + 1 := by simp
    have c0 := (pr_new (w.alloc (.cells #[.slice Ad l.length c, .int .i64 nx] 29)) 42 hok).c0
    have c4 := (pr_new (w.alloc (.cells #[.slice Ad l.length c, .int .i64 nx] 29)) 42 hok).c4
    go_enter Tryz.func31, Tryz.ntmps31
    go_wp2
    rw [newAs_cells]
    clear c0 c4 k4
    obtain ⟨q, hq⟩ : ∃ q, q = p.newAs nx := ⟨_, rfl⟩
    have hqk : q.ok := by rw [hq]; exact hok
    have HQ := Lib.hid hq
    have hq3 := Pr.len hqk
    have hq4 := fold_pr hqk
    have hq0 := Lib.hid (show q.pid = nx by rw [hq]; rfl)
    rw [← hq]
    clear hq
    have hbox := Lib.hid (Blk.new w 29 #[.slice Ad l.length c, .int .i64 nx])
    have hp := Lib.hid (Blk.at_ (w := w.alloc (.cells #[.slice Ad l.length c, .int .i64 nx] 29)) (B := w.heap.size + 1) 42 q.cells.toArray (by simp))
    have hres := Lib.hid (Blk.at_ (w := (w.alloc (.cells #[.slice Ad l.length c, .int .i64 nx] 29)).alloc (.cells q.cells.toArray 42)) (B := w.heap.size + 1 + 1) 29 #[.slice none 0 0, .int .i64 0] (by simp))
    obtain ⟨W, hW⟩ : ∃ W, W = ((w.alloc (.cells #[.slice Ad l.length c, .int .i64 nx] 29)).alloc (.cells q.cells.toArray 42)).alloc (.cells #[.slice none 0 0, .int .i64 0] 29) := ⟨_, rfl⟩
    have E0 : Ext w W := by rw [hW]; exact (by repeat (first | with_reducible exact Ext.refl _ | refine Ext.drewN ?_ _ | refine Ext.drew ?_ | refine Ext.alloc ?_ _ | assumption | (refine Below.trans ?_ (by assumption)) | (refine Ext.trans ?_ (by assumption)) | (refine Below.trans ?_ (Below.mono (by assumption) (by omega)))))
    have hbox := Lib.hid ((hbox.out.alloc (.cells q.cells.toArray 42)).alloc (.cells #[.slice none 0 0, .int .i64 0] 29))
    have hp := Lib.hid (hp.out.alloc (.cells #[.slice none 0 0, .int .i64 0] 29))
    have hsz := Lib.hid (show W.heap.size = w.heap.size + 3 by rw [hW]; simp)
    rw [← hW] at hbox hres hp ⊢
    clear hW
    refine region_till 10 (fun w' => Ext W w') (by kernel_rfl) (Ext.drew (Ext.refl _)) (fun hHeld => ?_)
    (refine till_take (i := 0) (v := ?_) rfl (by kernel_rfl) (by kernel_rfl) (by kernel_rfl) (by kernel_rfl) (fun _ _ _ h => h) (Or.inl ⟨by rfl, ?_⟩) (by assumption) ?_; rotate_left; (focus (intro w' hSw; go_simp; try with_reducible rfl)); (try simp only [List.getElem_toArray]); (try simp only [List.getElem_cons_succ]); (try simp only [List.getElem_cons_zero]); (try simp only [Act.put]); (try simp only [List.setIfInBounds_toArray]); (try simp only [List.set_cons_succ]); (try simp only [List.set_cons_zero]))
    (refine till_take (i := 1) (v := ?_) rfl (by kernel_rfl) (by kernel_rfl) (by kernel_rfl) (by kernel_rfl) (fun _ _ _ h => h) (Or.inl ⟨by rfl, ?_⟩) (by assumption) ?_; rotate_left; (focus (intro w' hSw; have kc := (hbox.out.ext hSw).two; go_simp; try with_reducible rfl)); (try simp only [List.getElem_toArray]); (try simp only [List.getElem_cons_succ]); (try simp only [List.getElem_cons_zero]); (try simp only [Act.put]); (try simp only [List.setIfInBounds_toArray]); (try simp only [List.set_cons_succ]); (try simp only [List.set_cons_zero]))
    (refine till_take (i := 3) (v := .agg q.cells.toArray) rfl (by kernel_rfl) (by kernel_rfl) (by kernel_rfl) (by kernel_rfl) (fun _ _ _ h => h) (yieldsIf_load_row (by rfl) 42 _ rfl _ rfl 42 q.cells.toArray _ _ (fun w' hSw => (Blk.ext hp.out hSw)) Tryz.underlying42 rfl (by rw [List.size_toArray]; exact i43' hqk)) (by assumption) ?_; (try simp only [Act.put]); (try simp only [List.getElem_toArray]); (try simp only [List.getElem_cons_succ]); (try simp only [List.getElem_cons_zero]); (try simp only [List.setIfInBounds_toArray]); (try simp only [List.set_cons_succ]); (try simp only [List.set_cons_zero]))
    (refine till_take (i := 6) (v := ?_) rfl (by kernel_rfl) (by kernel_rfl) (by kernel_rfl) (by kernel_rfl) (fun _ _ _ h => h) (Or.inl ⟨by rfl, ?_⟩) (by assumption) ?_; rotate_left; (focus (intro w' hSw; go_simp; try with_reducible rfl)); (try simp only [List.getElem_toArray]); (try simp only [List.getElem_cons_succ]); (try simp only [List.getElem_cons_zero]); (try simp only [Act.put]); (try simp only [List.setIfInBounds_toArray]); (try simp only [List.set_cons_succ]); (try simp only [List.set_cons_zero]))
    (refine till_take (i := 7) (v := ?_) rfl (by kernel_rfl) (by kernel_rfl) (by kernel_rfl) (by kernel_rfl) (fun _ _ _ h => h) (Or.inl ⟨by rfl, ?_⟩) (by assumption) ?_; rotate_left; (focus (intro w' hSw; have kc := (hbox.out.ext hSw).two; go_simp; try with_reducible rfl)); (try simp only [List.getElem_toArray]); (try simp only [List.getElem_cons_succ]); (try simp only [List.getElem_cons_zero]); (try simp only [Act.put]); (try simp only [List.setIfInBounds_toArray]); (try simp only [List.set_cons_succ]); (try simp only [List.set_cons_zero]))
    (refine till_take (i := 8) (v := ?_) rfl (by kernel_rfl) (by kernel_rfl) (by kernel_rfl) (by kernel_rfl) (fun _ _ _ h => h) (Or.inl ⟨by rfl, ?_⟩) (by assumption) ?_; rotate_left; (focus (intro w' hSw; go_simp; try with_reducible rfl)); (try simp only [List.getElem_toArray]); (try simp only [List.getElem_cons_succ]); (try simp only [List.getElem_cons_zero]); (try simp only [Act.put]); (try simp only [List.setIfInBounds_toArray]); (try simp only [List.set_cons_succ]); (try simp only [List.set_cons_zero]))
    refine till_ready (rs := [2, 4]) (by kernel_rfl) (by simp) ?_
    refine AllTill.cons rfl (fun K hK => ?_) (AllTill.cons rfl (fun K hK => ?_) AllTill.nil)
    · go_simp
      go_at_call 22
      refine (clone_pr (A := fun _ => False) _ l _ (H.out.ext (by repeat (first | with_reducible exact Ext.refl _ | refine Ext.drewN ?_ _ | refine Ext.drew ?_ | refine Ext.alloc ?_ _ | assumption | (refine Below.trans ?_ (by assumption)) | (refine Ext.trans ?_ (by assumption)) | (refine Below.trans ?_ (Below.mono (by assumption) (by omega)))))) (by omega)).mono ?_
      rintro e w2 ⟨A2, c2, rfl, o2, E2⟩
      have O2 := Lib.hid ((o2.mono (B := fun _ => False) fun k _ hk => hk.1).lower (base' := W.heap.size) (by simp))
      have hs2 := E2.size; simp at hs2
      (try dsimp only); refine hK.out _ _ (by repeat (first | with_reducible exact Ext.refl _ | refine Ext.drewN ?_ _ | refine Ext.drew ?_ | refine Ext.alloc ?_ _ | assumption | (refine Below.trans ?_ (by assumption)) | (refine Ext.trans ?_ (by assumption)) | (refine Below.trans ?_ (Below.mono (by assumption) (by omega))))) (fun hHeld => ?_); clear hK K; (try simp only [List.getElem_toArray]); (try simp only [List.getElem_cons_succ]); (try simp only [List.getElem_cons_zero]); (try simp only [Act.put]); (try simp only [List.setIfInBounds_toArray]); (try simp only [List.set_cons_succ]); (try simp only [List.set_cons_zero])
      (refine till_ready (rs := [4]) (by kernel_rfl) (by simp) ?_; refine AllTill.cons rfl (fun K hK => ?_) AllTill.nil; go_simp; refine hK.out _ _ (by repeat (first | with_reducible exact Ext.refl _ | refine Ext.drewN ?_ _ | refine Ext.drew ?_ | refine Ext.alloc ?_ _ | assumption | (refine Below.trans ?_ (by assumption)) | (refine Ext.trans ?_ (by assumption)) | (refine Below.trans ?_ (Below.mono (by assumption) (by omega))))) (fun hHeld => ?_); clear hK K; (try simp only [Act.put]); (try simp only [List.getElem_toArray]); (try simp only [List.getElem_cons_succ]); (try simp only [List.getElem_cons_zero]); (try simp only [List.setIfInBounds_toArray]); (try simp only [List.set_cons_succ]); (try simp only [List.set_cons_zero]))
      refine till_ready (rs := [5]) (by kernel_rfl) (by simp) ?_
      refine AllTill.cons rfl (fun K hK => ?_) AllTill.nil
      refine step_app (e := Rp) (base := W.heap.size) (B := fun _ => False) (A := fun _ => False) rfl (.tmp 18) (.tmp 20) rfl Tryz.underlying27 info_pr rfl (O2.out.ext (by repeat (first | with_reducible exact Ext.refl _ | refine Ext.drewN ?_ _ | refine Ext.drew ?_ | refine Ext.alloc ?_ _ | assumption | (refine Below.trans ?_ (by assumption)) | (refine Ext.trans ?_ (by assumption)) | (refine Below.trans ?_ (Below.mono (by assumption) (by omega)))))) rfl (RdY.singleB (cs := q.cells) (rp_rel (fun _ => False) _ hqk) (Blk.at_ _ _ rfl)) rfl (fun _ _ h => h.elim) (N := l.length + 1) rfl (by simp [maxLen]; omega) (by omega) (by first | omega | (simp; omega)) ?_
      intro A5 c5 w5 o5 M5 B5
      refine hK.out _ _ (Below.trans hHeld (B5.mono (by simp))) (fun hHeld => ?_)
      clear hK K
      (try simp only [List.getElem_toArray]); (try simp only [List.getElem_cons_succ]); (try simp only [List.getElem_cons_zero]); (try simp only [Act.put]); (try simp only [List.setIfInBounds_toArray]); (try simp only [List.set_cons_succ]); (try simp only [List.set_cons_zero])
      have O5 := Lib.hid o5
      clear M5 B5 o5
      (refine till_take (i := 9) (v := ?_) rfl (by kernel_rfl) (by kernel_rfl) (by kernel_rfl) (by kernel_rfl) (fun _ _ _ h => h) (Or.inl ⟨by rfl, ?_⟩) (by assumption) ?_; rotate_left; (focus (intro w' hSw; go_simp; try with_reducible rfl)); (try simp only [List.getElem_toArray]); (try simp only [List.getElem_cons_succ]); (try simp only [List.getElem_cons_zero]); (try simp only [Act.put]); (try simp only [List.setIfInBounds_toArray]); (try simp only [List.set_cons_succ]); (try simp only [List.set_cons_zero]))
      have kb := (hbox.out.ext hHeld).two
      (refine till_ready (rs := [10]) (by kernel_rfl) (by simp) ?_; refine AllTill.last rfl (fun K hK => ?_) AllTill.nil; go_simp; refine hK.out _ _ ?_; clear hK K; (try simp only [Act.put]); (try simp only [List.getElem_toArray]); (try simp only [List.getElem_cons_succ]); (try simp only [List.getElem_cons_zero]); (try simp only [List.setIfInBounds_toArray]); (try simp only [List.set_cons_succ]); (try simp only [List.set_cons_zero]))
      refine till_done (by kernel_rfl) ?_ _
      have hz := hsz.out
      have hb5 := hHeld.size
      have hr5 := O5.out.row
      have hMz : Mod (fun k => k = w.heap.size) w5 _ := ((Mod.refl _ w5).set1 (.slice A5 (l.length + 1) c5) (o := 0)).set1 (.int .i64 (IntKind.i64.wrap (nx + 1))) (o := 1)
      have BW := Lib.hid ((hbox.out.ext hHeld).put2 (.slice A5 (l.length + 1) c5) (.int .i64 (IntKind.i64.wrap (nx + 1))))
      have hp6 := Lib.hid ((hp.out.ext hHeld).mod hMz (by show ¬ _ = _; omega))
      have hs6 := Lib.hid ((hres.out.ext hHeld).mod hMz (by show ¬ _ = _; omega))
      have O6 := Lib.hid ((O5.out.mod hMz (fun k hk he => by have := (hr5 k hk).1; omega) (fun k _ hk he => hk)))
      have hr6 := O6.out.row
      have E6 : Ext w _ := Mod.toExt (E0.trans hHeld) hMz (by intro k hk he; omega)
      clear hMz kb
      generalize (w5.setCell _ _).setCell _ _ = W1 at *
      go_wp2
      refine wp_region_held_drew (S := fun w' => Mod (fun k => k = w.heap.size + 1 + 1) W1 w') (by kernel_rfl) (Mod.of_ext (Ext.drew (Ext.refl _))) (fun hHeld => ?_)
      have Ed : Ext W1 W1.drew := Ext.drew (Ext.refl _)
      generalize W1.drew = W2 at *
      (refine wpAnyH_take (i := 0) (v := ?_) rfl (by kernel_rfl) (by kernel_rfl) (by kernel_rfl) (fun _ _ _ h => h) (Or.inl ⟨by rfl, ?_⟩) (by assumption) ?_; rotate_left; (focus (intro w' hSw; have kc := (BW.out.mod hSw (by omega)).two; go_simp; try with_reducible rfl)); (try simp only [List.getElem_toArray]); (try simp only [List.getElem_cons_succ]); (try simp only [List.getElem_cons_zero]); (try simp only [Act.put]); (try simp only [List.setIfInBounds_toArray]); (try simp only [List.set_cons_succ]); (try simp only [List.set_cons_zero]))
      (refine wpAnyH_take (i := 1) (v := ?_) rfl (by kernel_rfl) (by kernel_rfl) (by kernel_rfl) (fun _ _ _ h => h) (Or.inl ⟨by rfl, ?_⟩) (by assumption) ?_; rotate_left; (focus (intro w' hSw; go_simp; try with_reducible rfl)); (try simp only [List.getElem_toArray]); (try simp only [List.getElem_cons_succ]); (try simp only [List.getElem_cons_zero]); (try simp only [Act.put]); (try simp only [List.setIfInBounds_toArray]); (try simp only [List.set_cons_succ]); (try simp only [List.set_cons_zero]))
      (refine wpAnyH_take (i := 2) (v := ?_) rfl (by kernel_rfl) (by kernel_rfl) (by kernel_rfl) (fun _ _ _ h => h) (Or.inl ⟨by rfl, ?_⟩) (by assumption) ?_; rotate_left; (focus (intro w' hSw; have kc := (prAt_blk hqk (hp6.out.mod hSw (by omega))).c0; go_simp; try with_reducible rfl)); (try simp only [List.getElem_toArray]); (try simp only [List.getElem_cons_succ]); (try simp only [List.getElem_cons_zero]); (try simp only [Act.put]); (try simp only [List.setIfInBounds_toArray]); (try simp only [List.set_cons_succ]); (try simp only [List.set_cons_zero]))
      have hr7 := hs6.out.ext Ed
      have ks := hr7.two
      (refine wpAnyH_ready (rs := [3]) (by kernel_rfl) (by simp) ?_; refine AllReadyH.cons rfl (fun K hK => ?_) AllReadyH.nil; go_simp; refine hK.out _ _ (((Mod.of_ext Ed).set1 _).set1 _) (fun hHeld => ?_); clear hK K; (try simp only [Act.put]); (try simp only [List.getElem_toArray]); (try simp only [List.getElem_cons_succ]); (try simp only [List.getElem_cons_zero]); (try simp only [List.setIfInBounds_toArray]); (try simp only [List.set_cons_succ]); (try simp only [List.set_cons_zero]))
      (refine wpAnyH_take (i := 4) (v := ?_) rfl (by kernel_rfl) (by kernel_rfl) (by kernel_rfl) (fun _ _ _ h => h) (Or.inl ⟨by rfl, ?_⟩) (by assumption) ?_; rotate_left; (focus (intro w' hSw; go_simp; try with_reducible rfl)); (try simp only [List.getElem_toArray]); (try simp only [List.getElem_cons_succ]); (try simp only [List.getElem_cons_zero]); (try simp only [Act.put]); (try simp only [List.setIfInBounds_toArray]); (try simp only [List.set_cons_succ]); (try simp only [List.set_cons_zero]))
      (refine wpAnyH_take (i := 5) (v := ?_) rfl (by kernel_rfl) (by kernel_rfl) (by kernel_rfl) (fun _ _ _ h => h) (Or.inl ⟨by rfl, ?_⟩) (by assumption) ?_; rotate_left; (focus (intro w' hSw; go_simp; try with_reducible rfl)); (try simp only [List.getElem_toArray]); (try simp only [List.getElem_cons_succ]); (try simp only [List.getElem_cons_zero]); (try simp only [Act.put]); (try simp only [List.setIfInBounds_toArray]); (try simp only [List.set_cons_succ]); (try simp only [List.set_cons_zero]))
      refine wpAnyH_done (by kernel_rfl) ?_ _
      have hM7 : Mod (fun k => k = w.heap.size + 1 + 1) W1 _ := ((Mod.of_ext Ed).set1 (.slice A5 (l.length + 1) c5) (o := 0)).set1 (.int .i64 (IntKind.i64.wrap (nx + 1))) (o := 1)
      obtain ⟨q0, q1, _, _⟩ := (hr7.put2 (.slice A5 (l.length + 1) c5) (.int .i64 (IntKind.i64.wrap (nx + 1)))).two
      have hz6 := E6.size
      clear ks
      go_wp2
      refine bodyPost_ret (v := .tuple #[tv A5 (l.length + 1) c5 (IntKind.i64.wrap (nx + 1)), .int .i64 q.pid, .int .i64 0]) (by simp [results, Tryz.results31, go_sem, q0, q1]) rfl ?_
      exact ⟨Mod.toExt E6 hM7 (by intro k hk he; omega), .inr ⟨hl, A5, c5, by rw [hq0.out]; rfl, by rw [← HQ.out]; exact ((O6.out.mod hM7 (fun k hk he => by have := (hr6 k hk).1; omega) (fun k _ hk he => hk)).lower (by omega))⟩⟩
    · go_simp; refine hK.out _ _ (by repeat (first | with_reducible exact Ext.refl _ | refine Ext.drewN ?_ _ | refine Ext.drew ?_ | refine Ext.alloc ?_ _ | assumption | (refine Below.trans ?_ (by assumption)) | (refine Ext.trans ?_ (by assumption)) | (refine Below.trans ?_ (Below.mono (by assumption) (by omega))))) (fun hHeld => ?_); clear hK K; (try simp only [List.getElem_toArray]); (try simp only [List.getElem_cons_succ]); (try simp only [List.getElem_cons_zero]); (try simp only [Act.put]); (try simp only [List.setIfInBounds_toArray]); (try simp only [List.set_cons_succ]); (try simp only [List.set_cons_zero])
      (refine till_ready (rs := [2]) (by kernel_rfl) (by simp) ?_; refine AllTill.cons rfl (fun K hK => ?_) AllTill.nil)
      go_simp
      go_at_call 22
      refine (clone_pr (A := fun _ => False) _ l _ (H.out.ext (by repeat (first | with_reducible exact Ext.refl _ | refine Ext.drewN ?_ _ | refine Ext.drew ?_ | refine Ext.alloc ?_ _ | assumption | (refine Below.trans ?_ (by assumption)) | (refine Ext.trans ?_ (by assumption)) | (refine Below.trans ?_ (Below.mono (by assumption) (by omega)))))) (by omega)).mono ?_
      rintro e w2 ⟨A2, c2, rfl, o2, E2⟩
      have O2 := Lib.hid ((o2.mono (B := fun _ => False) fun k _ hk => hk.1).lower (base' := W.heap.size) (by simp))
      have hs2 := E2.size; simp at hs2
      (try dsimp only); refine hK.out _ _ (by repeat (first | with_reducible exact Ext.refl _ | refine Ext.drewN ?_ _ | refine Ext.drew ?_ | refine Ext.alloc ?_ _ | assumption | (refine Below.trans ?_ (by assumption)) | (refine Ext.trans ?_ (by assumption)) | (refine Below.trans ?_ (Below.mono (by assumption) (by omega))))) (fun hHeld => ?_); clear hK K; (try simp only [List.getElem_toArray]); (try simp only [List.getElem_cons_succ]); (try simp only [List.getElem_cons_zero]); (try simp only [Act.put]); (try simp only [List.setIfInBounds_toArray]); (try simp only [List.set_cons_succ]); (try simp only [List.set_cons_zero])
      refine till_ready (rs := [5]) (by kernel_rfl) (by simp) ?_
      refine AllTill.cons rfl (fun K hK => ?_) AllTill.nil
      refine step_app (e := Rp) (base := W.heap.size) (B := fun _ => False) (A := fun _ => False) rfl (.tmp 18) (.tmp 20) rfl Tryz.underlying27 info_pr rfl (O2.out.ext (by repeat (first | with_reducible exact Ext.refl _ | refine Ext.drewN ?_ _ | refine Ext.drew ?_ | refine Ext.alloc ?_ _ | assumption | (refine Below.trans ?_ (by assumption)) | (refine Ext.trans ?_ (by assumption)) | (refine Below.trans ?_ (Below.mono (by assumption) (by omega)))))) rfl (RdY.singleB (cs := q.cells) (rp_rel (fun _ => False) _ hqk) (Blk.ext (Blk.drew (Blk.at_ _ _ rfl)) E2)) rfl (fun _ _ h => h.elim) (N := l.length + 1) rfl (by simp [maxLen]; omega) (by omega) (by first | omega | (simp; omega)) ?_
      intro A5 c5 w5 o5 M5 B5
      refine hK.out _ _ (Below.trans hHeld (B5.mono (by simp))) (fun hHeld => ?_)
      clear hK K
      (try simp only [List.getElem_toArray]); (try simp only [List.getElem_cons_succ]); (try simp only [List.getElem_cons_zero]); (try simp only [Act.put]); (try simp only [List.setIfInBounds_toArray]); (try simp only [List.set_cons_succ]); (try simp only [List.set_cons_zero])
      have O5 := Lib.hid o5
      clear M5 B5 o5
      (refine till_take (i := 9) (v := ?_) rfl (by kernel_rfl) (by kernel_rfl) (by kernel_rfl) (by kernel_rfl) (fun _ _ _ h => h) (Or.inl ⟨by rfl, ?_⟩) (by assumption) ?_; rotate_left; (focus (intro w' hSw; go_simp; try with_reducible rfl)); (try simp only [List.getElem_toArray]); (try simp only [List.getElem_cons_succ]); (try simp only [List.getElem_cons_zero]); (try simp only [Act.put]); (try simp only [List.setIfInBounds_toArray]); (try simp only [List.set_cons_succ]); (try simp only [List.set_cons_zero]))
      have kb := (hbox.out.ext hHeld).two
      (refine till_ready (rs := [10]) (by kernel_rfl) (by simp) ?_; refine AllTill.last rfl (fun K hK => ?_) AllTill.nil; go_simp; refine hK.out _ _ ?_; clear hK K; (try simp only [Act.put]); (try simp only [List.getElem_toArray]); (try simp only [List.getElem_cons_succ]); (try simp only [List.getElem_cons_zero]); (try simp only [List.setIfInBounds_toArray]); (try simp only [List.set_cons_succ]); (try simp only [List.set_cons_zero]))
      refine till_done (by kernel_rfl) ?_ _
      have hz := hsz.out
      have hb5 := hHeld.size
      have hr5 := O5.out.row
      have hMz : Mod (fun k => k = w.heap.size) w5 _ := ((Mod.refl _ w5).set1 (.slice A5 (l.length + 1) c5) (o := 0)).set1 (.int .i64 (IntKind.i64.wrap (nx + 1))) (o := 1)
      have BW := Lib.hid ((hbox.out.ext hHeld).put2 (.slice A5 (l.length + 1) c5) (.int .i64 (IntKind.i64.wrap (nx + 1))))
      have hp6 := Lib.hid ((hp.out.ext hHeld).mod hMz (by show ¬ _ = _; omega))
      have hs6 := Lib.hid ((hres.out.ext hHeld).mod hMz (by show ¬ _ = _; omega))
      have O6 := Lib.hid ((O5.out.mod hMz (fun k hk he => by have := (hr5 k hk).1; omega) (fun k _ hk he => hk)))
      have hr6 := O6.out.row
      have E6 : Ext w _ := Mod.toExt (E0.trans hHeld) hMz (by intro k hk he; omega)
      clear hMz kb
      generalize (w5.setCell _ _).setCell _ _ = W1 at *
      go_wp2
      refine wp_region_held_drew (S := fun w' => Mod (fun k => k = w.heap.size + 1 + 1) W1 w') (by kernel_rfl) (Mod.of_ext (Ext.drew (Ext.refl _))) (fun hHeld => ?_)
      have Ed : Ext W1 W1.drew := Ext.drew (Ext.refl _)
      generalize W1.drew = W2 at *
      (refine wpAnyH_take (i := 0) (v := ?_) rfl (by kernel_rfl) (by kernel_rfl) (by kernel_rfl) (fun _ _ _ h => h) (Or.inl ⟨by rfl, ?_⟩) (by assumption) ?_; rotate_left; (focus (intro w' hSw; have kc := (BW.out.mod hSw (by omega)).two; go_simp; try with_reducible rfl)); (try simp only [List.getElem_toArray]); (try simp only [List.getElem_cons_succ]); (try simp only [List.getElem_cons_zero]); (try simp only [Act.put]); (try simp only [List.setIfInBounds_toArray]); (try simp only [List.set_cons_succ]); (try simp only [List.set_cons_zero]))
      (refine wpAnyH_take (i := 1) (v := ?_) rfl (by kernel_rfl) (by kernel_rfl) (by kernel_rfl) (fun _ _ _ h => h) (Or.inl ⟨by rfl, ?_⟩) (by assumption) ?_; rotate_left; (focus (intro w' hSw; go_simp; try with_reducible rfl)); (try simp only [List.getElem_toArray]); (try simp only [List.getElem_cons_succ]); (try simp only [List.getElem_cons_zero]); (try simp only [Act.put]); (try simp only [List.setIfInBounds_toArray]); (try simp only [List.set_cons_succ]); (try simp only [List.set_cons_zero]))
      (refine wpAnyH_take (i := 2) (v := ?_) rfl (by kernel_rfl) (by kernel_rfl) (by kernel_rfl) (fun _ _ _ h => h) (Or.inl ⟨by rfl, ?_⟩) (by assumption) ?_; rotate_left; (focus (intro w' hSw; have kc := (prAt_blk hqk (hp6.out.mod hSw (by omega))).c0; go_simp; try with_reducible rfl)); (try simp only [List.getElem_toArray]); (try simp only [List.getElem_cons_succ]); (try simp only [List.getElem_cons_zero]); (try simp only [Act.put]); (try simp only [List.setIfInBounds_toArray]); (try simp only [List.set_cons_succ]); (try simp only [List.set_cons_zero]))
      have hr7 := hs6.out.ext Ed
      have ks := hr7.two
      (refine wpAnyH_ready (rs := [3]) (by kernel_rfl) (by simp) ?_; refine AllReadyH.cons rfl (fun K hK => ?_) AllReadyH.nil; go_simp; refine hK.out _ _ (((Mod.of_ext Ed).set1 _).set1 _) (fun hHeld => ?_); clear hK K; (try simp only [Act.put]); (try simp only [List.getElem_toArray]); (try simp only [List.getElem_cons_succ]); (try simp only [List.getElem_cons_zero]); (try simp only [List.setIfInBounds_toArray]); (try simp only [List.set_cons_succ]); (try simp only [List.set_cons_zero]))
      (refine wpAnyH_take (i := 4) (v := ?_) rfl (by kernel_rfl) (by kernel_rfl) (by kernel_rfl) (fun _ _ _ h => h) (Or.inl ⟨by rfl, ?_⟩) (by assumption) ?_; rotate_left; (focus (intro w' hSw; go_simp; try with_reducible rfl)); (try simp only [List.getElem_toArray]); (try simp only [List.getElem_cons_succ]); (try simp only [List.getElem_cons_zero]); (try simp only [Act.put]); (try simp only [List.setIfInBounds_toArray]); (try simp only [List.set_cons_succ]); (try simp only [List.set_cons_zero]))
      (refine wpAnyH_take (i := 5) (v := ?_) rfl (by kernel_rfl) (by kernel_rfl) (by kernel_rfl) (fun _ _ _ h => h) (Or.inl ⟨by rfl, ?_⟩) (by assumption) ?_; rotate_left; (focus (intro w' hSw; go_simp; try with_reducible rfl)); (try simp only [List.getElem_toArray]); (try simp only [List.getElem_cons_succ]); (try simp only [List.getElem_cons_zero]); (try simp only [Act.put]); (try simp only [List.setIfInBounds_toArray]); (try simp only [List.set_cons_succ]); (try simp only [List.set_cons_zero]))
      refine wpAnyH_done (by kernel_rfl) ?_ _
      have hM7 : Mod (fun k => k = w.heap.size + 1 + 1) W1 _ := ((Mod.of_ext Ed).set1 (.slice A5 (l.length + 1) c5) (o := 0)).set1 (.int .i64 (IntKind.i64.wrap (nx + 1))) (o := 1)
      obtain ⟨q0, q1, _, _⟩ := (hr7.put2 (.slice A5 (l.length + 1) c5) (.int .i64 (IntKind.i64.wrap (nx + 1)))).two
      have hz6 := E6.size
      clear ks
      go_wp2
      refine bodyPost_ret (v := .tuple #[tv A5 (l.length + 1) c5 (IntKind.i64.wrap (nx + 1)), .int .i64 q.pid, .int .i64 0]) (by simp [results, Tryz.results31, go_sem, q0, q1]) rfl ?_
      exact ⟨Mod.toExt E6 hM7 (by intro k hk he; omega), .inr ⟨hl, A5, c5, by rw [hq0.out]; rfl, by rw [← HQ.out]; exact ((O6.out.mod hM7 (fun k hk he => by have := (hr6 k hk).1; omega) (fun k _ hk he => hk)).lower (by omega))⟩⟩
end Go.Proofs.YteljobleojhgmaaGreat
namespace Go.Proofs.YteljobleojhgmaaGreat
open Go.RowKit Go.Kb

/-- more's answer, told behind other steps -/
theorem MorePost.before {l : List Pr} {nx : Int} {p : Pr} {Ad : Option Addr} {c : Nat} {w w1 : World} {e : Ending} {w' : World} (h : MorePost l nx p Ad c w1 e w') (hE : Ext w w1) : MorePost l nx p Ad c w e w' :=
  ⟨hE.trans h.1, h.2.imp id fun ⟨h1, A, c', h2, h3⟩ => ⟨h1, A, c', h2, h3.lower hE.size⟩⟩
/-- stores into a new box behind it -/
theorem MorePost.box {l : List Pr} {nx : Int} {p : Pr} {Ad : Option Addr} {c : Nat} {w w1 : World} {e : Ending} {w' w2 : World} {g : Nat} (h : MorePost l nx p Ad c w1 e w') (hE : Ext w w1) (hg : w.heap.size ≤ g) (hg1 : g < w1.heap.size) (hM : Mod (fun k => k = g) w' w2) : MorePost l nx p Ad c w e w2 :=
  ⟨Mod.toExt (hE.trans h.1) hM (by intro k hk he; omega), h.2.imp id fun ⟨h1, A, c', h2, h3⟩ => ⟨h1, A, c', h2, (h3.mod hM (fun k hk he => by have := (h3.row k hk).1; omega) (fun k _ hk _ => hk)).lower hE.size⟩⟩
def spawnP (nx prog : Int) : Pr := ⟨0, 0, nx, nx, 0, prog, 0, 0, 0, List.replicate 32 0, 0, false⟩
theorem spawnP_ok (nx prog : Int) : (spawnP nx prog).ok := rfl
def SpawnPost (l : List Pr) (nx prog : Int) (Ad : Option Addr) (c : Nat) (w : World) (e : Ending) (w' : World) : Prop :=
  (rightL l nx = false ∧ Ext w w' ∧ e = .returned (.tuple #[tv Ad l.length c nx, .int .i64 0, .int .i64 4])) ∨ (rightL l nx = true ∧ MorePost l nx (spawnP nx prog) Ad c w e w')
set_option maxRecDepth 100000 in
set_option maxHeartbeats 800000 in
theorem spawn_any {A : Nat → Prop} (Ad : Option Addr) (c : Nat) (l : List Pr) (nx prog : Int) (w : World) (h : RdY Rp A w (.slice Ad l.length c) l) :
    Calls Tryz.prog 14 #[tv Ad l.length c nx, .int .i64 prog] w (SpawnPost l nx prog Ad c w) := by
  have H := Lib.hid (rdy_pr (B := fun _ => False) h)
  have hres := Lib.hid (Blk.at_ (w := w.alloc (.cells #[.slice Ad l.length c, .int .i64 nx] 29)) (B := w.heap.size + 1) 29 #[.slice none 0 0, .int .i64 0] (by simp))
  have hbox := Lib.hid ((Blk.new w 29 #[.slice Ad l.length c, .int .i64 nx]).alloc (.cells #[.slice none 0 0, .int .i64 0] 29))
  clear h
  cases hr : rightL l nx
  · have HR := Lib.hid hr
    clear hr
    go_enter Tryz.func14, Tryz.ntmps14
    go_wp2_with fail
    refine (right_any Ad c l nx _ (H.out.ext (by repeat (first | with_reducible exact Ext.refl _ | refine Ext.drewN ?_ _ | refine Ext.drew ?_ | refine Ext.alloc ?_ _ | assumption | (refine Below.trans ?_ (by assumption)) | (refine Ext.trans ?_ (by assumption)) | (refine Below.trans ?_ (Below.mono (by assumption) (by omega))))))).mono ?_
    rintro e w1 ⟨rfl, E1⟩
    rw [HR.out]
    have E01 : Ext w w1 := (by repeat (first | with_reducible exact Ext.refl _ | refine Ext.drewN ?_ _ | refine Ext.drew ?_ | refine Ext.alloc ?_ _ | assumption | (refine Below.trans ?_ (by assumption)) | (refine Ext.trans ?_ (by assumption)) | (refine Below.trans ?_ (Below.mono (by assumption) (by omega)))))
    have hs := hres.out.ext E1
    have hb := (hbox.out.ext E1).two
    have ks := hs.two
    have hM7 : Mod (fun k => k = w.heap.size + 1) w1 _ := ((Mod.refl _ w1).set1 (.slice Ad l.length c) (o := 0)).set1 (.int .i64 nx) (o := 1)
    obtain ⟨q0, q1, _, _⟩ := (hs.put2 (.slice Ad l.length c) (.int .i64 nx)).two
    go_wp2
    refine bodyPost_ret (v := .tuple #[tv Ad l.length c nx, .int .i64 0, .int .i64 4]) (by simp [results, Tryz.results14, go_sem, q0, q1]) rfl ?_
    exact .inl ⟨HR.out, Mod.toExt E01 hM7 (by intro k hk he; omega), rfl⟩
  · have HR := Lib.hid hr
    have hl := (right_len hr).1
    clear hr
    go_enter Tryz.func14, Tryz.ntmps14
    go_wp2_with fail
    refine (right_any Ad c l nx _ (H.out.ext (by repeat (first | with_reducible exact Ext.refl _ | refine Ext.drewN ?_ _ | refine Ext.drew ?_ | refine Ext.alloc ?_ _ | assumption | (refine Below.trans ?_ (by assumption)) | (refine Ext.trans ?_ (by assumption)) | (refine Below.trans ?_ (Below.mono (by assumption) (by omega))))))).mono ?_
    rintro e w1 ⟨rfl, E1⟩
    rw [HR.out]
    have E01 : Ext w w1 := (by repeat (first | with_reducible exact Ext.refl _ | refine Ext.drewN ?_ _ | refine Ext.drew ?_ | refine Ext.alloc ?_ _ | assumption | (refine Below.trans ?_ (by assumption)) | (refine Ext.trans ?_ (by assumption)) | (refine Below.trans ?_ (Below.mono (by assumption) (by omega)))))
    have hs := Lib.hid (hres.out.ext E1)
    have hb := (hbox.out.ext E1).two
    have hsz := hs.out.lt
    clear E1
    go_wp2_with fail
    refine (more_any Ad c l nx (spawnP nx prog) _ (H.out.ext E01) (by omega) (spawnP_ok _ _)).mono ?_
    rintro e w2 hm
    have hE := hm.1
    obtain ⟨_, ⟨h32, rfl⟩ | ⟨h32, A', c', rfl, _⟩⟩ := id hm
    · clear h32
      have hs2 := hs.out.ext hE
      have ks := hs2.two
      have hM7 : Mod (fun k => k = w.heap.size + 1) w2 _ := ((Mod.refl _ w2).set1 (.slice Ad l.length c) (o := 0)).set1 (.int .i64 nx) (o := 1)
      obtain ⟨q0, q1, _, _⟩ := (hs2.put2 (.slice Ad l.length c) (.int .i64 nx)).two
      go_wp2
      refine bodyPost_ret (v := .tuple #[tv Ad l.length c nx, .int .i64 0, .int .i64 10]) (by simp [results, Tryz.results14, go_sem, q0, q1]) rfl ?_
      exact .inr ⟨HR.out, hm.box E01 (by omega) hsz hM7⟩
    · clear h32
      have hs2 := hs.out.ext hE
      have ks := hs2.two
      have hM7 : Mod (fun k => k = w.heap.size + 1) w2 _ := ((Mod.refl _ w2).set1 (.slice A' (l.length + 1) c') (o := 0)).set1 (.int .i64 (nextNo nx)) (o := 1)
      obtain ⟨q0, q1, _, _⟩ := (hs2.put2 (.slice A' (l.length + 1) c') (.int .i64 (nextNo nx))).two
      go_wp2
      refine bodyPost_ret (v := .tuple #[tv A' (l.length + 1) c' (nextNo nx), .int .i64 nx, .int .i64 0]) (by simp [results, Tryz.results14, go_sem, q0, q1]) rfl ?_
      exact .inr ⟨HR.out, hm.box E01 (by omega) hsz hM7⟩
end Go.Proofs.YteljobleojhgmaaGreat
namespace Go.Proofs.YteljobleojhgmaaGreat
open Go.RowKit Go.Kb

abbrev Ib : Rep Int := Rep.int .i64
def askL (l : List Pr) (nx : Int) (ps : List Int) : Int := if rightL l nx = true then if ps.all (liveL l nx) = true then 0 else 8 else 4
set_option maxRecDepth 100000 in
set_option maxHeartbeats 800000 in
theorem ask_any {A B : Nat → Prop} (Ad Ap : Option Addr) (c cp : Nat) (l : List Pr) (nx : Int) (ps : List Int) (w : World) (h : RdY Rp A w (.slice Ad l.length c) l) (h2 : RdY Ib B w (.slice Ap ps.length cp) ps) :
    Calls Tryz.prog 32 #[tv Ad l.length c nx, .slice Ap ps.length cp] w fun e w' => e = .returned (.int .i64 (askL l nx ps)) ∧ Ext w w' := by
  have H := Lib.hid (rdy_pr (B := fun _ => False) h)
  have H2 := Lib.hid h2
  have hbox := Lib.hid (Blk.new w 29 #[.slice Ad l.length c, .int .i64 nx])
  obtain ⟨_, _, hv, hc1, hc2⟩ := h2.shape
  simp only [Value.slice.injEq] at hv
  obtain ⟨-, -, rfl⟩ := hv
  obtain ⟨n, hn⟩ : ∃ n, ps.length = n := ⟨_, rfl⟩
  rw [hn] at H2 hc1 ⊢
  have HN := Lib.hid hn
  clear h h2 hn
  cases hr : rightL l nx
  · have HR := Lib.hid hr
    clear hr
    go_enter Tryz.func32, Tryz.ntmps32
    go_wp2_with fail
    refine (right_any Ad c l nx _ (H.out.ext (by repeat (first | with_reducible exact Ext.refl _ | refine Ext.drewN ?_ _ | refine Ext.drew ?_ | refine Ext.alloc ?_ _ | assumption | (refine Below.trans ?_ (by assumption)) | (refine Ext.trans ?_ (by assumption)) | (refine Below.trans ?_ (Below.mono (by assumption) (by omega))))))).mono ?_
    rintro e w1 ⟨rfl, E1⟩
    rw [HR.out]
    have E01 : Ext w w1 := (by repeat (first | with_reducible exact Ext.refl _ | refine Ext.drewN ?_ _ | refine Ext.drew ?_ | refine Ext.alloc ?_ _ | assumption | (refine Below.trans ?_ (by assumption)) | (refine Ext.trans ?_ (by assumption)) | (refine Below.trans ?_ (Below.mono (by assumption) (by omega)))))
    go_wp2
    go_ret
    exact ⟨by unfold askL; rw [HR.out]; rfl, E01⟩
  · have HR := Lib.hid hr
    clear hr
    have HA : Hid (askL l nx ps = if ps.all (liveL l nx) = true then 0 else 8) := Lib.hid (by unfold askL; rw [HR.out]; rfl)
    go_enter Tryz.func32, Tryz.ntmps32
    go_wp2_with fail
    refine (right_any Ad c l nx _ (H.out.ext (by repeat (first | with_reducible exact Ext.refl _ | refine Ext.drewN ?_ _ | refine Ext.drew ?_ | refine Ext.alloc ?_ _ | assumption | (refine Below.trans ?_ (by assumption)) | (refine Ext.trans ?_ (by assumption)) | (refine Below.trans ?_ (Below.mono (by assumption) (by omega))))))).mono ?_
    rintro e w1 ⟨rfl, E1⟩
    rw [HR.out]
    have hbox := Lib.hid (hbox.out.ext E1)
    have E01 : Ext w w1 := (by repeat (first | with_reducible exact Ext.refl _ | refine Ext.drewN ?_ _ | refine Ext.drew ?_ | refine Ext.alloc ?_ _ | assumption | (refine Below.trans ?_ (by assumption)) | (refine Ext.trans ?_ (by assumption)) | (refine Below.trans ?_ (Below.mono (by assumption) (by omega)))))
    clear E1
    go_wp2
    go_loopw [12] (fun i wr => ∃ (m : Nat), m ≤ n ∧ i = .int .i64 m ∧ Hid (∀ x ∈ ps.take m, liveL l nx x = true) ∧ Hid (Blk wr w.heap.size 29 #[.slice Ad l.length c, .int .i64 nx]) ∧ Ext w wr) (fun i _ => n - (intOf i).toNat)
    case atStart => exact ⟨0, Nat.zero_le _, rfl, Lib.hid (by simp), hbox, E01⟩
    case round =>
      clear hbox E01
      obtain ⟨m, hm, rfl, HD, hbox, hE⟩ := hrel
      by_cases hlt : m < n
      · obtain ⟨b, off, u, d, rfl, q, hd, hrl⟩ := (H2.out.ext hE).at1 rfl hlt
        have hu : u = .int .i64 d := (List.cons.inj (show [u] = [.int .i64 d] from hrl.out)).1
        rw [hu] at q
        clear hu hrl
        have hb := hbox.out.two
        cases hlv : liveL l nx d
        · have HL := Lib.hid hlv
          clear hlv
          go_wp2_with fail
          refine (live_any Ad c l nx d _ (H.out.ext hE)).mono ?_
          rintro e w2 ⟨rfl, E2⟩
          rw [HL.out]
          go_wp2
          go_ret
          refine ⟨?_, hE.trans E2⟩
          rw [HA.out, if_neg (fun h => by have := List.all_eq_true.1 h d (List.mem_of_getElem? hd.out); rw [HL.out] at this; cases this)]
          rfl
        · have HL := Lib.hid hlv
          clear hlv
          go_wp2_with fail
          refine (live_any Ad c l nx d _ (H.out.ext hE)).mono ?_
          rintro e w2 ⟨rfl, E2⟩
          rw [HL.out]
          have hbox2 := Lib.hid (hbox.out.ext E2)
          have E02 : Ext w w2 := hE.trans E2
          go_wp2
          go_roundw
          case rel => exact ⟨m + 1, by omega, by go_num, Lib.hid (by
            rw [List.take_add_one, hd.out]
            intro x hx
            simp only [Option.toList_some, List.mem_append, List.mem_singleton] at hx
            exact hx.elim (HD.out x) fun h => by rw [h]; exact HL.out), hbox2, E02⟩
          case measure => simp [intOf]; omega
      · go_wp2
        go_ret
        refine ⟨?_, hE⟩
        rw [HA.out, if_pos (List.all_eq_true.2 fun x hx => HD.out x (by rw [List.take_of_length_le (by have := HN.out; omega)]; exact hx))]
        rfl
end Go.Proofs.YteljobleojhgmaaGreat
namespace Go.Proofs.YteljobleojhgmaaGreat
open Go.RowKit Go.Kb

theorem wpList_build_eq {P : Program} {ops : Array Oper} {rest : List Oper} {o : Oper} {a : Act} {w : World} {Q : Exit → Act → World → Prop} (hg : o.guard = none) (t : TypeId) (parts : Array (Nat × Operand)) (ho : o.op = .build t parts) {L : Array Value}
    (hf : P.built t (parts.map fun (i, x) => (i, a.eval x)).toList = some L) (h : wpList P ops Q rest (a.put o.dst (.agg L)) w) : wpList P ops Q (o :: rest) a w := by
  refine wpList_build hg t parts ho (by rw [hf]; rfl) ?_
  rw [hf]
  exact h
/-- a child, before it has its number -/
def forkP (p : Pr) (pid prog : Int) : Pr := ⟨0, pid, p.group, p.session, 0, prog, 0, 0, p.mask, p.acts, 0, false⟩
theorem forkP_ok {p : Pr} (pid prog : Int) (h : p.ok) : (forkP p pid prog).ok := h
theorem fork_built {p : Pr} (pid prog : Int) (h : p.ok) : Tryz.prog.built 42 [(1, .int .i64 pid), (2, .int .i64 p.group), (3, .int .i64 p.session), (5, .int .i64 prog), (8, .int .u64 p.mask), (9, .agg (p.acts.map (Value.int .i64)).toArray)] = some (forkP p pid prog).cells.toArray := by
  unfold Pr.ok at h
  obtain ⟨pid0, parent, group, session, state, prog0, pc, pending, mask, acts, status, told⟩ := p
  simp only at h
  match acts, h with
  | [x0, x1, x2, x3, x4, x5, x6, x7, x8, x9, x10, x11, x12, x13, x14, x15, x16, x17, x18, x19, x20, x21, x22, x23, x24, x25, x26, x27, x28, x29, x30, x31], _ => (show Tryz.prog.built _ _ = some _; kernel_rfl)
theorem i32a {p : Pr} (h : p.ok) : (Tryz.prog.info? 40).map (·.size) = some (p.acts.map (Value.int .i64)).length := by
  rw [List.length_map, show p.acts.length = 32 from h]
  kernel_rfl
theorem acts_at {w : World} {b o : Nat} {p : Pr} (h : PrAt w b o p) : ∀ i u, (p.acts.map (Value.int .i64))[i]? = some u → w.cell? ⟨b, o + 9 + i, none⟩ = some u := fun i u hu => by
  rw [List.getElem?_map] at hu
  cases hx : p.acts[i]? with
  | none => rw [hx] at hu; cases hu
  | some x => rw [hx] at hu; cases hu; exact h.ca i x hx
theorem askL_live {l : List Pr} {nx pid : Int} (h : askL l nx [pid] = 0) : rightL l nx = true ∧ ∃ p, getL l nx pid = (p, true) ∧ p ∈ l ∧ p.pid = pid := by
  unfold askL at h
  split at h
  · rename_i hr
    split at h
    · rename_i hl
      simp only [List.all_cons, List.all_nil, Bool.and_true, liveL, hr, Bool.true_and, List.any_eq_true, Bool.and_eq_true, beq_iff_eq] at hl
      obtain ⟨p, hp, hpid, _⟩ := hl
      refine ⟨hr, ?_⟩
      have hg : getL l nx pid = (match l.find? (fun p => p.pid == pid) with | some p => (p, true) | none => (zeroP, false)) := by unfold getL; rw [hr]; rfl
      cases hf : l.find? (fun p => p.pid == pid) with
      | none =>
        have := List.find?_eq_none.1 hf p hp
        simp [hpid] at this
      | some q => exact ⟨q, by rw [hg, hf], List.mem_of_find?_eq_some hf, by simpa using List.find?_some hf⟩
    · cases h
  · cases h
def ForkPost (l : List Pr) (nx pid prog : Int) (Ad : Option Addr) (c : Nat) (w : World) (e : Ending) (w' : World) : Prop :=
  (askL l nx [pid] ≠ 0 ∧ Ext w w' ∧ e = .returned (.tuple #[tv Ad l.length c nx, .int .i64 0, .int .i64 (askL l nx [pid])])) ∨ (askL l nx [pid] = 0 ∧ MorePost l nx (forkP (getL l nx pid).1 pid prog) Ad c w e w')
set_option maxRecDepth 100000 in
set_option maxHeartbeats 800000 in
theorem fork_any {A : Nat → Prop} (Ad : Option Addr) (c : Nat) (l : List Pr) (nx pid prog : Int) (w : World) (h : RdY Rp A w (.slice Ad l.length c) l) :
    Calls Tryz.prog 15 #[tv Ad l.length c nx, .int .i64 pid, .int .i64 prog] w (ForkPost l nx pid prog Ad c w) := by
  have H := Lib.hid (rdy_pr (B := fun _ => False) h)
  have hres := Lib.hid (Blk.at_ (w := w.alloc (.cells #[.slice Ad l.length c, .int .i64 nx] 29)) (B := w.heap.size + 1) 29 #[.slice none 0 0, .int .i64 0] (by simp))
  have hbox := Lib.hid ((Blk.new w 29 #[.slice Ad l.length c, .int .i64 nx]).alloc (.cells #[.slice none 0 0, .int .i64 0] 29))
  have hoks := RdY.oks h
  clear h
  obtain ⟨e0, he0⟩ : ∃ e0, askL l nx [pid] = e0 := ⟨_, rfl⟩
  have HE := Lib.hid he0
  clear he0
  go_enter Tryz.func15, Tryz.ntmps15
  go_wp2_with fail
  refine (ask_any (B := fun _ => True) Ad _ c _ l nx [pid] _ (H.out.ext (by repeat (first | with_reducible exact Ext.refl _ | refine Ext.drewN ?_ _ | refine Ext.drew ?_ | refine Ext.alloc ?_ _ | assumption | (refine Below.trans ?_ (by assumption)) | (refine Ext.trans ?_ (by assumption)) | (refine Below.trans ?_ (Below.mono (by assumption) (by omega)))))) (RdY.singleB (e := Ib) (cs := [.int .i64 pid]) rfl (Blk.at_ _ _ (by simp)))).mono ?_
  rintro e w1 ⟨rfl, E1⟩
  rw [HE.out]
  have E01 : Ext w w1 := (by repeat (first | with_reducible exact Ext.refl _ | refine Ext.drewN ?_ _ | refine Ext.drew ?_ | refine Ext.alloc ?_ _ | assumption | (refine Below.trans ?_ (by assumption)) | (refine Ext.trans ?_ (by assumption)) | (refine Below.trans ?_ (Below.mono (by assumption) (by omega)))))
  have hs := Lib.hid (hres.out.ext (Ext.trans ((Ext.refl _).alloc _) E1))
  have hb := Lib.hid (hbox.out.ext (Ext.trans ((Ext.refl _).alloc _) E1))
  have hsz := hs.out.lt
  clear E1 hres hbox
  have kb := hb.out.two
  have ks := hs.out.two
  by_cases hz : e0 = 0
  · subst hz
    obtain ⟨hr, p, hg, hpl, hpid⟩ := askL_live HE.out
    have hok := hoks p hpl
    have hl := (right_len hr).1
    have HG := Lib.hid hg
    clear hr hg hpl hpid hoks kb ks
    have kb := hb.out.two
    go_wp2_with fail
    refine (get_any Ad c l nx pid _ (H.out.ext E01)).mono ?_
    rintro e w2 ⟨rfl, E2⟩
    rw [HG.out]
    have E02 := E01.trans E2
    have kb := (hb.out.ext E2).two
    have hz2 := E02.size
    have hz3 := E2.size
    go_wp2_with (first
      | ((refine wpList_store_A rfl 42 _ _ rfl (w2.heap.size) _ rfl rfl 42 _ (zero_row w2 _ rfl) (by rw [List.size_toArray]; exact i43' hok) (Eq.trans (b := 43) (by rfl) (Eq.symm (show (p).cells.toArray.size = 43 from Pr.size hok))) (Pr.one hok) ?_); intro w3 H3 E3; have E13 : Ext w1 w3 := E3 w1.heap.size w1 (E2.alloc _) (by omega); have hp3 := prAt_blk hok H3; have c2 := hp3.c2; have c3 := hp3.c3; have c8 := hp3.c8; have kb := (hb.out.ext E13).two; clear E3)
      | (refine wpList_load_mid rfl 40 _ rfl w2.heap.size (0 + 9) rfl (p.acts.map (Value.int .i64)) _ (acts_at hp3) Tryz.underlying40 rfl (i32a hok) ?_)
      | (refine wpList_build_eq rfl 42 _ rfl (L := (forkP p pid prog).cells.toArray) ?_ ?_; (focus ((try simp [go_sem]); exact fork_built pid prog hok))))
    have E03 : Ext w w3 := E01.trans E13
    have hs := Lib.hid (hs.out.ext E13)
    have hsz := hs.out.lt
    clear c2 c3 c8 kb hp3 H3
    refine (more_any Ad c l nx (forkP p pid prog) _ (H.out.ext E03) (by omega) (forkP_ok _ _ hok)).mono ?_
    rintro e w4 hm
    have hE := hm.1
    have hp0 : forkP p pid prog = forkP (getL l nx pid).1 pid prog := by rw [HG.out]
    obtain ⟨_, ⟨h32, rfl⟩ | ⟨h32, A', c', rfl, _⟩⟩ := id hm
    · clear h32
      have hs2 := hs.out.ext hE
      have ks := hs2.two
      have hM7 : Mod (fun k => k = w.heap.size + 1) w4 _ := ((Mod.refl _ w4).set1 (.slice Ad l.length c) (o := 0)).set1 (.int .i64 nx) (o := 1)
      obtain ⟨q0, q1, _, _⟩ := (hs2.put2 (.slice Ad l.length c) (.int .i64 nx)).two
      go_wp2
      refine bodyPost_ret (v := .tuple #[tv Ad l.length c nx, .int .i64 0, .int .i64 10]) (by simp [results, Tryz.results15, go_sem, q0, q1]) rfl ?_
      exact .inr ⟨HE.out, by rw [← hp0]; exact hm.box E03 (by omega) hsz hM7⟩
    · have hs2 := hs.out.ext hE
      have ks := hs2.two
      have hM7 : Mod (fun k => k = w.heap.size + 1) w4 _ := ((Mod.refl _ w4).set1 (.slice A' (l.length + 1) c') (o := 0)).set1 (.int .i64 (nextNo nx)) (o := 1)
      obtain ⟨q0, q1, _, _⟩ := (hs2.put2 (.slice A' (l.length + 1) c') (.int .i64 (nextNo nx))).two
      go_wp2
      refine bodyPost_ret (v := .tuple #[tv A' (l.length + 1) c' (nextNo nx), .int .i64 nx, .int .i64 0]) (by simp [results, Tryz.results15, go_sem, q0, q1]) rfl ?_
      exact .inr ⟨HE.out, by rw [← hp0]; exact hm.box E03 (by omega) hsz hM7⟩
  · have hz2 : (e0 != 0) = true := by simpa using hz
    have hM7 : Mod (fun k => k = w.heap.size + 1) w1 _ := ((Mod.refl _ w1).set1 (.slice Ad l.length c) (o := 0)).set1 (.int .i64 nx) (o := 1)
    obtain ⟨q0, q1, _, _⟩ := (hs.out.put2 (.slice Ad l.length c) (.int .i64 nx)).two
    go_wp2
    refine bodyPost_ret (v := .tuple #[tv Ad l.length c nx, .int .i64 0, .int .i64 e0]) (by simp [results, Tryz.results15, go_sem, q0, q1]) rfl ?_
    exact .inl ⟨by rw [HE.out]; exact hz, Mod.toExt E01 hM7 (by intro k hk he; omega), by rw [HE.out]⟩
end Go.Proofs.YteljobleojhgmaaGreat
namespace Go.Proofs.YteljobleojhgmaaGreat
open Go.RowKit Go.Kb

section
variable {base G n c j : Nat} {B : Nat → Prop} {w w' : World} {l : List Pr} {p p' : Pr}
/-- a store into a cell of a process, in a row of the call's own -/
theorem own_put {i : Nat} {x : Value} (h : OwnS Rp 42 base B w (.slice (some ⟨G, 0, none⟩) n c) l) (hp : l[j]? = some p) (hi : i < 43) (hc : p.cells.set i x = p'.cells) (hk : p'.ok) :
    OwnS Rp 42 base B (w.setCell ⟨G, j * 43 + i, none⟩ x) (.slice (some ⟨G, 0, none⟩) n c) (l.set j p') := by
  have hj : j < l.length := (List.getElem?_eq_some_iff.1 hp).1
  exact OwnS.store (i := i) h hj hi fun cs d hd hr => by
    rw [hp] at hd
    cases hd
    obtain ⟨rfl, _⟩ := hr
    exact ⟨hc, hk⟩
theorem own_at (h : OwnS Rp 42 base B w (.slice (some ⟨G, 0, none⟩) n c) l) (hp : l[j]? = some p) : p.ok ∧ base ≤ G ∧ G < w.heap.size ∧ PrAt w G (j * 43) p ∧ (∀ o, w.frozen? ⟨G, o, none⟩ = false) ∧ ∀ i u, p.cells[i]? = some u → w.cell? ⟨G, j * 43 + i, none⟩ = some u := by
  have hj : j < l.length := (List.getElem?_eq_some_iff.1 hp).1
  obtain ⟨_, _, hv, _⟩ := h.shape
  simp only [Value.slice.injEq] at hv
  obtain ⟨-, hl, -⟩ := hv
  obtain ⟨b, off, q, hb, hd, hok, hc⟩ := pr_at h.y (show j < n by omega)
  cases hb
  rw [hp] at hd
  have hq : p = q := by have := hd.out; cases this; rfl
  subst hq
  have hc := hc.out
  simp only [Nat.zero_add] at hc
  have hf := (h.addr (by omega))
  obtain ⟨g, hg, _, hfr⟩ := hf
  cases hg
  obtain ⟨h1, h2⟩ := h.row G rfl
  exact ⟨hok, h1, h2, prAt_of hok hc, hfr, hc⟩
end
/-- a function value changes a process by g -/
def Turns (k : Nat) (bs fs : Array Value) (g : Pr → Pr) (w : World) : Prop :=
  (∀ args w', (callFunc k args).run Tryz.prog w' = .ok (.enter k args) w') ∧ ∀ (G base n c j : Nat) (l : List Pr) (p : Pr) (w' : World), Ext w w' → w.heap.size ≤ base →
    OwnS Rp 42 base (fun _ => False) w' (.slice (some ⟨G, 0, none⟩) n c) l → l[j]? = some p →
    Calls Tryz.prog k (bs.push (.pointer (some ⟨G, j * 43, none⟩)) ++ fs) w' fun e w'' => e = .returned (.tuple #[]) ∧ OwnS Rp 42 base (fun _ => False) w'' (.slice (some ⟨G, 0, none⟩) n c) (l.set j (g p)) ∧ Mod (fun k => k = G) w' w''
theorem Turns.ext {k : Nat} {bs fs : Array Value} {g : Pr → Pr} {w w' : World} (h : Turns k bs fs g w) (hE : Ext w w') : Turns k bs fs g w' :=
  ⟨h.1, fun G base n c j l p w2 h1 h2 => h.2 G base n c j l p w2 (hE.trans h1) (Nat.le_trans hE.size h2)⟩

theorem enters_group2 (args : Array Value) (w : World) : (callFunc 38 args).run Tryz.prog w = .ok (.enter 38 args) w := by kernel_rfl
set_option maxRecDepth 100000 in
set_option maxHeartbeats 400000 in
theorem turns_group {m : Nat} {group : Int} (w : World) (h : Blk w m 3 #[.int .i64 group]) : Turns 38 #[] #[.pointer (some ⟨m, 0, none⟩)] (fun p => { p with group := group }) w := by
  refine ⟨enters_group2, fun G base n c j l p w' hE hb O hp => ?_⟩
  obtain ⟨hok, hG, hlt, hat, hfr, _⟩ := own_at O hp
  have c2 := hat.c2
  have c0 := (h.ext hE).cell0
  have O2 := Lib.hid (own_put (p' := { p with group := group }) (i := 2) (x := .int .i64 group) O hp (by omega) (by
    simp [Pr.cells]) hok)
  have HM := Lib.hid ((Mod.refl (fun k => k = G) w').set1 (.int .i64 group) (o := j * 43 + 2))
  clear O hp hat hok
  show Calls Tryz.prog _ #[.pointer (some ⟨G, j * 43, none⟩), .pointer (some ⟨m, 0, none⟩)] w' _
  go_enter Tryz.func38, Tryz.ntmps38
  go_wp2
  go_end0
  exact ⟨rfl, O2.out, HM.out⟩

end Go.Proofs.YteljobleojhgmaaGreat
namespace Go.Proofs.YteljobleojhgmaaGreat
open Go.RowKit Go.Kb

/-- the first process of a number, changed -/
def changeL (g : Pr → Pr) (pid : Int) (l : List Pr) : List Pr :=
  match l.findIdx? (fun p => p.pid == pid) with
  | none => l
  | some j => match l[j]? with
    | none => l
    | some p => l.set j (g p)
theorem changeL_none {g : Pr → Pr} {pid : Int} {l : List Pr} (h : idxL (fun p => p.pid == pid) l = -1) : changeL g pid l = l := by
  unfold changeL
  unfold idxL at h
  split at h
  · omega
  · rename_i hn; rw [hn]
theorem changeL_some {g : Pr → Pr} {pid : Int} {l : List Pr} {j : Nat} {p : Pr} (h : idxL (fun p => p.pid == pid) l = j) (hp : l[j]? = some p) : changeL g pid l = l.set j (g p) := by
  unfold changeL
  unfold idxL at h
  split at h
  · rename_i i hi
    obtain rfl : i = j := by omega
    simp only [hi, hp]
  · omega
theorem changeL_len {g : Pr → Pr} {pid : Int} {l : List Pr} : (changeL g pid l).length = l.length := by
  unfold changeL
  split
  · rfl
  · split <;> simp
set_option maxRecDepth 100000 in
set_option maxHeartbeats 800000 in
theorem change_any {A : Nat → Prop} {k : Nat} {bs fs : Array Value} {g : Pr → Pr} (Ad : Option Addr) (c : Nat) (l : List Pr) (nx pid : Int) (w : World) (h : RdY Rp A w (.slice Ad l.length c) l) (hn : l.length ≤ 100000) (hf : Turns k bs fs g w) :
    Calls Tryz.prog 37 #[tv Ad l.length c nx, .int .i64 pid, .func (.func k) bs fs] w fun e w' => ∃ A' c', e = .returned (tv A' l.length c' nx) ∧ OwnS Rp 42 w.heap.size (fun _ => False) w' (.slice A' l.length c') (changeL g pid l) ∧ Ext w w' := by
  have H := Lib.hid (rdy_pr (B := fun _ => False) h)
  have HF := Lib.hid hf
  obtain ⟨W, hW⟩ : ∃ W, W = (w.alloc (.cells #[.slice Ad l.length c, .int .i64 nx] 29)).alloc (.cells #[.slice none 0 0, .int .i64 0] 29) := ⟨_, rfl⟩
  have hres := Lib.hid (show Blk W (w.heap.size + 1) 29 #[.slice none 0 0, .int .i64 0] by rw [hW]; exact Blk.at_ _ _ (by simp))
  have hbox := Lib.hid (show Blk W w.heap.size 29 #[.slice Ad l.length c, .int .i64 nx] by rw [hW]; exact (Blk.new w _ _).alloc _)
  have E0 : Ext w W := by rw [hW]; exact (by repeat (first | with_reducible exact Ext.refl _ | refine Ext.drewN ?_ _ | refine Ext.drew ?_ | refine Ext.alloc ?_ _ | assumption | (refine Below.trans ?_ (by assumption)) | (refine Ext.trans ?_ (by assumption)) | (refine Below.trans ?_ (Below.mono (by assumption) (by omega)))))
  have hsz := Lib.hid (show W.heap.size = w.heap.size + 2 by rw [hW]; simp)
  have HW := Lib.hid hW
  clear h hf hW
  go_enter Tryz.func37, Tryz.ntmps37
  go_wp2_with fail
  rw [← HW.out]
  refine (twin_any Ad c l nx _ (H.out.ext E0) (by omega)).mono ?_
  rintro e w1 ⟨A2, c2, rfl, o2, E1⟩
  have hr2 := o2.row
  have hz := hsz.out
  have kb := (hbox.out.ext E1).two
  have hMz : Mod (fun k => k = w.heap.size) w1 _ := ((Mod.refl _ w1).set1 (.slice A2 l.length c2) (o := 0)).set1 (.int .i64 nx) (o := 1)
  have BW := Lib.hid ((hbox.out.ext E1).put2 (.slice A2 l.length c2) (.int .i64 nx))
  have hs1 := Lib.hid ((hres.out.ext E1).mod hMz (by show ¬ _ = _; omega))
  have O1 := Lib.hid (o2.mod hMz (fun k hk he => by have := (hr2 k hk).1; omega) (fun k _ hk he => hk))
  have E01 : Ext w _ := Mod.toExt (E0.trans E1) hMz (by intro k hk he; omega)
  clear hMz o2 hr2 hz
  go_wp2
  clear kb
  generalize (w1.setCell _ _).setCell _ _ = W1 at *
  refine wp_region_held_drew (S := fun w' => Ext W1 w') (by kernel_rfl) (Ext.drew (Ext.refl _)) (fun hHeld => ?_)
  (refine wpAnyH_take (i := 0) (v := ?_) rfl (by kernel_rfl) (by kernel_rfl) (by kernel_rfl) (fun _ _ _ h => h) (Or.inl ⟨by rfl, ?_⟩) (by assumption) ?_; rotate_left; (focus (intro w' hSw; have kc := (BW.out.ext hSw).two; go_simp; try with_reducible rfl)); (try simp only [List.getElem_toArray]); (try simp only [List.getElem_cons_succ]); (try simp only [List.getElem_cons_zero]); (try simp only [Act.put]); (try simp only [List.setIfInBounds_toArray]); (try simp only [List.set_cons_succ]); (try simp only [List.set_cons_zero]))
  (refine wpAnyH_take (i := 1) (v := ?_) rfl (by kernel_rfl) (by kernel_rfl) (by kernel_rfl) (fun _ _ _ h => h) (Or.inl ⟨by rfl, ?_⟩) (by assumption) ?_; rotate_left; (focus (intro w' hSw; go_simp; try with_reducible rfl)); (try simp only [List.getElem_toArray]); (try simp only [List.getElem_cons_succ]); (try simp only [List.getElem_cons_zero]); (try simp only [Act.put]); (try simp only [List.setIfInBounds_toArray]); (try simp only [List.set_cons_succ]); (try simp only [List.set_cons_zero]))
  (refine wpAnyH_ready (rs := [2]) (by kernel_rfl) (by simp) ?_; refine AllReadyH.cons rfl (fun K hK => ?_) AllReadyH.nil; go_simp; go_at_call 44; refine (is_any pid _).mono ?_; rintro e w2 ⟨n2, rfl, F2, E2⟩; (try dsimp only); refine hK.out _ _ (by repeat (first | with_reducible exact Ext.refl _ | refine Ext.drewN ?_ _ | refine Ext.drew ?_ | refine Ext.alloc ?_ _ | assumption | (refine Below.trans ?_ (by assumption)) | (refine Ext.trans ?_ (by assumption)) | (refine Below.trans ?_ (Below.mono (by assumption) (by omega))))) (fun hHeld => ?_); clear hK K; (try simp only [Act.put]); (try simp only [List.getElem_toArray]); (try simp only [List.getElem_cons_succ]); (try simp only [List.getElem_cons_zero]); (try simp only [List.setIfInBounds_toArray]); (try simp only [List.set_cons_succ]); (try simp only [List.set_cons_zero]))
  have E12 : Ext W1 w2 := by assumption
  have hfind := find_any A2 c2 l nx w2 (RdY.ext (rdy_pr (B := fun _ => False) O1.out.y) E12) F2
  (refine wpAnyH_ready (rs := [3]) (by kernel_rfl) (by simp) ?_; refine AllReadyH.cons rfl (fun K hK => ?_) AllReadyH.nil; go_simp; go_at_call 34; refine (hfind).mono ?_; rintro e w4 ⟨E4, (⟨hx, m0, rfl, hm0, hz⟩ | ⟨j, b, off, hx, hlt, rfl, rfl⟩)⟩; all_goals ((try dsimp only); refine hK.out _ _ (by repeat (first | with_reducible exact Ext.refl _ | refine Ext.drewN ?_ _ | refine Ext.drew ?_ | refine Ext.alloc ?_ _ | assumption | (refine Below.trans ?_ (by assumption)) | (refine Ext.trans ?_ (by assumption)) | (refine Below.trans ?_ (Below.mono (by assumption) (by omega))))) (fun hHeld => ?_); clear hK K; (try simp only [Act.put]); (try simp only [List.getElem_toArray]); (try simp only [List.getElem_cons_succ]); (try simp only [List.getElem_cons_zero]); (try simp only [List.setIfInBounds_toArray]); (try simp only [List.set_cons_succ]); (try simp only [List.set_cons_zero])))
  all_goals
    (refine wpAnyH_take (i := 4) (v := ?_) rfl (by kernel_rfl) (by kernel_rfl) (by kernel_rfl) (fun _ _ _ h => h) (Or.inl ⟨by rfl, ?_⟩) (by assumption) ?_; rotate_left; (focus (intro w' hSw; go_simp; try with_reducible rfl)); (try simp only [List.getElem_toArray]); (try simp only [List.getElem_cons_succ]); (try simp only [List.getElem_cons_zero]); (try simp only [Act.put]); (try simp only [List.setIfInBounds_toArray]); (try simp only [List.set_cons_succ]); (try simp only [List.set_cons_zero]))
    (refine wpAnyH_take (i := 5) (v := ?_) rfl (by kernel_rfl) (by kernel_rfl) (by kernel_rfl) (fun _ _ _ h => h) (Or.inl ⟨by rfl, ?_⟩) (by assumption) ?_; rotate_left; (focus (intro w' hSw; go_simp; try with_reducible rfl)); (try simp only [List.getElem_toArray]); (try simp only [List.getElem_cons_succ]); (try simp only [List.getElem_cons_zero]); (try simp only [Act.put]); (try simp only [List.setIfInBounds_toArray]); (try simp only [List.set_cons_succ]); (try simp only [List.set_cons_zero]))
    (refine wpAnyH_take (i := 6) (v := ?_) rfl (by kernel_rfl) (by kernel_rfl) (by kernel_rfl) (fun _ _ _ h => h) (Or.inl ⟨by rfl, ?_⟩) (by assumption) ?_; rotate_left; (focus (intro w' hSw; go_simp; try with_reducible rfl)); (try simp only [List.getElem_toArray]); (try simp only [List.getElem_cons_succ]); (try simp only [List.getElem_cons_zero]); (try simp only [Act.put]); (try simp only [List.setIfInBounds_toArray]); (try simp only [List.set_cons_succ]); (try simp only [List.set_cons_zero]))
    (refine wpAnyH_take (i := 7) (v := ?_) rfl (by kernel_rfl) (by kernel_rfl) (by kernel_rfl) (fun _ _ _ h => h) (Or.inl ⟨by rfl, ?_⟩) (by assumption) ?_; rotate_left; (focus (intro w' hSw; go_simp; try with_reducible rfl)); (try simp only [List.getElem_toArray]); (try simp only [List.getElem_cons_succ]); (try simp only [List.getElem_cons_zero]); (try simp only [Act.put]); (try simp only [List.setIfInBounds_toArray]); (try simp only [List.set_cons_succ]); (try simp only [List.set_cons_zero]))
    (refine wpAnyH_take (i := 8) (v := ?_) rfl (by kernel_rfl) (by kernel_rfl) (by kernel_rfl) (fun _ _ _ h => h) (Or.inl ⟨by rfl, ?_⟩) (by assumption) ?_; rotate_left; (focus (intro w' hSw; go_simp; try with_reducible rfl)); (try simp only [List.getElem_toArray]); (try simp only [List.getElem_cons_succ]); (try simp only [List.getElem_cons_zero]); (try simp only [Act.put]); (try simp only [List.setIfInBounds_toArray]); (try simp only [List.set_cons_succ]); (try simp only [List.set_cons_zero]))
    refine wpAnyH_done (by kernel_rfl) ?_ _
    have E14 : Ext W1 w4 := E12.trans E4
    have E04 : Ext w w4 := E01.trans E14
    have hz := hsz.out
    have O4 := Lib.hid (O1.out.ext E14)
    have B4 := Lib.hid (BW.out.ext E14)
    have S4 := Lib.hid (hs1.out.ext E14)
    clear O1 BW hs1 F2 hfind
  · have HX := Lib.hid (changeL_none (g := g) hx)
    clear hx hz
    have kb := B4.out.two
    have ks := S4.out.two
    have hM7 : Mod (fun k => k = w.heap.size + 1) w4 _ := ((Mod.refl _ w4).set1 (.slice A2 l.length c2) (o := 0)).set1 (.int .i64 nx) (o := 1)
    obtain ⟨q0, q1, _, _⟩ := (S4.out.put2 (.slice A2 l.length c2) (.int .i64 nx)).two
    go_wp2
    refine bodyPost_ret (v := tv A2 l.length c2 nx) (by simp [results, Tryz.results37, go_sem, q0, q1]) rfl ?_
    have hr := O4.out.row
    have hz := hsz.out
    refine ⟨A2, c2, rfl, ?_, Mod.toExt E04 hM7 (by intro k hk he; omega)⟩
    rw [HX.out]
    exact (O4.out.mod hM7 (fun k hk he => by have := (hr k hk).1; omega) (fun k _ hk _ => hk)).lower (by omega)
  · obtain ⟨p, hp⟩ : ∃ p, l[j]? = some p := ⟨_, List.getElem?_eq_getElem hlt⟩
    have HX := Lib.hid (changeL_some (g := g) hx hp)
    obtain ⟨b', hb', hbase, _⟩ := O4.out.addr (by omega)
    simp only [Option.some.injEq, Addr.mk.injEq, and_true] at hb'
    obtain ⟨rfl, rfl⟩ := hb'
    have HK := HF.out.1
    have HA := Lib.hid (HF.out.2 b W.heap.size l.length c2 j l p w4 E04 (by omega) O4.out hp)
    clear hx hp hz
    go_wp2_with fail
    refine HA.out.mono ?_
    rintro e w5 ⟨rfl, O5, M5⟩
    have hz := hsz.out
    have hr := O5.row
    have B5 := Lib.hid (B4.out.mod M5 (by show ¬ _ = _; omega))
    have S5 := Lib.hid (S4.out.mod M5 (by show ¬ _ = _; omega))
    have E05 : Ext w w5 := Mod.toExt E04 M5 (by intro k hk he; omega)
    have O5 := Lib.hid O5
    have kb := B5.out.two
    have ks := S5.out.two
    have hM7 : Mod (fun k => k = w.heap.size + 1) w5 _ := ((Mod.refl _ w5).set1 (.slice (some ⟨b, 0, none⟩) l.length c2) (o := 0)).set1 (.int .i64 nx) (o := 1)
    obtain ⟨q0, q1, _, _⟩ := (S5.out.put2 (.slice (some ⟨b, 0, none⟩) l.length c2) (.int .i64 nx)).two
    clear hz hr
    go_wp2
    refine bodyPost_ret (v := tv (some ⟨b, 0, none⟩) l.length c2 nx) (by simp [results, Tryz.results37, go_sem, q0, q1]) rfl ?_
    have hr := O5.out.row
    have hz := hsz.out
    refine ⟨_, c2, rfl, ?_, Mod.toExt E05 hM7 (by intro k hk he; omega)⟩
    rw [HX.out]
    exact (O5.out.mod hM7 (fun k hk he => by have := (hr k hk).1; omega) (fun k _ hk _ => hk)).lower (by omega)
end Go.Proofs.YteljobleojhgmaaGreat
