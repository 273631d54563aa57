/- A queue, what went in and what came out, side by side in memory; lists of records compared. Conditions: the queue is one; lists are short. -/
import Derived.Test.YtefcafohhppmbaaK06
import Derived.Test.YtefcafohhppmbaaAppB
namespace Go.Proofs.Ytefcafohhppmbaa
open Go.RowKit Go.Kb

/-- a slice of slices of bytes -/
def RdLs (w : World) (v : Value) (ls : List (List Int)) : Prop :=
  ∃ vs : List Value, vs.length = ls.length ∧ RdN w 1 v ls.length vs ∧ ∀ (j : Nat) x l, vs[j]? = some x → ls[j]? = some l → RI .u8 w x l
theorem RdLs.ext {w w' : World} {v : Value} {ls : List (List Int)} (h : RdLs w v ls) (hE : Ext w w') : RdLs w' v ls := by
  obtain ⟨vs, h1, h2, h3⟩ := h
  exact ⟨vs, h1, h2.ext hE, fun j x l hx hl => (h3 j x l hx hl).ext hE⟩
theorem lists_take {ls ms : List (List Int)} {k : Nat} (hk : k ≤ ls.length) (hn : ¬ k < ls.length) (hl : ls.length = ms.length) (ht : ls.take k = ms.take k) : ls = ms := by
  have : k = ls.length := by omega
  subst this
  rw [List.take_of_length_le (Nat.le_refl _), List.take_of_length_le (by omega)] at ht
  exact ht
set_option maxHeartbeats 400000 in
theorem lists_q (va vb : Value) (xs ys : List (List Int)) (w : World) (ha : RdLs w va xs) (hb : RdLs w vb ys) :
    Calls Try.prog 20 #[va, vb] w fun e w' => e = .returned (.bool (decide (xs = ys))) ∧ Qt w w' := by
  obtain ⟨vs, hl1, hr1, hv1⟩ := ha
  obtain ⟨us, hl2, hr2, hv2⟩ := hb
  obtain ⟨_, A, c, rfl, hnc, hcm, _⟩ := id hr1
  obtain ⟨_, A2, c2, rfl, hnc2, hcm2, _⟩ := id hr2
  have L1 := Lib.hid hl1
  have L2 := Lib.hid hl2
  have R1 := Lib.hid hr1
  have R2 := Lib.hid hr2
  have V1 := Lib.hid hv1
  have V2 := Lib.hid hv2
  clear hl1 hl2 hr1 hr2 hv1 hv2
  unfold maxLen at hcm hcm2
  by_cases hl : xs.length = ys.length
  · have HL := Lib.hid hl
    have hq2 : ((xs.length : Int) == (ys.length : Int)) = true := by simp [hl]
    have hq3 : ((xs.length : Int) != (ys.length : Int)) = false := by simp [hl]
    clear hl
    go_enter Try.func20, Try.ntmps20
    go_wp2
    clear hq2 hq3
    go_loopw [13] (fun i wr => ∃ k : Nat, k ≤ xs.length ∧ i = .int .i64 k ∧ xs.take k = ys.take k ∧ Qt w wr) (fun i _ => xs.length - (intOf i).toNat)
    case atStart => exact ⟨0, Nat.zero_le _, rfl, by simp, Qt.refl _⟩
    case round =>
      obtain ⟨k, hk, rfl, ht, hq⟩ := hrel
      have HT := Lib.hid ht
      clear ht
      have R1 := Lib.hid (R1.out.ext hq.ext)
      have R2 := Lib.hid (R2.out.ext hq.ext)
      by_cases hlt : k < xs.length
      · have hlt2 : k < ys.length := by have := HL.out; omega
        obtain ⟨b, off, cc, hv, _, _, hc⟩ := R1.out.form (by omega)
        simp only [Value.slice.injEq] at hv
        obtain ⟨rfl, _, rfl⟩ := hv
        obtain ⟨b2, off2, cc2, hv, _, _, hc2⟩ := R2.out.form (by omega)
        simp only [Value.slice.injEq] at hv
        obtain ⟨rfl, _, rfl⟩ := hv
        obtain ⟨x, hx⟩ : ∃ x, vs[k]? = some x := ⟨_, List.getElem?_eq_getElem (by have := L1.out; omega)⟩
        obtain ⟨y, hy⟩ : ∃ y, us[k]? = some y := ⟨_, List.getElem?_eq_getElem (by have := L2.out; omega)⟩
        obtain ⟨l, hl⟩ : ∃ l, xs[k]? = some l := ⟨_, List.getElem?_eq_getElem hlt⟩
        obtain ⟨m, hm⟩ : ∃ m, ys[k]? = some m := ⟨_, List.getElem?_eq_getElem hlt2⟩
        have hcx := hc k x hx
        have hcy := hc2 k y hy
        have X := Lib.hid ((V1.out k x l hx hl).ext hq.ext)
        have Y := Lib.hid ((V2.out k y m hy hm).ext hq.ext)
        have HT2 : Hid (xs.take (k + 1) = ys.take (k + 1) ↔ l = m) := Lib.hid (by
          rw [List.take_add_one, List.take_add_one, HT.out, hl, hm]
          simp)
        have HM : Hid (l ≠ m → xs ≠ ys) := Lib.hid (by
          rintro hne rfl
          rw [hl] at hm
          exact hne (Option.some.inj hm))
        clear hc hc2 hx hy hl hm
        by_cases he : l = m
        · have HE := Lib.hid (decide_eq_true he)
          have HEE := Lib.hid he
          clear he
          go_wp2
          go_quiet ((go_at_call 13; exact Qt.calls (by rw [HE.out]) (bytes_q x y l m _ X.out Y.out)))
          go_wp2
          go_roundw
          case rel => exact ⟨k + 1, by omega, by go_num, HT2.out.2 HEE.out, (by repeat (first | with_reducible exact Qt.refl _ | refine Qt.drewN ?_ _ | assumption | refine Qt.trans ?_ (by assumption)))⟩
          case measure => simp [intOf]; omega
        · have HE := Lib.hid (decide_eq_false he)
          have HEE := Lib.hid he
          clear he
          go_wp2
          go_quiet ((go_at_call 13; exact Qt.calls (by rw [HE.out]) (bytes_q x y l m _ X.out Y.out)))
          go_wp2
          go_ret
          exact ⟨by simp [HM.out HEE.out], (by repeat (first | with_reducible exact Qt.refl _ | refine Qt.drewN ?_ _ | assumption | refine Qt.trans ?_ (by assumption)))⟩
      · go_wp2
        go_ret
        exact ⟨by simp [lists_take hk hlt HL.out HT.out], (by repeat (first | with_reducible exact Qt.refl _ | refine Qt.drewN ?_ _ | assumption | refine Qt.trans ?_ (by assumption)))⟩
  · have hq2 : ((xs.length : Int) == (ys.length : Int)) = false := by simp; omega
    have hq3 : ((xs.length : Int) != (ys.length : Int)) = true := by simp; omega
    have hne : xs ≠ ys := fun h => hl (by rw [h])
    have HN := Lib.hid hne
    clear hne hl
    go_enter Try.func20, Try.ntmps20
    go_wp2
    go_ret
    exact ⟨by simp [HN.out], Qt.refl _⟩
theorem lists_any (va vb : Value) (xs ys : List (List Int)) (w : World) (ha : RdLs w va xs) (hb : RdLs w vb ys) :
    Calls Try.prog 20 #[va, vb] w fun e w' => e = .returned (.bool (decide (xs = ys))) ∧ Ext w w' :=
  (lists_q va vb xs ys w ha hb).mono fun _ _ ⟨he, hq⟩ => ⟨he, hq.ext⟩
theorem y_rdls {A : Nat → Prop} {w : World} {v : Value} {ls : List (List Int)} (h : RdY (Rep.sl Ub) A w v ls) : RdLs w v ls := by
  obtain ⟨vs, h2, h1, h3⟩ := h
  have h1 : vs.length = ls.length := h1.trans (Nat.mul_one _)
  refine ⟨vs, h1, h2, fun j x l hx hl => ?_⟩
  obtain ⟨u, hu, hr⟩ := h3 j l hl
  have hu : (vs.drop (j * 1)).take 1 = [u] := hu
  rw [Nat.mul_one, List.take_one, List.head?_drop, hx] at hu
  simp at hu
  subst hu
  exact hr.ri
theorem lists_y {A B : Nat → Prop} (va vb : Value) (xs ys : List (List Int)) (w : World) (ha : RdY (Rep.sl Ub) A w va xs) (hb : RdY (Rep.sl Ub) B w vb ys) :
    Calls Try.prog 20 #[va, vb] w fun e w' => e = .returned (.bool (decide (xs = ys))) ∧ Ext w w' := lists_any va vb xs ys w (y_rdls ha) (y_rdls hb)
/-- a queue, the row of what went in, the row of what came out: apart, and none of their blocks in R -/
def InOut (c : Cf) (g base : Nat) (R : Nat → Prop) (w : World) (vi : Value) (li : List (List Int)) (vo : Value) (lo l : List (List Int)) (o : Bool) : Prop :=
  ∃ F O : Nat → Prop, Qm c g F w l o ∧ OwnS Rc 34 base (fun k => k < base) w vi li ∧ OwnS Rc 34 base O w vo lo ∧ (∀ k, vo.ownBlock = some k → O k) ∧
    (∀ k, O k → k < w.heap.size ∧ vi.ownBlock ≠ some k ∧ k ≠ g ∧ ¬ F k) ∧ (∀ k, vi.ownBlock = some k → k ≠ g ∧ ¬ F k) ∧ base ≤ g ∧ (∀ k, F k → base ≤ k) ∧ (∀ k, k = g ∨ F k ∨ O k ∨ vi.ownBlock = some k → ¬ R k)
section
variable {c : Cf} {g base : Nat} {R S : Nat → Prop} {w w' : World} {vi vo : Value} {li lo l : List (List Int)} {o : Bool}
theorem InOut.qm (h : InOut c g base R w vi li vo lo l o) : ∃ F, Qm c g F w l o := by
  obtain ⟨F, O, hQ, _⟩ := h
  exact ⟨F, hQ⟩
theorem InOut.modR (h : InOut c g base R w vi li vo lo l o) (hM : Mod S w w') (hS : ∀ k, k < w.heap.size → S k → base ≤ k ∧ R k) : InOut c g base R w' vi li vo lo l o := by
  obtain ⟨F, O, hQ, hi, ho, h1, h2, h3, h4, h5, h6⟩ := h
  have key : ∀ k, k < w.heap.size → (k = g ∨ F k ∨ O k ∨ vi.ownBlock = some k) → ¬ S k := fun k hk hx hs => h6 k hx (hS k hk hs).2
  have hgl : g < w.heap.size := hQ.lt_g
  refine ⟨F, O, ?_, hi.mod hM (fun k hk => key k (hi.row k hk).2 (.inr (.inr (.inr hk)))) (fun k hk hb hs => by have := (hS k hk hs).1; omega), ho.mod hM (fun k hk => key k (ho.row k hk).2 (.inr (.inr (.inl (h1 k hk))))) (fun k hk hb => key k hk (.inr (.inr (.inl hb)))), h1, fun k hk => ⟨Nat.lt_of_lt_of_le (h2 k hk).1 hM.size, (h2 k hk).2⟩, h3, h4, h5, h6⟩
  exact hQ.mod hM (key g hgl (.inl rfl)) fun k hk => key k (hQ.lt k hk) (.inr (.inl hk))
theorem InOut.vi_lt (h : InOut c g base R w vi li vo lo l o) : ∀ k, vi.ownBlock = some k → base ≤ k ∧ k < w.heap.size := by
  obtain ⟨F, O, _, hi, _⟩ := h
  exact hi.row
theorem InOut.vo_lt (h : InOut c g base R w vi li vo lo l o) : ∀ k, vo.ownBlock = some k → base ≤ k ∧ k < w.heap.size := by
  obtain ⟨F, O, _, _, ho, _⟩ := h
  exact ho.row
theorem InOut.vo_len (h : InOut c g base R w vi li vo lo l o) : lenOfV vo = lo.length := by
  obtain ⟨F, O, _, _, ho, _⟩ := h
  obtain ⟨Ad, k, rfl, _⟩ := ho.shape
  rfl
theorem InOut.rds (h : InOut c g base R w vi li vo lo l o) : RdY Rc (fun _ => True) w vi li ∧ RdY Rc (fun _ => True) w vo lo := by
  obtain ⟨F, O, _, hi, ho, _⟩ := h
  exact ⟨hi.y.mono fun _ _ _ => trivial, ho.y.mono fun _ _ _ => trivial⟩
theorem InOut.ext (h : InOut c g base R w vi li vo lo l o) (hE : Ext w w') : InOut c g base R w' vi li vo lo l o := h.modR (S := fun _ => False) (Mod.of_ext hE) fun _ _ h => h.elim
theorem InOut.none (h : InOut c g base R w vi li vo lo l o) : InOut c g base (fun _ => False) w vi li vo lo l o := by
  obtain ⟨F, O, hQ, hi, ho, h1, h2, h3, h4, h5, h6⟩ := h
  exact ⟨F, O, hQ, hi, ho, h1, h2, h3, h4, h5, fun _ _ h => h⟩
theorem InOut.fresh {R' : Nat → Prop} (h : InOut c g base R w vi li vo lo l o) (hR : ∀ k, R' k → w.heap.size ≤ k) : InOut c g base R' w vi li vo lo l o := by
  obtain ⟨F, O, hQ, hi, ho, h1, h2, h3, h4, h5, h6⟩ := h
  refine ⟨F, O, hQ, hi, ho, h1, h2, h3, h4, h5, fun k hk hr => ?_⟩
  have hk2 := hR k hr
  rcases hk with rfl | hk | hk | hk
  · have : k < w.heap.size := hQ.lt_g
    omega
  · have := hQ.lt k hk; omega
  · have := (h2 k hk).1; omega
  · have := (hi.row k hk).2; omega
/-- the queue takes a step -/
theorem InOut.step {F' X : Nat → Prop} {l' : List (List Int)} {o' : Bool} {F : Nat → Prop} (hM : Mod (fun k => k = g ∨ F k) w w') (hQ' : Qm c g F' w' l' o') (hF' : ∀ k, F' k → F k ∨ w.heap.size ≤ k) (hX : ∀ k, X k → w.heap.size ≤ k ∧ ¬ F' k) (hR : ∀ k, R k → k < w.heap.size) {O : Nat → Prop}
    (h : Qm c g F w l o ∧ OwnS Rc 34 base (fun k => k < base) w vi li ∧ OwnS Rc 34 base O w vo lo ∧ (∀ k, vo.ownBlock = some k → O k) ∧
    (∀ k, O k → k < w.heap.size ∧ vi.ownBlock ≠ some k ∧ k ≠ g ∧ ¬ F k) ∧ (∀ k, vi.ownBlock = some k → k ≠ g ∧ ¬ F k) ∧ base ≤ g ∧ (∀ k, F k → base ≤ k) ∧ (∀ k, k = g ∨ F k ∨ O k ∨ vi.ownBlock = some k → ¬ R k)) (_ : base ≤ w.heap.size) :
    InOut c g base (fun k => R k ∨ X k) w' vi li vo lo l' o' ∧ Mod (fun k => base ≤ k ∧ ¬ R k) w w' := by
  obtain ⟨hQ, hi, ho, h1, h2, h3, h4, h5, h6⟩ := h
  have hgl : g < w.heap.size := hQ.lt_g
  refine ⟨⟨F', O, hQ', hi.mod hM (fun k hk hs => ?_) (fun k hk hb hs => ?_), ho.mod hM (fun k hk hs => ?_) (fun k hk hb hs => ?_), h1, fun k hk => ⟨Nat.lt_of_lt_of_le (h2 k hk).1 hM.size, (h2 k hk).2.1, (h2 k hk).2.2.1, fun hf => ?_⟩, fun k hk => ⟨(h3 k hk).1, fun hf => ?_⟩, h4, fun k hk => ?_, fun k hk hr => ?_⟩, hM.mono fun k hk hs => ?_⟩
  · exact hs.elim (h3 k hk).1 (h3 k hk).2
  · rcases hs with rfl | hs
    · omega
    · have := h5 k hs; omega
  · have := h2 k (h1 k hk)
    exact hs.elim this.2.2.1 this.2.2.2
  · have := h2 k hb
    exact hs.elim this.2.2.1 this.2.2.2
  · have := h2 k hk
    rcases hF' k hf with h | h
    · exact this.2.2.2 h
    · omega
  · have := (hi.row k hk).2
    rcases hF' k hf with h | h
    · exact (h3 k hk).2 h
    · omega
  · rcases hF' k hk with h | h
    · exact h5 k h
    · omega
  · rcases hr with hr | hr
    · have := hR k hr
      rcases hk with hk | hk | hk | hk
      · exact h6 k (.inl hk) hr
      · rcases hF' k hk with h | h
        · exact h6 k (.inr (.inl h)) hr
        · omega
      · exact h6 k (.inr (.inr (.inl hk))) hr
      · exact h6 k (.inr (.inr (.inr hk))) hr
    · have := hX k hr
      rcases hk with rfl | hk | hk | hk
      · omega
      · exact this.2 hk
      · have := (h2 k hk).1; omega
      · have := (hi.row k hk).2; omega
  · rcases hs with rfl | hs
    · exact ⟨h4, h6 _ (.inl rfl)⟩
    · exact ⟨h5 k hs, h6 k (.inr (.inl hs))⟩
theorem do_io (v2 : Value) (x : Opn) (h : InOut c g base R w vi li vo lo l o) (hb : RI .u8 w v2 x.2) (hn : x.2.length ≤ 140737488355328) (hR : ∀ k, R k → k < w.heap.size) (hB : base ≤ w.heap.size) :
    Calls Try.prog 11 #[.pointer (some ⟨g, 0, none⟩), .agg #[.int .i64 x.1, v2]] w fun e w' => ∃ Ad k, e = .returned (.tuple #[.slice Ad (doB l x).length k, .bool (doK c l x)]) ∧
      OwnS Ub 5 w.heap.size (fun _ => False) w' (.slice Ad (doB l x).length k) (doB l x) ∧ InOut c g base (fun j => R j ∨ (Value.slice Ad (doB l x).length k).ownBlock = some j) w' vi li vo lo (doL c l x) (doO c l o x) ∧ Mod (fun k => base ≤ k ∧ ¬ R k) w w' := by
  obtain ⟨F, O, h⟩ := h
  refine (do_any c g w l o v2 x h.1 hb hn).mono ?_
  rintro e w' ⟨Ad, k, F', he, hown, hsep, hQ', hF', hM⟩
  exact ⟨Ad, k, he, hown, InOut.step hM hQ' hF' (X := fun j => (Value.slice Ad (doB l x).length k).ownBlock = some j) (fun j hj => ⟨(hown.row j hj).1, hsep j hj⟩) hR h hB⟩
theorem pop_io (h : InOut c g base R w vi li vo lo l o) (hR : ∀ k, R k → k < w.heap.size) (hB : base ≤ w.heap.size) :
    Calls Try.prog 19 #[.pointer (some ⟨g, 0, none⟩)] w fun e w' => ∃ Ad k, e = .returned (.tuple #[.slice Ad (frL l).length k, .bool (!l.isEmpty)]) ∧
      OwnS Ub 5 w.heap.size (fun _ => False) w' (.slice Ad (frL l).length k) (frL l) ∧ InOut c g base (fun j => R j ∨ (Value.slice Ad (frL l).length k).ownBlock = some j) w' vi li vo lo l.tail (popO c l o) ∧ Mod (fun k => base ≤ k ∧ ¬ R k) w w' := by
  obtain ⟨F, O, h⟩ := h
  refine (pop_any c g w l o h.1).mono ?_
  rintro e w' ⟨⟨Ad, k, he, hown⟩, hQ', hM⟩
  exact ⟨Ad, k, he, hown, InOut.step hM hQ' (fun _ h => .inl h) (X := fun j => (Value.slice Ad (frL l).length k).ownBlock = some j) (fun j hj => ⟨(hown.row j hj).1, fun hf => by have := (hown.row j hj).1; have := h.1.lt j hf; omega⟩) hR h hB⟩
/-- one more went in -/
theorem wpList_in {ops : Array Oper} {rest : List Oper} {op : Oper} {a : Act} {Q : Exit → Act → World → Prop} (hgd : op.guard = Option.none) (s x : Operand)
    (ho : op.op = .call { callee := .builtin .append, args := #[s, x], argTypes := #[43, 43] })
    (h : InOut c g base R w vi li vo lo l o) (hs : a.eval s = vi) {n : Nat} (hx : a.eval x = .slice (some ⟨n, 0, Option.none⟩) 1 1) {t : TypeId} {u : Value} (hu : Blk w n t #[u]) {b : List Int} (hr : RdS Ub (fun k => k < base) w u b) (hm : li.length ≤ 1000000) (hB : base ≤ w.heap.size)
    (hK : ∀ Ad k w', InOut c g base (fun _ => False) w' (.slice Ad (li.length + 1) k) (li ++ [b]) vo lo l o → Below base w w' → Mod (fun k => vi.ownBlock = some k) w w' → wpList Try.prog ops Q rest (a.put op.dst (.slice Ad (li.length + 1) k)) w') : wpList Try.prog ops Q (op :: rest) a w := by
  obtain ⟨F, O, hQ, hi, hO, h1, h2, h3, h4, h5, h6⟩ := h
  have hrow := hi.row
  refine wpList_appB (e := Rc) (A := fun k => k < base) hgd s x ho Try.underlying43 info_rc rfl hi hs (RdY.singleB (e := Rc) ⟨u, rfl, hr⟩ hu) hx (fun k _ hk => ⟨hk, fun h => by have := (hrow k h).1; omega⟩) (N := li.length + 1) rfl (by simp [maxLen]; omega) (by omega) hB fun Ad k w' o1 M1 B1 hv => hK Ad k w' ?_ B1 M1
  refine ⟨F, O, hQ.mod M1 (fun hk => (h3 g hk).1 rfl) fun k hk hv => (h3 k hv).2 hk, o1, hO.mod M1 (fun k hk hv => (h2 k (h1 k hk)).2.1 hv) (fun k _ hk hv => (h2 k hk).2.1 hv), h1, fun k hk => ⟨Nat.lt_of_lt_of_le (h2 k hk).1 M1.size, fun hv2 => ?_, (h2 k hk).2.2⟩, fun k hk => ?_, h4, h5, fun _ _ h => h⟩
  · rcases hv with hv | hv
    · rw [hv] at hv2; exact (h2 k hk).2.1 hv2
    · rw [hv] at hv2
      have := (h2 k hk).1
      cases hv2
      omega
  · rcases hv with hv | hv
    · rw [hv] at hk; exact h3 k hk
    · rw [hv] at hk
      cases hk
      have hgl : g < w.heap.size := hQ.lt_g
      exact ⟨by omega, fun hf => by have := hQ.lt _ hf; omega⟩
/-- one more came out -/
theorem wpList_out {ops : Array Oper} {rest : List Oper} {op : Oper} {a : Act} {Q : Exit → Act → World → Prop} (hgd : op.guard = Option.none) (s x : Operand)
    (ho : op.op = .call { callee := .builtin .append, args := #[s, x], argTypes := #[43, 43] })
    (h : InOut c g base R w vi li vo lo l o) (hs : a.eval s = vo) {n : Nat} (hx : a.eval x = .slice (some ⟨n, 0, Option.none⟩) 1 1) {t : TypeId} {u : Value} (hu : Blk w n t #[u]) {b : List Int} {b0 : Nat} (hr : OwnS Ub 5 b0 (fun _ => False) w u b) (hR : ∀ k, u.ownBlock = some k → R k) (hm : lo.length ≤ 1000000) (hB : base ≤ w.heap.size)
    (hK : ∀ Ad k w', InOut c g base (fun _ => False) w' vi li (.slice Ad (lo.length + 1) k) (lo ++ [b]) l o → Below base w w' → Mod (fun k => vo.ownBlock = some k) w w' → wpList Try.prog ops Q rest (a.put op.dst (.slice Ad (lo.length + 1) k)) w') : wpList Try.prog ops Q (op :: rest) a w := by
  obtain ⟨F, O, hQ, hi, hO, h1, h2, h3, h4, h5, h6⟩ := h
  have hrow := hr.row
  have hnew : ∀ k, u.ownBlock = some k → ¬ (k = g ∨ F k ∨ O k ∨ vi.ownBlock = some k) := fun k hk hx => h6 k hx (hR k hk)
  have hrs : RdS Ub (fun k => u.ownBlock = some k) w u b := ⟨hr.y.mono fun k _ hk => hk.1.elim, fun _ k hk => hk⟩
  refine wpList_appB (e := Rc) (A := fun k => u.ownBlock = some k) hgd s x ho Try.underlying43 info_rc rfl (hO.mono (B := fun k => O k ∨ u.ownBlock = some k) fun _ _ h => .inl h) hs (RdY.singleB (e := Rc) ⟨u, rfl, hrs⟩ hu) hx (fun k _ hk => ⟨.inr hk, fun h => hnew k hk (.inr (.inr (.inl (h1 k h))))⟩) (N := lo.length + 1) rfl (by simp [maxLen]; omega) (by omega) hB fun Ad k' w' o1 M1 B1 hv => hK Ad k' w' ?_ B1 M1
  have hgl : g < w.heap.size := hQ.lt_g
  refine ⟨F, fun k => (O k ∨ u.ownBlock = some k) ∨ (Value.slice Ad (lo.length + 1) k').ownBlock = some k, hQ.mod M1 (fun hk => (h2 g (h1 g hk)).2.2.1 rfl) fun k hk hv => (h2 k (h1 k hv)).2.2.2 hk, hi.mod M1 (fun k hk hv => (h2 k (h1 k hv)).2.1 hk) (fun k hk _ hv => by have := (hO.row k hv).1; omega), o1.mono fun _ _ h => .inl h, fun k hk => .inr hk, fun k hk => ?_, h3, h4, h5, fun _ _ h => h⟩
  have hnw : w.heap.size ≠ g ∧ ¬ F w.heap.size ∧ vi.ownBlock ≠ some w.heap.size := ⟨by omega, fun h => by have := hQ.lt _ h; omega, fun h => by have := (hi.row _ h).2; omega⟩
  rcases hk with (hk | hk) | hk
  · exact ⟨Nat.lt_of_lt_of_le (h2 k hk).1 M1.size, (h2 k hk).2⟩
  · have h7 := hnew k hk
    exact ⟨Nat.lt_of_lt_of_le (hrow k hk).2 M1.size, fun h => h7 (.inr (.inr (.inr h))), fun h => h7 (.inl h), fun h => h7 (.inr (.inl h))⟩
  · refine ⟨(o1.row k hk).2, ?_⟩
    rcases hv with hv | hv
    · rw [hv] at hk
      exact (h2 k (h1 k hk)).2
    · rw [hv] at hk
      cases hk
      exact ⟨hnw.2.2, hnw.1, hnw.2.1⟩
end
end Go.Proofs.Ytefcafohhppmbaa
