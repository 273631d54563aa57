/- Lists compared; what is handed out written over: contracts and words. No condition. -/
import Derived.Test.YtilmkghopeoipaaO10
import Derived.Test.YtilmkghopeoipaaQ10
import Derived.Test.YtilmkghopeoipaaD10
namespace Go.Proofs.Ytilmkghopeoipaa
open Go.RowKit Go.Kb

/-- a slice of slices of bytes -/
def RdLs (w : World) (v : Value) (ls : List (List Int)) : Prop :=
  ∃ vs : List Value, vs.length = ls.length ∧ RdN w 1 v ls.length vs ∧ ∀ (j : Nat) x l, vs[j]? = some x → ls[j]? = some l → RI .u8 w x l
theorem RdLs.ext {w w' : World} {v : Value} {ls : List (List Int)} (h : RdLs w v ls) (hE : Ext w w') : RdLs w' v ls := by
  obtain ⟨vs, h1, h2, h3⟩ := h
  exact ⟨vs, h1, h2.ext hE, fun j x l hx hl => (h3 j x l hx hl).ext hE⟩
theorem lists_take {ls ms : List (List Int)} {k : Nat} (hk : k ≤ ls.length) (hn : ¬ k < ls.length) (hl : ls.length = ms.length) (ht : ls.take k = ms.take k) : ls = ms := by
  have : k = ls.length := by omega
  subst this
  rw [List.take_of_length_le (Nat.le_refl _), List.take_of_length_le (by omega)] at ht
  exact ht
set_option maxHeartbeats 400000 in
theorem lists_q (va vb : Value) (xs ys : List (List Int)) (w : World) (ha : RdLs w va xs) (hb : RdLs w vb ys) :
    Calls Try.prog 15 #[va, vb] w fun e w' => e = .returned (.bool (decide (xs = ys))) ∧ Qt w w' := by
  obtain ⟨vs, hl1, hr1, hv1⟩ := ha
  obtain ⟨us, hl2, hr2, hv2⟩ := hb
  obtain ⟨_, A, c, rfl, hnc, hcm, _⟩ := id hr1
  obtain ⟨_, A2, c2, rfl, hnc2, hcm2, _⟩ := id hr2
  have L1 := Lib.hid hl1
  have L2 := Lib.hid hl2
  have R1 := Lib.hid hr1
  have R2 := Lib.hid hr2
  have V1 := Lib.hid hv1
  have V2 := Lib.hid hv2
  clear hl1 hl2 hr1 hr2 hv1 hv2
  unfold maxLen at hcm hcm2
  by_cases hl : xs.length = ys.length
  · have HL := Lib.hid hl
    have hq2 : ((xs.length : Int) == (ys.length : Int)) = true := by simp [hl]
    have hq3 : ((xs.length : Int) != (ys.length : Int)) = false := by simp [hl]
    clear hl
    go_enter Try.func15, Try.ntmps15
    go_wp2
    clear hq2 hq3
    go_loopw [13] (fun i wr => ∃ k : Nat, k ≤ xs.length ∧ i = .int .i64 k ∧ xs.take k = ys.take k ∧ Qt w wr) (fun i _ => xs.length - (intOf i).toNat)
    case atStart => exact ⟨0, Nat.zero_le _, rfl, by simp, Qt.refl _⟩
    case round =>
      obtain ⟨k, hk, rfl, ht, hq⟩ := hrel
      have HT := Lib.hid ht
      clear ht
      have R1 := Lib.hid (R1.out.ext hq.ext)
      have R2 := Lib.hid (R2.out.ext hq.ext)
      by_cases hlt : k < xs.length
      · have hlt2 : k < ys.length := by have := HL.out; omega
        obtain ⟨b, off, cc, hv, _, _, hc⟩ := R1.out.form (by omega)
        simp only [Value.slice.injEq] at hv
        obtain ⟨rfl, _, rfl⟩ := hv
        obtain ⟨b2, off2, cc2, hv, _, _, hc2⟩ := R2.out.form (by omega)
        simp only [Value.slice.injEq] at hv
        obtain ⟨rfl, _, rfl⟩ := hv
        obtain ⟨x, hx⟩ : ∃ x, vs[k]? = some x := ⟨_, List.getElem?_eq_getElem (by have := L1.out; omega)⟩
        obtain ⟨y, hy⟩ : ∃ y, us[k]? = some y := ⟨_, List.getElem?_eq_getElem (by have := L2.out; omega)⟩
        obtain ⟨l, hl⟩ : ∃ l, xs[k]? = some l := ⟨_, List.getElem?_eq_getElem hlt⟩
        obtain ⟨m, hm⟩ : ∃ m, ys[k]? = some m := ⟨_, List.getElem?_eq_getElem hlt2⟩
        have hcx := hc k x hx
        have hcy := hc2 k y hy
        have X := Lib.hid ((V1.out k x l hx hl).ext hq.ext)
        have Y := Lib.hid ((V2.out k y m hy hm).ext hq.ext)
        have HT2 : Hid (xs.take (k + 1) = ys.take (k + 1) ↔ l = m) := Lib.hid (by
          rw [List.take_add_one, List.take_add_one, HT.out, hl, hm]
          simp)
        have HM : Hid (l ≠ m → xs ≠ ys) := Lib.hid (by
          rintro hne rfl
          rw [hl] at hm
          exact hne (Option.some.inj hm))
        clear hc hc2 hx hy hl hm
        by_cases he : l = m
        · have HE := Lib.hid (decide_eq_true he)
          have HEE := Lib.hid he
          clear he
          go_wp2
          go_quiet ((go_at_call 9; exact Qt.calls (by rw [HE.out]) (bytes_q x y l m _ X.out Y.out)))
          go_wp2
          go_roundw
          case rel => exact ⟨k + 1, by omega, by go_num, HT2.out.2 HEE.out, (by repeat (first | with_reducible exact Qt.refl _ | refine Qt.drewN ?_ _ | assumption | refine Qt.trans ?_ (by assumption)))⟩
          case measure => simp [intOf]; omega
        · have HE := Lib.hid (decide_eq_false he)
          have HEE := Lib.hid he
          clear he
          go_wp2
          go_quiet ((go_at_call 9; exact Qt.calls (by rw [HE.out]) (bytes_q x y l m _ X.out Y.out)))
          go_wp2
          go_ret
          exact ⟨by simp [HM.out HEE.out], (by repeat (first | with_reducible exact Qt.refl _ | refine Qt.drewN ?_ _ | assumption | refine Qt.trans ?_ (by assumption)))⟩
      · go_wp2
        go_ret
        exact ⟨by simp [lists_take hk hlt HL.out HT.out], (by repeat (first | with_reducible exact Qt.refl _ | refine Qt.drewN ?_ _ | assumption | refine Qt.trans ?_ (by assumption)))⟩
  · have hq2 : ((xs.length : Int) == (ys.length : Int)) = false := by simp; omega
    have hq3 : ((xs.length : Int) != (ys.length : Int)) = true := by simp; omega
    have hne : xs ≠ ys := fun h => hl (by rw [h])
    have HN := Lib.hid hne
    clear hne hl
    go_enter Try.func15, Try.ntmps15
    go_wp2
    go_ret
    exact ⟨by simp [HN.out], Qt.refl _⟩
theorem lists_any (va vb : Value) (xs ys : List (List Int)) (w : World) (ha : RdLs w va xs) (hb : RdLs w vb ys) :
    Calls Try.prog 15 #[va, vb] w fun e w' => e = .returned (.bool (decide (xs = ys))) ∧ Ext w w' :=
  (lists_q va vb xs ys w ha hb).mono fun _ _ ⟨he, hq⟩ => ⟨he, hq.ext⟩
theorem y_rdls {A : Nat → Prop} {w : World} {v : Value} {ls : List (List Int)} (h : RdY (Rep.sl Ub) A w v ls) : RdLs w v ls := by
  obtain ⟨vs, h2, h1, h3⟩ := h
  have h1 : vs.length = ls.length := h1.trans (Nat.mul_one _)
  refine ⟨vs, h1, h2, fun j x l hx hl => ?_⟩
  obtain ⟨u, hu, hr⟩ := h3 j l hl
  have hu : (vs.drop (j * 1)).take 1 = [u] := hu
  rw [Nat.mul_one, List.take_one, List.head?_drop, hx] at hu
  simp at hu
  subst hu
  exact hr.ri
theorem lists_y {A B : Nat → Prop} (va vb : Value) (xs ys : List (List Int)) (w : World) (ha : RdY (Rep.sl Ub) A w va xs) (hb : RdY (Rep.sl Ub) B w vb ys) :
    Calls Try.prog 15 #[va, vb] w fun e w' => e = .returned (.bool (decide (xs = ys))) ∧ Ext w w' := lists_any va vb xs ys w (y_rdls ha) (y_rdls hb)
/-- only bytes have turned, into bytes, all in blocks from B on; and new blocks were made -/
structure Ow (B : Nat) (ws w : World) : Prop where
  low : Below B ws w
  size : ws.heap.size ≤ w.heap.size
  cell : ∀ k o v, ws.cell? ⟨k, o, none⟩ = some v → w.cell? ⟨k, o, none⟩ = some v ∨ ∃ x y, v = .int .u8 x ∧ w.cell? ⟨k, o, none⟩ = some (.int .u8 y)
  froz : ∀ k o, k < ws.heap.size → w.frozen? ⟨k, o, none⟩ = ws.frozen? ⟨k, o, none⟩
section
variable {B : Nat} {ws w w' : World}
theorem Ow.refl (B : Nat) (w : World) : Ow B w w := ⟨Below.refl _ _, Nat.le_refl _, fun _ _ _ h => .inl h, fun _ _ _ => rfl⟩
theorem Ow.ext (h : Ow B ws w) (hE : Ext w w') (hB : B ≤ ws.heap.size) : Ow B ws w' := by
  refine ⟨h.low.trans (hE.mono (Nat.le_trans hB h.size)), Nat.le_trans h.size hE.size, fun k o v hv => ?_, fun k o hk => ?_⟩
  · rcases h.cell k o v hv with h1 | ⟨x, y, h1, h2⟩
    · exact .inl (cell_ext hE h1)
    · exact .inr ⟨x, y, h1, cell_ext hE h2⟩
  · rw [← h.froz k o hk]
    exact frozen_of (hE.block k (Nat.lt_of_lt_of_le hk h.size)) o
theorem Ow.set {g o : Nat} {x y : Int} (h : Ow B ws w) (hc : w.cell? ⟨g, o, none⟩ = some (.int .u8 x)) (hg : B ≤ g) : Ow B ws (w.setCell ⟨g, o, none⟩ (.int .u8 y)) := by
  refine ⟨h.low.setCell hg _, by simpa [World.setCell] using h.size, fun k o' v hv => ?_, fun k o' hk => ?_⟩
  · by_cases hk : k = g ∧ o' = o
    · obtain ⟨rfl, rfl⟩ := hk
      have h2 : (w.setCell ⟨k, o', none⟩ (.int .u8 y)).cell? ⟨k, o', none⟩ = some (.int .u8 y) := World.cell?_setCell_same _ _ _ hc
      rcases h.cell k o' v hv with h1 | ⟨x', y', h1, _⟩
      · rw [hc] at h1
        cases h1
        exact .inr ⟨x, y, rfl, h2⟩
      · exact .inr ⟨x', y, h1, h2⟩
    · have h2 : (w.setCell ⟨g, o, none⟩ (.int .u8 y)).cell? ⟨k, o', none⟩ = w.cell? ⟨k, o', none⟩ := World.cell?_setCell_other _ _ _ _ (fun h => hk (by simp only [Addr.mk.injEq, and_true] at h; exact ⟨h.1.symm, h.2.symm⟩))
      rw [h2]
      exact h.cell k o' v hv
  · rw [← h.froz k o' hk]
    simp
theorem Ow.row {k o n c : Nat} {Ad : Option Addr} (h : Ow B ws w) (hv : ws.cell? ⟨k, o, none⟩ = some (.slice Ad n c)) : w.cell? ⟨k, o, none⟩ = some (.slice Ad n c) := by
  rcases h.cell k o _ hv with h1 | ⟨x, y, h1, _⟩
  · exact h1
  · cases h1
theorem Ow.flag {k o : Nat} {f : Bool} (h : Ow B ws w) (hv : ws.cell? ⟨k, o, none⟩ = some (.bool f)) : w.cell? ⟨k, o, none⟩ = some (.bool f) := by
  rcases h.cell k o _ hv with h1 | ⟨x, y, h1, _⟩
  · exact h1
  · cases h1
theorem Ow.u8 {A : Nat → Prop} {Ad : Option Addr} {n c j : Nat} {l : List Int} (h : Ow B ws w) (hr : RdW A ws (.slice Ad n c) l) (hn : l.length = n) (hj : j < n) :
    ∃ b off y, Ad = some ⟨b, off, none⟩ ∧ w.cell? ⟨b, off + j, none⟩ = some (.int .u8 y) ∧ w.frozen? ⟨b, off + j, none⟩ = false ∧ A b := by
  obtain ⟨b, off, x, rfl, hx, _⟩ := hr.1.ri.icell hj
  have hlt := World.block_lt_of_cell? ws _ hx
  have hf := hr.2 b (by omega) rfl (off + j)
  have hA := hr.1.2 (by omega) b rfl
  rcases h.cell _ _ _ hx with h1 | ⟨x', y, _, h2⟩
  · exact ⟨b, off, x, rfl, h1, (h.froz b _ hlt).trans hf, hA⟩
  · exact ⟨b, off, y, rfl, h2, (h.froz b _ hlt).trans hf, hA⟩
end
theorem lbw_lb {A : Nat → Prop} {w : World} {cs : List Value} {d : List Int} (h : Lbw.rel A w cs d) : Lb.rel A w cs d := by
  obtain ⟨v, h1, h2⟩ := h
  exact ⟨v, h1, h2.1⟩
theorem y_lb {A : Nat → Prop} {w : World} {v : Value} {ds : List (List Int)} (h : RdY Lbw A w v ds) : RdY Lb A w v ds := by
  obtain ⟨us, hr, he⟩ := h
  exact ⟨us, hr, he.1, fun j d hd => lbw_lb (he.2 j d hd)⟩
theorem lbw_at {A : Nat → Prop} {w : World} {Ad : Option Addr} {n c : Nat} {ds : List (List Int)} (h : RdY Lbw A w (.slice Ad n c) ds) {j : Nat} (hj : j < n) :
    ∃ b off Ad' l c', Ad = some ⟨b, off, none⟩ ∧ w.cell? ⟨b, off + j, none⟩ = some (.slice Ad' l.length c') ∧ Hid (ds[j]? = some l) ∧ Hid (RdW A w (.slice Ad' l.length c') l) ∧ l.length ≤ c' ∧ c' ≤ 9223372036854775807 := by
  obtain ⟨b, off, u, l, rfl, h1, hd, hr⟩ := h.at1 rfl hj
  obtain ⟨v, hv, h3⟩ := hr.out
  simp only [List.cons.injEq, and_true] at hv
  subst hv
  obtain ⟨Ad', c', rfl, h4, h5⟩ := h3.shape
  exact ⟨b, off, Ad', l, c', rfl, h1, hd, h3, h4, h5⟩
/-- five slices in a row -/
theorem five_e {A : Nat → Prop} {w : World} {v1 v2 v3 v4 v5 : Value} {l1 l2 l3 l4 l5 : List Int} (h1 : RdW A w v1 l1) (h2 : RdW A w v2 l2) (h3 : RdW A w v3 l3) (h4 : RdW A w v4 l4) (h5 : RdW A w v5 l5) : RdE Lbw A w [v1, v2, v3, v4, v5] [l1, l2, l3, l4, l5] := by
  have e := fun (v : Value) (l : List Int) (h : RdW A w v l) => RdE.single (lbw_rel h)
  exact (((((e v1 l1 h1).append (e v2 l2 h2)).append (e v3 l3 h3)).append (e v4 l4 h4)).append (e v5 l5 h5))
end Go.Proofs.Ytilmkghopeoipaa
