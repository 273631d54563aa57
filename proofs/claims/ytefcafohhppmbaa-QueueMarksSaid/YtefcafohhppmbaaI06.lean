/- Two queues don't know of one another, walked: the law answers true for every argument. Conditions: the steps are fewer than ten billions, lengths within the reach. -/
import Derived.Test.YtefcafohhppmbaaH06
namespace Go.Proofs.Ytefcafohhppmbaa
open Go.RowKit Go.Kb

inductive Q4 | q | r | a | b
deriving DecidableEq
def G4 (g1 g2 g3 g4 : Nat) : Q4 → Nat | .q => g1 | .r => g2 | .a => g3 | .b => g4
def S4 (s t : List (List Int) × Bool) : Q4 → List (List Int) × Bool | .q => s | .r => t | .a => s | .b => t
theorem set_qa (s t x : List (List Int) × Bool) : setQ (setQ (S4 s t) .q x) .a x = S4 x t := by
  funext i; cases i <;> rfl
theorem set_rb (s t x : List (List Int) × Bool) : setQ (setQ (S4 s t) .r x) .b x = S4 s x := by
  funext i; cases i <;> rfl
theorem qs_new {c : Cf} {base g1 g2 g3 g4 : Nat} {w : World} (hc : ¬ badC c) (h1 : Blk w g1 54 (qb c (.slice none 0 0) 0 false)) (h2 : Blk w g2 54 (qb c (.slice none 0 0) 0 false))
    (h3 : Blk w g3 54 (qb c (.slice none 0 0) 0 false)) (h4 : Blk w g4 54 (qb c (.slice none 0 0) 0 false)) (hb : base ≤ g1) (k1 : g1 < g2) (k2 : g2 < g3) (k3 : g3 < g4) :
    Qs c base (fun _ => False) (G4 g1 g2 g3 g4) w (S4 ([], false) ([], false)) := by
  refine ⟨fun i k => k = G4 g1 g2 g3 g4 i, fun i => ?_, fun i j k hij hi hj => ?_, fun i k hk => ⟨?_, fun h => h⟩⟩
  · have key : ∀ g, Blk w g 54 (qb c (.slice none 0 0) 0 false) → Qz c g (fun k => k = g) w [] false := fun g h => ⟨_, Qm.new h hc, rfl, fun _ h => h.elim, fun k hk => by rw [hk]; exact h.lt⟩
    cases i
    · exact key _ h1
    · exact key _ h2
    · exact key _ h3
    · exact key _ h4
  · cases i <;> cases j <;> simp only [G4] at hi hj <;> first | exact hij rfl | omega
  · cases i <;> simp only [G4] at hk <;> omega
theorem used_s {I : Type} {c : Cf} {base : Nat} {R : Nat → Prop} {G : I → Nat} {w : World} {S : I → List (List Int) × Bool} (h : Qs c base R G w S) (i : I) {u : Int} (hu : usedL (S i).1 = u) :
    Calls Try.prog 15 #[.pointer (some ⟨G i, 0, none⟩)] w fun e w' => e = .returned (.int .i64 u) ∧ Ext w w' := by
  obtain ⟨F, hq⟩ := h.one i
  subst hu
  exact used_q hq
theorem over_s {I : Type} {c : Cf} {base : Nat} {R : Nat → Prop} {G : I → Nat} {w : World} {S : I → List (List Int) × Bool} (h : Qs c base R G w S) (i : I) {o : Bool} (hu : (S i).2 = o) :
    Calls Try.prog 17 #[.pointer (some ⟨G i, 0, none⟩)] w fun e w' => e = .returned (.bool o) ∧ Ext w w' := by
  obtain ⟨F, hq⟩ := h.one i
  subst hu
  exact over_q hq
theorem tb_at {A : Nat → Prop} {w : World} {Ad : Option Addr} {n c : Nat} {ds : List Bool} (h : RdY Rep.bool A w (.slice Ad n c) ds) {j : Nat} (hj : j < n) :
    ∃ b off f, Ad = some ⟨b, off, none⟩ ∧ w.cell? ⟨b, off + j, none⟩ = some (.bool f) := by
  obtain ⟨b, off, u, d, rfl, h1, _, hr⟩ := h.at1 rfl hj
  have h2 : [u] = [.bool d] := hr.out
  simp only [List.cons.injEq, and_true] at h2
  subst h2
  exact ⟨b, off, d, rfl, h1⟩
set_option maxHeartbeats 3000000 in
set_option maxRecDepth 100000 in
theorem queueTwo_walk (B R H L : Int) (v vt : Value) (ops : List Opn) (ts : List Bool) (w : World) (ho : RdS Po (fun _ => True) w v ops) (ht : RdS Rep.bool (fun _ => True) w vt ts) (hn : ops.length ≤ 10000000000000) (hx : ∀ x ∈ ops, x.2.length ≤ 140737488355328) :
    Calls Try.prog 6 #[.agg #[.int .i64 B, .int .i64 R, .int .i64 H, .int .i64 L], v, vt] w fun e w' => e = .returned (.bool true) ∧ Ext w w' := by
  obtain ⟨Ad, ca, rfl, hc1, hc2⟩ := ho.shape
  obtain ⟨At, ct, rfl, hc3, hc4⟩ := ht.shape
  have HO := Lib.hid ho
  have HT := Lib.hid ht
  have HX := Lib.hid hx
  clear ho ht hx
  obtain ⟨c, hc⟩ : ∃ c : Cf, c = ⟨B, R, H, L⟩ := ⟨_, rfl⟩
  have hC := Lib.hid hc
  clear hc
  obtain ⟨w0, hw0⟩ : ∃ w0, w0 = w.alloc (.cells #[.int .i64 B, .int .i64 R, .int .i64 H, .int .i64 L] 23) := ⟨_, rfl⟩
  have hk : Blk w0 w.heap.size 23 #[.int .i64 B, .int .i64 R, .int .i64 H, .int .i64 L] := by rw [hw0]; exact Blk.at_ _ _ rfl
  have hE0 : Ext w w0 := by rw [hw0]; exact (by repeat (first | with_reducible exact Ext.refl _ | refine Ext.drewN ?_ _ | refine Ext.drew ?_ | refine Ext.alloc ?_ _ | assumption | (refine Below.trans ?_ (by assumption)) | (refine Ext.trans ?_ (by assumption)) | (refine Below.trans ?_ (Below.mono (by assumption) (by omega)))))
  have HK := Lib.hid hk
  have hW0 := Lib.hid hw0
  clear hw0 hk
  go_enter Try.func6, Try.ntmps6
  go_wp2_with fail
  rw [← hW0.out]
  refine (alive_any _).mono ?_
  rintro e w1 ⟨rfl, E1⟩
  go_wp2_with fail
  refine (great_any _ ops _ (HO.out.ext (by repeat (first | with_reducible exact Ext.refl _ | refine Ext.drewN ?_ _ | refine Ext.drew ?_ | refine Ext.alloc ?_ _ | assumption | (refine Below.trans ?_ (by assumption)) | (refine Ext.trans ?_ (by assumption)) | (refine Below.trans ?_ (Below.mono (by assumption) (by omega)))))) (by omega)).mono ?_
  rintro e w2 ⟨rfl, E2⟩
  cases hg : greatL ops
  rotate_left
  · go_wp2
    go_ret
    exact ⟨rfl, (by repeat (first | with_reducible exact Ext.refl _ | refine Ext.drewN ?_ _ | refine Ext.drew ?_ | refine Ext.alloc ?_ _ | assumption | (refine Below.trans ?_ (by assumption)) | (refine Ext.trans ?_ (by assumption)) | (refine Below.trans ?_ (Below.mono (by assumption) (by omega)))))⟩
  have hlen := great_not hg
  clear hg
  have B2 : Blk w2 w.heap.size 23 #[.int .i64 B, .int .i64 R, .int .i64 H, .int .i64 L] := HK.out.ext (by repeat (first | with_reducible exact Ext.refl _ | refine Ext.drewN ?_ _ | refine Ext.drew ?_ | refine Ext.alloc ?_ _ | assumption | (refine Below.trans ?_ (by assumption)) | (refine Ext.trans ?_ (by assumption)) | (refine Below.trans ?_ (Below.mono (by assumption) (by omega)))))
  have m0 : w2.cell? ⟨w.heap.size, 0, none⟩ = some (.int .i64 B) := B2.cell 0
  have m1 : w2.cell? ⟨w.heap.size, 1, none⟩ = some (.int .i64 R) := B2.cell 1
  have m2 : w2.cell? ⟨w.heap.size, 2, none⟩ = some (.int .i64 H) := B2.cell 2
  have m3 : w2.cell? ⟨w.heap.size, 3, none⟩ = some (.int .i64 L) := B2.cell 3
  have HB2 := Lib.hid B2
  clear B2
  go_wp2_with fail
  refine (made_any B R H L _).mono ?_
  rintro e w3 (⟨hb, g1, hg1, rfl, hB1, E3⟩ | ⟨hb, rfl, E3⟩)
  rotate_left
  · have n0 := cell_ext E3 m0
    have n1 := cell_ext E3 m1
    have n2 := cell_ext E3 m2
    have n3 := cell_ext E3 m3
    go_wp2_with fail
    refine (made_any B R H L _).mono ?_
    rintro e w4 (⟨hb', _⟩ | ⟨_, rfl, E4⟩)
    · exact absurd hb hb'
    have n0 := cell_ext E4 n0
    have n1 := cell_ext E4 n1
    have n2 := cell_ext E4 n2
    have n3 := cell_ext E4 n3
    go_wp2_with fail
    refine (made_any B R H L _).mono ?_
    rintro e w5 (⟨hb', _⟩ | ⟨_, rfl, E5⟩)
    · exact absurd hb hb'
    have n0 := cell_ext E5 n0
    have n1 := cell_ext E5 n1
    have n2 := cell_ext E5 n2
    have n3 := cell_ext E5 n3
    go_wp2_with fail
    refine (made_any B R H L _).mono ?_
    rintro e w6 (⟨hb', _⟩ | ⟨_, rfl, E6⟩)
    · exact absurd hb hb'
    go_wp2
    go_ret
    exact ⟨rfl, (by repeat (first | with_reducible exact Ext.refl _ | refine Ext.drewN ?_ _ | refine Ext.drew ?_ | refine Ext.alloc ?_ _ | assumption | (refine Below.trans ?_ (by assumption)) | (refine Ext.trans ?_ (by assumption)) | (refine Below.trans ?_ (Below.mono (by assumption) (by omega)))))⟩
  have n0 := cell_ext E3 m0
  have n1 := cell_ext E3 m1
  have n2 := cell_ext E3 m2
  have n3 := cell_ext E3 m3
  go_wp2_with fail
  refine (made_any B R H L _).mono ?_
  rintro e w4 (⟨_, g2, hg2, rfl, hB2, E4⟩ | ⟨hb', _⟩)
  rotate_left
  · exact absurd hb' hb
  have p0 := cell_ext E4 n0
  have p1 := cell_ext E4 n1
  have p2 := cell_ext E4 n2
  have p3 := cell_ext E4 n3
  go_wp2_with fail
  refine (made_any B R H L _).mono ?_
  rintro e w5 (⟨_, g3, hg3, rfl, hB3, E5⟩ | ⟨hb', _⟩)
  rotate_left
  · exact absurd hb' hb
  have q0 := cell_ext E5 p0
  have q1 := cell_ext E5 p1
  have q2 := cell_ext E5 p2
  have q3 := cell_ext E5 p3
  go_wp2_with fail
  refine (made_any B R H L _).mono ?_
  rintro e w6 (⟨_, g4, hg4, rfl, hB4, E6⟩ | ⟨hb', _⟩)
  rotate_left
  · exact absurd hb' hb
  have hq0 : Hid (Qs c w0.heap.size (fun _ => False) (G4 g1 g2 g3 g4) w6 (S4 ([], false) ([], false))) := Lib.hid (by
    rw [hC.out]
    have s0 : w0.heap.size ≤ w2.heap.size := Below.size (show Ext w0 w2 from (by repeat (first | with_reducible exact Ext.refl _ | refine Ext.drewN ?_ _ | refine Ext.drew ?_ | refine Ext.alloc ?_ _ | assumption | (refine Below.trans ?_ (by assumption)) | (refine Ext.trans ?_ (by assumption)) | (refine Below.trans ?_ (Below.mono (by assumption) (by omega))))))
    have l1 := hB1.lt
    have l2 := hB2.lt
    have l3 := hB3.lt
    exact qs_new hb (hB1.ext (by repeat (first | with_reducible exact Ext.refl _ | refine Ext.drewN ?_ _ | refine Ext.drew ?_ | refine Ext.alloc ?_ _ | assumption | (refine Below.trans ?_ (by assumption)) | (refine Ext.trans ?_ (by assumption)) | (refine Below.trans ?_ (Below.mono (by assumption) (by omega)))))) (hB2.ext (by repeat (first | with_reducible exact Ext.refl _ | refine Ext.drewN ?_ _ | refine Ext.drew ?_ | refine Ext.alloc ?_ _ | assumption | (refine Below.trans ?_ (by assumption)) | (refine Ext.trans ?_ (by assumption)) | (refine Below.trans ?_ (Below.mono (by assumption) (by omega)))))) (hB3.ext (by repeat (first | with_reducible exact Ext.refl _ | refine Ext.drewN ?_ _ | refine Ext.drew ?_ | refine Ext.alloc ?_ _ | assumption | (refine Below.trans ?_ (by assumption)) | (refine Ext.trans ?_ (by assumption)) | (refine Below.trans ?_ (Below.mono (by assumption) (by omega)))))) hB4 (by omega) (by omega) (by omega) (by omega))
  have EA : Ext w0 w6 := (by repeat (first | with_reducible exact Ext.refl _ | refine Ext.drewN ?_ _ | refine Ext.drew ?_ | refine Ext.alloc ?_ _ | assumption | (refine Below.trans ?_ (by assumption)) | (refine Ext.trans ?_ (by assumption)) | (refine Below.trans ?_ (Below.mono (by assumption) (by omega)))))
  clear hB1 hB2 hB3 hB4 m0 m1 m2 m3 n0 n1 n2 n3 p0 p1 p2 p3 q0 q1 q2 q3 E1 E2 E3 E4 E5 E6 hg1 hg2 hg3 hg4
  go_wp2
  go_loopw [64] (fun i wr => ∃ (k : Nat) (s t : List (List Int) × Bool), k ≤ ops.length ∧ i = .int .i64 k ∧ Hid (Qs c w0.heap.size (fun _ => False) (G4 g1 g2 g3 g4) wr (S4 s t)) ∧ Ext w0 wr) (fun i _ => ops.length - (intOf i).toNat)
  case atStart => exact ⟨0, _, _, Nat.zero_le _, rfl, hq0, EA⟩
  case round =>
    obtain ⟨k, s, t, hk, rfl, hQ, hE⟩ := hrel
    by_cases hlt : k < ops.length
    · obtain ⟨b, off, Ad', i, x, c', rfl, hx, hy, hd, hr, hl1, hl2⟩ := op_at (HO.out.ext hE0).y hlt
      have hx := cell_ext hE hx
      have hy := cell_ext hE hy
      have hxl : x.length ≤ 140737488355328 := HX.out (i, x) (List.mem_of_getElem? hd.out)
      have hlr := hE.size
      by_cases hl : k < ts.length
      · obtain ⟨b2, off2, f, rfl, hz⟩ := tb_at (HT.out.ext hE0).y hl
        have hz := fun o => cell_ext (Ext.alloc hE o) hz
        cases f
        · go_wp2_with fail
          have q0 := Lib.hid ((hQ.out.fresh (R' := fun j => j = wr.heap.size) (fun k hk => by omega)).ext (show Ext wr (wr.alloc (.cells #[.int .i64 i, .slice Ad' x.length c'] 36)) from (by repeat (first | with_reducible exact Ext.refl _ | refine Ext.drewN ?_ _ | refine Ext.drew ?_ | refine Ext.alloc ?_ _ | assumption | (refine Below.trans ?_ (by assumption)) | (refine Ext.trans ?_ (by assumption)) | (refine Below.trans ?_ (Below.mono (by assumption) (by omega)))))))
          have ob : Blk (wr.alloc (.cells #[.int .i64 i, .slice Ad' x.length c'] 36)) wr.heap.size 36 #[.int .i64 i, .slice Ad' x.length c'] := Blk.at_ _ _ rfl
          have OB := Lib.hid ob
          clear ob
          refine (do_s Q4.q _ (i, x) q0.out (RdS.ri (hr.out.ext (by repeat (first | with_reducible exact Ext.refl _ | refine Ext.drewN ?_ _ | refine Ext.drew ?_ | refine Ext.alloc ?_ _ | assumption | (refine Below.trans ?_ (by assumption)) | (refine Ext.trans ?_ (by assumption)) | (refine Below.trans ?_ (Below.mono (by assumption) (by omega))))))) hxl (by simp; omega) (fun j hj => by simp; omega)).mono ?_
          rintro e x1 ⟨A1, k1, rfl, hown1, hQ1, hM1⟩
          have e1 : S4 s t Q4.q = s := rfl
          rw [e1] at hown1 hQ1 ⊢
          have B1 := OB.out.mod hM1 fun h => h.2 rfl
          have E1 : Ext w0 x1 := Mod.toExt (by repeat (first | with_reducible exact Ext.refl _ | refine Ext.drewN ?_ _ | refine Ext.drew ?_ | refine Ext.alloc ?_ _ | assumption | (refine Below.trans ?_ (by assumption)) | (refine Ext.trans ?_ (by assumption)) | (refine Below.trans ?_ (Below.mono (by assumption) (by omega))))) hM1 fun j hj hs => by omega
          have b1 : x1.cell? ⟨wr.heap.size, 0, none⟩ = some (.int .i64 i) := B1.cell 0
          have b2 : x1.cell? ⟨wr.heap.size, 1, none⟩ = some (.slice Ad' x.length c') := B1.cell 1
          have hs1 := hM1.size
          have hrow1 := hown1.row
          have hB1 := Lib.hid B1
          have O1 := Lib.hid hown1
          have Q1 := Lib.hid hQ1
          clear B1 hM1 hown1 hQ1 e1
          go_wp2_with fail
          refine (do_s Q4.a _ (i, x) Q1.out (RdS.ri (hr.out.ext (by repeat (first | with_reducible exact Ext.refl _ | refine Ext.drewN ?_ _ | refine Ext.drew ?_ | refine Ext.alloc ?_ _ | assumption | (refine Below.trans ?_ (by assumption)) | (refine Ext.trans ?_ (by assumption)) | (refine Below.trans ?_ (Below.mono (by assumption) (by omega))))))) hxl (by simp at hs1; omega) (fun j hj => by
            rcases hj with rfl | hj
            · exact hB1.out.lt
            · exact (hrow1 j hj).2)).mono ?_
          rintro e x2 ⟨A2, k2, rfl, hown2, hQ2, hM2⟩
          have e2 : setQ (S4 s t) Q4.q (doL c s.1 (i, x), doO c s.1 s.2 (i, x)) Q4.a = s := rfl
          rw [e2] at hown2 hQ2 ⊢
          rw [set_qa] at hQ2
          have E2 : Ext w0 x2 := Mod.toExt (by repeat (first | with_reducible exact Ext.refl _ | refine Ext.drewN ?_ _ | refine Ext.drew ?_ | refine Ext.alloc ?_ _ | assumption | (refine Below.trans ?_ (by assumption)) | (refine Ext.trans ?_ (by assumption)) | (refine Below.trans ?_ (Below.mono (by assumption) (by omega))))) hM2 fun j hj hs => by omega
          have O1' := Lib.hid (O1.out.mod hM2 (fun j hj hs => hs.2 (.inr hj)) fun _ _ h => h.elim)
          have O2 := Lib.hid hown2
          have Q2 := Lib.hid hQ2.none
          clear hM2 hown2 hQ2 e2 O1
          go_wp2_with fail
          refine (bytes_any _ _ _ _ _ O1'.out.rdT.ri O2.out.rdT.ri).mono ?_
          rintro e x3 ⟨rfl, E3⟩
          rw [decide_eq_true rfl]
          obtain ⟨u1, hu1⟩ : ∃ u, usedL (S4 (doL c s.1 (i, x), doO c s.1 s.2 (i, x)) t Q4.q).1 = u := ⟨_, rfl⟩
          obtain ⟨u2, hu2⟩ : ∃ u, usedL (S4 (doL c s.1 (i, x), doO c s.1 s.2 (i, x)) t Q4.r).1 = u := ⟨_, rfl⟩
          obtain ⟨o1, ho1⟩ : ∃ o, (S4 (doL c s.1 (i, x), doO c s.1 s.2 (i, x)) t Q4.q).2 = o := ⟨_, rfl⟩
          obtain ⟨o2, ho2⟩ : ∃ o, (S4 (doL c s.1 (i, x), doO c s.1 s.2 (i, x)) t Q4.r).2 = o := ⟨_, rfl⟩
          have U1 := Lib.hid hu1
          have U2 := Lib.hid hu2
          have V1 := Lib.hid ho1
          have V2 := Lib.hid ho2
          clear hu1 hu2 ho1 ho2
          have f1 : (u1 != u1) = false := by simp
          have f2 : (u2 != u2) = false := by simp
          have f3 : (o1 != o1) = false := by simp
          have f4 : (o2 != o2) = false := by simp
          obtain ⟨z, hz⟩ : ∃ z, doK c s.1 (i, x) = z := ⟨_, rfl⟩
          rw [hz]
          have f5 : (z != z) = false := by simp
          have HZ := Lib.hid hz
          clear hz
          go_wp2_with fail
          refine (used_s (Q2.out.ext (by repeat (first | with_reducible exact Ext.refl _ | refine Ext.drewN ?_ _ | refine Ext.drew ?_ | refine Ext.alloc ?_ _ | assumption | (refine Below.trans ?_ (by assumption)) | (refine Ext.trans ?_ (by assumption)) | (refine Below.trans ?_ (Below.mono (by assumption) (by omega)))))) Q4.q U1.out).mono ?_
          rintro e y1 ⟨rfl, D1⟩
          go_wp2_with fail
          refine (used_s (Q2.out.ext (by repeat (first | with_reducible exact Ext.refl _ | refine Ext.drewN ?_ _ | refine Ext.drew ?_ | refine Ext.alloc ?_ _ | assumption | (refine Below.trans ?_ (by assumption)) | (refine Ext.trans ?_ (by assumption)) | (refine Below.trans ?_ (Below.mono (by assumption) (by omega)))))) Q4.a U1.out).mono ?_
          rintro e y2 ⟨rfl, D2⟩
          go_wp2_with fail
          refine (used_s (Q2.out.ext (by repeat (first | with_reducible exact Ext.refl _ | refine Ext.drewN ?_ _ | refine Ext.drew ?_ | refine Ext.alloc ?_ _ | assumption | (refine Below.trans ?_ (by assumption)) | (refine Ext.trans ?_ (by assumption)) | (refine Below.trans ?_ (Below.mono (by assumption) (by omega)))))) Q4.r U2.out).mono ?_
          rintro e y3 ⟨rfl, D3⟩
          go_wp2_with fail
          refine (used_s (Q2.out.ext (by repeat (first | with_reducible exact Ext.refl _ | refine Ext.drewN ?_ _ | refine Ext.drew ?_ | refine Ext.alloc ?_ _ | assumption | (refine Below.trans ?_ (by assumption)) | (refine Ext.trans ?_ (by assumption)) | (refine Below.trans ?_ (Below.mono (by assumption) (by omega)))))) Q4.b U2.out).mono ?_
          rintro e y4 ⟨rfl, D4⟩
          go_wp2_with fail
          refine (over_s (Q2.out.ext (by repeat (first | with_reducible exact Ext.refl _ | refine Ext.drewN ?_ _ | refine Ext.drew ?_ | refine Ext.alloc ?_ _ | assumption | (refine Below.trans ?_ (by assumption)) | (refine Ext.trans ?_ (by assumption)) | (refine Below.trans ?_ (Below.mono (by assumption) (by omega)))))) Q4.q V1.out).mono ?_
          rintro e y5 ⟨rfl, D5⟩
          go_wp2_with fail
          refine (over_s (Q2.out.ext (by repeat (first | with_reducible exact Ext.refl _ | refine Ext.drewN ?_ _ | refine Ext.drew ?_ | refine Ext.alloc ?_ _ | assumption | (refine Below.trans ?_ (by assumption)) | (refine Ext.trans ?_ (by assumption)) | (refine Below.trans ?_ (Below.mono (by assumption) (by omega)))))) Q4.a V1.out).mono ?_
          rintro e y6 ⟨rfl, D6⟩
          go_wp2_with fail
          refine (over_s (Q2.out.ext (by repeat (first | with_reducible exact Ext.refl _ | refine Ext.drewN ?_ _ | refine Ext.drew ?_ | refine Ext.alloc ?_ _ | assumption | (refine Below.trans ?_ (by assumption)) | (refine Ext.trans ?_ (by assumption)) | (refine Below.trans ?_ (Below.mono (by assumption) (by omega)))))) Q4.r V2.out).mono ?_
          rintro e y7 ⟨rfl, D7⟩
          go_wp2_with fail
          refine (over_s (Q2.out.ext (by repeat (first | with_reducible exact Ext.refl _ | refine Ext.drewN ?_ _ | refine Ext.drew ?_ | refine Ext.alloc ?_ _ | assumption | (refine Below.trans ?_ (by assumption)) | (refine Ext.trans ?_ (by assumption)) | (refine Below.trans ?_ (Below.mono (by assumption) (by omega)))))) Q4.b V2.out).mono ?_
          rintro e y8 ⟨rfl, D8⟩
          go_wp2
          go_roundw
          case rel => exact ⟨k + 1, (doL c s.1 (i, x), doO c s.1 s.2 (i, x)), t, by omega, by go_num, Lib.hid (Q2.out.ext (by repeat (first | with_reducible exact Ext.refl _ | refine Ext.drewN ?_ _ | refine Ext.drew ?_ | refine Ext.alloc ?_ _ | assumption | (refine Below.trans ?_ (by assumption)) | (refine Ext.trans ?_ (by assumption)) | (refine Below.trans ?_ (Below.mono (by assumption) (by omega)))))), (by repeat (first | with_reducible exact Ext.refl _ | refine Ext.drewN ?_ _ | refine Ext.drew ?_ | refine Ext.alloc ?_ _ | assumption | (refine Below.trans ?_ (by assumption)) | (refine Ext.trans ?_ (by assumption)) | (refine Below.trans ?_ (Below.mono (by assumption) (by omega)))))⟩
          case measure => simp [intOf]; omega
        · go_wp2_with fail
          have q0 := Lib.hid ((hQ.out.fresh (R' := fun j => j = wr.heap.size) (fun k hk => by omega)).ext (show Ext wr (wr.alloc (.cells #[.int .i64 i, .slice Ad' x.length c'] 36)) from (by repeat (first | with_reducible exact Ext.refl _ | refine Ext.drewN ?_ _ | refine Ext.drew ?_ | refine Ext.alloc ?_ _ | assumption | (refine Below.trans ?_ (by assumption)) | (refine Ext.trans ?_ (by assumption)) | (refine Below.trans ?_ (Below.mono (by assumption) (by omega)))))))
          have ob : Blk (wr.alloc (.cells #[.int .i64 i, .slice Ad' x.length c'] 36)) wr.heap.size 36 #[.int .i64 i, .slice Ad' x.length c'] := Blk.at_ _ _ rfl
          have OB := Lib.hid ob
          clear ob
          refine (do_s Q4.r _ (i, x) q0.out (RdS.ri (hr.out.ext (by repeat (first | with_reducible exact Ext.refl _ | refine Ext.drewN ?_ _ | refine Ext.drew ?_ | refine Ext.alloc ?_ _ | assumption | (refine Below.trans ?_ (by assumption)) | (refine Ext.trans ?_ (by assumption)) | (refine Below.trans ?_ (Below.mono (by assumption) (by omega))))))) hxl (by simp; omega) (fun j hj => by simp; omega)).mono ?_
          rintro e x1 ⟨A1, k1, rfl, hown1, hQ1, hM1⟩
          have e1 : S4 s t Q4.r = t := rfl
          rw [e1] at hown1 hQ1 ⊢
          have B1 := OB.out.mod hM1 fun h => h.2 rfl
          have E1 : Ext w0 x1 := Mod.toExt (by repeat (first | with_reducible exact Ext.refl _ | refine Ext.drewN ?_ _ | refine Ext.drew ?_ | refine Ext.alloc ?_ _ | assumption | (refine Below.trans ?_ (by assumption)) | (refine Ext.trans ?_ (by assumption)) | (refine Below.trans ?_ (Below.mono (by assumption) (by omega))))) hM1 fun j hj hs => by omega
          have b1 : x1.cell? ⟨wr.heap.size, 0, none⟩ = some (.int .i64 i) := B1.cell 0
          have b2 : x1.cell? ⟨wr.heap.size, 1, none⟩ = some (.slice Ad' x.length c') := B1.cell 1
          have hs1 := hM1.size
          have hrow1 := hown1.row
          have hB1 := Lib.hid B1
          have O1 := Lib.hid hown1
          have Q1 := Lib.hid hQ1
          clear B1 hM1 hown1 hQ1 e1
          go_wp2_with fail
          refine (do_s Q4.b _ (i, x) Q1.out (RdS.ri (hr.out.ext (by repeat (first | with_reducible exact Ext.refl _ | refine Ext.drewN ?_ _ | refine Ext.drew ?_ | refine Ext.alloc ?_ _ | assumption | (refine Below.trans ?_ (by assumption)) | (refine Ext.trans ?_ (by assumption)) | (refine Below.trans ?_ (Below.mono (by assumption) (by omega))))))) hxl (by simp at hs1; omega) (fun j hj => by
            rcases hj with rfl | hj
            · exact hB1.out.lt
            · exact (hrow1 j hj).2)).mono ?_
          rintro e x2 ⟨A2, k2, rfl, hown2, hQ2, hM2⟩
          have e2 : setQ (S4 s t) Q4.r (doL c t.1 (i, x), doO c t.1 t.2 (i, x)) Q4.b = t := rfl
          rw [e2] at hown2 hQ2 ⊢
          rw [set_rb] at hQ2
          have E2 : Ext w0 x2 := Mod.toExt (by repeat (first | with_reducible exact Ext.refl _ | refine Ext.drewN ?_ _ | refine Ext.drew ?_ | refine Ext.alloc ?_ _ | assumption | (refine Below.trans ?_ (by assumption)) | (refine Ext.trans ?_ (by assumption)) | (refine Below.trans ?_ (Below.mono (by assumption) (by omega))))) hM2 fun j hj hs => by omega
          have O1' := Lib.hid (O1.out.mod hM2 (fun j hj hs => hs.2 (.inr hj)) fun _ _ h => h.elim)
          have O2 := Lib.hid hown2
          have Q2 := Lib.hid hQ2.none
          clear hM2 hown2 hQ2 e2 O1
          go_wp2_with fail
          refine (bytes_any _ _ _ _ _ O1'.out.rdT.ri O2.out.rdT.ri).mono ?_
          rintro e x3 ⟨rfl, E3⟩
          rw [decide_eq_true rfl]
          obtain ⟨u1, hu1⟩ : ∃ u, usedL (S4 s (doL c t.1 (i, x), doO c t.1 t.2 (i, x)) Q4.q).1 = u := ⟨_, rfl⟩
          obtain ⟨u2, hu2⟩ : ∃ u, usedL (S4 s (doL c t.1 (i, x), doO c t.1 t.2 (i, x)) Q4.r).1 = u := ⟨_, rfl⟩
          obtain ⟨o1, ho1⟩ : ∃ o, (S4 s (doL c t.1 (i, x), doO c t.1 t.2 (i, x)) Q4.q).2 = o := ⟨_, rfl⟩
          obtain ⟨o2, ho2⟩ : ∃ o, (S4 s (doL c t.1 (i, x), doO c t.1 t.2 (i, x)) Q4.r).2 = o := ⟨_, rfl⟩
          have U1 := Lib.hid hu1
          have U2 := Lib.hid hu2
          have V1 := Lib.hid ho1
          have V2 := Lib.hid ho2
          clear hu1 hu2 ho1 ho2
          have f1 : (u1 != u1) = false := by simp
          have f2 : (u2 != u2) = false := by simp
          have f3 : (o1 != o1) = false := by simp
          have f4 : (o2 != o2) = false := by simp
          obtain ⟨z, hz⟩ : ∃ z, doK c t.1 (i, x) = z := ⟨_, rfl⟩
          rw [hz]
          have f5 : (z != z) = false := by simp
          have HZ := Lib.hid hz
          clear hz
          go_wp2_with fail
          refine (used_s (Q2.out.ext (by repeat (first | with_reducible exact Ext.refl _ | refine Ext.drewN ?_ _ | refine Ext.drew ?_ | refine Ext.alloc ?_ _ | assumption | (refine Below.trans ?_ (by assumption)) | (refine Ext.trans ?_ (by assumption)) | (refine Below.trans ?_ (Below.mono (by assumption) (by omega)))))) Q4.q U1.out).mono ?_
          rintro e y1 ⟨rfl, D1⟩
          go_wp2_with fail
          refine (used_s (Q2.out.ext (by repeat (first | with_reducible exact Ext.refl _ | refine Ext.drewN ?_ _ | refine Ext.drew ?_ | refine Ext.alloc ?_ _ | assumption | (refine Below.trans ?_ (by assumption)) | (refine Ext.trans ?_ (by assumption)) | (refine Below.trans ?_ (Below.mono (by assumption) (by omega)))))) Q4.a U1.out).mono ?_
          rintro e y2 ⟨rfl, D2⟩
          go_wp2_with fail
          refine (used_s (Q2.out.ext (by repeat (first | with_reducible exact Ext.refl _ | refine Ext.drewN ?_ _ | refine Ext.drew ?_ | refine Ext.alloc ?_ _ | assumption | (refine Below.trans ?_ (by assumption)) | (refine Ext.trans ?_ (by assumption)) | (refine Below.trans ?_ (Below.mono (by assumption) (by omega)))))) Q4.r U2.out).mono ?_
          rintro e y3 ⟨rfl, D3⟩
          go_wp2_with fail
          refine (used_s (Q2.out.ext (by repeat (first | with_reducible exact Ext.refl _ | refine Ext.drewN ?_ _ | refine Ext.drew ?_ | refine Ext.alloc ?_ _ | assumption | (refine Below.trans ?_ (by assumption)) | (refine Ext.trans ?_ (by assumption)) | (refine Below.trans ?_ (Below.mono (by assumption) (by omega)))))) Q4.b U2.out).mono ?_
          rintro e y4 ⟨rfl, D4⟩
          go_wp2_with fail
          refine (over_s (Q2.out.ext (by repeat (first | with_reducible exact Ext.refl _ | refine Ext.drewN ?_ _ | refine Ext.drew ?_ | refine Ext.alloc ?_ _ | assumption | (refine Below.trans ?_ (by assumption)) | (refine Ext.trans ?_ (by assumption)) | (refine Below.trans ?_ (Below.mono (by assumption) (by omega)))))) Q4.q V1.out).mono ?_
          rintro e y5 ⟨rfl, D5⟩
          go_wp2_with fail
          refine (over_s (Q2.out.ext (by repeat (first | with_reducible exact Ext.refl _ | refine Ext.drewN ?_ _ | refine Ext.drew ?_ | refine Ext.alloc ?_ _ | assumption | (refine Below.trans ?_ (by assumption)) | (refine Ext.trans ?_ (by assumption)) | (refine Below.trans ?_ (Below.mono (by assumption) (by omega)))))) Q4.a V1.out).mono ?_
          rintro e y6 ⟨rfl, D6⟩
          go_wp2_with fail
          refine (over_s (Q2.out.ext (by repeat (first | with_reducible exact Ext.refl _ | refine Ext.drewN ?_ _ | refine Ext.drew ?_ | refine Ext.alloc ?_ _ | assumption | (refine Below.trans ?_ (by assumption)) | (refine Ext.trans ?_ (by assumption)) | (refine Below.trans ?_ (Below.mono (by assumption) (by omega)))))) Q4.r V2.out).mono ?_
          rintro e y7 ⟨rfl, D7⟩
          go_wp2_with fail
          refine (over_s (Q2.out.ext (by repeat (first | with_reducible exact Ext.refl _ | refine Ext.drewN ?_ _ | refine Ext.drew ?_ | refine Ext.alloc ?_ _ | assumption | (refine Below.trans ?_ (by assumption)) | (refine Ext.trans ?_ (by assumption)) | (refine Below.trans ?_ (Below.mono (by assumption) (by omega)))))) Q4.b V2.out).mono ?_
          rintro e y8 ⟨rfl, D8⟩
          go_wp2
          go_roundw
          case rel => exact ⟨k + 1, s, (doL c t.1 (i, x), doO c t.1 t.2 (i, x)), by omega, by go_num, Lib.hid (Q2.out.ext (by repeat (first | with_reducible exact Ext.refl _ | refine Ext.drewN ?_ _ | refine Ext.drew ?_ | refine Ext.alloc ?_ _ | assumption | (refine Below.trans ?_ (by assumption)) | (refine Ext.trans ?_ (by assumption)) | (refine Below.trans ?_ (Below.mono (by assumption) (by omega)))))), (by repeat (first | with_reducible exact Ext.refl _ | refine Ext.drewN ?_ _ | refine Ext.drew ?_ | refine Ext.alloc ?_ _ | assumption | (refine Below.trans ?_ (by assumption)) | (refine Ext.trans ?_ (by assumption)) | (refine Below.trans ?_ (Below.mono (by assumption) (by omega)))))⟩
          case measure => simp [intOf]; omega
      · go_wp2_with fail
        have q0 := Lib.hid ((hQ.out.fresh (R' := fun j => j = wr.heap.size) (fun k hk => by omega)).ext (show Ext wr (wr.alloc (.cells #[.int .i64 i, .slice Ad' x.length c'] 36)) from (by repeat (first | with_reducible exact Ext.refl _ | refine Ext.drewN ?_ _ | refine Ext.drew ?_ | refine Ext.alloc ?_ _ | assumption | (refine Below.trans ?_ (by assumption)) | (refine Ext.trans ?_ (by assumption)) | (refine Below.trans ?_ (Below.mono (by assumption) (by omega)))))))
        have ob : Blk (wr.alloc (.cells #[.int .i64 i, .slice Ad' x.length c'] 36)) wr.heap.size 36 #[.int .i64 i, .slice Ad' x.length c'] := Blk.at_ _ _ rfl
        have OB := Lib.hid ob
        clear ob
        refine (do_s Q4.q _ (i, x) q0.out (RdS.ri (hr.out.ext (by repeat (first | with_reducible exact Ext.refl _ | refine Ext.drewN ?_ _ | refine Ext.drew ?_ | refine Ext.alloc ?_ _ | assumption | (refine Below.trans ?_ (by assumption)) | (refine Ext.trans ?_ (by assumption)) | (refine Below.trans ?_ (Below.mono (by assumption) (by omega))))))) hxl (by simp; omega) (fun j hj => by simp; omega)).mono ?_
        rintro e x1 ⟨A1, k1, rfl, hown1, hQ1, hM1⟩
        have e1 : S4 s t Q4.q = s := rfl
        rw [e1] at hown1 hQ1 ⊢
        have B1 := OB.out.mod hM1 fun h => h.2 rfl
        have E1 : Ext w0 x1 := Mod.toExt (by repeat (first | with_reducible exact Ext.refl _ | refine Ext.drewN ?_ _ | refine Ext.drew ?_ | refine Ext.alloc ?_ _ | assumption | (refine Below.trans ?_ (by assumption)) | (refine Ext.trans ?_ (by assumption)) | (refine Below.trans ?_ (Below.mono (by assumption) (by omega))))) hM1 fun j hj hs => by omega
        have b1 : x1.cell? ⟨wr.heap.size, 0, none⟩ = some (.int .i64 i) := B1.cell 0
        have b2 : x1.cell? ⟨wr.heap.size, 1, none⟩ = some (.slice Ad' x.length c') := B1.cell 1
        have hs1 := hM1.size
        have hrow1 := hown1.row
        have hB1 := Lib.hid B1
        have O1 := Lib.hid hown1
        have Q1 := Lib.hid hQ1
        clear B1 hM1 hown1 hQ1 e1
        go_wp2_with fail
        refine (do_s Q4.a _ (i, x) Q1.out (RdS.ri (hr.out.ext (by repeat (first | with_reducible exact Ext.refl _ | refine Ext.drewN ?_ _ | refine Ext.drew ?_ | refine Ext.alloc ?_ _ | assumption | (refine Below.trans ?_ (by assumption)) | (refine Ext.trans ?_ (by assumption)) | (refine Below.trans ?_ (Below.mono (by assumption) (by omega))))))) hxl (by simp at hs1; omega) (fun j hj => by
          rcases hj with rfl | hj
          · exact hB1.out.lt
          · exact (hrow1 j hj).2)).mono ?_
        rintro e x2 ⟨A2, k2, rfl, hown2, hQ2, hM2⟩
        have e2 : setQ (S4 s t) Q4.q (doL c s.1 (i, x), doO c s.1 s.2 (i, x)) Q4.a = s := rfl
        rw [e2] at hown2 hQ2 ⊢
        rw [set_qa] at hQ2
        have E2 : Ext w0 x2 := Mod.toExt (by repeat (first | with_reducible exact Ext.refl _ | refine Ext.drewN ?_ _ | refine Ext.drew ?_ | refine Ext.alloc ?_ _ | assumption | (refine Below.trans ?_ (by assumption)) | (refine Ext.trans ?_ (by assumption)) | (refine Below.trans ?_ (Below.mono (by assumption) (by omega))))) hM2 fun j hj hs => by omega
        have O1' := Lib.hid (O1.out.mod hM2 (fun j hj hs => hs.2 (.inr hj)) fun _ _ h => h.elim)
        have O2 := Lib.hid hown2
        have Q2 := Lib.hid hQ2.none
        clear hM2 hown2 hQ2 e2 O1
        go_wp2_with fail
        refine (bytes_any _ _ _ _ _ O1'.out.rdT.ri O2.out.rdT.ri).mono ?_
        rintro e x3 ⟨rfl, E3⟩
        rw [decide_eq_true rfl]
        obtain ⟨u1, hu1⟩ : ∃ u, usedL (S4 (doL c s.1 (i, x), doO c s.1 s.2 (i, x)) t Q4.q).1 = u := ⟨_, rfl⟩
        obtain ⟨u2, hu2⟩ : ∃ u, usedL (S4 (doL c s.1 (i, x), doO c s.1 s.2 (i, x)) t Q4.r).1 = u := ⟨_, rfl⟩
        obtain ⟨o1, ho1⟩ : ∃ o, (S4 (doL c s.1 (i, x), doO c s.1 s.2 (i, x)) t Q4.q).2 = o := ⟨_, rfl⟩
        obtain ⟨o2, ho2⟩ : ∃ o, (S4 (doL c s.1 (i, x), doO c s.1 s.2 (i, x)) t Q4.r).2 = o := ⟨_, rfl⟩
        have U1 := Lib.hid hu1
        have U2 := Lib.hid hu2
        have V1 := Lib.hid ho1
        have V2 := Lib.hid ho2
        clear hu1 hu2 ho1 ho2
        have f1 : (u1 != u1) = false := by simp
        have f2 : (u2 != u2) = false := by simp
        have f3 : (o1 != o1) = false := by simp
        have f4 : (o2 != o2) = false := by simp
        obtain ⟨z, hz⟩ : ∃ z, doK c s.1 (i, x) = z := ⟨_, rfl⟩
        rw [hz]
        have f5 : (z != z) = false := by simp
        have HZ := Lib.hid hz
        clear hz
        go_wp2_with fail
        refine (used_s (Q2.out.ext (by repeat (first | with_reducible exact Ext.refl _ | refine Ext.drewN ?_ _ | refine Ext.drew ?_ | refine Ext.alloc ?_ _ | assumption | (refine Below.trans ?_ (by assumption)) | (refine Ext.trans ?_ (by assumption)) | (refine Below.trans ?_ (Below.mono (by assumption) (by omega)))))) Q4.q U1.out).mono ?_
        rintro e y1 ⟨rfl, D1⟩
        go_wp2_with fail
        refine (used_s (Q2.out.ext (by repeat (first | with_reducible exact Ext.refl _ | refine Ext.drewN ?_ _ | refine Ext.drew ?_ | refine Ext.alloc ?_ _ | assumption | (refine Below.trans ?_ (by assumption)) | (refine Ext.trans ?_ (by assumption)) | (refine Below.trans ?_ (Below.mono (by assumption) (by omega)))))) Q4.a U1.out).mono ?_
        rintro e y2 ⟨rfl, D2⟩
        go_wp2_with fail
        refine (used_s (Q2.out.ext (by repeat (first | with_reducible exact Ext.refl _ | refine Ext.drewN ?_ _ | refine Ext.drew ?_ | refine Ext.alloc ?_ _ | assumption | (refine Below.trans ?_ (by assumption)) | (refine Ext.trans ?_ (by assumption)) | (refine Below.trans ?_ (Below.mono (by assumption) (by omega)))))) Q4.r U2.out).mono ?_
        rintro e y3 ⟨rfl, D3⟩
        go_wp2_with fail
        refine (used_s (Q2.out.ext (by repeat (first | with_reducible exact Ext.refl _ | refine Ext.drewN ?_ _ | refine Ext.drew ?_ | refine Ext.alloc ?_ _ | assumption | (refine Below.trans ?_ (by assumption)) | (refine Ext.trans ?_ (by assumption)) | (refine Below.trans ?_ (Below.mono (by assumption) (by omega)))))) Q4.b U2.out).mono ?_
        rintro e y4 ⟨rfl, D4⟩
        go_wp2_with fail
        refine (over_s (Q2.out.ext (by repeat (first | with_reducible exact Ext.refl _ | refine Ext.drewN ?_ _ | refine Ext.drew ?_ | refine Ext.alloc ?_ _ | assumption | (refine Below.trans ?_ (by assumption)) | (refine Ext.trans ?_ (by assumption)) | (refine Below.trans ?_ (Below.mono (by assumption) (by omega)))))) Q4.q V1.out).mono ?_
        rintro e y5 ⟨rfl, D5⟩
        go_wp2_with fail
        refine (over_s (Q2.out.ext (by repeat (first | with_reducible exact Ext.refl _ | refine Ext.drewN ?_ _ | refine Ext.drew ?_ | refine Ext.alloc ?_ _ | assumption | (refine Below.trans ?_ (by assumption)) | (refine Ext.trans ?_ (by assumption)) | (refine Below.trans ?_ (Below.mono (by assumption) (by omega)))))) Q4.a V1.out).mono ?_
        rintro e y6 ⟨rfl, D6⟩
        go_wp2_with fail
        refine (over_s (Q2.out.ext (by repeat (first | with_reducible exact Ext.refl _ | refine Ext.drewN ?_ _ | refine Ext.drew ?_ | refine Ext.alloc ?_ _ | assumption | (refine Below.trans ?_ (by assumption)) | (refine Ext.trans ?_ (by assumption)) | (refine Below.trans ?_ (Below.mono (by assumption) (by omega)))))) Q4.r V2.out).mono ?_
        rintro e y7 ⟨rfl, D7⟩
        go_wp2_with fail
        refine (over_s (Q2.out.ext (by repeat (first | with_reducible exact Ext.refl _ | refine Ext.drewN ?_ _ | refine Ext.drew ?_ | refine Ext.alloc ?_ _ | assumption | (refine Below.trans ?_ (by assumption)) | (refine Ext.trans ?_ (by assumption)) | (refine Below.trans ?_ (Below.mono (by assumption) (by omega)))))) Q4.b V2.out).mono ?_
        rintro e y8 ⟨rfl, D8⟩
        go_wp2
        go_roundw
        case rel => exact ⟨k + 1, (doL c s.1 (i, x), doO c s.1 s.2 (i, x)), t, by omega, by go_num, Lib.hid (Q2.out.ext (by repeat (first | with_reducible exact Ext.refl _ | refine Ext.drewN ?_ _ | refine Ext.drew ?_ | refine Ext.alloc ?_ _ | assumption | (refine Below.trans ?_ (by assumption)) | (refine Ext.trans ?_ (by assumption)) | (refine Below.trans ?_ (Below.mono (by assumption) (by omega)))))), (by repeat (first | with_reducible exact Ext.refl _ | refine Ext.drewN ?_ _ | refine Ext.drew ?_ | refine Ext.alloc ?_ _ | assumption | (refine Below.trans ?_ (by assumption)) | (refine Ext.trans ?_ (by assumption)) | (refine Below.trans ?_ (Below.mono (by assumption) (by omega)))))⟩
        case measure => simp [intOf]; omega
    · go_wp2
      go_ret
      exact ⟨rfl, (by repeat (first | with_reducible exact Ext.refl _ | refine Ext.drewN ?_ _ | refine Ext.drew ?_ | refine Ext.alloc ?_ _ | assumption | (refine Below.trans ?_ (by assumption)) | (refine Ext.trans ?_ (by assumption)) | (refine Below.trans ?_ (Below.mono (by assumption) (by omega)))))⟩
end Go.Proofs.Ytefcafohhppmbaa
