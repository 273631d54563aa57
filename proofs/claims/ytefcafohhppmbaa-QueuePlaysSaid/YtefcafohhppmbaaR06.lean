/- Pop and one step of the document's queue, by contract. Conditions: the queue is one; a record is no longer than the reach. -/
import Derived.Test.YtefcafohhppmbaaQ06
namespace Go.Proofs.Ytefcafohhppmbaa
open Go.RowKit Go.Kb

set_option maxHeartbeats 800000 in
theorem rpop_any {F : Nat → Prop} (c : Cf) (g : Nat) (w : World) (l : List (List Int)) (o : Bool) (h : Qr c g F w l o) :
    Calls Try.prog 24 #[.pointer (some ⟨g, 0, none⟩)] w fun e w' => (∃ Ad k, e = .returned (.tuple #[.slice Ad (frL l).length k, .bool (!l.isEmpty)]) ∧ RdS Ub F w' (.slice Ad (frL l).length k) (frL l)) ∧ Qr c g F w' l.tail (popO c l o) ∧ Mod (fun k => k = g) w w' := by
  have HQ := Lib.hid h
  rcases l with _ | ⟨b, r⟩
  · clear h
    go_enter Try.func24, Try.ntmps24
    go_wp2_with fail
    refine (rfront_any c g _ [] o HQ.out).mono ?_
    rintro e w1 ⟨⟨A1, k1, rfl, hr⟩, hE1⟩
    go_wp2
    go_ret2
    exact ⟨⟨_, _, rfl, hr⟩, HQ.out.ext hE1, Mod.of_ext hE1⟩
  · obtain ⟨v, hB, hT, hF, hl, hu, hc⟩ := h
    obtain ⟨Ad, k0, rfl, hk1, hk2⟩ := hT.shape
    have h0 : (b :: r).length = r.length + 1 := rfl
    rw [h0] at hB hT hk1
    obtain ⟨g1, off, A2, d, k2, rfl, -, -, -, -, -⟩ := rc_at (TailS.rd rfl hT).y (j := 0) (by omega)
    have hT2 := (TailS.tail rfl hT).2
    obtain ⟨A5, hA⟩ : ∃ A5, (if k0 = 1 then (some ⟨g1, off, none⟩ : Option Addr) else some ⟨g1, off + 1, none⟩) = A5 := ⟨_, rfl⟩
    rw [hA] at hT2
    have hun := usedL_nn r
    have huc := usedL_cons r b
    have hBs : c.B ≤ 65536 := by unfold badC at hc; omega
    obtain ⟨u, hu0⟩ : ∃ u, usedL r = u := ⟨_, rfl⟩
    obtain ⟨c0, c1, c2, c3, c4, c5, cf⟩ := rb_cells hB
    have hgl := hB.lt
    have HB := Lib.hid hB
    have HT := Lib.hid hT2
    have HF := Lib.hid hF
    have HC := Lib.hid hc
    have HL := Lib.hid hl
    have HU := Lib.hid hu
    have HUC := Lib.hid huc
    have HU0 := Lib.hid hu0
    have hn1 : (1 : Int) ≤ (r.length : Int) + 1 := by omega
    clear hB hT hT2 hF hc hl hu huc hu0 h0
    have hfr : frL (b :: r) = b := rfl
    go_enter Try.func24, Try.ntmps24
    go_wp2_with fail
    refine (rfront_any c g _ (b :: r) o HQ.out).mono ?_
    rintro e w1 ⟨⟨A1, k1, rfl, hr⟩, hE1⟩
    rw [hfr] at hr ⊢
    have HR := Lib.hid hr
    clear hr
    have hie : (!(b :: r).isEmpty) = true := rfl
    rw [hie]
    have B1 := HB.out.ext hE1
    obtain ⟨a0, a1, a2, a3, a4, a5, af⟩ := rb_cells B1
    have HB1 := Lib.hid B1
    clear B1 hie
    go_wp2
    obtain ⟨w6, hw6⟩ : ∃ w6, w6 = w1.setCell ⟨g, 4, none⟩ (.slice A5 r.length (k0 - 1)) := ⟨_, rfl⟩
    rw [← hw6]
    have M6 : Mod (fun k => k = g) w1 w6 := by rw [hw6]; exact Mod.set1 (Mod.refl _ w1) _
    have B6 : Blk w6 g 45 (rb c (.slice A5 r.length (k0 - 1)) o) := by rw [hw6]; exact rb_list HB1.out
    have T6 : TailS Rc 34 F w6 (.slice A5 r.length (k0 - 1)) r := (HT.out.ext hE1).mod M6 fun k _ hk => (HF.out k hk).2
    have T6 := Lib.hid T6
    have HR6 := Lib.hid (HR.out.mod M6 fun k _ hk => (HF.out k hk).2)
    obtain ⟨-, -, -, e3, e4, e5, ef⟩ := rb_cells B6
    have HB6 := Lib.hid B6
    have HM6 := Lib.hid M6
    clear hw6 B6 M6 c0 c1 c2 c3 c4 c5 cf a0 a1 a2 a3 a4 a5 af
    go_quiet ((go_at_call 16; exact Qt.calls rfl (rused_q ⟨_, HB6.out, T6.out.rd rfl⟩ (by have := HUC.out; have := HU.out; omega) HU0.out)))
    have hfin : ∀ w7 o', Mod (fun k => k = g) w6 w7 → Blk w7 g 45 (rb c (.slice A5 r.length (k0 - 1)) o') →
        Qr c g F w7 r o' ∧ Mod (fun k => k = g) w w7 := fun w7 o' M7 B7 => by
      have MA : Mod (fun k => k = g) w w7 := (Mod.of_ext hE1).trans (HM6.out.trans M7)
      refine ⟨⟨_, B7, T6.out.mod M7 fun k _ hk => (HF.out k hk).2, fun k hk => ⟨Nat.lt_of_lt_of_le (HF.out k hk).1 MA.size, (HF.out k hk).2⟩, ?_, ?_, HC.out⟩, MA⟩
      · have := HL.out
        simp only [List.length_cons, Int.natCast_add, Int.cast_ofNat_Int] at this
        omega
      · have := HUC.out
        have := HU.out
        omega
    have HFIN := Lib.hid hfin
    clear hfin
    have hpo : popO c (b :: r) o = o.and (decide (c.L < usedL r)) := rfl
    rw [HU0.out] at hpo
    have HPO := Lib.hid hpo
    clear hpo
    by_cases hH : u ≤ c.L
    · go_wp2
      go_ret2
      rw [HPO.out, decide_eq_false (show ¬ c.L < u by omega), Bool.and_false]
      exact ⟨⟨_, _, rfl, HR6.out.mod (S := fun k => k = g) (by repeat (first | with_reducible exact Mod.refl _ _ | refine Mod.drew ?_ | refine Mod.drewN ?_ _ | refine Mod.set1 ?_ _)) fun k _ hk => (HF.out k hk).2⟩, HFIN.out _ _ (by repeat (first | with_reducible exact Mod.refl _ _ | refine Mod.drew ?_ | refine Mod.drewN ?_ _ | refine Mod.set1 ?_ _)) (rb_over HB6.out)⟩
    · go_wp2
      go_ret2
      rw [HPO.out, decide_eq_true (show c.L < u by omega), Bool.and_true]
      exact ⟨⟨_, _, rfl, HR6.out.mod (S := fun k => k = g) (by repeat (first | with_reducible exact Mod.refl _ _ | refine Mod.drew ?_ | refine Mod.drewN ?_ _ | refine Mod.set1 ?_ _)) fun k _ hk => (HF.out k hk).2⟩, HFIN.out _ _ (by repeat (first | with_reducible exact Mod.refl _ _ | refine Mod.drew ?_ | refine Mod.drewN ?_ _ | refine Mod.set1 ?_ _)) HB6.out⟩
/-- what a step of the document's queue leaves -/
def RDoPost (c : Cf) (g : Nat) (F : Nat → Prop) (w : World) (l : List (List Int)) (o : Bool) (x : Opn) (e : Ending) (w' : World) : Prop :=
  ∃ Ad k F', e = .returned (.tuple #[.slice Ad (doB l x).length k, .bool (doK c l x)]) ∧ RdS Ub F w' (.slice Ad (doB l x).length k) (doB l x) ∧
    Qr c g F' w' (doL c l x) (doO c l o x) ∧ (∀ j, F' j → F j ∨ w.heap.size ≤ j) ∧ Mod (fun k => k = g ∨ F k) w w'
set_option maxHeartbeats 800000 in
theorem rdo_any {F : Nat → Prop} (c : Cf) (g : Nat) (w : World) (l : List (List Int)) (o : Bool) (v2 : Value) (x : Opn) (h : Qr c g F w l o) (hb : RI .u8 w v2 x.2) (hn : x.2.length ≤ 140737488355328) :
    Calls Try.prog 12 #[.pointer (some ⟨g, 0, none⟩), .agg #[.int .i64 x.1, v2]] w (RDoPost c g F w l o x) := by
  have HQ := Lib.hid h
  obtain ⟨i, b⟩ := x
  have Hb := Lib.hid hb
  obtain ⟨A2, k2, rfl, -, -⟩ := RdN.shape hb
  clear h hb
  simp only
  by_cases h1 : i = 1
  · subst h1
    go_enter Try.func12, Try.ntmps12
    go_wp2_with fail
    refine (rpush_any c g _ l o _ b (HQ.out.ext (by repeat (first | with_reducible exact Ext.refl _ | refine Ext.drewN ?_ _ | refine Ext.drew ?_ | refine Ext.alloc ?_ _ | assumption | (refine Below.trans ?_ (by assumption)) | (refine Ext.trans ?_ (by assumption)) | (refine Below.trans ?_ (Below.mono (by assumption) (by omega)))))) (RdN.ext Hb.out (by repeat (first | with_reducible exact Ext.refl _ | refine Ext.drewN ?_ _ | refine Ext.drew ?_ | refine Ext.alloc ?_ _ | assumption | (refine Below.trans ?_ (by assumption)) | (refine Ext.trans ?_ (by assumption)) | (refine Below.trans ?_ (Below.mono (by assumption) (by omega)))))) hn).mono ?_
    rintro e w1 ⟨rfl, F', hQ, hF, hM⟩
    go_wp2
    go_ret2
    unfold RDoPost
    exact ⟨none, 0, F', rfl, RdS.nil _ _ _, hQ, fun j hj => (hF j hj).imp id fun h => Nat.le_trans (by simp) h, Mod.trans (Mod.of_ext (by repeat (first | with_reducible exact Ext.refl _ | refine Ext.drewN ?_ _ | refine Ext.drew ?_ | refine Ext.alloc ?_ _ | assumption | (refine Below.trans ?_ (by assumption)) | (refine Ext.trans ?_ (by assumption)) | (refine Below.trans ?_ (Below.mono (by assumption) (by omega)))))) hM⟩
  by_cases h2 : i = 2
  · subst h2
    go_enter Try.func12, Try.ntmps12
    go_wp2_with fail
    refine (rpop_any c g _ l o (HQ.out.ext (by repeat (first | with_reducible exact Ext.refl _ | refine Ext.drewN ?_ _ | refine Ext.drew ?_ | refine Ext.alloc ?_ _ | assumption | (refine Below.trans ?_ (by assumption)) | (refine Ext.trans ?_ (by assumption)) | (refine Below.trans ?_ (Below.mono (by assumption) (by omega))))))).mono ?_
    rintro e w1 ⟨⟨A1, k1, rfl, hr⟩, hQ, hM⟩
    have HR := Lib.hid hr
    clear hr
    go_wp2
    go_ret2
    unfold RDoPost
    exact ⟨A1, k1, F, rfl, HR.out, hQ, fun j hj => .inl hj, Mod.trans (Mod.of_ext (by repeat (first | with_reducible exact Ext.refl _ | refine Ext.drewN ?_ _ | refine Ext.drew ?_ | refine Ext.alloc ?_ _ | assumption | (refine Below.trans ?_ (by assumption)) | (refine Ext.trans ?_ (by assumption)) | (refine Below.trans ?_ (Below.mono (by assumption) (by omega)))))) (Mod.gl hM)⟩
  by_cases h3 : i = 3
  · subst h3
    go_enter Try.func12, Try.ntmps12
    go_wp2_with fail
    refine (rfront_any c g _ l o (HQ.out.ext (by repeat (first | with_reducible exact Ext.refl _ | refine Ext.drewN ?_ _ | refine Ext.drew ?_ | refine Ext.alloc ?_ _ | assumption | (refine Below.trans ?_ (by assumption)) | (refine Ext.trans ?_ (by assumption)) | (refine Below.trans ?_ (Below.mono (by assumption) (by omega))))))).mono ?_
    rintro e w1 ⟨⟨A1, k1, rfl, hr⟩, hE1⟩
    have HR := Lib.hid hr
    clear hr
    go_wp2
    go_ret2
    have E1 : Ext w w1 := (by repeat (first | with_reducible exact Ext.refl _ | refine Ext.drewN ?_ _ | refine Ext.drew ?_ | refine Ext.alloc ?_ _ | assumption | (refine Below.trans ?_ (by assumption)) | (refine Ext.trans ?_ (by assumption)) | (refine Below.trans ?_ (Below.mono (by assumption) (by omega)))))
    unfold RDoPost
    exact ⟨A1, k1, F, rfl, HR.out, HQ.out.ext E1, fun j hj => .inl hj, Mod.of_ext E1⟩
  go_enter Try.func12, Try.ntmps12
  go_wp2
  go_ret2
  unfold RDoPost doB doK doL doO
  simp only [if_neg h1, if_neg h2, if_neg h3]
  exact ⟨none, 0, F, rfl, RdS.nil _ _ _, HQ.out.ext (by repeat (first | with_reducible exact Ext.refl _ | refine Ext.drewN ?_ _ | refine Ext.drew ?_ | refine Ext.alloc ?_ _ | assumption | (refine Below.trans ?_ (by assumption)) | (refine Ext.trans ?_ (by assumption)) | (refine Below.trans ?_ (Below.mono (by assumption) (by omega))))), fun j hj => .inl hj, Mod.of_ext (by repeat (first | with_reducible exact Ext.refl _ | refine Ext.drewN ?_ _ | refine Ext.drew ?_ | refine Ext.alloc ?_ _ | assumption | (refine Below.trans ?_ (by assumption)) | (refine Ext.trans ?_ (by assumption)) | (refine Below.trans ?_ (Below.mono (by assumption) (by omega)))))⟩
end Go.Proofs.Ytefcafohhppmbaa
