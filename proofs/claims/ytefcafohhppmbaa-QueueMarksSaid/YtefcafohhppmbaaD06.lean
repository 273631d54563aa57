/- Front and Pop of a queue, by contract. Conditions: the queue is one. -/
import Derived.Test.YtefcafohhppmbaaC06
namespace Go.Proofs.Ytefcafohhppmbaa
open Go.RowKit Go.Kb

/-- the first record -/
def frL (l : List (List Int)) : List Int := l.headD []
theorem rec_le {l : List (List Int)} {b : List Int} (h : b ∈ l) : (b.length : Int) ≤ usedL l := by
  induction l with
  | nil => simp at h
  | cons x l ih =>
    rw [usedL_cons]
    have := usedL_nn l
    rcases List.mem_cons.1 h with rfl | h
    · omega
    · have := ih h; omega
/-- what is handed out: new memory -/
def OutB (base : Nat) (b : List Int) (ok : Bool) (e : Ending) (w' : World) : Prop :=
  ∃ Ad k, e = .returned (.tuple #[.slice Ad b.length k, .bool ok]) ∧ OwnS Ub 5 base (fun _ => False) w' (.slice Ad b.length k) b
set_option maxHeartbeats 800000 in
theorem front_any {F : Nat → Prop} (c : Cf) (g : Nat) (w : World) (l : List (List Int)) (o : Bool) (h : Qm c g F w l o) :
    Calls Try.prog 18 #[.pointer (some ⟨g, 0, none⟩)] w fun e w' => OutB w.heap.size (frL l) (!l.isEmpty) e w' ∧ Ext w w' := by
  obtain ⟨v, hB, hT, hF, hl, hu, hc⟩ := h
  obtain ⟨Ad, k0, rfl, hk1, hk2⟩ := hT.shape
  obtain ⟨c0, c1, c2, c3, c4, c5, c6, cf⟩ := qb_cells hB
  have hgl := hB.lt
  have HB := Lib.hid hB
  have HT := Lib.hid hT
  have hBs : c.B ≤ 65536 := by unfold badC at hc; omega
  clear hB hT hc
  rcases l with _ | ⟨b, r⟩
  · have h0 : ([] : List (List Int)).length = 0 := rfl
    simp only [h0] at c4 hk1 hl HB HT
    have HO : Hid (OwnS Ub 5 w.heap.size (fun _ => False) w (.slice none 0 0) []) := Lib.hid (OwnS.nil _ _ _ _ _)
    go_enter Try.func18, Try.ntmps18
    go_wp2_with fail
    refine (count_any _ HB.out).mono ?_
    rintro e w1 ⟨rfl, hE1⟩
    go_wp2
    go_ret2
    exact ⟨⟨_, _, rfl, HO.out.ext (by repeat (first | with_reducible exact Ext.refl _ | refine Ext.drewN ?_ _ | refine Ext.drew ?_ | refine Ext.alloc ?_ _ | assumption | (refine Below.trans ?_ (by assumption)) | (refine Ext.trans ?_ (by assumption)) | (refine Below.trans ?_ (Below.mono (by assumption) (by omega)))))⟩, (by repeat (first | with_reducible exact Ext.refl _ | refine Ext.drewN ?_ _ | refine Ext.drew ?_ | refine Ext.alloc ?_ _ | assumption | (refine Below.trans ?_ (by assumption)) | (refine Ext.trans ?_ (by assumption)) | (refine Below.trans ?_ (Below.mono (by assumption) (by omega)))))⟩
  · have hb : (b.length : Int) ≤ usedL (b :: r) := rec_le (by simp)
    have h0 : (b :: r).length = r.length + 1 := rfl
    simp only [h0] at c4 hk1 hl HB HT
    obtain ⟨g1, off, u, d, rfl, hx, hd, hr⟩ := (TailS.rd rfl HT.out).y.at1 rfl (j := 0) (by omega)
    have hd0 := hd.out
    simp only [List.getElem?_cons_zero, Option.some.injEq] at hd0
    subst hd0
    obtain ⟨u', hu', hrd⟩ := hr.out
    simp only [List.cons.injEq, and_true] at hu'
    subst hu'
    obtain ⟨A2, k2, rfl, hk3, hk4⟩ := hrd.shape
    have HR := Lib.hid hrd
    have hbn : b.length ≤ 65536 := by omega
    rw [Nat.add_zero] at hx
    have hne : ¬ ((r.length : Int) + 1 = 0) := by omega
    have hpo : (0 : Int) < (r.length : Int) + 1 := by omega
    clear hd hr hrd hb hu
    go_enter Try.func18, Try.ntmps18
    go_wp2_with fail
    refine (count_any _ HB.out).mono ?_
    rintro e w1 ⟨rfl, hE1⟩
    have c4' := cell_ext hE1 c4
    have hx' := cell_ext hE1 hx
    go_wp2_with fail
    refine (clone_u8 (A := fun _ => False) _ b _ (RI.y (RdS.ri (HR.out.ext (by repeat (first | with_reducible exact Ext.refl _ | refine Ext.drewN ?_ _ | refine Ext.drew ?_ | refine Ext.alloc ?_ _ | assumption | (refine Below.trans ?_ (by assumption)) | (refine Ext.trans ?_ (by assumption)) | (refine Below.trans ?_ (Below.mono (by assumption) (by omega)))))))) (by omega)).mono ?_
    rintro e w2 ⟨A3, k3, rfl, hown, hE2⟩
    go_wp2
    go_ret2
    have hs := hE1.size
    exact ⟨⟨_, _, rfl, (hown.lower hs).mono fun k _ hk => hk.1⟩, (by repeat (first | with_reducible exact Ext.refl _ | refine Ext.drewN ?_ _ | refine Ext.drew ?_ | refine Ext.alloc ?_ _ | assumption | (refine Below.trans ?_ (by assumption)) | (refine Ext.trans ?_ (by assumption)) | (refine Below.trans ?_ (Below.mono (by assumption) (by omega)))))⟩
/-- what Pop makes of a queue -/
def popO (c : Cf) (l : List (List Int)) (o : Bool) : Bool := if l.isEmpty then o else o.and (decide (c.L < usedL l.tail))
set_option maxHeartbeats 800000 in
theorem pop_any {F : Nat → Prop} (c : Cf) (g : Nat) (w : World) (l : List (List Int)) (o : Bool) (h : Qm c g F w l o) :
    Calls Try.prog 19 #[.pointer (some ⟨g, 0, none⟩)] w fun e w' => OutB w.heap.size (frL l) (!l.isEmpty) e w' ∧ Qm c g F w' l.tail (popO c l o) ∧ Mod (fun k => k = g ∨ F k) w w' := by
  have HQ := Lib.hid h
  rcases l with _ | ⟨b, r⟩
  · clear h
    go_enter Try.func19, Try.ntmps19
    go_wp2_with fail
    refine (front_any c g _ [] o HQ.out).mono ?_
    rintro e w1 ⟨⟨A1, k1, rfl, hown⟩, hE1⟩
    go_wp2
    go_ret2
    exact ⟨⟨_, _, rfl, hown⟩, HQ.out.ext hE1, Mod.of_ext hE1⟩
  · obtain ⟨v, hB, hT, hF, hl, hu, hc⟩ := h
    have hun := usedL_nn r
    have huc := usedL_cons r b
    have hBs : c.B ≤ 65536 := by unfold badC at hc; omega
    obtain ⟨u, hu0⟩ : ∃ u, usedL (b :: r) = u := ⟨_, rfl⟩
    have hw : IntKind.i64.wrap (-(b.length : Int)) = -(b.length : Int) := IntWalk.i64_in _ (by omega)
    have hw2 : IntKind.i64.wrap (u + -(b.length : Int)) = u + -(b.length : Int) := IntWalk.i64_in _ (by omega)
    rw [hu0] at hB
    obtain ⟨c0, c1, c2, c3, c4, c5, c6, cf⟩ := qb_cells hB
    have hgl := hB.lt
    have hrow := TailS.row hT
    have HB := Lib.hid hB
    have HT := Lib.hid hT
    have HF := Lib.hid hF
    have HC := Lib.hid hc
    have HL := Lib.hid hl
    have HU := Lib.hid hu
    have HUC := Lib.hid huc
    have HU0 := Lib.hid hu0
    clear hB hT hF hc hl hu huc hu0
    have hfr : frL (b :: r) = b := rfl
    go_enter Try.func19, Try.ntmps19
    go_wp2_with fail
    refine (front_any c g _ (b :: r) o HQ.out).mono ?_
    rintro e w1 ⟨⟨A1, k1, rfl, hown⟩, hE1⟩
    rw [hfr] at hown ⊢
    have HO := Lib.hid hown
    clear hown
    have c4' := cell_ext hE1 c4
    go_wp2_with fail
    refine (delete_any v b r _ (HT.out.ext (by repeat (first | with_reducible exact Ext.refl _ | refine Ext.drewN ?_ _ | refine Ext.drew ?_ | refine Ext.alloc ?_ _ | assumption | (refine Below.trans ?_ (by assumption)) | (refine Ext.trans ?_ (by assumption)) | (refine Below.trans ?_ (Below.mono (by assumption) (by omega))))))).mono ?_
    rintro e w2 ⟨A2, k2, rfl, hT2, hM2⟩
    have B2 := Blk.mod (HB.out.ext hE1) hM2 fun hk => (HF.out g (hrow g hk)).2 rfl
    have c4'' := (qb_cells B2).2.2.2.2.1
    have f4'' := (qb_cells B2).2.2.2.2.2.2.2
    have HB2 := Lib.hid B2
    have hM2 := Lib.hid hM2
    have hT2 := Lib.hid hT2
    clear B2
    go_wp2_with fail
    refine (by_shrunk g c (.slice A2 r.length k2) u (-(b.length : Int)) o _ (qb_list HB2.out) hw2).mono ?_
    rintro e w3 ⟨rfl, B3, hM3⟩
    go_wp2
    go_ret2
    have M3 : Mod (fun k => k = g) w2 w3 := Mod.trans (Mod.set1 (Mod.refl _ w2) _) hM3
    have M2 : Mod F w1 w2 := hM2.out.mono fun k _ hk => hrow k hk
    have MA : Mod (fun k => k = g ∨ F k) w w3 := (Mod.of_ext hE1).trans ((Mod.gr M2).trans (Mod.gl M3))
    have MB : Mod (fun k => k = g ∨ F k) w1 w3 := (Mod.gr M2).trans (Mod.gl M3)
    have hub : u + -(b.length : Int) = usedL r := by have := HUC.out; have := HU0.out; omega
    have hrow1 := HO.out.row
    refine ⟨⟨A1, k1, rfl, HO.out.mod MB (fun k hk hs => ?_) fun _ _ h => h.elim⟩, ⟨.slice A2 r.length k2, ?_, hT2.out.mod M3 fun k _ hk => (HF.out k hk).2, fun k hk => ⟨Nat.lt_of_lt_of_le (HF.out k hk).1 MA.size, (HF.out k hk).2⟩, ?_, ?_, HC.out⟩, MA⟩
    · have := (hrow1 k hk).1
      rcases hs with rfl | hs
      · omega
      · have := (HF.out k hs).1
        omega
    · rw [hub] at B3
      exact B3
    · have h1 := HL.out
      simp only [List.length_cons, Int.natCast_add, Int.cast_ofNat_Int] at h1
      show (r.length : Int) ≤ c.R
      omega
    · have h1 := HU.out
      have h2 := HUC.out
      show usedL r ≤ c.B
      omega
end Go.Proofs.Ytefcafohhppmbaa
