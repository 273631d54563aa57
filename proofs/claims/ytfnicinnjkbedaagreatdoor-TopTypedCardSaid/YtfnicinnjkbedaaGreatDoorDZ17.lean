/- Written by chain.py of +LA17 +DS17 +Late DO17 PY17[-SWPost,-swrite_any] PN17. No condition. -/
import Derived.Test.YtfnicinnjkbedaaGreatDoorLA17
import Derived.Test.YtfnicinnjkbedaaGreatDoorDS17
import Derived.Test.YtfnicinnjkbedaaGreatDoorLate
namespace Go.Proofs.YtfnicinnjkbedaaGreatDoor
set_option maxRecDepth 100000
open Go.RowKit Go.Kb
set_option maxRecDepth 100000

def Ds.taken (d : Ds) (m : Nat) : Ds := { d with out := d.out.drop m }
theorem taken_ok {d : Ds} (h : d.Ok) (m : Nat) : (d.taken m).Ok :=
  ⟨h.t, h.bl, Bs.drop h.bo m, h.line, (by have := h.out; show (d.out.drop m).length ≤ 4096; rw [List.length_drop]; omega), h.col, h.fr⟩
/-- the first bytes were taken -/
def OutPost (S : Nat → Prop) (g : Nat) (d : Ds) (m : Nat) (w : World) (e : Ending) (w' : World) : Prop :=
  ∃ v, e = .returned v ∧ RI .u8 w' v (d.out.take m) ∧ Dsc S g w' (d.taken m) ∧ Mod (fun j => j = g) w w'
set_option maxHeartbeats 800000 in
theorem doutput_any {S : Nat → Prop} {g : Nat} (d : Ds) (n : Nat) (w : World) (h : Dsc S g w d) (hst : d.st = false) :
    Calls Tryz.prog 29 #[.pointer (some ⟨g, 0, none⟩), .int .i64 n] w (OutPost S g d (min n d.out.length) w) := by
  obtain ⟨ok, hS, vl, vs, vr, vo, hD, hR⟩ := h
  have hn := Tm.size ok.t
  have hW := taken_ok ok (min n d.out.length)
  have hol := ok.out
  obtain ⟨Ao, co, rfl, ho1, ho2⟩ := hR.out.shape
  have hFF := fun w' (h : RI .u8 w' (.slice Ao d.out.length co) d.out) => off_any Ao co (min n d.out.length) d.out w' h (Nat.min_le_right _ _) (by omega) ho1
  have HS := Lib.hid hS
  have HR := Lib.hid hR
  have HW := Lib.hid hW
  have HF := Lib.hid hFF
  clear hS hR hW hFF ok
  have HD := Lib.hid hD
  obtain ⟨c0, c1, c2, c3, c4, c5, c6, c7, c8, c9, cf⟩ := TmC.of hD hn
  rw [hst] at c4
  have f6 := cf 30
  clear hD cf
  have HST := Lib.hid hst
  clear hst
  unfold OutPost
  have RO := Lib.hid (show RI .u8 w (.slice Ao d.out.length co) d.out from RdS.ri HR.out.out)
  generalize hO : d.out.length = O at *
  have HO := Lib.hid hO
  clear hO
  obtain ⟨M, hM⟩ : ∃ M, min n O = M := ⟨_, rfl⟩
  rw [hM] at HF HW ⊢
  have hm1 : (if O < n then (O : Int) else (n : Int)) = (M : Int) := by split <;> omega
  have hm2 : (if (0 : Int) < (M : Int) then (M : Int) else 0) = (M : Int) := by split <;> omega
  have hm3 : (if 0 < M then (M : Int) else 0) = (M : Int) := by split <;> omega
  have hMO : M ≤ O := by omega
  clear hM
  go_enter Tryz.func29, Tryz.ntmps29
  go_upto_region 4 with fail
  refine region_till 20 (fun w' => Ext w w') (by kernel_rfl) (Ext.drew (Ext.refl _)) (fun hHeld => ?_)
  (refine till_take (i := 0) (v := ?_) rfl (by kernel_rfl) (by kernel_rfl) (by kernel_rfl) (by kernel_rfl) (fun _ _ _ h => h) (Or.inl ⟨by rfl, ?_⟩) (by assumption) ?_; rotate_left; (focus (intro w' hSw; go_simp; try with_reducible rfl)); (try simp only [List.getElem_toArray]); (try simp only [List.getElem_cons_succ]); (try simp only [List.getElem_cons_zero]); (try simp only [Act.put]); (try simp only [List.setIfInBounds_toArray]); (try simp only [List.set_cons_succ]); (try simp only [List.set_cons_zero]))
  (refine till_take (i := 1) (v := ?_) rfl (by kernel_rfl) (by kernel_rfl) (by kernel_rfl) (by kernel_rfl) (fun _ _ _ h => h) (Or.inl ⟨by rfl, ?_⟩) (by assumption) ?_; rotate_left; (focus (intro w' hSw; go_simp; try with_reducible rfl)); (try simp only [List.getElem_toArray]); (try simp only [List.getElem_cons_succ]); (try simp only [List.getElem_cons_zero]); (try simp only [Act.put]); (try simp only [List.setIfInBounds_toArray]); (try simp only [List.set_cons_succ]); (try simp only [List.set_cons_zero]))
  (refine till_take (i := 2) (v := ?_) rfl (by kernel_rfl) (by kernel_rfl) (by kernel_rfl) (by kernel_rfl) (fun _ _ _ h => h) (Or.inl ⟨by rfl, ?_⟩) (by assumption) ?_; rotate_left; (focus (intro w' hSw; go_simp; try with_reducible rfl)); (try simp only [List.getElem_toArray]); (try simp only [List.getElem_cons_succ]); (try simp only [List.getElem_cons_zero]); (try simp only [Act.put]); (try simp only [List.setIfInBounds_toArray]); (try simp only [List.set_cons_succ]); (try simp only [List.set_cons_zero]))
  (refine till_take (i := 3) (v := ?_) rfl (by kernel_rfl) (by kernel_rfl) (by kernel_rfl) (by kernel_rfl) (fun _ _ _ h => h) (Or.inl ⟨by rfl, ?_⟩) (by assumption) ?_; rotate_left; (focus (intro w' hSw; go_simp; try with_reducible rfl)); (try simp only [List.getElem_toArray]); (try simp only [List.getElem_cons_succ]); (try simp only [List.getElem_cons_zero]); (try simp only [Act.put]); (try simp only [List.setIfInBounds_toArray]); (try simp only [List.set_cons_succ]); (try simp only [List.set_cons_zero]))
  (refine till_take (i := 4) (v := ?_) rfl (by kernel_rfl) (by kernel_rfl) (by kernel_rfl) (by kernel_rfl) (fun _ _ _ h => h) (Or.inl ⟨by rfl, ?_⟩) (by assumption) ?_; rotate_left; (focus (intro w' hSw; have kc := cell_ext hSw c6; go_simp; try with_reducible rfl)); (try simp only [List.getElem_toArray]); (try simp only [List.getElem_cons_succ]); (try simp only [List.getElem_cons_zero]); (try simp only [Act.put]); (try simp only [List.setIfInBounds_toArray]); (try simp only [List.set_cons_succ]); (try simp only [List.set_cons_zero]))
  (refine till_take (i := 5) (v := ?_) rfl (by kernel_rfl) (by kernel_rfl) (by kernel_rfl) (by kernel_rfl) (fun _ _ _ h => h) (Or.inl ⟨by rfl, ?_⟩) (by assumption) ?_; rotate_left; (focus (intro w' hSw; go_simp; try with_reducible rfl)); (try simp only [List.getElem_toArray]); (try simp only [List.getElem_cons_succ]); (try simp only [List.getElem_cons_zero]); (try simp only [Act.put]); (try simp only [List.setIfInBounds_toArray]); (try simp only [List.set_cons_succ]); (try simp only [List.set_cons_zero]))
  (refine till_take (i := 6) (v := ?_) rfl (by kernel_rfl) (by kernel_rfl) (by kernel_rfl) (by kernel_rfl) (fun _ _ _ h => h) (Or.inl ⟨by rfl, ?_⟩) (by assumption) ?_; rotate_left; (focus (intro w' hSw; go_simp; try with_reducible rfl)); (try simp only [List.getElem_toArray]); (try simp only [List.getElem_cons_succ]); (try simp only [List.getElem_cons_zero]); (try simp only [Act.put]); (try simp only [List.setIfInBounds_toArray]); (try simp only [List.set_cons_succ]); (try simp only [List.set_cons_zero]))
  (refine till_take (i := 7) (v := ?_) rfl (by kernel_rfl) (by kernel_rfl) (by kernel_rfl) (by kernel_rfl) (fun _ _ _ h => h) (Or.inl ⟨by rfl, ?_⟩) (by assumption) ?_; rotate_left; (focus (intro w' hSw; go_simp; try with_reducible rfl)); (try simp only [List.getElem_toArray]); (try simp only [List.getElem_cons_succ]); (try simp only [List.getElem_cons_zero]); (try simp only [Act.put]); (try simp only [List.setIfInBounds_toArray]); (try simp only [List.set_cons_succ]); (try simp only [List.set_cons_zero]))
  (refine till_take (i := 8) (v := ?_) rfl (by kernel_rfl) (by kernel_rfl) (by kernel_rfl) (by kernel_rfl) (fun _ _ _ h => h) (Or.inl ⟨by rfl, ?_⟩) (by assumption) ?_; rotate_left; (focus (intro w' hSw; go_simp; try with_reducible rfl)); (try simp only [List.getElem_toArray]); (try simp only [List.getElem_cons_succ]); (try simp only [List.getElem_cons_zero]); (try simp only [Act.put]); (try simp only [List.setIfInBounds_toArray]); (try simp only [List.set_cons_succ]); (try simp only [List.set_cons_zero]))
  (refine till_take (i := 9) (v := ?_) rfl (by kernel_rfl) (by kernel_rfl) (by kernel_rfl) (by kernel_rfl) (fun _ _ _ h => h) (Or.inl ⟨by rfl, ?_⟩) (by assumption) ?_; rotate_left; (focus (intro w' hSw; have kc := cell_ext hSw c6; go_simp; try with_reducible rfl)); (try simp only [List.getElem_toArray]); (try simp only [List.getElem_cons_succ]); (try simp only [List.getElem_cons_zero]); (try simp only [Act.put]); (try simp only [List.setIfInBounds_toArray]); (try simp only [List.set_cons_succ]); (try simp only [List.set_cons_zero]))
  (refine till_take (i := 10) (v := ?_) rfl (by kernel_rfl) (by kernel_rfl) (by kernel_rfl) (by kernel_rfl) (fun _ _ _ h => h) (Or.inl ⟨by rfl, ?_⟩) (by assumption) ?_; rotate_left; (focus (intro w' hSw; go_simp; try with_reducible rfl)); (try simp only [List.getElem_toArray]); (try simp only [List.getElem_cons_succ]); (try simp only [List.getElem_cons_zero]); (try simp only [Act.put]); (try simp only [List.setIfInBounds_toArray]); (try simp only [List.set_cons_succ]); (try simp only [List.set_cons_zero]))
  (refine till_take (i := 11) (v := ?_) rfl (by kernel_rfl) (by kernel_rfl) (by kernel_rfl) (by kernel_rfl) (fun _ _ _ h => h) (Or.inl ⟨by rfl, ?_⟩) (by assumption) ?_; rotate_left; (focus (intro w' hSw; go_simp; try with_reducible rfl)); (try simp only [List.getElem_toArray]); (try simp only [List.getElem_cons_succ]); (try simp only [List.getElem_cons_zero]); (try simp only [Act.put]); (try simp only [List.setIfInBounds_toArray]); (try simp only [List.set_cons_succ]); (try simp only [List.set_cons_zero]))
  (refine till_take (i := 12) (v := ?_) rfl (by kernel_rfl) (by kernel_rfl) (by kernel_rfl) (by kernel_rfl) (fun _ _ _ h => h) (Or.inl ⟨by rfl, ?_⟩) (by assumption) ?_; rotate_left; (focus (intro w' hSw; go_simp; try with_reducible rfl)); (try simp only [List.getElem_toArray]); (try simp only [List.getElem_cons_succ]); (try simp only [List.getElem_cons_zero]); (try simp only [Act.put]); (try simp only [List.setIfInBounds_toArray]); (try simp only [List.set_cons_succ]); (try simp only [List.set_cons_zero]))
  (refine till_ready (rs := [13]) (by kernel_rfl) (by simp) ?_; refine AllTill.cons rfl (fun K hK => ?_) AllTill.nil; go_simp; go_at_call 53; refine (HF.out _ (RO.out.ext (by repeat (first | with_reducible exact Ext.refl _ | refine Ext.drewN ?_ _ | refine Ext.drew ?_ | refine Ext.alloc ?_ _ | assumption | (refine Below.trans ?_ (by assumption)) | (refine Ext.trans ?_ (by assumption)) | (refine Below.trans ?_ (Below.mono (by assumption) (by omega))))))).mono ?_; rintro e w1 ⟨v1, v2, rfl, o1, o2, E1⟩; (try dsimp only); refine hK.out _ _ (by repeat (first | with_reducible exact Ext.refl _ | refine Ext.drewN ?_ _ | refine Ext.drew ?_ | refine Ext.alloc ?_ _ | assumption | (refine Below.trans ?_ (by assumption)) | (refine Ext.trans ?_ (by assumption)) | (refine Below.trans ?_ (Below.mono (by assumption) (by omega))))) (fun hHeld => ?_); clear hK K; (try simp only [Act.put]); (try simp only [List.getElem_toArray]); (try simp only [List.getElem_cons_succ]); (try simp only [List.getElem_cons_zero]); (try simp only [List.setIfInBounds_toArray]); (try simp only [List.set_cons_succ]); (try simp only [List.set_cons_zero]))
  (refine till_take (i := 14) (v := ?_) rfl (by kernel_rfl) (by kernel_rfl) (by kernel_rfl) (by kernel_rfl) (fun _ _ _ h => h) (Or.inl ⟨by rfl, ?_⟩) (by assumption) ?_; rotate_left; (focus (intro w' hSw; go_simp; try with_reducible rfl)); (try simp only [List.getElem_toArray]); (try simp only [List.getElem_cons_succ]); (try simp only [List.getElem_cons_zero]); (try simp only [Act.put]); (try simp only [List.setIfInBounds_toArray]); (try simp only [List.set_cons_succ]); (try simp only [List.set_cons_zero]))
  (refine till_take (i := 15) (v := ?_) rfl (by kernel_rfl) (by kernel_rfl) (by kernel_rfl) (by kernel_rfl) (fun _ _ _ h => h) (Or.inl ⟨by rfl, ?_⟩) (by assumption) ?_; rotate_left; (focus (intro w' hSw; go_simp; try with_reducible rfl)); (try simp only [List.getElem_toArray]); (try simp only [List.getElem_cons_succ]); (try simp only [List.getElem_cons_zero]); (try simp only [Act.put]); (try simp only [List.setIfInBounds_toArray]); (try simp only [List.set_cons_succ]); (try simp only [List.set_cons_zero]))
  (refine till_take (i := 16) (v := ?_) rfl (by kernel_rfl) (by kernel_rfl) (by kernel_rfl) (by kernel_rfl) (fun _ _ _ h => h) (Or.inl ⟨by rfl, ?_⟩) (by assumption) ?_; rotate_left; (focus (intro w' hSw; go_simp; try with_reducible rfl)); (try simp only [List.getElem_toArray]); (try simp only [List.getElem_cons_succ]); (try simp only [List.getElem_cons_zero]); (try simp only [Act.put]); (try simp only [List.setIfInBounds_toArray]); (try simp only [List.set_cons_succ]); (try simp only [List.set_cons_zero]))
  (refine till_take (i := 17) (v := ?_) rfl (by kernel_rfl) (by kernel_rfl) (by kernel_rfl) (by kernel_rfl) (fun _ _ _ h => h) (Or.inl ⟨by rfl, ?_⟩) (by assumption) ?_; rotate_left; (focus (intro w' hSw; go_simp; try with_reducible rfl)); (try simp only [List.getElem_toArray]); (try simp only [List.getElem_cons_succ]); (try simp only [List.getElem_cons_zero]); (try simp only [Act.put]); (try simp only [List.setIfInBounds_toArray]); (try simp only [List.set_cons_succ]); (try simp only [List.set_cons_zero]))
  (refine till_ready (rs := [18]) (by kernel_rfl) (by simp) ?_; refine AllTill.cons rfl (fun K hK => ?_) AllTill.nil; go_simp; refine hK.out _ _ (by repeat (first | with_reducible exact Ext.refl _ | refine Ext.drewN ?_ _ | refine Ext.drew ?_ | refine Ext.alloc ?_ _ | assumption | (refine Below.trans ?_ (by assumption)) | (refine Ext.trans ?_ (by assumption)) | (refine Below.trans ?_ (Below.mono (by assumption) (by omega))))) (fun hHeld => ?_); clear hK K; (try simp only [Act.put]); (try simp only [List.getElem_toArray]); (try simp only [List.getElem_cons_succ]); (try simp only [List.getElem_cons_zero]); (try simp only [List.setIfInBounds_toArray]); (try simp only [List.set_cons_succ]); (try simp only [List.set_cons_zero]))
  (refine till_take (i := 19) (v := ?_) rfl (by kernel_rfl) (by kernel_rfl) (by kernel_rfl) (by kernel_rfl) (fun _ _ _ h => h) (Or.inl ⟨by rfl, ?_⟩) (by assumption) ?_; rotate_left; (focus (intro w' hSw; go_simp; try with_reducible rfl)); (try simp only [List.getElem_toArray]); (try simp only [List.getElem_cons_succ]); (try simp only [List.getElem_cons_zero]); (try simp only [Act.put]); (try simp only [List.setIfInBounds_toArray]); (try simp only [List.set_cons_succ]); (try simp only [List.set_cons_zero]))
  have E01 : Ext w w1 := (by repeat (first | with_reducible exact Ext.refl _ | refine Ext.drewN ?_ _ | refine Ext.drew ?_ | refine Ext.alloc ?_ _ | assumption | (refine Below.trans ?_ (by assumption)) | (refine Ext.trans ?_ (by assumption)) | (refine Below.trans ?_ (Below.mono (by assumption) (by omega)))))
  have hsz := E01.size
  have O1 := Lib.hid o1
  have O2 := Lib.hid (ownS_dsr o2 (S := S) (fun j hj => by have := HS.out.2 j hj; simp; omega))
  obtain ⟨A2, c2', rfl, -, -⟩ := o2.shape
  have c6 := cell_ext E01 c6
  have f6 : w1.frozen? ⟨g, 30, none⟩ = false := (HD.out.ext E01).frozen 30
  have HR1 := Lib.hid (HR.out.ext E01)
  have HD1 := Lib.hid (HD.out.ext E01)
  clear o1 o2 E1 hHeld
  obtain ⟨N2, hN2⟩ : ∃ N, (d.out.drop M).length = N := ⟨_, rfl⟩
  rw [hN2] at O2 ⊢
  clear hN2
  (refine till_ready (rs := [20]) (by kernel_rfl) (by simp) ?_; refine AllTill.last rfl (fun K hK => ?_) AllTill.nil; go_simp; refine hK.out _ _ ?_; clear hK K; (try simp only [Act.put]); (try simp only [List.getElem_toArray]); (try simp only [List.getElem_cons_succ]); (try simp only [List.getElem_cons_zero]); (try simp only [List.setIfInBounds_toArray]); (try simp only [List.set_cons_succ]); (try simp only [List.set_cons_zero]))
  refine till_done (by kernel_rfl) ?_ _
  go_wp2
  refine bodyPost_ret (v := v1) (by simp [results, Tryz.results29, go_sem]) rfl ?_
  refine ⟨v1, rfl, ?_, ⟨HW.out, ⟨HS.out.1, fun j hj => ?_⟩, vl, vs, vr, _, blk_tmset HD1.out hn 6 rfl _, ⟨(HR1.out.set_ HS.out.1 _ _).line, (HR1.out.set_ HS.out.1 _ _).lines, (HR1.out.set_ HS.out.1 _ _).raw, rdS_set O2.out HS.out.1 _ _⟩⟩, (Mod.of_ext E01).set1 _⟩
  · have hq := O1.out.mod (S := fun j => j = g) ((Mod.refl _ _).set1 (o := 30) (.slice A2 N2 c2')) (fun j hj he => ?_) (fun _ _ hk _ => hk)
    · exact RdS.ri hq.rdT
    · have h1 := (O1.out.row j hj).1
      have h2 := HS.out.2 g HS.out.1
      rw [he] at h1
      have h3 : w.heap.size ≤ g := h1
      omega
  · have := HS.out.2 j hj
    have h2 := E01.size
    simp
    omega
end Go.Proofs.YtfnicinnjkbedaaGreatDoor
namespace Go.Proofs.YtfnicinnjkbedaaGreatDoor
set_option maxRecDepth 100000
open Go.RowKit Go.Kb
set_option maxRecDepth 100000

/-- a terminal: its size, session, group, how many have the slave's end open, whether it is hung up -/
structure Py where
  a : Int
  b : Int
  c : Int
  e : Int
  ses : Int
  grp : Int
  sl : Int
  hu : Bool
abbrev ptA (g : Nat) (y : Py) : Array Value := #[.pointer (some ⟨g, 0, none⟩), .int .u32 y.a, .int .u32 y.b, .int .u32 y.c, .int .u32 y.e, .int .i64 y.ses, .int .i64 y.grp, .int .i64 y.sl, .bool y.hu]
abbrev two (p g : Nat) : Nat → Prop := fun k => k = p ∨ k = g
abbrev pS (X : Nat → Prop) (p g : Nat) : Nat → Prop := fun k => k = p ∨ k = g ∨ X k
/-- a terminal in block p, its discipline in block g; its bytes lie in none of X -/
structure Pt (X : Nat → Prop) (p g : Nat) (w : World) (y : Py) (d : Ds) : Prop where
  ne : g ≠ p
  blk : Blk w p 67 (ptA g y)
  dsc : Dsc (pS X p g) g w d
theorem Pt.ext {X : Nat → Prop} {p g : Nat} {w w' : World} {y : Py} {d : Ds} (h : Pt X p g w y d) (E : Ext w w') : Pt X p g w' y d := ⟨h.ne, h.blk.ext E, h.dsc.ext E⟩
/-- blocks of X turn, and other ones are X -/
theorem Pt.re {X X' T : Nat → Prop} {p g : Nat} {w w' : World} {y : Py} {d : Ds} (h : Pt X p g w y d) (M : Mod T w w') (hT : ∀ k, T k → X k) (h1 : ¬ T p) (h2 : ¬ T g) (hX : ∀ k, k < w.heap.size → X' k → X k) (hb : ∀ k, X' k → k < w'.heap.size) : Pt X' p g w' y d := by
  obtain ⟨ne, blk, ok, ⟨hs1, hs2⟩, vl, vs, vr, vo, hB, hR⟩ := h
  have key : ∀ k, k < w.heap.size → ¬ pS X p g k → ¬ pS X' p g k ∧ w'.heap[k]? = w.heap[k]? := fun k hk hn => by
    refine ⟨?_, M.block k hk fun ht => hn (.inr (.inr (hT k ht)))⟩
    rintro (h | h | h)
    · exact hn (.inl h)
    · exact hn (.inr (.inl h))
    · exact hn (.inr (.inr (hX k hk h)))
  have hz := M.size
  refine ⟨ne, blk.mod M h1, ok, ⟨.inr (.inl rfl), ?_⟩, vl, vs, vr, vo, hB.mod M h2, hR.line.keep key, hR.lines.keep key, hR.raw.keep key, hR.out.keep key⟩
  rintro k (h | h | h)
  · have := hs2 k (.inl h); omega
  · have := hs2 k (.inr (.inl h)); omega
  · exact hb k h
structure PtC (w : World) (p g : Nat) (y : Py) : Prop where
  k0 : w.cell? ⟨p, 0, none⟩ = some (.pointer (some ⟨g, 0, none⟩))
  k1 : w.cell? ⟨p, 1, none⟩ = some (.int .u32 y.a)
  k2 : w.cell? ⟨p, 2, none⟩ = some (.int .u32 y.b)
  k3 : w.cell? ⟨p, 3, none⟩ = some (.int .u32 y.c)
  k4 : w.cell? ⟨p, 4, none⟩ = some (.int .u32 y.e)
  k5 : w.cell? ⟨p, 5, none⟩ = some (.int .i64 y.ses)
  k6 : w.cell? ⟨p, 6, none⟩ = some (.int .i64 y.grp)
  k7 : w.cell? ⟨p, 7, none⟩ = some (.int .i64 y.sl)
  k8 : w.cell? ⟨p, 8, none⟩ = some (.bool y.hu)
  fr : ∀ o, w.frozen? ⟨p, o, none⟩ = false
theorem ptC {w : World} {p g : Nat} {y : Py} (h : Blk w p 67 (ptA g y)) : PtC w p g y :=
  ⟨by simpa using h.cell 0, by simpa using h.cell 1, by simpa using h.cell 2, by simpa using h.cell 3, by simpa using h.cell 4, by simpa using h.cell 5, by simpa using h.cell 6, by simpa using h.cell 7, by simpa using h.cell 8, h.frozen⟩
set_option maxHeartbeats 800000 in
theorem disc_any {p g : Nat} {y : Py} (w : World) (h : Blk w p 67 (ptA g y)) : Calls Tryz.prog 22 #[.pointer (some ⟨p, 0, none⟩)] w fun e w' => e = .returned (.pointer (some ⟨g, 0, none⟩)) ∧ Ext w w' := by
  have k0 := (ptC h).k0
  clear h
  go_enter Tryz.func22, Tryz.ntmps22
  go_wp2
  go_ret
  exact ⟨rfl, (by repeat (first | with_reducible exact Ext.refl _ | refine Ext.drewN ?_ _ | refine Ext.drew ?_ | refine Ext.alloc ?_ _ | assumption | (refine Below.trans ?_ (by assumption)) | (refine Ext.trans ?_ (by assumption)) | (refine Below.trans ?_ (Below.mono (by assumption) (by omega)))))⟩
theorem two_ne {p g : Nat} {w w' : World} (hne : g ≠ p) {t : TypeId} {cs : Array Value} (h : Blk w p t cs) (M : Mod (fun j => j = g) w w') : Blk w' p t cs := h.mod M (fun he => hne he.symm)
theorem Mod.two {p g : Nat} {w w' : World} (M : Mod (fun j => j = g) w w') : Mod (two p g) w w' := M.mono fun _ _ h => .inr h
/-- what taking output leaves -/
def MRPost (X : Nat → Prop) (p g : Nat) (y : Py) (d : Ds) (m : Nat) (w : World) (e : Ending) (w' : World) : Prop :=
  ∃ v, e = .returned (.tuple #[v, .int .i64 (if d.out.take m = [] then 10 else 0)]) ∧ RI .u8 w' v (d.out.take m) ∧ Pt X p g w' y (d.taken m) ∧ Mod (two p g) w w'
set_option maxHeartbeats 800000 in
theorem mread_any {X : Nat → Prop} {p g : Nat} {y : Py} (d : Ds) (n : Nat) (w : World) (h : Pt X p g w y d) (hu : y.hu = false) (hs : 0 < y.sl) (hst : d.st = false) (hn : 0 < n) :
    Calls Tryz.prog 15 #[.pointer (some ⟨p, 0, none⟩), .int .i64 n] w (MRPost X p g y d (min n d.out.length) w) := by
  have k8 := (ptC h.blk).k8
  rw [hu] at k8
  have HH := Lib.hid h
  have HF := Lib.hid (fun w' h => doutput_any (S := pS X p g) (g := g) d n w' h hst)
  clear h hu hst
  unfold MRPost
  obtain ⟨m, hm⟩ : ∃ m, min n d.out.length = m := ⟨_, rfl⟩
  unfold OutPost at HF
  rw [hm] at HF ⊢
  obtain ⟨l, hl⟩ : ∃ l, d.out.take m = l := ⟨_, rfl⟩
  rw [hl] at HF ⊢
  clear hm hl
  go_enter Tryz.func15, Tryz.ntmps15
  go_wp2_with fail
  refine (disc_any _ (HH.out.blk.ext (by repeat (first | with_reducible exact Ext.refl _ | refine Ext.drewN ?_ _ | refine Ext.drew ?_ | refine Ext.alloc ?_ _ | assumption | (refine Below.trans ?_ (by assumption)) | (refine Ext.trans ?_ (by assumption)) | (refine Below.trans ?_ (Below.mono (by assumption) (by omega))))))).mono ?_
  rintro e w1 ⟨rfl, E1⟩
  have E01 : Ext w w1 := (by repeat (first | with_reducible exact Ext.refl _ | refine Ext.drewN ?_ _ | refine Ext.drew ?_ | refine Ext.alloc ?_ _ | assumption | (refine Below.trans ?_ (by assumption)) | (refine Ext.trans ?_ (by assumption)) | (refine Below.trans ?_ (Below.mono (by assumption) (by omega)))))
  go_wp2_with fail
  refine (HF.out _ (HH.out.dsc.ext (by repeat (first | with_reducible exact Ext.refl _ | refine Ext.drewN ?_ _ | refine Ext.drew ?_ | refine Ext.alloc ?_ _ | assumption | (refine Below.trans ?_ (by assumption)) | (refine Ext.trans ?_ (by assumption)) | (refine Below.trans ?_ (Below.mono (by assumption) (by omega))))))).mono ?_
  rintro e w2 ⟨v2, rfl, r2, D2, M2⟩
  have HD := Lib.hid D2
  have HP := Lib.hid (two_ne HH.out.ne HH.out.blk ((Mod.of_ext E01).trans M2))
  have M02 := Lib.hid ((Mod.of_ext E01).trans M2)
  have k7 := (ptC HP.out).k7
  obtain ⟨A2, c2, rfl, -, -⟩ := r2.shape
  have R2 := Lib.hid r2
  clear D2 M2 E1 r2
  cases l with
  | nil =>
    go_wp2
    go_ret2
    exact ⟨.slice none 0 0, rfl, RdN.nil _ _, ⟨HH.out.ne, HP.out, HD.out⟩, Mod.two M02.out⟩
  | cons x t =>
    obtain ⟨N, hN⟩ : ∃ N, (x :: t).length = N := ⟨_, rfl⟩
    have h0 : 0 < N := by rw [← hN]; simp
    rw [hN] at R2 ⊢
    clear hN
    go_wp2
    go_ret2
    exact ⟨_, by simp, R2.out, ⟨HH.out.ne, HP.out, HD.out⟩, Mod.two M02.out⟩
set_option maxHeartbeats 800000 in
theorem open_any {X : Nat → Prop} {p g : Nat} {y : Py} {d : Ds} (w : World) (h : Pt X p g w y d) (hu : y.hu = false) (hs : 0 ≤ y.sl ∧ y.sl ≤ 1000000) :
    Calls Tryz.prog 21 #[.pointer (some ⟨p, 0, none⟩)] w fun e w' => e = .returned (.int .i64 0) ∧ Pt X p g w' { y with sl := y.sl + 1 } d ∧ Mod (two p g) w w' := by
  have k8 := (ptC h.blk).k8
  have k7 := (ptC h.blk).k7
  have f7 := (ptC h.blk).fr 7
  rw [hu] at k8
  have HH := Lib.hid h
  clear h hu
  have i1 : IntKind.i64.wrap (y.sl + 1) = y.sl + 1 := by rw [IntKind.wrap_i64]; omega
  go_enter Tryz.func21, Tryz.ntmps21
  go_wp2
  go_ret
  have M : Mod (fun j => j = p) w (w.setCell ⟨p, 7, none⟩ (.int .i64 (y.sl + 1))) := (Mod.refl _ _).set1 _
  refine ⟨rfl, ⟨HH.out.ne, ?_, HH.out.dsc.mod M (fun _ hk => .inl hk) HH.out.ne⟩, M.mono fun _ _ hk => .inl hk⟩
  have := HH.out.blk.set_ 7 (.int .i64 (y.sl + 1))
  simpa using this
end Go.Proofs.YtfnicinnjkbedaaGreatDoor
namespace Go.Proofs.YtfnicinnjkbedaaGreatDoor
set_option maxRecDepth 100000
open Go.RowKit Go.Kb
set_option maxRecDepth 100000

/-- a discipline that was just made -/
def newD (t : Tm) : Ds := ⟨t, [], false, [], [], false, false, [], 0, 0, 0⟩
theorem newD_ok {t : Tm} (h : t.Ok) : (newD t).Ok := ⟨h, (fun _ hx => by cases hx), (fun _ hx => by cases hx), by simp [newD], by simp [newD], by simp [newD], by simp [newD]⟩
def newY : Py := ⟨0, 0, 0, 0, 0, 0, 0, false⟩
theorem built_disc (cs : Array Value) (h : cs.size = 24) : Tryz.prog.built 82 [(0, .agg cs)] = some (tmA cs [.slice none 0 0, .bool false, .slice none 0 0, .slice none 0 0, .bool false, .bool false, .slice none 0 0, .int .i64 0, .int .i64 0, .int .i64 0]) := by
  rw [← arr24 h]
  kernel_rfl
theorem newD_dsr {S : Nat → Prop} {w : World} {t : Tm} : DsR S w (newD t) (.slice none 0 0) (.slice none 0 0) (.slice none 0 0) (.slice none 0 0) := ⟨RdS.nil _ _ _, RdS.nil _ _ _, RdS.nil _ _ _, RdS.nil _ _ _⟩
set_option maxHeartbeats 800000 in
theorem dnew_any (t : Tm) (w : World) (ht : t.Ok) : Calls Tryz.prog 39 #[.agg t.arr] w fun e w' =>
    ∃ g, e = .returned (.pointer (some ⟨g, 0, none⟩)) ∧ w.heap.size ≤ g ∧ g < w'.heap.size ∧ Blk w' g 82 (tmA t.arr (dsX (newD t) (.slice none 0 0) (.slice none 0 0) (.slice none 0 0) (.slice none 0 0))) ∧ Ext w w' := by
  have hn := Tm.size ht
  have hbi := Lib.hid (built_disc t.arr hn)
  show Calls _ _ _ _ fun e w' => ∃ g, e = .returned (.pointer (some ⟨g, 0, none⟩)) ∧ w.heap.size ≤ g ∧ g < w'.heap.size ∧ Blk w' g 82 (tmA t.arr [.slice none 0 0, .bool false, .slice none 0 0, .slice none 0 0, .bool false, .bool false, .slice none 0 0, .int .i64 0, .int .i64 0, .int .i64 0]) ∧ Ext w w'
  clear ht
  obtain ⟨cs, hcs⟩ : ∃ cs, t.arr = cs := ⟨_, rfl⟩
  rw [hcs] at hbi hn ⊢
  clear hcs
  have hi : (Tryz.prog.info? 26).map (·.size) = some cs.size := by rw [hn]; kernel_rfl
  have hT := Lib.hid (Blk.new w 26 cs)
  obtain ⟨L, hL⟩ : ∃ L, tmA cs [.slice none 0 0, .bool false, .slice none 0 0, .slice none 0 0, .bool false, .bool false, .slice none 0 0, .int .i64 0, .int .i64 0, .int .i64 0] = L := ⟨_, rfl⟩
  rw [hL] at hbi ⊢
  clear hL
  go_enter Tryz.func39, Tryz.ntmps39
  go_wp2_with (first | (refine wpList_load_row rfl 26 _ rfl _ rfl 26 _ _ _ (Blk.ext hT.out (by repeat (first | with_reducible exact Ext.refl _ | refine Ext.drewN ?_ _ | refine Ext.drew ?_ | refine Ext.alloc ?_ _ | assumption | (refine Below.trans ?_ (by assumption)) | (refine Ext.trans ?_ (by assumption)) | (refine Below.trans ?_ (Below.mono (by assumption) (by omega)))))) Tryz.underlying26 rfl hi ?_) | (refine wpList_build_eq rfl 82 _ rfl (L := L) ?_ ?_; · (simp [go_sem]; exact hbi.out)))
  go_ret
  exact ⟨_, rfl, by simp, by simp, Blk.at_ _ _ (by simp), (by repeat (first | with_reducible exact Ext.refl _ | refine Ext.drewN ?_ _ | refine Ext.drew ?_ | refine Ext.alloc ?_ _ | assumption | (refine Below.trans ?_ (by assumption)) | (refine Ext.trans ?_ (by assumption)) | (refine Below.trans ?_ (Below.mono (by assumption) (by omega)))))⟩
theorem built_pty (g : Nat) : Tryz.prog.built 67 [(0, .pointer (some ⟨g, 0, none⟩)), (1, .agg #[.int .u32 0, .int .u32 0, .int .u32 0, .int .u32 0])] = some (ptA g newY) := by kernel_rfl
set_option maxHeartbeats 800000 in
theorem pnew_any (t : Tm) (w : World) (ht : t.Ok) : Calls Tryz.prog 20 #[.agg t.arr, .agg #[.int .u32 0, .int .u32 0, .int .u32 0, .int .u32 0]] w fun e w' =>
    ∃ p g, e = .returned (.pointer (some ⟨p, 0, none⟩)) ∧ Pt (fun _ => False) p g w' newY (newD t) ∧ Ext w w' ∧ w.heap.size ≤ p ∧ w.heap.size ≤ g := by
  have hn := Tm.size ht
  have hN := Lib.hid (fun w' => dnew_any t w' ht)
  have hok := Lib.hid (newD_ok ht)
  have htt : (newD t).t.arr = t.arr := rfl
  obtain ⟨cs, hcs⟩ : ∃ cs, t.arr = cs := ⟨_, rfl⟩
  rw [hcs] at hN hn ⊢
  have HCS := Lib.hid hcs
  clear hcs ht htt
  have hi : (Tryz.prog.info? 26).map (·.size) = some cs.size := by rw [hn]; kernel_rfl
  have hT := Lib.hid (Blk.new w 26 cs)
  have hT2 := Lib.hid (hT.out.ext ((Ext.refl _).alloc (.cells #[.int .u32 0, .int .u32 0, .int .u32 0, .int .u32 0] 63)))
  have b0 : ((w.alloc (.cells cs 26)).alloc (.cells #[.int .u32 0, .int .u32 0, .int .u32 0, .int .u32 0] 63)).heap[w.heap.size + 1]? = some (.cells #[.int .u32 0, .int .u32 0, .int .u32 0, .int .u32 0] 63 (0, 0)) := Blk.at_ _ _ (by simp)
  have B0 := Lib.hid (show Blk ((w.alloc (.cells cs 26)).alloc (.cells #[.int .u32 0, .int .u32 0, .int .u32 0, .int .u32 0] 63)) (w.heap.size + 1) 63 #[.int .u32 0, .int .u32 0, .int .u32 0, .int .u32 0] from b0)
  clear b0
  go_enter Tryz.func20, Tryz.ntmps20
  go_upto_region 1 with fail
  refine wp_region_held_drew (S := fun w' => Ext ((w.alloc (.cells cs 26)).alloc (.cells #[.int .u32 0, .int .u32 0, .int .u32 0, .int .u32 0] 63)) w') (by kernel_rfl) (Ext.drew (Ext.refl _)) (fun hHeld => ?_)
  (refine wpAnyH_take (i := 0) (v := .agg cs) rfl (by kernel_rfl) (by kernel_rfl) (by kernel_rfl) (fun _ _ _ h => h) (yieldsIf_load_row (by rfl) 26 _ rfl _ rfl 26 cs _ _ (fun w' hw' => Blk.ext hT2.out hw') Tryz.underlying26 rfl hi) (by assumption) ?_; (try simp only [Act.put]); (try simp only [List.getElem_toArray]); (try simp only [List.getElem_cons_succ]); (try simp only [List.getElem_cons_zero]); (try simp only [List.setIfInBounds_toArray]); (try simp only [List.set_cons_succ]); (try simp only [List.set_cons_zero]))
  (refine wpAnyH_take (i := 2) (v := .agg #[.int .u32 0, .int .u32 0, .int .u32 0, .int .u32 0]) rfl (by kernel_rfl) (by kernel_rfl) (by kernel_rfl) (fun _ _ _ h => h) (yieldsIf_load_row (by rfl) 63 _ rfl _ rfl 63 #[.int .u32 0, .int .u32 0, .int .u32 0, .int .u32 0] _ _ (fun w' hSw => B0.out.ext hSw) Tryz.underlying63 rfl (by kernel_rfl)) (by assumption) ?_; (try simp only [Act.put]); (try simp only [List.getElem_toArray]); (try simp only [List.getElem_cons_succ]); (try simp only [List.getElem_cons_zero]); (try simp only [List.setIfInBounds_toArray]); (try simp only [List.set_cons_succ]); (try simp only [List.set_cons_zero]))
  (refine wpAnyH_ready (rs := [1]) (by kernel_rfl) (by simp) ?_; refine AllReadyH.cons rfl (fun K hK => ?_) AllReadyH.nil; go_simp; go_at_call 39; refine (hN.out _).mono ?_; rintro e w1 ⟨g, rfl, g1, g2, G1, E1⟩; (try dsimp only); refine hK.out _ _ (by repeat (first | with_reducible exact Ext.refl _ | refine Ext.drewN ?_ _ | refine Ext.drew ?_ | refine Ext.alloc ?_ _ | assumption | (refine Below.trans ?_ (by assumption)) | (refine Ext.trans ?_ (by assumption)) | (refine Below.trans ?_ (Below.mono (by assumption) (by omega))))) (fun hHeld => ?_); clear hK K; (try simp only [Act.put]); (try simp only [List.getElem_toArray]); (try simp only [List.getElem_cons_succ]); (try simp only [List.getElem_cons_zero]); (try simp only [List.setIfInBounds_toArray]); (try simp only [List.set_cons_succ]); (try simp only [List.set_cons_zero]))
  have G1' := Lib.hid G1
  have EB := hHeld
  have z1 : w.heap.size ≤ w1.heap.size := by have := EB.size; simp at this; omega
  have z2 : w.heap.size ≤ g := by simp at g1; omega
  clear G1 g1 E1 hHeld
  have hb := built_pty g
  (refine wpAnyH_take (i := 3) (v := .agg (ptA g newY)) rfl (by kernel_rfl) (by kernel_rfl) (by kernel_rfl) (fun _ _ _ h => h) (yieldsIf_build (by rfl) 67 _ rfl (by simp [go_sem]; exact hb)) (by assumption) ?_; (try simp only [List.getElem_toArray]); (try simp only [List.getElem_cons_succ]); (try simp only [List.getElem_cons_zero]); (try simp only [Act.put]); (try simp only [List.setIfInBounds_toArray]); (try simp only [List.set_cons_succ]); (try simp only [List.set_cons_zero]))
  (refine wpAnyH_ready (rs := [4]) (by kernel_rfl) (by simp) ?_; refine AllReadyH.cons rfl (fun K hK => ?_) AllReadyH.nil; go_simp; refine hK.out _ _ (by repeat (first | with_reducible exact Ext.refl _ | refine Ext.drewN ?_ _ | refine Ext.drew ?_ | refine Ext.alloc ?_ _ | assumption | (refine Below.trans ?_ (by assumption)) | (refine Ext.trans ?_ (by assumption)) | (refine Below.trans ?_ (Below.mono (by assumption) (by omega))))) (fun hHeld => ?_); clear hK K; (try simp only [Act.put]); (try simp only [List.getElem_toArray]); (try simp only [List.getElem_cons_succ]); (try simp only [List.getElem_cons_zero]); (try simp only [List.setIfInBounds_toArray]); (try simp only [List.set_cons_succ]); (try simp only [List.set_cons_zero]))
  (refine wpAnyH_take (i := 5) (v := ?_) rfl (by kernel_rfl) (by kernel_rfl) (by kernel_rfl) (fun _ _ _ h => h) (Or.inl ⟨by rfl, ?_⟩) (by assumption) ?_; rotate_left; (focus (intro w' hSw; go_simp; try with_reducible rfl)); (try simp only [List.getElem_toArray]); (try simp only [List.getElem_cons_succ]); (try simp only [List.getElem_cons_zero]); (try simp only [Act.put]); (try simp only [List.setIfInBounds_toArray]); (try simp only [List.set_cons_succ]); (try simp only [List.set_cons_zero]))
  refine wpAnyH_done (by kernel_rfl) ?_ _
  clear hb
  have E01 : Ext w w1 := Ext.trans (Ext.alloc (Ext.alloc (Ext.refl _) _) _) EB
  have E02 : Ext w (w1.alloc (.cells (ptA g newY) 67)) := E01.alloc _
  have E12 : Ext w1 (w1.alloc (.cells (ptA g newY) 67)) := (Ext.refl _).alloc _
  have EE := Lib.hid E02
  have fin : Pt (fun _ => False) w1.heap.size g (w1.alloc (.cells (ptA g newY) 67)) newY (newD t) := by
    have hg : g < (w1.alloc (.cells (ptA g newY) 67)).heap.size := by simp; omega
    refine ⟨by omega, Blk.new _ _ _, hok.out, ⟨.inr (.inl rfl), ?_⟩, _, _, _, _, ?_, newD_dsr⟩
    · rintro k (rfl | rfl | h)
      · simp
      · exact hg
      · exact h.elim
    · have h := G1'.out.ext E12
      rw [← HCS.out] at h
      exact h
  have FIN := Lib.hid fin
  clear fin E02 E12
  go_wp2
  go_ret
  exact ⟨_, g, rfl, FIN.out, EE.out, z1, z2⟩
set_option maxHeartbeats 800000 in
theorem opened_any (t : Tm) (w : World) (ht : t.Ok) : Calls Tryz.prog 10 #[.agg t.arr] w fun e w' =>
    ∃ p g, e = .returned (.tuple #[.pointer (some ⟨p, 0, none⟩), .bool true]) ∧ Pt (fun _ => False) p g w' { newY with sl := 1 } (newD t) ∧ Ext w w' ∧ w.heap.size ≤ p ∧ w.heap.size ≤ g := by
  have hn := Tm.size ht
  have hN := Lib.hid (fun w' => pnew_any t w' ht)
  obtain ⟨cs, hcs⟩ : ∃ cs, t.arr = cs := ⟨_, rfl⟩
  rw [hcs] at hN hn ⊢
  clear hcs ht
  have hi : (Tryz.prog.info? 26).map (·.size) = some cs.size := by rw [hn]; kernel_rfl
  have hT := Lib.hid (Blk.new w 26 cs)
  go_enter Tryz.func10, Tryz.ntmps10
  go_wp2_with ((refine wpList_load_row rfl 26 _ rfl _ rfl 26 _ _ _ (Blk.ext hT.out (by repeat (first | with_reducible exact Ext.refl _ | refine Ext.drewN ?_ _ | refine Ext.drew ?_ | refine Ext.alloc ?_ _ | assumption | (refine Below.trans ?_ (by assumption)) | (refine Ext.trans ?_ (by assumption)) | (refine Below.trans ?_ (Below.mono (by assumption) (by omega)))))) Tryz.underlying26 rfl hi ?_))
  refine (hN.out _).mono ?_
  rintro e w1 ⟨p, g, rfl, P1, E1, b1, b2⟩
  have b1 : w.heap.size ≤ p := by simp at b1; omega
  have b2 : w.heap.size ≤ g := by simp at b2; omega
  have HP := Lib.hid P1
  have E01 : Ext w w1 := (by repeat (first | with_reducible exact Ext.refl _ | refine Ext.drewN ?_ _ | refine Ext.drew ?_ | refine Ext.alloc ?_ _ | assumption | (refine Below.trans ?_ (by assumption)) | (refine Ext.trans ?_ (by assumption)) | (refine Below.trans ?_ (Below.mono (by assumption) (by omega)))))
  clear P1 E1
  go_wp2_with fail
  refine (open_any _ HP.out rfl (by simp [newY])).mono ?_
  rintro e w2 ⟨rfl, P2, M2⟩
  have HP2 := Lib.hid P2
  have EE := Lib.hid (Mod.toExt E01 M2 (by rintro k hk (rfl | rfl) <;> omega))
  clear P2 M2
  go_wp2
  go_ret2
  exact ⟨p, g, rfl, HP2.out, EE.out, b1, b2⟩
end Go.Proofs.YtfnicinnjkbedaaGreatDoor
