/- A terminal with both its ends: its memory, and opening, writing and taking, by contract. Conditions: it isn't hung up, output is not stopped. -/
import Derived.Test.YtfnicinnjkbedaaDoorDO17
namespace Go.Proofs.YtfnicinnjkbedaaDoor
open Go.RowKit Go.Kb
set_option maxRecDepth 100000

/-- a terminal: its size, session, group, how many have the slave's end open, whether it is hung up -/
structure Py where
  a : Int
  b : Int
  c : Int
  e : Int
  ses : Int
  grp : Int
  sl : Int
  hu : Bool
abbrev ptA (g : Nat) (y : Py) : Array Value := #[.pointer (some ⟨g, 0, none⟩), .int .u32 y.a, .int .u32 y.b, .int .u32 y.c, .int .u32 y.e, .int .i64 y.ses, .int .i64 y.grp, .int .i64 y.sl, .bool y.hu]
abbrev two (p g : Nat) : Nat → Prop := fun k => k = p ∨ k = g
abbrev pS (X : Nat → Prop) (p g : Nat) : Nat → Prop := fun k => k = p ∨ k = g ∨ X k
/-- a terminal in block p, its discipline in block g; its bytes lie in none of X -/
structure Pt (X : Nat → Prop) (p g : Nat) (w : World) (y : Py) (d : Ds) : Prop where
  ne : g ≠ p
  blk : Blk w p 60 (ptA g y)
  dsc : Dsc (pS X p g) g w d
theorem Pt.ext {X : Nat → Prop} {p g : Nat} {w w' : World} {y : Py} {d : Ds} (h : Pt X p g w y d) (E : Ext w w') : Pt X p g w' y d := ⟨h.ne, h.blk.ext E, h.dsc.ext E⟩
/-- blocks of X turn, and other ones are X -/
theorem Pt.re {X X' T : Nat → Prop} {p g : Nat} {w w' : World} {y : Py} {d : Ds} (h : Pt X p g w y d) (M : Mod T w w') (hT : ∀ k, T k → X k) (h1 : ¬ T p) (h2 : ¬ T g) (hX : ∀ k, k < w.heap.size → X' k → X k) (hb : ∀ k, X' k → k < w'.heap.size) : Pt X' p g w' y d := by
  obtain ⟨ne, blk, ok, ⟨hs1, hs2⟩, vl, vs, vr, vo, hB, hR⟩ := h
  have key : ∀ k, k < w.heap.size → ¬ pS X p g k → ¬ pS X' p g k ∧ w'.heap[k]? = w.heap[k]? := fun k hk hn => by
    refine ⟨?_, M.block k hk fun ht => hn (.inr (.inr (hT k ht)))⟩
    rintro (h | h | h)
    · exact hn (.inl h)
    · exact hn (.inr (.inl h))
    · exact hn (.inr (.inr (hX k hk h)))
  have hz := M.size
  refine ⟨ne, blk.mod M h1, ok, ⟨.inr (.inl rfl), ?_⟩, vl, vs, vr, vo, hB.mod M h2, hR.line.keep key, hR.lines.keep key, hR.raw.keep key, hR.out.keep key⟩
  rintro k (h | h | h)
  · have := hs2 k (.inl h); omega
  · have := hs2 k (.inr (.inl h)); omega
  · exact hb k h
structure PtC (w : World) (p g : Nat) (y : Py) : Prop where
  k0 : w.cell? ⟨p, 0, none⟩ = some (.pointer (some ⟨g, 0, none⟩))
  k1 : w.cell? ⟨p, 1, none⟩ = some (.int .u32 y.a)
  k2 : w.cell? ⟨p, 2, none⟩ = some (.int .u32 y.b)
  k3 : w.cell? ⟨p, 3, none⟩ = some (.int .u32 y.c)
  k4 : w.cell? ⟨p, 4, none⟩ = some (.int .u32 y.e)
  k5 : w.cell? ⟨p, 5, none⟩ = some (.int .i64 y.ses)
  k6 : w.cell? ⟨p, 6, none⟩ = some (.int .i64 y.grp)
  k7 : w.cell? ⟨p, 7, none⟩ = some (.int .i64 y.sl)
  k8 : w.cell? ⟨p, 8, none⟩ = some (.bool y.hu)
  fr : ∀ o, w.frozen? ⟨p, o, none⟩ = false
theorem ptC {w : World} {p g : Nat} {y : Py} (h : Blk w p 60 (ptA g y)) : PtC w p g y :=
  ⟨by simpa using h.cell 0, by simpa using h.cell 1, by simpa using h.cell 2, by simpa using h.cell 3, by simpa using h.cell 4, by simpa using h.cell 5, by simpa using h.cell 6, by simpa using h.cell 7, by simpa using h.cell 8, h.frozen⟩
set_option maxHeartbeats 800000 in
theorem disc_any {p g : Nat} {y : Py} (w : World) (h : Blk w p 60 (ptA g y)) : Calls Tryd.prog 15 #[.pointer (some ⟨p, 0, none⟩)] w fun e w' => e = .returned (.pointer (some ⟨g, 0, none⟩)) ∧ Ext w w' := by
  have k0 := (ptC h).k0
  clear h
  go_enter Tryd.func15, Tryd.ntmps15
  go_wp2
  go_ret
  exact ⟨rfl, (by repeat (first | with_reducible exact Ext.refl _ | refine Ext.drewN ?_ _ | refine Ext.drew ?_ | refine Ext.alloc ?_ _ | assumption | (refine Below.trans ?_ (by assumption)) | (refine Ext.trans ?_ (by assumption)) | (refine Below.trans ?_ (Below.mono (by assumption) (by omega)))))⟩
/-- what a program's write leaves -/
def SWPost (X : Nat → Prop) (p g : Nat) (y : Py) (d : Ds) (b : List Int) (w : World) (e : Ending) (w' : World) : Prop :=
  ∃ k : Nat, FitIs (pfL d.t) d.col b (4096 - (d.out.length : Int)) k ∧ e = .returned (.tuple #[.int .i64 k, .int .i64 (if k = 0 ∧ 0 < b.length then 10 else 0)]) ∧ Pt X p g w' y (d.wrote (b.take k)) ∧ Mod (two p g) w w'
theorem two_ne {p g : Nat} {w w' : World} (hne : g ≠ p) {t : TypeId} {cs : Array Value} (h : Blk w p t cs) (M : Mod (fun j => j = g) w w') : Blk w' p t cs := h.mod M (fun he => hne he.symm)
theorem Mod.two {p g : Nat} {w w' : World} (M : Mod (fun j => j = g) w w') : Mod (two p g) w w' := M.mono fun _ _ h => .inr h
set_option maxHeartbeats 800000 in
theorem swrite_any {X : Nat → Prop} {p g : Nat} {y : Py} (d : Ds) (v : Value) (b : List Int) (w : World) (h : Pt X p g w y d) (hu : y.hu = false) (hb : RI .u8 w v b) (hB : Bs b) (hl : b.length ≤ 100000) :
    Calls Tryd.prog 6 #[.pointer (some ⟨p, 0, none⟩), v] w (SWPost X p g y d b w) := by
  obtain ⟨Ab, cb, rfl, hb1, hb2⟩ := hb.shape
  have k8 := (ptC h.blk).k8
  rw [hu] at k8
  have HB := Lib.hid hb
  have HH := Lib.hid h
  have HF := Lib.hid (fun w' h hb => dwrite_any (S := pS X p g) (g := g) d (.slice Ab b.length cb) b w' h hb hB hl)
  clear h hb hB hu
  unfold SWPost
  obtain ⟨N, hN⟩ : ∃ N, b.length = N := ⟨_, rfl⟩
  rw [hN] at HB HF hb1 hl ⊢
  clear hN
  go_enter Tryd.func6, Tryd.ntmps6
  go_wp2_with fail
  refine (disc_any _ (HH.out.blk.ext (by repeat (first | with_reducible exact Ext.refl _ | refine Ext.drewN ?_ _ | refine Ext.drew ?_ | refine Ext.alloc ?_ _ | assumption | (refine Below.trans ?_ (by assumption)) | (refine Ext.trans ?_ (by assumption)) | (refine Below.trans ?_ (Below.mono (by assumption) (by omega))))))).mono ?_
  rintro e w1 ⟨rfl, E1⟩
  have E01 : Ext w w1 := (by repeat (first | with_reducible exact Ext.refl _ | refine Ext.drewN ?_ _ | refine Ext.drew ?_ | refine Ext.alloc ?_ _ | assumption | (refine Below.trans ?_ (by assumption)) | (refine Ext.trans ?_ (by assumption)) | (refine Below.trans ?_ (Below.mono (by assumption) (by omega)))))
  go_wp2_with fail
  refine (HF.out _ (HH.out.dsc.ext (by repeat (first | with_reducible exact Ext.refl _ | refine Ext.drewN ?_ _ | refine Ext.drew ?_ | refine Ext.alloc ?_ _ | assumption | (refine Below.trans ?_ (by assumption)) | (refine Ext.trans ?_ (by assumption)) | (refine Below.trans ?_ (Below.mono (by assumption) (by omega)))))) (HB.out.ext (by repeat (first | with_reducible exact Ext.refl _ | refine Ext.drewN ?_ _ | refine Ext.drew ?_ | refine Ext.alloc ?_ _ | assumption | (refine Below.trans ?_ (by assumption)) | (refine Ext.trans ?_ (by assumption)) | (refine Below.trans ?_ (Below.mono (by assumption) (by omega))))))).mono ?_
  rintro e w2 ⟨k, fk, rfl, D2, M2⟩
  have HD := Lib.hid D2
  have HM := Lib.hid M2
  have HK := Lib.hid fk
  have M02 := Lib.hid ((Mod.of_ext E01).trans M2)
  clear D2 M2 fk E1
  by_cases h0 : k = 0
  · subst h0
    by_cases h1 : 0 < N
    · go_wp2
      go_ret2
      exact ⟨0, HK.out, by simp [h1], ⟨HH.out.ne, two_ne HH.out.ne HH.out.blk M02.out, HD.out⟩, Mod.two M02.out⟩
    · obtain rfl : N = 0 := by omega
      go_wp2
      go_ret2
      exact ⟨0, HK.out, by simp, ⟨HH.out.ne, two_ne HH.out.ne HH.out.blk M02.out, HD.out⟩, Mod.two M02.out⟩
  · have hk : ¬ ((k : Int) = 0) := by omega
    go_wp2
    go_ret2
    exact ⟨k, HK.out, by simp [h0], ⟨HH.out.ne, two_ne HH.out.ne HH.out.blk M02.out, HD.out⟩, Mod.two M02.out⟩
/-- what taking output leaves -/
def MRPost (X : Nat → Prop) (p g : Nat) (y : Py) (d : Ds) (m : Nat) (w : World) (e : Ending) (w' : World) : Prop :=
  ∃ v, e = .returned (.tuple #[v, .int .i64 (if d.out.take m = [] then 10 else 0)]) ∧ RI .u8 w' v (d.out.take m) ∧ Pt X p g w' y (d.taken m) ∧ Mod (two p g) w w'
set_option maxHeartbeats 800000 in
theorem mread_any {X : Nat → Prop} {p g : Nat} {y : Py} (d : Ds) (n : Nat) (w : World) (h : Pt X p g w y d) (hu : y.hu = false) (hs : 0 < y.sl) (hst : d.st = false) (hn : 0 < n) :
    Calls Tryd.prog 7 #[.pointer (some ⟨p, 0, none⟩), .int .i64 n] w (MRPost X p g y d (min n d.out.length) w) := by
  have k8 := (ptC h.blk).k8
  rw [hu] at k8
  have HH := Lib.hid h
  have HF := Lib.hid (fun w' h => doutput_any (S := pS X p g) (g := g) d n w' h hst)
  clear h hu hst
  unfold MRPost
  obtain ⟨m, hm⟩ : ∃ m, min n d.out.length = m := ⟨_, rfl⟩
  unfold OutPost at HF
  rw [hm] at HF ⊢
  obtain ⟨l, hl⟩ : ∃ l, d.out.take m = l := ⟨_, rfl⟩
  rw [hl] at HF ⊢
  clear hm hl
  go_enter Tryd.func7, Tryd.ntmps7
  go_wp2_with fail
  refine (disc_any _ (HH.out.blk.ext (by repeat (first | with_reducible exact Ext.refl _ | refine Ext.drewN ?_ _ | refine Ext.drew ?_ | refine Ext.alloc ?_ _ | assumption | (refine Below.trans ?_ (by assumption)) | (refine Ext.trans ?_ (by assumption)) | (refine Below.trans ?_ (Below.mono (by assumption) (by omega))))))).mono ?_
  rintro e w1 ⟨rfl, E1⟩
  have E01 : Ext w w1 := (by repeat (first | with_reducible exact Ext.refl _ | refine Ext.drewN ?_ _ | refine Ext.drew ?_ | refine Ext.alloc ?_ _ | assumption | (refine Below.trans ?_ (by assumption)) | (refine Ext.trans ?_ (by assumption)) | (refine Below.trans ?_ (Below.mono (by assumption) (by omega)))))
  go_wp2_with fail
  refine (HF.out _ (HH.out.dsc.ext (by repeat (first | with_reducible exact Ext.refl _ | refine Ext.drewN ?_ _ | refine Ext.drew ?_ | refine Ext.alloc ?_ _ | assumption | (refine Below.trans ?_ (by assumption)) | (refine Ext.trans ?_ (by assumption)) | (refine Below.trans ?_ (Below.mono (by assumption) (by omega))))))).mono ?_
  rintro e w2 ⟨v2, rfl, r2, D2, M2⟩
  have HD := Lib.hid D2
  have HP := Lib.hid (two_ne HH.out.ne HH.out.blk ((Mod.of_ext E01).trans M2))
  have M02 := Lib.hid ((Mod.of_ext E01).trans M2)
  have k7 := (ptC HP.out).k7
  obtain ⟨A2, c2, rfl, -, -⟩ := r2.shape
  have R2 := Lib.hid r2
  clear D2 M2 E1 r2
  cases l with
  | nil =>
    go_wp2
    go_ret2
    exact ⟨.slice none 0 0, rfl, RdN.nil _ _, ⟨HH.out.ne, HP.out, HD.out⟩, Mod.two M02.out⟩
  | cons x t =>
    obtain ⟨N, hN⟩ : ∃ N, (x :: t).length = N := ⟨_, rfl⟩
    have h0 : 0 < N := by rw [← hN]; simp
    rw [hN] at R2 ⊢
    clear hN
    go_wp2
    go_ret2
    exact ⟨_, by simp, R2.out, ⟨HH.out.ne, HP.out, HD.out⟩, Mod.two M02.out⟩
set_option maxHeartbeats 800000 in
theorem open_any {X : Nat → Prop} {p g : Nat} {y : Py} {d : Ds} (w : World) (h : Pt X p g w y d) (hu : y.hu = false) (hs : 0 ≤ y.sl ∧ y.sl ≤ 1000000) :
    Calls Tryd.prog 14 #[.pointer (some ⟨p, 0, none⟩)] w fun e w' => e = .returned (.int .i64 0) ∧ Pt X p g w' { y with sl := y.sl + 1 } d ∧ Mod (two p g) w w' := by
  have k8 := (ptC h.blk).k8
  have k7 := (ptC h.blk).k7
  have f7 := (ptC h.blk).fr 7
  rw [hu] at k8
  have HH := Lib.hid h
  clear h hu
  have i1 : IntKind.i64.wrap (y.sl + 1) = y.sl + 1 := by rw [IntKind.wrap_i64]; omega
  go_enter Tryd.func14, Tryd.ntmps14
  go_wp2
  go_ret
  have M : Mod (fun j => j = p) w (w.setCell ⟨p, 7, none⟩ (.int .i64 (y.sl + 1))) := (Mod.refl _ _).set1 _
  refine ⟨rfl, ⟨HH.out.ne, ?_, HH.out.dsc.mod M (fun _ hk => .inl hk) HH.out.ne⟩, M.mono fun _ _ hk => .inl hk⟩
  have := HH.out.blk.set_ 7 (.int .i64 (y.sl + 1))
  simpa using this
end Go.Proofs.YtfnicinnjkbedaaDoor
