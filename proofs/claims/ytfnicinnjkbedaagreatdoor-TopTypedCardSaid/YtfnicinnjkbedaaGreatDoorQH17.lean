/- A line discipline's way of a character, by contract. Conditions: the discipline is one; the character is the one that kills, or none that means something. -/
import Derived.Test.YtfnicinnjkbedaaGreatDoorQG17
namespace Go.Proofs.YtfnicinnjkbedaaGreatDoor
open Go.RowKit Go.Kb
set_option maxRecDepth 100000

def fitL (t : Tm) (c : Int) (x : Wy) : Bool := isL t x.op c && (!x.ex || hasL t 59)
theorem enters_way1 (args : Array Value) (w : World) : (callFunc 93 args).run Tryz.prog w = .ok (.enter 93 args) w := by kernel_rfl
set_option maxHeartbeats 800000 in
theorem way1_any {S : Nat → Prop} {g b2 b3 : Nat} (d : Ds) (c : Int) (x : Wy) (w : World) (h : Dsc S g w d) (h2 : Blk w b2 65 #[.pointer (some ⟨g, 0, none⟩)]) (h3 : Blk w b3 5 #[.int .u8 c]) :
    Calls Tryz.prog 93 #[.agg (wyA g x), .pointer (some ⟨b2, 0, none⟩), .pointer (some ⟨b3, 0, none⟩)] w fun e w' => e = .returned (.bool (fitL d.t c x)) ∧ Ext w w' := by
  obtain ⟨op, ex, fn⟩ := x
  have HD := Lib.hid h
  have HI := Lib.hid (fun w' h => dis_any (S := S) (g := g) d op c w' h)
  have HH := Lib.hid (fun w' h => dhas_any (S := S) (g := g) d 59 w' h)
  have q2 := (h2.alloc (.cells (wyA g ⟨op, ex, fn⟩) 150)).cell0
  have q3 := (h3.alloc (.cells (wyA g ⟨op, ex, fn⟩) 150)).cell0
  have b1 := Lib.hid (Blk.new w 150 (wyA g ⟨op, ex, fn⟩))
  show Calls _ _ _ _ fun e w' => e = .returned (.bool (isL d.t op c && (!ex || hasL d.t 59))) ∧ Ext w w'
  clear h h2 h3
  obtain ⟨r1, hr1⟩ : ∃ r, isL d.t op c = r := ⟨_, rfl⟩
  obtain ⟨r2, hr2⟩ : ∃ r, hasL d.t 59 = r := ⟨_, rfl⟩
  rw [hr1] at HI ⊢
  rw [hr2] at HH ⊢
  clear hr1 hr2
  go_enter Tryz.func93, Tryz.ntmps93
  go_wp2_with fail
  refine (HI.out _ (HD.out.ext (by repeat (first | with_reducible exact Ext.refl _ | refine Ext.drewN ?_ _ | refine Ext.drew ?_ | refine Ext.alloc ?_ _ | assumption | (refine Below.trans ?_ (by assumption)) | (refine Ext.trans ?_ (by assumption)) | (refine Below.trans ?_ (Below.mono (by assumption) (by omega))))))).mono ?_
  rintro e w1 ⟨rfl, E1⟩
  have b11 : w1.cell? ⟨w.heap.size, 1, none⟩ = some (.bool ex) := by
    have := (b1.out.ext E1).cell 1
    simpa using this
  have q2 := cell_ext E1 q2
  have E01 : Ext w w1 := (by repeat (first | with_reducible exact Ext.refl _ | refine Ext.drewN ?_ _ | refine Ext.drew ?_ | refine Ext.alloc ?_ _ | assumption | (refine Below.trans ?_ (by assumption)) | (refine Ext.trans ?_ (by assumption)) | (refine Below.trans ?_ (Below.mono (by assumption) (by omega)))))
  cases r1 with
  | false =>
    go_wp2
    go_ret
    exact ⟨rfl, (by repeat (first | with_reducible exact Ext.refl _ | refine Ext.drewN ?_ _ | refine Ext.drew ?_ | refine Ext.alloc ?_ _ | assumption | (refine Below.trans ?_ (by assumption)) | (refine Ext.trans ?_ (by assumption)) | (refine Below.trans ?_ (Below.mono (by assumption) (by omega)))))⟩
  | true =>
    cases ex with
    | false =>
      go_wp2
      go_ret
      exact ⟨rfl, (by repeat (first | with_reducible exact Ext.refl _ | refine Ext.drewN ?_ _ | refine Ext.drew ?_ | refine Ext.alloc ?_ _ | assumption | (refine Below.trans ?_ (by assumption)) | (refine Ext.trans ?_ (by assumption)) | (refine Below.trans ?_ (Below.mono (by assumption) (by omega)))))⟩
    | true =>
      go_wp2_with fail
      refine (HH.out _ (HD.out.ext (by repeat (first | with_reducible exact Ext.refl _ | refine Ext.drewN ?_ _ | refine Ext.drew ?_ | refine Ext.alloc ?_ _ | assumption | (refine Below.trans ?_ (by assumption)) | (refine Ext.trans ?_ (by assumption)) | (refine Below.trans ?_ (Below.mono (by assumption) (by omega))))))).mono ?_
      rintro e w2 ⟨rfl, E2⟩
      go_wp2
      go_ret
      exact ⟨rfl, (by repeat (first | with_reducible exact Ext.refl _ | refine Ext.drewN ?_ _ | refine Ext.drew ?_ | refine Ext.alloc ?_ _ | assumption | (refine Below.trans ?_ (by assumption)) | (refine Ext.trans ?_ (by assumption)) | (refine Below.trans ?_ (Below.mono (by assumption) (by omega)))))⟩
theorem asks_way {S : Nat → Prop} {g b2 b3 : Nat} {d : Ds} {c : Int} {w : World} (h : Dsc S g w d) (h2 : Blk w b2 65 #[.pointer (some ⟨g, 0, none⟩)]) (h3 : Blk w b3 5 #[.int .u8 c]) :
    AsksY g 93 #[] #[.pointer (some ⟨b2, 0, none⟩), .pointer (some ⟨b3, 0, none⟩)] (fitL d.t c) w :=
  ⟨enters_way1, fun x w' hE => way1_any d c x w' (h.ext hE) (h2.ext hE) (h3.ext hE)⟩
def ways6 : List Wy := [⟨14, true, 117⟩, ⟨3, false, 118⟩, ⟨13, true, 119⟩, ⟨4, false, 120⟩, ⟨12, true, 121⟩, ⟨5, false, 122⟩]
def ends2 : List Wy := [⟨6, false, 99⟩, ⟨7, true, 99⟩]
theorem wy_lit {g : Nat} {w : World} : ∀ l : List Wy, RdE (Rwy g) (fun _ => False) w (l.flatMap fun x => [.int .i64 x.op, .bool x.ex, wyV g x.fn]) l
  | [] => RdE.nil _ _ _
  | x :: t => RdE.append (ds := [x]) (RdE.single (show (Rwy g).rel (fun _ => False) w [.int .i64 x.op, .bool x.ex, wyV g x.fn] x from rfl)) (wy_lit t)
theorem hmf (fn : Fn) (first cap : Array Value) (w : World) : (Instr.makeFunc fn first cap).run Tryz.prog w = .ok (.func fn first cap) w := rfl
set_option maxHeartbeats 800000 in
theorem ways_any (g : Nat) (w : World) : Calls Tryz.prog 94 #[.pointer (some ⟨g, 0, none⟩)] w fun e w' => ∃ B, e = .returned (.slice (some ⟨B, 0, none⟩) 6 6) ∧ OwnS (Rwy g) 150 w.heap.size (fun _ => False) w' (.slice (some ⟨B, 0, none⟩) 6 6) ways6 ∧ Ext w w' := by
  have hm := hmf
  go_enter Tryz.func94, Tryz.ntmps94
  go_wp2
  go_ret
  exact ⟨_, rfl, OwnS.litB (wy_lit ways6) (Blk.at_ _ _ (by simp)) (fun _ _ h => h.elim) (by simp) rfl (by simp), (by repeat (first | with_reducible exact Ext.refl _ | refine Ext.drewN ?_ _ | refine Ext.drew ?_ | refine Ext.alloc ?_ _ | assumption | (refine Below.trans ?_ (by assumption)) | (refine Ext.trans ?_ (by assumption)) | (refine Below.trans ?_ (Below.mono (by assumption) (by omega)))))⟩
set_option maxHeartbeats 800000 in
theorem ends_any (g : Nat) (w : World) : Calls Tryz.prog 98 #[.pointer (some ⟨g, 0, none⟩)] w fun e w' => ∃ B, e = .returned (.slice (some ⟨B, 0, none⟩) 2 2) ∧ OwnS (Rwy g) 150 w.heap.size (fun _ => False) w' (.slice (some ⟨B, 0, none⟩) 2 2) ends2 ∧ Ext w w' := by
  have hm := hmf
  go_enter Tryz.func98, Tryz.ntmps98
  go_wp2
  go_ret
  exact ⟨_, rfl, OwnS.litB (wy_lit ends2) (Blk.at_ _ _ (by simp)) (fun _ _ h => h.elim) (by simp) rfl (by simp), (by repeat (first | with_reducible exact Ext.refl _ | refine Ext.drewN ?_ _ | refine Ext.drew ?_ | refine Ext.alloc ?_ _ | assumption | (refine Below.trans ?_ (by assumption)) | (refine Ext.trans ?_ (by assumption)) | (refine Below.trans ?_ (Below.mono (by assumption) (by omega)))))⟩
end Go.Proofs.YtfnicinnjkbedaaGreatDoor
