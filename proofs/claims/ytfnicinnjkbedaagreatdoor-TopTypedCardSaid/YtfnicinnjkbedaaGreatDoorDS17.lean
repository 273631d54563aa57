/- The memory of a line discipline: a block with its setting and all that waits, and the bytes elsewhere. No condition. -/
import Derived.Test.YtfnicinnjkbedaaGreatDoorPC17
import Derived.Test.YtfnicinnjkbedaaGreatDoorSK17
namespace Go.Proofs.YtfnicinnjkbedaaGreatDoor
open Go.RowKit Go.Kb
set_option maxRecDepth 100000

abbrev Lnr : Rep (List Int × Bool) := Rep.pair (Rep.sl Ub) Rep.bool
/-- a discipline: the setting, the line, whether the next one is taken as it is, the lines, bytes without lines, stopped, held, what goes out, the columns, idleness -/
structure Ds where
  t : Tm
  line : List Int
  nx : Bool
  ls : List (List Int × Bool)
  raw : List Int
  st : Bool
  hd : Bool
  out : List Int
  col : Int
  fr : Int
  idle : Int
structure Ds.Ok (d : Ds) : Prop where
  t : d.t.Ok
  bl : Bs d.line
  bo : Bs d.out
  line : d.line.length ≤ 1000
  out : d.out.length ≤ 4096
  col : 0 ≤ d.col ∧ d.col ≤ 65535
  fr : 0 ≤ d.fr ∧ d.fr ≤ 65535
/-- the cells behind the setting -/
abbrev dsX (d : Ds) (vl vs vr vo : Value) : List Value := [vl, .bool d.nx, vs, vr, .bool d.st, .bool d.hd, vo, .int .i64 d.col, .int .i64 d.fr, .int .i64 d.idle]
/-- what the four slices read, in blocks that are none of S -/
structure DsR (S : Nat → Prop) (w : World) (d : Ds) (vl vs vr vo : Value) : Prop where
  line : RdS Ub (fun k => ¬ S k) w vl d.line
  lines : RdS Lnr (fun k => ¬ S k) w vs d.ls
  raw : RdS Ub (fun k => ¬ S k) w vr d.raw
  out : RdS Ub (fun k => ¬ S k) w vo d.out
def DsAt (S : Nat → Prop) (g : Nat) (w : World) (d : Ds) (vl vs vr vo : Value) : Prop := Blk w g 82 (tmA d.t.arr (dsX d vl vs vr vo)) ∧ DsR S w d vl vs vr vo
/-- a discipline in block g -/
def Dsc (S : Nat → Prop) (g : Nat) (w : World) (d : Ds) : Prop := d.Ok ∧ (S g ∧ ∀ k, S k → k < w.heap.size) ∧ ∃ vl vs vr vo, DsAt S g w d vl vs vr vo
section
variable {S T : Nat → Prop} {g : Nat} {w w' : World} {d : Ds} {vl vs vr vo : Value}
theorem DsR.mod (h : DsR S w d vl vs vr vo) (M : Mod T w w') (hT : ∀ k, T k → S k) : DsR S w' d vl vs vr vo :=
  ⟨h.line.mod M fun _ _ hk ht => hk (hT _ ht), h.lines.mod M fun _ _ hk ht => hk (hT _ ht), h.raw.mod M fun _ _ hk ht => hk (hT _ ht), h.out.mod M fun _ _ hk ht => hk (hT _ ht)⟩
theorem DsR.ext (h : DsR S w d vl vs vr vo) (E : Ext w w') : DsR S w' d vl vs vr vo := h.mod (Mod.of_ext E : Mod (fun _ => False) w w') fun _ hk => hk.elim
theorem DsAt.mod (h : DsAt S g w d vl vs vr vo) (M : Mod T w w') (hT : ∀ k, T k → S k) (hg : ¬ T g) : DsAt S g w' d vl vs vr vo := ⟨h.1.mod M hg, h.2.mod M hT⟩
theorem DsAt.ext (h : DsAt S g w d vl vs vr vo) (E : Ext w w') : DsAt S g w' d vl vs vr vo := ⟨h.1.ext E, h.2.ext E⟩
theorem Dsc.mod (h : Dsc S g w d) (M : Mod T w w') (hT : ∀ k, T k → S k) (hg : ¬ T g) : Dsc S g w' d := by
  obtain ⟨h1, h2, vl, vs, vr, vo, h3⟩ := h
  exact ⟨h1, ⟨h2.1, fun k hk => Nat.lt_of_lt_of_le (h2.2 k hk) M.size⟩, vl, vs, vr, vo, h3.mod M hT hg⟩
theorem Dsc.ext (h : Dsc S g w d) (E : Ext w w') : Dsc S g w' d := by
  obtain ⟨h1, h2, vl, vs, vr, vo, h3⟩ := h
  exact ⟨h1, ⟨h2.1, fun k hk => Nat.lt_of_lt_of_le (h2.2 k hk) E.size⟩, vl, vs, vr, vo, h3.ext E⟩
theorem DsR.set_ (h : DsR S w d vl vs vr vo) (hg : S g) (o : Nat) (u : Value) : DsR S (w.setCell ⟨g, o, none⟩ u) d vl vs vr vo := h.mod (T := fun k => k = g) ((Mod.refl _ _).set1 u) fun k hk => by subst hk; exact hg
theorem rdS_set {l : List Int} {v : Value} (h : RdS Ub (fun k => ¬ S k) w v l) (hg : S g) (o : Nat) (u : Value) : RdS Ub (fun k => ¬ S k) (w.setCell ⟨g, o, none⟩ u) v l := h.mod (S := fun k => k = g) ((Mod.refl _ _).set1 u) fun k _ hk he => hk (by subst he; exact hg)
/-- bytes of the call's own lie in none of S -/
theorem own_dsr {base n : Nat} {v : Value} {l : List Int} (h : w.ownsRow base 5 1 v n (l.map (Value.int .u8))) (hl : l.length = n) (hS : ∀ k, S k → k < base) : RdS Ub (fun k => ¬ S k) w v l := by
  subst hl
  exact (OwnS.of_ints (B := fun _ => False) h).rd (fun k hk hs => by have := hS k hs; omega) (fun _ hk => hk.elim)
theorem ownS_dsr {base : Nat} {v : Value} {l : List Int} (h : OwnS Ub 5 base (fun _ => False) w v l) (hS : ∀ k, S k → k < base) : RdS Ub (fun k => ¬ S k) w v l :=
  h.rd (fun k hk hs => by have := hS k hs; omega) (fun _ hk => hk.elim)
/-- two slices of bytes side by side -/
theorem two_one {a b : List Int} : ∀ l ∈ [(a.length, a.map (Value.int .u8)), (b.length, b.map (Value.int .u8))], ∀ u ∈ l.2, u.oneCell' = true := by
  intro l hl u hu
  rcases List.mem_cons.1 hl with rfl | hl
  · obtain ⟨_, _, rfl⟩ := List.mem_map.1 hu; rfl
  · rw [List.mem_singleton.1 hl] at hu
    obtain ⟨_, _, rfl⟩ := List.mem_map.1 hu; rfl
theorem two_cat {base : Nat} {v : Value} {a b : List Int} (h : w.ownsRow base 5 1 v (tot [(a.length, a.map (Value.int .u8)), (b.length, b.map (Value.int .u8))]) (cat [(a.length, a.map (Value.int .u8)), (b.length, b.map (Value.int .u8))])) :
    w.ownsRow base 5 1 v (a ++ b).length ((a ++ b).map (Value.int .u8)) := by
  simpa [tot, cat] using h
/-- what a store behind the setting makes of the row -/
theorem tmA_set {cs : Array Value} {xs : List Value} (h : cs.size = 24) (k : Nat) (v : Value) : (tmA cs xs).setIfInBounds (24 + k) v = tmA cs (xs.set k v) := by
  apply Array.ext'
  simp [tmA, h]
theorem blk_tmset {T : TypeId} {cs : Array Value} {xs : List Value} (hB : Blk w g T (tmA cs xs)) (h : cs.size = 24) {o : Nat} (k : Nat) (ho : o = 24 + k) (v : Value) : Blk (w.setCell ⟨g, o, none⟩ v) g T (tmA cs (xs.set k v)) := by
  subst ho
  exact Blk.cast (hB.set_ _ v) (tmA_set h k v)
/-- the cells of a block that begins with a setting, behind it -/
structure TmC (w : World) (g : Nat) (c0 c1 c2 c3 c4 c5 c6 c7 c8 c9 : Value) : Prop where
  k0 : w.cell? ⟨g, 24, none⟩ = some c0
  k1 : w.cell? ⟨g, 25, none⟩ = some c1
  k2 : w.cell? ⟨g, 26, none⟩ = some c2
  k3 : w.cell? ⟨g, 27, none⟩ = some c3
  k4 : w.cell? ⟨g, 28, none⟩ = some c4
  k5 : w.cell? ⟨g, 29, none⟩ = some c5
  k6 : w.cell? ⟨g, 30, none⟩ = some c6
  k7 : w.cell? ⟨g, 31, none⟩ = some c7
  k8 : w.cell? ⟨g, 32, none⟩ = some c8
  k9 : w.cell? ⟨g, 33, none⟩ = some c9
  fr : ∀ o, w.frozen? ⟨g, o, none⟩ = false
theorem TmC.of {T : TypeId} {cs : Array Value} {c0 c1 c2 c3 c4 c5 c6 c7 c8 c9 : Value} (hB : Blk w g T (tmA cs [c0, c1, c2, c3, c4, c5, c6, c7, c8, c9])) (h : cs.size = 24) : TmC w g c0 c1 c2 c3 c4 c5 c6 c7 c8 c9 :=
  ⟨tmA_cell hB h (k := 0) rfl, tmA_cell hB h (k := 1) rfl, tmA_cell hB h (k := 2) rfl, tmA_cell hB h (k := 3) rfl, tmA_cell hB h (k := 4) rfl, tmA_cell hB h (k := 5) rfl, tmA_cell hB h (k := 6) rfl, tmA_cell hB h (k := 7) rfl, tmA_cell hB h (k := 8) rfl, tmA_cell hB h (k := 9) rfl, hB.frozen⟩
/-- a world in which only the discipline's block may have turned, and there only what lies behind the setting -/
def DsS (g : Nat) (cs : Array Value) (w w' : World) : Prop := Mod (fun k => k = g) w w' ∧ ∃ xs : List Value, xs.length = 10 ∧ Blk w' g 82 (tmA cs xs)
theorem DsS.of {cs : Array Value} {xs : List Value} (h : Blk w g 82 (tmA cs xs)) (hx : xs.length = 10) (E : Ext w w') : DsS g cs w w' := ⟨Mod.of_ext E, xs, hx, h.ext E⟩
theorem DsS.ext {cs : Array Value} {w2 : World} (h : DsS g cs w w') (E : Ext w' w2) : DsS g cs w w2 := by
  obtain ⟨M, xs, hx, hB⟩ := h
  exact ⟨M.ext E, xs, hx, hB.ext E⟩
theorem DsS.set_ {cs : Array Value} (h : DsS g cs w w') (hn : cs.size = 24) {o : Nat} (k : Nat) (ho : o = 24 + k) (v : Value) : DsS g cs w (w'.setCell ⟨g, o, none⟩ v) := by
  obtain ⟨M, xs, hx, hB⟩ := h
  exact ⟨M.set1 _, xs.set k v, by rw [List.length_set]; exact hx, blk_tmset hB hn k ho v⟩
theorem DsS.mid {cs : Array Value} (h : DsS g cs w w') : w'.rangeAt g 0 cs.toList := by
  obtain ⟨_, xs, _, hB⟩ := h
  exact tmA_mid hB
theorem DsS.cells {cs : Array Value} (h : DsS g cs w w') (hn : cs.size = 24) : ∃ c0 c1 c2 c3 c4 c5 c6 c7 c8 c9, TmC w' g c0 c1 c2 c3 c4 c5 c6 c7 c8 c9 := by
  obtain ⟨_, xs, hx, hB⟩ := h
  match xs, hx with
  | [c0, c1, c2, c3, c4, c5, c6, c7, c8, c9], _ => exact ⟨_, _, _, _, _, _, _, _, _, _, TmC.of hB hn⟩
end
end Go.Proofs.YtfnicinnjkbedaaGreatDoor
