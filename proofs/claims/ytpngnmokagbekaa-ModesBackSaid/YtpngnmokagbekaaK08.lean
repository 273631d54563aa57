/- All flags of modes, one behind the other: the iterator's contract. No condition. -/
import Derived.RangeFuncNested
import Derived.RangeFuncBound
import Derived.RangeFuncCalls
import Derived.RangeFuncLeaves
import Derived.Shelf.Abstract
import Derived.Shelf.RegionOpen
import Derived.WalkKit
import Derived.OwnWalkIn
import Derived.TacticsInMore
import Derived.LoopNIn
import Derived.LoopIn
import Derived.Test.YtpngnmokagbekaaJ08
namespace Go.Proofs.Ytpngnmokagbekaa
open Go.RowKit Go.Shelf Go.Kb
attribute [local go_sem] Oper.semAt_some

/-- a flag's number -/
abbrev OpF := { x : Int // flagL x = true }
def toS (l : List Int) : List OpF := l.filterMap fun x => if h : flagL x = true then some ⟨x, h⟩ else none
theorem toS_app (a b : List Int) : toS (a ++ b) = toS a ++ toS b := by simp [toS]
theorem toS_one {x : Int} (h : flagL x = true) : toS [x] = [⟨x, h⟩] := by simp [toS, h]
/-- the flags below a number -/
def upL (o : Int) : List Int := flagsAll.filter fun x => decide (x < o)
theorem upL_succ {o : Int} (h : flagL o = true) : toS (upL (o + 1)) = toS (upL o) ++ [⟨o, h⟩] := by
  have hb := flag_bd h
  have : ∀ k : Nat, k < 64 → flagL (30 + k) = true → upL (30 + k + 1) = upL (30 + k) ++ [30 + (k : Int)] := by decide +kernel
  have h2 := this (o - 30).toNat (by omega) (by rw [show (30 : Int) + ((o - 30).toNat : Int) = o by omega]; exact h)
  rw [show (30 : Int) + ((o - 30).toNat : Int) = o by omega] at h2
  rw [h2, toS_app, toS_one h]
theorem upL_len {o : Int} (h : flagL o = true) : (toS (upL o)).length < 36 := by
  have hb := flag_bd h
  have : ∀ k : Nat, k < 64 → flagL (30 + k) = true → (upL (30 + k)).length < 36 := by decide +kernel
  have h2 := this (o - 30).toNat (by omega) (by rw [show (30 : Int) + ((o - 30).toNat : Int) = o by omega]; exact h)
  rw [show (30 : Int) + ((o - 30).toNat : Int) = o by omega] at h2
  exact Nat.lt_of_le_of_lt (List.length_filterMap_le _ _) h2
/-- what a round of the body keeps: the pairs of ints -/
def KpF (W W' : World) : Prop := W.heap.size ≤ W'.heap.size ∧ ∀ (g : Nat) (cs : Array Value) (fr : Nat × Nat), W.heap[g]? = some (.cells cs 67 fr) → W'.heap[g]? = some (.cells cs 67 fr)
theorem KpF.t {A B C : World} (h : KpF A B) (k : KpF B C) : KpF A C := ⟨Nat.le_trans h.1 k.1, fun g cs fr hg => k.2 g cs fr (h.2 g cs fr hg)⟩
theorem KpF.b (W : World) (l : Nat) (o o' : Obj) (h : W.heap[l]? = some o) (ho : o.isCells = false) : KpF W (W.putObj l o') := by
  refine ⟨by simp [World.putObj], fun g cs fr hg => ?_⟩
  by_cases e : g = l
  · subst e
    rw [hg] at h
    cases h
    simp [Obj.isCells] at ho
  · exact (World.putObj_heap_other (by omega)).trans hg
theorem KpF.blk {W W' : World} (h : KpF W W') {g : Nat} {cs : Array Value} (hb : Blk W g 67 cs) : Blk W' g 67 cs := h.2 g cs _ hb
/-- the first and the last of a group; where the next one begins -/
def loF (k : Nat) : Int := if k = 0 then 30 else if k = 1 then 50 else if k = 2 then 70 else if k = 3 then 90 else 94
def hiF (k : Nat) : Int := if k = 0 then 42 else if k = 1 then 62 else if k = 2 then 75 else 93
theorem ixF (k : Nat) (hk : k < 4) : (∀ w, (Instr.index 68 (.agg #[.int .i64 30, .int .i64 42, .int .i64 50, .int .i64 62, .int .i64 70, .int .i64 75, .int .i64 90, .int .i64 93]) (.int .i64 (k : Int))).run Try.prog w = .ok (.agg #[.int .i64 (loF k), .int .i64 (hiF k)]) w) ∧ (30 ≤ loF k ∧ loF k ≤ hiF k ∧ hiF k ≤ 93 ∧ ∀ o : Int, loF k ≤ o → o ≤ hiF k → flagL o = true) ∧ upL (hiF k + 1) = upL (loF (k + 1)) := by
  rcases k with _ | _ | _ | _ | k
  · exact ⟨fun w => by kernel_rfl, ⟨by decide, by decide, by decide, fun o h1 h2 => by simp [loF, hiF] at h1 h2; simp [flagL]; omega⟩, by decide +kernel⟩
  · exact ⟨fun w => by kernel_rfl, ⟨by decide, by decide, by decide, fun o h1 h2 => by simp [loF, hiF] at h1 h2; simp [flagL]; omega⟩, by decide +kernel⟩
  · exact ⟨fun w => by kernel_rfl, ⟨by decide, by decide, by decide, fun o h1 h2 => by simp [loF, hiF] at h1 h2; simp [flagL]; omega⟩, by decide +kernel⟩
  · exact ⟨fun w => by kernel_rfl, ⟨by decide, by decide, by decide, fun o h1 h2 => by simp [loF, hiF] at h1 h2; simp [flagL]; omega⟩, by decide +kernel⟩
  · omega
set_option maxRecDepth 100000 in
set_option maxHeartbeats 800000 in
theorem flags_in (n : Nat) (hn : 1 ≤ n) (l : Nat) (J Jx : List OpF → World → Prop) (W : World) (hJ : AbidesFrom W.heap.size J) 
    (hY : ∀ pre x W1, J pre W1 → pre.length < 36 → YieldAt Fence.wide (n - 1) Try.prog l #[.int .i64 x.1] W1 fun e W' =>
      (e = .returned (.bool true) ∧ J (pre ++ [x]) W' ∧ KpF W1 W') ∨ (e = .returned (.bool false) ∧ Jx (pre ++ [x]) W'))
    (h0 : J [] W) :
    CallsIn Fence.wide n Try.prog 38 #[.func (.yield l) #[] #[]] W fun e W' => (∃ v, e = .returned v) ∧ ((∃ xs, xs = toS flagsAll ∧ J xs W') ∨ (∃ pre, True ∧ Jx pre W')) := by
  refine callsIn_of_wp Try.func38 rfl trivial ?_ rfl
  simp only [Try.ntmps38, List.size_toArray, List.length_cons, List.length_nil, Nat.reduceAdd, Nat.reduceSub, Array.replicate_succ, Array.replicate_zero, List.push_toArray, List.append_toArray, List.nil_append, List.cons_append]
  gi_wp2_with (refine ⟨trivial, ?_⟩; gi_at_call 37; refine (callsIn_wide.2 (groups_any _)).mono ?_; rintro e w1 ⟨rfl, E1⟩)
  have J1 : J (toS (upL 30)) w1 := by
    rw [show upL 30 = [] by decide +kernel]
    exact hJ [] W w1 none h0 ⟨E1.os, E1.tape, E1.output, E1.size, fun k hk _ => E1.block k hk⟩ (fun r e => by cases e)
  have hS1 : W.heap.size ≤ w1.heap.size := E1.size
  gi_loopw [6] (fun i wr => ∃ k : Nat, k ≤ 4 ∧ i = .int .i64 k ∧ J (toS (upL (loF k))) wr ∧ W.heap.size ≤ wr.heap.size) (fun i _ => 4 - (intOf i).toNat)
  case atStart => exact ⟨0, by omega, rfl, J1, hS1⟩
  case round =>
    clear J1 hS1
    obtain ⟨k, hk, rfl, hJr, hSr⟩ := hrel
    by_cases hlt : k < 4
    · obtain ⟨hix, hg1, hg2⟩ := ixF k hlt
      have hk4 : (k : Int) < 4 := by omega
      have hst : ∀ w', J (toS (upL (hiF k + 1))) w' → J (toS (upL (loF (k + 1)))) w' := fun w' h => by rw [← hg2]; exact h
      clear hg2
      generalize hlo : loF k = lo at *
      generalize hhi : hiF k = hi at *
      clear hlo hhi
      obtain ⟨g1, g2, g3, g4⟩ := hg1
      gi_wp2
      obtain ⟨g, hg⟩ : ∃ g, wr.heap.size = g := ⟨_, rfl⟩
      rw [hg]
      gi_loopw [4] (fun i wi => ∃ o : Int, lo ≤ o ∧ o ≤ hi + 1 ∧ i = .int .i64 o ∧ J (toS (upL o)) wi ∧ Hid (Blk wi g 67 #[.int .i64 lo, .int .i64 hi]) ∧ W.heap.size ≤ wi.heap.size) (fun i _ => (100 - intOf i).toNat)
      case atStart => exact ⟨lo, by omega, by omega, rfl, hJ _ _ _ none hJr (World.grownBy_alloc wr _ none) (fun r e => by cases e), Lib.hid (Blk.at_ _ _ hg), by simp; omega⟩
      case round =>
        clear hJr hSr hg
        obtain ⟨o, ho1, ho2, rfl, hJi, hBi, hSi⟩ := hrel
        obtain ⟨bc0, bc1, bf0, bf1⟩ := hBi.out.two
        by_cases hle : o ≤ hi
        · have hfo := g4 o ho1 hle
          obtain ⟨fn, tmps, assign, body, hy, hR⟩ := hY _ ⟨o, hfo⟩ wr hJi (upL_len hfo)
          dsimp only at hy
          have h3 : IntKind.i64.wrap (o + 1) = o + 1 := IntWalk.i64_in _ (by omega)
          gi_wp2
          refine hR.mono ?_
          rintro e w3 (⟨rfl, hJ3, hk3⟩ | ⟨rfl, hJx3⟩)
          · have hB3 := Lib.hid (hk3.blk hBi.out)
            gi_wp2
            go_roundw
            case rel => exact ⟨o + 1, by omega, by omega, rfl, by rw [upL_succ hfo]; exact hJ3, hB3, Nat.le_trans hSi hk3.1⟩
            case measure => simp [intOf]; omega
          · gi_wp2
            refine bodyPost_ret (results_none rfl _ _ _) rfl ?_
            exact ⟨⟨_, rfl⟩, .inr ⟨_, trivial, hJx3⟩⟩
        · obtain rfl : o = hi + 1 := by omega
          have hJ5 := hst _ hJi
          gi_wp2
          go_roundw
          case rel => exact ⟨k + 1, by omega, by simp, hJ5, hSi⟩
          case measure => simp [intOf]; omega
    · obtain rfl : k = 4 := by omega
      gi_wp2
      go_end0
      exact ⟨⟨_, rfl⟩, .inl ⟨_, rfl, by rw [show flagsAll = upL (loF 4) by decide +kernel]; exact hJr⟩⟩
set_option maxHeartbeats 800000 in
theorem flags_any (w : World) : Calls Try.prog 34 #[] w fun e w' => e = .returned (.func (.func 38) #[] #[]) ∧ w' = w := by
  go_enter Try.func34, Try.ntmps34
  go_wp2
  go_ret
  exact ⟨rfl, rfl⟩
end Go.Proofs.Ytpngnmokagbekaa
