/- request.rules by contract: the rules of all kinds; a kind's rule. No condition. -/
import Derived.Test.YtldijmappinngaaGreatDoorPI04
namespace Go.Proofs.YtldijmappinngaaGreatDoor
open Go.RowKit Go.Kb
set_option maxRecDepth 100000

/-- the names of requests, by their kinds -/
def nmQ : Nat → ByteArray
  | 1 => ⟨#[112, 116, 121, 45, 114, 101, 113]⟩
  | 2 => ⟨#[101, 110, 118]⟩
  | 3 => ⟨#[115, 104, 101, 108, 108]⟩
  | 4 => ⟨#[101, 120, 101, 99]⟩
  | 5 => ⟨#[115, 117, 98, 115, 121, 115, 116, 101, 109]⟩
  | 6 => ⟨#[119, 105, 110, 100, 111, 119, 45, 99, 104, 97, 110, 103, 101]⟩
  | 7 => ⟨#[120, 111, 110, 45, 120, 111, 102, 102]⟩
  | 8 => ⟨#[115, 105, 103, 110, 97, 108]⟩
  | 9 => ⟨#[101, 120, 105, 116, 45, 115, 116, 97, 116, 117, 115]⟩
  | 10 => ⟨#[101, 120, 105, 116, 45, 115, 105, 103, 110, 97, 108]⟩
  | _ => ⟨#[]⟩
/-- the kinds of their fields -/
def kindsQ : Nat → List Int
  | 1 => [4, 3, 3, 3, 3, 4]
  | 2 => [4, 4]
  | 4 => [4]
  | 5 => [4]
  | 6 => [3, 3, 3, 3]
  | 7 => [2]
  | 8 => [4]
  | 9 => [3]
  | 10 => [4, 2, 4, 4]
  | _ => []
def gQ : Nat → Nat
  | 1 => 44
  | 2 => 47
  | 3 => 50
  | 4 => 53
  | 5 => 53
  | 6 => 57
  | 7 => 59
  | 8 => 53
  | 9 => 61
  | 10 => 63
  | _ => 0
def pQ : Nat → Nat
  | 1 => 45
  | 2 => 48
  | 3 => 51
  | 4 => 54
  | 5 => 54
  | 6 => 58
  | 7 => 60
  | 8 => 54
  | 9 => 62
  | 10 => 64
  | _ => 0
def aQ : Nat → Nat
  | 1 => 46
  | 2 => 49
  | 3 => 52
  | 4 => 55
  | 5 => 56
  | 6 => 52
  | 7 => 52
  | 8 => 56
  | 9 => 52
  | 10 => 65
  | _ => 0
/-- where the kinds lie -/
def kvQ (n : Nat) : Nat → Value
  | 1 => .slice (some ⟨n + 1, 0, none⟩) 6 6
  | 2 => .slice (some ⟨n + 1 + 1, 0, none⟩) 2 2
  | 4 => .slice (some ⟨n + 1 + 1 + 1, 0, none⟩) 1 1
  | 5 => .slice (some ⟨n + 1 + 1 + 1 + 1, 0, none⟩) 1 1
  | 6 => .slice (some ⟨n + 1 + 1 + 1 + 1 + 1, 0, none⟩) 4 4
  | 7 => .slice (some ⟨n + 1 + 1 + 1 + 1 + 1 + 1, 0, none⟩) 1 1
  | 8 => .slice (some ⟨n + 1 + 1 + 1 + 1 + 1 + 1 + 1, 0, none⟩) 1 1
  | 9 => .slice (some ⟨n + 1 + 1 + 1 + 1 + 1 + 1 + 1 + 1, 0, none⟩) 1 1
  | 10 => .slice (some ⟨n + 1 + 1 + 1 + 1 + 1 + 1 + 1 + 1 + 1, 0, none⟩) 4 4
  | _ => .slice none 0 0
/-- a rule's cells -/
def ruleL (n : Nat) : Nat → List Value
  | 0 => [.string ⟨#[]⟩, .slice none 0 0, .nilFunc, .nilFunc, .nilFunc]
  | 1 => [.string ⟨#[112, 116, 121, 45, 114, 101, 113]⟩, .slice (some ⟨n + 1, 0, none⟩) 6 6, .func (.func 44) #[] #[], .func (.func 45) #[] #[], .func (.func 46) #[] #[]]
  | 2 => [.string ⟨#[101, 110, 118]⟩, .slice (some ⟨n + 1 + 1, 0, none⟩) 2 2, .func (.func 47) #[] #[], .func (.func 48) #[] #[], .func (.func 49) #[] #[]]
  | 3 => [.string ⟨#[115, 104, 101, 108, 108]⟩, .slice none 0 0, .func (.func 50) #[] #[], .func (.func 51) #[] #[], .func (.func 52) #[] #[]]
  | 4 => [.string ⟨#[101, 120, 101, 99]⟩, .slice (some ⟨n + 1 + 1 + 1, 0, none⟩) 1 1, .func (.func 53) #[] #[], .func (.func 54) #[] #[], .func (.func 55) #[] #[]]
  | 5 => [.string ⟨#[115, 117, 98, 115, 121, 115, 116, 101, 109]⟩, .slice (some ⟨n + 1 + 1 + 1 + 1, 0, none⟩) 1 1, .func (.func 53) #[] #[], .func (.func 54) #[] #[], .func (.func 56) #[] #[]]
  | 6 => [.string ⟨#[119, 105, 110, 100, 111, 119, 45, 99, 104, 97, 110, 103, 101]⟩, .slice (some ⟨n + 1 + 1 + 1 + 1 + 1, 0, none⟩) 4 4, .func (.func 57) #[] #[], .func (.func 58) #[] #[], .func (.func 52) #[] #[]]
  | 7 => [.string ⟨#[120, 111, 110, 45, 120, 111, 102, 102]⟩, .slice (some ⟨n + 1 + 1 + 1 + 1 + 1 + 1, 0, none⟩) 1 1, .func (.func 59) #[] #[], .func (.func 60) #[] #[], .func (.func 52) #[] #[]]
  | 8 => [.string ⟨#[115, 105, 103, 110, 97, 108]⟩, .slice (some ⟨n + 1 + 1 + 1 + 1 + 1 + 1 + 1, 0, none⟩) 1 1, .func (.func 53) #[] #[], .func (.func 54) #[] #[], .func (.func 56) #[] #[]]
  | 9 => [.string ⟨#[101, 120, 105, 116, 45, 115, 116, 97, 116, 117, 115]⟩, .slice (some ⟨n + 1 + 1 + 1 + 1 + 1 + 1 + 1 + 1, 0, none⟩) 1 1, .func (.func 61) #[] #[], .func (.func 62) #[] #[], .func (.func 52) #[] #[]]
  | 10 => [.string ⟨#[101, 120, 105, 116, 45, 115, 105, 103, 110, 97, 108]⟩, .slice (some ⟨n + 1 + 1 + 1 + 1 + 1 + 1 + 1 + 1 + 1, 0, none⟩) 4 4, .func (.func 63) #[] #[], .func (.func 64) #[] #[], .func (.func 65) #[] #[]]
  | _ => []
def rulesA (n : Nat) : Array Value := (ruleL n 0 ++ ruleL n 1 ++ ruleL n 2 ++ ruleL n 3 ++ ruleL n 4 ++ ruleL n 5 ++ ruleL n 6 ++ ruleL n 7 ++ ruleL n 8 ++ ruleL n 9 ++ ruleL n 10).toArray
/-- what rules answers -/
def RulP (w : World) (e : Ending) (w' : World) : Prop := e = .returned (.agg (rulesA w.heap.size)) ∧ Ext w w' ∧ ∀ i, i ≤ 10 → RI .i64 w' (kvQ w.heap.size i) (kindsQ i)
theorem hold_build {P : Program} {ops : Array Oper} {rest : List Oper} {o : Oper} {a : Act} {w : World} {Q : Exit → Act → World → Prop} (_ : o.guard = none) (t : TypeId) (parts : Array (Nat × Operand)) (_ : o.op = .build t parts) (h : ∀ Z : Prop, Z = wpList P ops Q (o :: rest) a w → Z) : wpList P ops Q (o :: rest) a w := h _ rfl
set_option maxHeartbeats 4000000 in
theorem rules_any (w : World) : Calls Tryz.prog 29 #[] w (RulP w) := by
  have hiR : (Tryz.prog.info? 93).map (·.size) = some 55 := by kernel_rfl
  obtain ⟨W9, hW9⟩ : ∃ W9, W9 = (((((((((w.alloc (.cells #[.string ⟨#[]⟩, .slice none 0 0, .nilFunc, .nilFunc, .nilFunc, .string ⟨#[]⟩, .slice none 0 0, .nilFunc, .nilFunc, .nilFunc, .string ⟨#[]⟩, .slice none 0 0, .nilFunc, .nilFunc, .nilFunc, .string ⟨#[]⟩, .slice none 0 0, .nilFunc, .nilFunc, .nilFunc, .string ⟨#[]⟩, .slice none 0 0, .nilFunc, .nilFunc, .nilFunc, .string ⟨#[]⟩, .slice none 0 0, .nilFunc, .nilFunc, .nilFunc, .string ⟨#[]⟩, .slice none 0 0, .nilFunc, .nilFunc, .nilFunc, .string ⟨#[]⟩, .slice none 0 0, .nilFunc, .nilFunc, .nilFunc, .string ⟨#[]⟩, .slice none 0 0, .nilFunc, .nilFunc, .nilFunc, .string ⟨#[]⟩, .slice none 0 0, .nilFunc, .nilFunc, .nilFunc, .string ⟨#[]⟩, .slice none 0 0, .nilFunc, .nilFunc, .nilFunc] 93)).alloc (.cells #[.int .i64 4, .int .i64 3, .int .i64 3, .int .i64 3, .int .i64 3, .int .i64 4] 3)).alloc (.cells #[.int .i64 4, .int .i64 4] 3)).alloc (.cells #[.int .i64 4] 3)).alloc (.cells #[.int .i64 4] 3)).alloc (.cells #[.int .i64 3, .int .i64 3, .int .i64 3, .int .i64 3] 3)).alloc (.cells #[.int .i64 2] 3)).alloc (.cells #[.int .i64 4] 3)).alloc (.cells #[.int .i64 3] 3)).alloc (.cells #[.int .i64 4, .int .i64 2, .int .i64 4, .int .i64 4] 3) := ⟨_, rfl⟩
  have E9 : Ext w W9 := by rw [hW9]; exact (by repeat (first | with_reducible exact Ext.refl _ | refine Ext.drewN ?_ _ | refine Ext.drew ?_ | refine Ext.alloc ?_ _ | assumption | (refine Below.trans ?_ (by assumption)) | (refine Ext.trans ?_ (by assumption)) | (refine Below.trans ?_ (Below.mono (by assumption) (by omega)))))
  have B9 := Lib.hid (show Blk W9 w.heap.size 93 #[.string ⟨#[]⟩, .slice none 0 0, .nilFunc, .nilFunc, .nilFunc, .string ⟨#[]⟩, .slice none 0 0, .nilFunc, .nilFunc, .nilFunc, .string ⟨#[]⟩, .slice none 0 0, .nilFunc, .nilFunc, .nilFunc, .string ⟨#[]⟩, .slice none 0 0, .nilFunc, .nilFunc, .nilFunc, .string ⟨#[]⟩, .slice none 0 0, .nilFunc, .nilFunc, .nilFunc, .string ⟨#[]⟩, .slice none 0 0, .nilFunc, .nilFunc, .nilFunc, .string ⟨#[]⟩, .slice none 0 0, .nilFunc, .nilFunc, .nilFunc, .string ⟨#[]⟩, .slice none 0 0, .nilFunc, .nilFunc, .nilFunc, .string ⟨#[]⟩, .slice none 0 0, .nilFunc, .nilFunc, .nilFunc, .string ⟨#[]⟩, .slice none 0 0, .nilFunc, .nilFunc, .nilFunc, .string ⟨#[]⟩, .slice none 0 0, .nilFunc, .nilFunc, .nilFunc] by rw [hW9]; exact (by repeat (first | ((with_reducible refine Blk.at_ _ _ ?_); simp; done) | with_reducible refine Blk.drew ?_ | with_reducible refine Blk.alloc ?_ _ | refine Blk.ext ?_ (by assumption))))
  obtain ⟨n, hn⟩ : ∃ n, w.heap.size = n := ⟨_, rfl⟩
  have R1 := Lib.hid (show RI .i64 W9 (.slice (some ⟨w.heap.size + 1, 0, none⟩) 6 6) [4, 3, 3, 3, 3, 4] from blk_ri (ks := [4, 3, 3, 3, 3, 4]) (show Blk W9 _ 3 #[.int .i64 4, .int .i64 3, .int .i64 3, .int .i64 3, .int .i64 3, .int .i64 4] by rw [hW9]; exact (by repeat (first | ((with_reducible refine Blk.at_ _ _ ?_); simp; done) | with_reducible refine Blk.drew ?_ | with_reducible refine Blk.alloc ?_ _ | refine Blk.ext ?_ (by assumption)))) (by simp))
  have R2 := Lib.hid (show RI .i64 W9 (.slice (some ⟨w.heap.size + 1 + 1, 0, none⟩) 2 2) [4, 4] from blk_ri (ks := [4, 4]) (show Blk W9 _ 3 #[.int .i64 4, .int .i64 4] by rw [hW9]; exact (by repeat (first | ((with_reducible refine Blk.at_ _ _ ?_); simp; done) | with_reducible refine Blk.drew ?_ | with_reducible refine Blk.alloc ?_ _ | refine Blk.ext ?_ (by assumption)))) (by simp))
  have R4 := Lib.hid (show RI .i64 W9 (.slice (some ⟨w.heap.size + 1 + 1 + 1, 0, none⟩) 1 1) [4] from blk_ri (ks := [4]) (show Blk W9 _ 3 #[.int .i64 4] by rw [hW9]; exact (by repeat (first | ((with_reducible refine Blk.at_ _ _ ?_); simp; done) | with_reducible refine Blk.drew ?_ | with_reducible refine Blk.alloc ?_ _ | refine Blk.ext ?_ (by assumption)))) (by simp))
  have R5 := Lib.hid (show RI .i64 W9 (.slice (some ⟨w.heap.size + 1 + 1 + 1 + 1, 0, none⟩) 1 1) [4] from blk_ri (ks := [4]) (show Blk W9 _ 3 #[.int .i64 4] by rw [hW9]; exact (by repeat (first | ((with_reducible refine Blk.at_ _ _ ?_); simp; done) | with_reducible refine Blk.drew ?_ | with_reducible refine Blk.alloc ?_ _ | refine Blk.ext ?_ (by assumption)))) (by simp))
  have R6 := Lib.hid (show RI .i64 W9 (.slice (some ⟨w.heap.size + 1 + 1 + 1 + 1 + 1, 0, none⟩) 4 4) [3, 3, 3, 3] from blk_ri (ks := [3, 3, 3, 3]) (show Blk W9 _ 3 #[.int .i64 3, .int .i64 3, .int .i64 3, .int .i64 3] by rw [hW9]; exact (by repeat (first | ((with_reducible refine Blk.at_ _ _ ?_); simp; done) | with_reducible refine Blk.drew ?_ | with_reducible refine Blk.alloc ?_ _ | refine Blk.ext ?_ (by assumption)))) (by simp))
  have R7 := Lib.hid (show RI .i64 W9 (.slice (some ⟨w.heap.size + 1 + 1 + 1 + 1 + 1 + 1, 0, none⟩) 1 1) [2] from blk_ri (ks := [2]) (show Blk W9 _ 3 #[.int .i64 2] by rw [hW9]; exact (by repeat (first | ((with_reducible refine Blk.at_ _ _ ?_); simp; done) | with_reducible refine Blk.drew ?_ | with_reducible refine Blk.alloc ?_ _ | refine Blk.ext ?_ (by assumption)))) (by simp))
  have R8 := Lib.hid (show RI .i64 W9 (.slice (some ⟨w.heap.size + 1 + 1 + 1 + 1 + 1 + 1 + 1, 0, none⟩) 1 1) [4] from blk_ri (ks := [4]) (show Blk W9 _ 3 #[.int .i64 4] by rw [hW9]; exact (by repeat (first | ((with_reducible refine Blk.at_ _ _ ?_); simp; done) | with_reducible refine Blk.drew ?_ | with_reducible refine Blk.alloc ?_ _ | refine Blk.ext ?_ (by assumption)))) (by simp))
  have R9 := Lib.hid (show RI .i64 W9 (.slice (some ⟨w.heap.size + 1 + 1 + 1 + 1 + 1 + 1 + 1 + 1, 0, none⟩) 1 1) [3] from blk_ri (ks := [3]) (show Blk W9 _ 3 #[.int .i64 3] by rw [hW9]; exact (by repeat (first | ((with_reducible refine Blk.at_ _ _ ?_); simp; done) | with_reducible refine Blk.drew ?_ | with_reducible refine Blk.alloc ?_ _ | refine Blk.ext ?_ (by assumption)))) (by simp))
  have R10 := Lib.hid (show RI .i64 W9 (.slice (some ⟨w.heap.size + 1 + 1 + 1 + 1 + 1 + 1 + 1 + 1 + 1, 0, none⟩) 4 4) [4, 2, 4, 4] from blk_ri (ks := [4, 2, 4, 4]) (show Blk W9 _ 3 #[.int .i64 4, .int .i64 2, .int .i64 4, .int .i64 4] by rw [hW9]; exact (by repeat (first | ((with_reducible refine Blk.at_ _ _ ?_); simp; done) | with_reducible refine Blk.drew ?_ | with_reducible refine Blk.alloc ?_ _ | refine Blk.ext ?_ (by assumption)))) (by simp))
  have HW9 := Lib.hid hW9
  clear hW9 hn
  go_enter Tryz.func29, Tryz.ntmps29
  have hb : Tryz.prog.built 93 [(1, .agg #[.string ⟨#[112, 116, 121, 45, 114, 101, 113]⟩, .slice (some ⟨w.heap.size + 1, 0, none⟩) 6 6, .func (.func 44) #[] #[], .func (.func 45) #[] #[], .func (.func 46) #[] #[]]), (2, .agg #[.string ⟨#[101, 110, 118]⟩, .slice (some ⟨w.heap.size + 1 + 1, 0, none⟩) 2 2, .func (.func 47) #[] #[], .func (.func 48) #[] #[], .func (.func 49) #[] #[]]), (3, .agg #[.string ⟨#[115, 104, 101, 108, 108]⟩, .slice none 0 0, .func (.func 50) #[] #[], .func (.func 51) #[] #[], .func (.func 52) #[] #[]]), (4, .agg #[.string ⟨#[101, 120, 101, 99]⟩, .slice (some ⟨w.heap.size + 1 + 1 + 1, 0, none⟩) 1 1, .func (.func 53) #[] #[], .func (.func 54) #[] #[], .func (.func 55) #[] #[]]), (5, .agg #[.string ⟨#[115, 117, 98, 115, 121, 115, 116, 101, 109]⟩, .slice (some ⟨w.heap.size + 1 + 1 + 1 + 1, 0, none⟩) 1 1, .func (.func 53) #[] #[], .func (.func 54) #[] #[], .func (.func 56) #[] #[]]), (6, .agg #[.string ⟨#[119, 105, 110, 100, 111, 119, 45, 99, 104, 97, 110, 103, 101]⟩, .slice (some ⟨w.heap.size + 1 + 1 + 1 + 1 + 1, 0, none⟩) 4 4, .func (.func 57) #[] #[], .func (.func 58) #[] #[], .func (.func 52) #[] #[]]), (7, .agg #[.string ⟨#[120, 111, 110, 45, 120, 111, 102, 102]⟩, .slice (some ⟨w.heap.size + 1 + 1 + 1 + 1 + 1 + 1, 0, none⟩) 1 1, .func (.func 59) #[] #[], .func (.func 60) #[] #[], .func (.func 52) #[] #[]]), (8, .agg #[.string ⟨#[115, 105, 103, 110, 97, 108]⟩, .slice (some ⟨w.heap.size + 1 + 1 + 1 + 1 + 1 + 1 + 1, 0, none⟩) 1 1, .func (.func 53) #[] #[], .func (.func 54) #[] #[], .func (.func 56) #[] #[]]), (9, .agg #[.string ⟨#[101, 120, 105, 116, 45, 115, 116, 97, 116, 117, 115]⟩, .slice (some ⟨w.heap.size + 1 + 1 + 1 + 1 + 1 + 1 + 1 + 1, 0, none⟩) 1 1, .func (.func 61) #[] #[], .func (.func 62) #[] #[], .func (.func 52) #[] #[]]), (10, .agg #[.string ⟨#[101, 120, 105, 116, 45, 115, 105, 103, 110, 97, 108]⟩, .slice (some ⟨w.heap.size + 1 + 1 + 1 + 1 + 1 + 1 + 1 + 1 + 1, 0, none⟩) 4 4, .func (.func 63) #[] #[], .func (.func 64) #[] #[], .func (.func 65) #[] #[]])] = some #[.string ⟨#[]⟩, .slice none 0 0, .nilFunc, .nilFunc, .nilFunc, .string ⟨#[112, 116, 121, 45, 114, 101, 113]⟩, .slice (some ⟨w.heap.size + 1, 0, none⟩) 6 6, .func (.func 44) #[] #[], .func (.func 45) #[] #[], .func (.func 46) #[] #[], .string ⟨#[101, 110, 118]⟩, .slice (some ⟨w.heap.size + 1 + 1, 0, none⟩) 2 2, .func (.func 47) #[] #[], .func (.func 48) #[] #[], .func (.func 49) #[] #[], .string ⟨#[115, 104, 101, 108, 108]⟩, .slice none 0 0, .func (.func 50) #[] #[], .func (.func 51) #[] #[], .func (.func 52) #[] #[], .string ⟨#[101, 120, 101, 99]⟩, .slice (some ⟨w.heap.size + 1 + 1 + 1, 0, none⟩) 1 1, .func (.func 53) #[] #[], .func (.func 54) #[] #[], .func (.func 55) #[] #[], .string ⟨#[115, 117, 98, 115, 121, 115, 116, 101, 109]⟩, .slice (some ⟨w.heap.size + 1 + 1 + 1 + 1, 0, none⟩) 1 1, .func (.func 53) #[] #[], .func (.func 54) #[] #[], .func (.func 56) #[] #[], .string ⟨#[119, 105, 110, 100, 111, 119, 45, 99, 104, 97, 110, 103, 101]⟩, .slice (some ⟨w.heap.size + 1 + 1 + 1 + 1 + 1, 0, none⟩) 4 4, .func (.func 57) #[] #[], .func (.func 58) #[] #[], .func (.func 52) #[] #[], .string ⟨#[120, 111, 110, 45, 120, 111, 102, 102]⟩, .slice (some ⟨w.heap.size + 1 + 1 + 1 + 1 + 1 + 1, 0, none⟩) 1 1, .func (.func 59) #[] #[], .func (.func 60) #[] #[], .func (.func 52) #[] #[], .string ⟨#[115, 105, 103, 110, 97, 108]⟩, .slice (some ⟨w.heap.size + 1 + 1 + 1 + 1 + 1 + 1 + 1, 0, none⟩) 1 1, .func (.func 53) #[] #[], .func (.func 54) #[] #[], .func (.func 56) #[] #[], .string ⟨#[101, 120, 105, 116, 45, 115, 116, 97, 116, 117, 115]⟩, .slice (some ⟨w.heap.size + 1 + 1 + 1 + 1 + 1 + 1 + 1 + 1, 0, none⟩) 1 1, .func (.func 61) #[] #[], .func (.func 62) #[] #[], .func (.func 52) #[] #[], .string ⟨#[101, 120, 105, 116, 45, 115, 105, 103, 110, 97, 108]⟩, .slice (some ⟨w.heap.size + 1 + 1 + 1 + 1 + 1 + 1 + 1 + 1 + 1, 0, none⟩) 4 4, .func (.func 63) #[] #[], .func (.func 64) #[] #[], .func (.func 65) #[] #[]] := by kernel_rfl
  go_wp2_with (refine hold_build rfl 93 _ rfl ?_; intro Z hZ; have HZ := Lib.hid hZ; clear hZ)
  rw [HZ.out]; clear HZ Z
  refine wpList_build_eq rfl 93 _ rfl (L := #[.string ⟨#[]⟩, .slice none 0 0, .nilFunc, .nilFunc, .nilFunc, .string ⟨#[112, 116, 121, 45, 114, 101, 113]⟩, .slice (some ⟨w.heap.size + 1, 0, none⟩) 6 6, .func (.func 44) #[] #[], .func (.func 45) #[] #[], .func (.func 46) #[] #[], .string ⟨#[101, 110, 118]⟩, .slice (some ⟨w.heap.size + 1 + 1, 0, none⟩) 2 2, .func (.func 47) #[] #[], .func (.func 48) #[] #[], .func (.func 49) #[] #[], .string ⟨#[115, 104, 101, 108, 108]⟩, .slice none 0 0, .func (.func 50) #[] #[], .func (.func 51) #[] #[], .func (.func 52) #[] #[], .string ⟨#[101, 120, 101, 99]⟩, .slice (some ⟨w.heap.size + 1 + 1 + 1, 0, none⟩) 1 1, .func (.func 53) #[] #[], .func (.func 54) #[] #[], .func (.func 55) #[] #[], .string ⟨#[115, 117, 98, 115, 121, 115, 116, 101, 109]⟩, .slice (some ⟨w.heap.size + 1 + 1 + 1 + 1, 0, none⟩) 1 1, .func (.func 53) #[] #[], .func (.func 54) #[] #[], .func (.func 56) #[] #[], .string ⟨#[119, 105, 110, 100, 111, 119, 45, 99, 104, 97, 110, 103, 101]⟩, .slice (some ⟨w.heap.size + 1 + 1 + 1 + 1 + 1, 0, none⟩) 4 4, .func (.func 57) #[] #[], .func (.func 58) #[] #[], .func (.func 52) #[] #[], .string ⟨#[120, 111, 110, 45, 120, 111, 102, 102]⟩, .slice (some ⟨w.heap.size + 1 + 1 + 1 + 1 + 1 + 1, 0, none⟩) 1 1, .func (.func 59) #[] #[], .func (.func 60) #[] #[], .func (.func 52) #[] #[], .string ⟨#[115, 105, 103, 110, 97, 108]⟩, .slice (some ⟨w.heap.size + 1 + 1 + 1 + 1 + 1 + 1 + 1, 0, none⟩) 1 1, .func (.func 53) #[] #[], .func (.func 54) #[] #[], .func (.func 56) #[] #[], .string ⟨#[101, 120, 105, 116, 45, 115, 116, 97, 116, 117, 115]⟩, .slice (some ⟨w.heap.size + 1 + 1 + 1 + 1 + 1 + 1 + 1 + 1, 0, none⟩) 1 1, .func (.func 61) #[] #[], .func (.func 62) #[] #[], .func (.func 52) #[] #[], .string ⟨#[101, 120, 105, 116, 45, 115, 105, 103, 110, 97, 108]⟩, .slice (some ⟨w.heap.size + 1 + 1 + 1 + 1 + 1 + 1 + 1 + 1 + 1, 0, none⟩) 4 4, .func (.func 63) #[] #[], .func (.func 64) #[] #[], .func (.func 65) #[] #[]]) ?_ ?_
  · simp [go_sem]; exact hb
  refine wpList_store_M rfl 93 _ _ rfl w.heap.size (#[.string ⟨#[]⟩, .slice none 0 0, .nilFunc, .nilFunc, .nilFunc, .string ⟨#[112, 116, 121, 45, 114, 101, 113]⟩, .slice (some ⟨w.heap.size + 1, 0, none⟩) 6 6, .func (.func 44) #[] #[], .func (.func 45) #[] #[], .func (.func 46) #[] #[], .string ⟨#[101, 110, 118]⟩, .slice (some ⟨w.heap.size + 1 + 1, 0, none⟩) 2 2, .func (.func 47) #[] #[], .func (.func 48) #[] #[], .func (.func 49) #[] #[], .string ⟨#[115, 104, 101, 108, 108]⟩, .slice none 0 0, .func (.func 50) #[] #[], .func (.func 51) #[] #[], .func (.func 52) #[] #[], .string ⟨#[101, 120, 101, 99]⟩, .slice (some ⟨w.heap.size + 1 + 1 + 1, 0, none⟩) 1 1, .func (.func 53) #[] #[], .func (.func 54) #[] #[], .func (.func 55) #[] #[], .string ⟨#[115, 117, 98, 115, 121, 115, 116, 101, 109]⟩, .slice (some ⟨w.heap.size + 1 + 1 + 1 + 1, 0, none⟩) 1 1, .func (.func 53) #[] #[], .func (.func 54) #[] #[], .func (.func 56) #[] #[], .string ⟨#[119, 105, 110, 100, 111, 119, 45, 99, 104, 97, 110, 103, 101]⟩, .slice (some ⟨w.heap.size + 1 + 1 + 1 + 1 + 1, 0, none⟩) 4 4, .func (.func 57) #[] #[], .func (.func 58) #[] #[], .func (.func 52) #[] #[], .string ⟨#[120, 111, 110, 45, 120, 111, 102, 102]⟩, .slice (some ⟨w.heap.size + 1 + 1 + 1 + 1 + 1 + 1, 0, none⟩) 1 1, .func (.func 59) #[] #[], .func (.func 60) #[] #[], .func (.func 52) #[] #[], .string ⟨#[115, 105, 103, 110, 97, 108]⟩, .slice (some ⟨w.heap.size + 1 + 1 + 1 + 1 + 1 + 1 + 1, 0, none⟩) 1 1, .func (.func 53) #[] #[], .func (.func 54) #[] #[], .func (.func 56) #[] #[], .string ⟨#[101, 120, 105, 116, 45, 115, 116, 97, 116, 117, 115]⟩, .slice (some ⟨w.heap.size + 1 + 1 + 1 + 1 + 1 + 1 + 1 + 1, 0, none⟩) 1 1, .func (.func 61) #[] #[], .func (.func 62) #[] #[], .func (.func 52) #[] #[], .string ⟨#[101, 120, 105, 116, 45, 115, 105, 103, 110, 97, 108]⟩, .slice (some ⟨w.heap.size + 1 + 1 + 1 + 1 + 1 + 1 + 1 + 1 + 1, 0, none⟩) 4 4, .func (.func 63) #[] #[], .func (.func 64) #[] #[], .func (.func 65) #[] #[]]) ?_ ?_ 93 #[.string ⟨#[]⟩, .slice none 0 0, .nilFunc, .nilFunc, .nilFunc, .string ⟨#[]⟩, .slice none 0 0, .nilFunc, .nilFunc, .nilFunc, .string ⟨#[]⟩, .slice none 0 0, .nilFunc, .nilFunc, .nilFunc, .string ⟨#[]⟩, .slice none 0 0, .nilFunc, .nilFunc, .nilFunc, .string ⟨#[]⟩, .slice none 0 0, .nilFunc, .nilFunc, .nilFunc, .string ⟨#[]⟩, .slice none 0 0, .nilFunc, .nilFunc, .nilFunc, .string ⟨#[]⟩, .slice none 0 0, .nilFunc, .nilFunc, .nilFunc, .string ⟨#[]⟩, .slice none 0 0, .nilFunc, .nilFunc, .nilFunc, .string ⟨#[]⟩, .slice none 0 0, .nilFunc, .nilFunc, .nilFunc, .string ⟨#[]⟩, .slice none 0 0, .nilFunc, .nilFunc, .nilFunc, .string ⟨#[]⟩, .slice none 0 0, .nilFunc, .nilFunc, .nilFunc] ?_ hiR ?_ ?_ ?_
  · simp [go_sem]
  · simp [go_sem]
  · rw [← HW9.out]; exact B9.out
  · rfl
  · first | (simp [Value.oneCell']; done) | (kernel_rfl) | trace_state
  intro w2 HB M2
  rw [← HW9.out] at M2
  go_wp2
  refine bodyPost_ret_by (results_cell_row Tryz.results29 _ _ w.heap.size 93 _ _ _ rfl HB Tryz.underlying93 rfl hiR) rfl ?_
  have hlit : rulesA w.heap.size = #[.string ⟨#[]⟩, .slice none 0 0, .nilFunc, .nilFunc, .nilFunc, .string ⟨#[112, 116, 121, 45, 114, 101, 113]⟩, .slice (some ⟨w.heap.size + 1, 0, none⟩) 6 6, .func (.func 44) #[] #[], .func (.func 45) #[] #[], .func (.func 46) #[] #[], .string ⟨#[101, 110, 118]⟩, .slice (some ⟨w.heap.size + 1 + 1, 0, none⟩) 2 2, .func (.func 47) #[] #[], .func (.func 48) #[] #[], .func (.func 49) #[] #[], .string ⟨#[115, 104, 101, 108, 108]⟩, .slice none 0 0, .func (.func 50) #[] #[], .func (.func 51) #[] #[], .func (.func 52) #[] #[], .string ⟨#[101, 120, 101, 99]⟩, .slice (some ⟨w.heap.size + 1 + 1 + 1, 0, none⟩) 1 1, .func (.func 53) #[] #[], .func (.func 54) #[] #[], .func (.func 55) #[] #[], .string ⟨#[115, 117, 98, 115, 121, 115, 116, 101, 109]⟩, .slice (some ⟨w.heap.size + 1 + 1 + 1 + 1, 0, none⟩) 1 1, .func (.func 53) #[] #[], .func (.func 54) #[] #[], .func (.func 56) #[] #[], .string ⟨#[119, 105, 110, 100, 111, 119, 45, 99, 104, 97, 110, 103, 101]⟩, .slice (some ⟨w.heap.size + 1 + 1 + 1 + 1 + 1, 0, none⟩) 4 4, .func (.func 57) #[] #[], .func (.func 58) #[] #[], .func (.func 52) #[] #[], .string ⟨#[120, 111, 110, 45, 120, 111, 102, 102]⟩, .slice (some ⟨w.heap.size + 1 + 1 + 1 + 1 + 1 + 1, 0, none⟩) 1 1, .func (.func 59) #[] #[], .func (.func 60) #[] #[], .func (.func 52) #[] #[], .string ⟨#[115, 105, 103, 110, 97, 108]⟩, .slice (some ⟨w.heap.size + 1 + 1 + 1 + 1 + 1 + 1 + 1, 0, none⟩) 1 1, .func (.func 53) #[] #[], .func (.func 54) #[] #[], .func (.func 56) #[] #[], .string ⟨#[101, 120, 105, 116, 45, 115, 116, 97, 116, 117, 115]⟩, .slice (some ⟨w.heap.size + 1 + 1 + 1 + 1 + 1 + 1 + 1 + 1, 0, none⟩) 1 1, .func (.func 61) #[] #[], .func (.func 62) #[] #[], .func (.func 52) #[] #[], .string ⟨#[101, 120, 105, 116, 45, 115, 105, 103, 110, 97, 108]⟩, .slice (some ⟨w.heap.size + 1 + 1 + 1 + 1 + 1 + 1 + 1 + 1 + 1, 0, none⟩) 4 4, .func (.func 63) #[] #[], .func (.func 64) #[] #[], .func (.func 65) #[] #[]] := by kernel_rfl
  refine ⟨by rw [hlit], Mod.toExt E9 M2 (by intro k hk he; omega), ?_⟩
  intro i hi
  have hi2 : i = 0 ∨ i = 1 ∨ i = 2 ∨ i = 3 ∨ i = 4 ∨ i = 5 ∨ i = 6 ∨ i = 7 ∨ i = 8 ∨ i = 9 ∨ i = 10 := by omega
  rcases hi2 with rfl|rfl|rfl|rfl|rfl|rfl|rfl|rfl|rfl|rfl|rfl
  · exact RdN.nil _ _
  · exact RdN.mod R1.out M2 (fun k hk he => by have h1 := Option.some.inj (show some (w.heap.size + 1) = some k from hk); have h2 : k = w.heap.size := he; omega)
  · exact RdN.mod R2.out M2 (fun k hk he => by have h1 := Option.some.inj (show some (w.heap.size + 1 + 1) = some k from hk); have h2 : k = w.heap.size := he; omega)
  · exact RdN.nil _ _
  · exact RdN.mod R4.out M2 (fun k hk he => by have h1 := Option.some.inj (show some (w.heap.size + 1 + 1 + 1) = some k from hk); have h2 : k = w.heap.size := he; omega)
  · exact RdN.mod R5.out M2 (fun k hk he => by have h1 := Option.some.inj (show some (w.heap.size + 1 + 1 + 1 + 1) = some k from hk); have h2 : k = w.heap.size := he; omega)
  · exact RdN.mod R6.out M2 (fun k hk he => by have h1 := Option.some.inj (show some (w.heap.size + 1 + 1 + 1 + 1 + 1) = some k from hk); have h2 : k = w.heap.size := he; omega)
  · exact RdN.mod R7.out M2 (fun k hk he => by have h1 := Option.some.inj (show some (w.heap.size + 1 + 1 + 1 + 1 + 1 + 1) = some k from hk); have h2 : k = w.heap.size := he; omega)
  · exact RdN.mod R8.out M2 (fun k hk he => by have h1 := Option.some.inj (show some (w.heap.size + 1 + 1 + 1 + 1 + 1 + 1 + 1) = some k from hk); have h2 : k = w.heap.size := he; omega)
  · exact RdN.mod R9.out M2 (fun k hk he => by have h1 := Option.some.inj (show some (w.heap.size + 1 + 1 + 1 + 1 + 1 + 1 + 1 + 1) = some k from hk); have h2 : k = w.heap.size := he; omega)
  · exact RdN.mod R10.out M2 (fun k hk he => by have h1 := Option.some.inj (show some (w.heap.size + 1 + 1 + 1 + 1 + 1 + 1 + 1 + 1 + 1) = some k from hk); have h2 : k = w.heap.size := he; omega)

end Go.Proofs.YtldijmappinngaaGreatDoor
