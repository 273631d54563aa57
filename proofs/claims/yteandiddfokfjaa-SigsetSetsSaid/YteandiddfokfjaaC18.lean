/- A name's number, by contract; the document's rows. Conditions: none. -/
import Derived.Test.YteandiddfokfjaaB18
namespace Go.Proofs.Yteandiddfokfjaa
open Go.RowKit Go.Kb Go.Kb.Bits

def numL (name : ByteArray) : Int × Bool := if name.toList.isEmpty then (0, false) else (max (idxL name) 0, decide (0 < idxL name))
set_option maxRecDepth 100000 in
set_option maxHeartbeats 800000 in
theorem number_any (name : ByteArray) (w : World) : Calls Try.prog 29 #[.string name] w fun e w' => e = .returned (.tuple #[.int .i64 (numL name).1, .bool (numL name).2]) ∧ Ext w w' := by
  have hi := names_info
  have h1 := names_one
  have hz := names_size
  have hIX := Lib.hid fun b w' h => index_any b name w' h
  have hnum : numL name = if name.toList.isEmpty then (0, false) else (max (idxL name) 0, decide (0 < idxL name)) := rfl
  generalize numL name = nl at *
  generalize idxL name = r at *
  have hN := Lib.hid fun w' => names_any w'
  generalize hA : namesA = A at *
  have hzA : (#[.string ⟨#[]⟩, .string ⟨#[]⟩, .string ⟨#[]⟩, .string ⟨#[]⟩, .string ⟨#[]⟩, .string ⟨#[]⟩, .string ⟨#[]⟩, .string ⟨#[]⟩, .string ⟨#[]⟩, .string ⟨#[]⟩, .string ⟨#[]⟩, .string ⟨#[]⟩, .string ⟨#[]⟩, .string ⟨#[]⟩, .string ⟨#[]⟩, .string ⟨#[]⟩, .string ⟨#[]⟩, .string ⟨#[]⟩, .string ⟨#[]⟩, .string ⟨#[]⟩, .string ⟨#[]⟩, .string ⟨#[]⟩, .string ⟨#[]⟩, .string ⟨#[]⟩, .string ⟨#[]⟩, .string ⟨#[]⟩, .string ⟨#[]⟩, .string ⟨#[]⟩, .string ⟨#[]⟩] : Array Value).size = A.size := by rw [hz]; rfl
  clear hA
  have HZA := Lib.hid hzA
  have H1 := Lib.hid h1
  clear hzA h1
  have hq0 : ∃ q, name.toList.isEmpty = q := ⟨_, rfl⟩
  obtain ⟨q, hq⟩ := hq0
  cases q
  · rw [hq, if_neg (by decide)] at hnum
    subst hnum
    go_enter Try.func29, Try.ntmps29
    go_wp2_with (first
      | ((go_at_call 42; (with_reducible refine (hN.out _).mono ?_); rintro e w1 ⟨rfl, E1⟩))
      | (refine wpList_store_A rfl 68 _ _ rfl w1.heap.size _ rfl rfl 68 _ (Blk.at_ _ _ rfl) hi HZA.out H1.out ?_; intro w2 H2 E2; have E2 : Ext w w2 := E2 w.heap.size w (by repeat (first | with_reducible exact Ext.refl _ | refine Ext.drewN ?_ _ | refine Ext.drew ?_ | refine Ext.alloc ?_ _ | assumption | (refine Below.trans ?_ (by assumption)) | (refine Ext.trans ?_ (by assumption)) | (refine Below.trans ?_ (Below.mono (by assumption) (by omega))))) (by have := E1.size; omega))
      | ((go_at_call 43; (with_reducible refine (hIX.out _ _ H2).mono ?_); rintro e w3 ⟨rfl, E3⟩)))
    all_goals go_ret2
    all_goals refine ⟨?_, (by repeat (first | with_reducible exact Ext.refl _ | refine Ext.drewN ?_ _ | refine Ext.drew ?_ | refine Ext.alloc ?_ _ | assumption | (refine Below.trans ?_ (by assumption)) | (refine Ext.trans ?_ (by assumption)) | (refine Below.trans ?_ (Below.mono (by assumption) (by omega)))))⟩
    all_goals show Ending.returned (Value.tuple #[Value.int .i64 _, Value.bool _]) = Ending.returned (Value.tuple #[Value.int .i64 _, Value.bool _])
    all_goals (congr 4; congr 1; omega)
  · rw [hq, if_pos rfl] at hnum
    subst hnum
    go_enter Try.func29, Try.ntmps29
    go_wp2
    go_ret2
    exact ⟨rfl, (by repeat (first | with_reducible exact Ext.refl _ | refine Ext.drewN ?_ _ | refine Ext.drew ?_ | refine Ext.alloc ?_ _ | assumption | (refine Below.trans ?_ (by assumption)) | (refine Ext.trans ?_ (by assumption)) | (refine Below.trans ?_ (Below.mono (by assumption) (by omega)))))⟩
/-- the document's rows: number, name, what it does, whether a client may name it -/
def rowsT : List (Int × ByteArray × Int × Bool) := [(1, ⟨#[72, 85, 80]⟩, 1, true), (2, ⟨#[73, 78, 84]⟩, 1, true), (3, ⟨#[81, 85, 73, 84]⟩, 2, true), (4, ⟨#[73, 76, 76]⟩, 2, true), (5, ⟨#[84, 82, 65, 80]⟩, 2, false), (6, ⟨#[65, 66, 82, 84]⟩, 2, true), (7, ⟨#[66, 85, 83]⟩, 2, false), (8, ⟨#[70, 80, 69]⟩, 2, true), (9, ⟨#[75, 73, 76, 76]⟩, 1, true), (10, ⟨#[85, 83, 82, 49]⟩, 1, true), (11, ⟨#[83, 69, 71, 86]⟩, 2, true), (12, ⟨#[85, 83, 82, 50]⟩, 1, true), (13, ⟨#[80, 73, 80, 69]⟩, 1, true), (14, ⟨#[65, 76, 82, 77]⟩, 1, true), (15, ⟨#[84, 69, 82, 77]⟩, 1, true), (17, ⟨#[67, 72, 76, 68]⟩, 3, false), (18, ⟨#[67, 79, 78, 84]⟩, 5, false), (19, ⟨#[83, 84, 79, 80]⟩, 4, false), (20, ⟨#[84, 83, 84, 80]⟩, 4, false), (21, ⟨#[84, 84, 73, 78]⟩, 4, false), (22, ⟨#[84, 84, 79, 85]⟩, 4, false), (28, ⟨#[87, 73, 78, 67, 72]⟩, 3, false)]
def rowV (r : Int × ByteArray × Int × Bool) : List Value := [.int .i64 r.1, .string r.2.1, .int .i64 r.2.2.1, .bool r.2.2.2]
def rowsA : Array Value := (rowsT.flatMap rowV).toArray
set_option maxRecDepth 100000 in
set_option maxHeartbeats 800000 in
theorem rows_any (w : World) : Calls Try.prog 37 #[] w fun e w' => e = .returned (.slice (some ⟨w.heap.size, 0, none⟩) 22 22) ∧ Blk w' w.heap.size 58 rowsA ∧ Ext w w' := by
  go_enter Try.func37, Try.ntmps37
  go_wp2
  go_ret
  exact ⟨rfl, Blk.at_ _ _ rfl, (by repeat (first | with_reducible exact Ext.refl _ | refine Ext.drewN ?_ _ | refine Ext.drew ?_ | refine Ext.alloc ?_ _ | assumption | (refine Below.trans ?_ (by assumption)) | (refine Ext.trans ?_ (by assumption)) | (refine Below.trans ?_ (Below.mono (by assumption) (by omega)))))⟩
end Go.Proofs.Yteandiddfokfjaa
