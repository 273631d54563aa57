/- A line discipline's line and lines behind what is typed, plainly; and what a terminal makes of a plain text, an end of a line, the byte that kills. Conditions: the setting turns nothing that comes in; there is room. -/
import Derived.Test.YtfnicinnjkbedaaGreatDoorQP17
namespace Go.Proofs.YtfnicinnjkbedaaGreatDoor
open Go.RowKit Go.Kb
set_option maxRecDepth 100000

/-- the line and the lines; nothing else waits -/
structure LineS (t : Tm) (ls : List (List Int × Bool)) (line : List Int) (d : Ds) : Prop where
  t : d.t = t
  line : d.line = line
  ls : d.ls = ls
  nx : d.nx = false
  raw : d.raw = []
  hd : d.hd = false
section
variable {t : Tm} {ls : List (List Int × Bool)} {line : List Int} {d d2 : Ds}
theorem showD_S (b : List Int) (h : LineS t ls line d) : LineS t ls line (d.showD b) := by
  unfold Ds.showD
  split
  · exact ⟨h.t, h.line, h.ls, h.nx, h.raw, h.hd⟩
  · exact h
theorem echoD_S (b : List Int) (h : LineS t ls line d) : LineS t ls line (d.echoD b) := by
  unfold Ds.echoD
  split
  · exact showD_S b h
  · exact h
theorem LineS.idle (h : LineS t ls line d) : LineS t ls line d.idle0 := ⟨h.t, h.line, h.ls, h.nx, h.raw, h.hd⟩
theorem LineS.text (h : LineS t ls line d) (c : Int) : LineS t ls (line ++ [c]) (d.idle0.takeD c [c]) := by
  refine echoD_S _ ?_
  exact ⟨h.t, by show d.line ++ [c] = _; rw [h.line], h.ls, h.nx, h.raw, h.hd⟩
theorem LineS.newline (h : LineS t ls line d) (c : Int) : LineS t (ls ++ [(line ++ [c], false)]) [] (d.idle0.newlineD c) := by
  have h1 : LineS t (ls ++ [(line ++ [c], false)]) [] (d.idle0.endD [c] false) := ⟨h.t, rfl, by show d.ls ++ [(d.line ++ [c], false)] = _; rw [h.line, h.ls], h.nx, h.raw, h.hd⟩
  unfold Ds.newlineD
  split
  · exact showD_S _ h1
  · exact h1
theorem LineS.kill (h : LineS t ls line d) (hk : KillR d.idle0 d2) : LineS t ls [] d2 := by
  obtain ⟨o, k, rfl⟩ := hk
  exact ⟨h.t, rfl, h.ls, h.nx, h.raw, h.hd⟩
theorem LineS.used (h : LineS t ls line d) : d.used = Ca.usedL ls + line.length := by
  unfold Ds.used
  rw [h.ls, h.line, h.raw]
  simp
theorem LineS.mko (h : LineS t ls line d) (hu : Ca.usedL ls + line.length ≤ 767) : MkOk d := by
  have h0 := Ca.usedL_nn ls
  refine ⟨h.hd, by rw [h.used]; omega, by rw [h.ls]; omega, by rw [h.line]; omega, by rw [h.raw]; simp⟩
theorem LineS.ask (h : LineS t ls line d) (hu : Ca.usedL ls + line.length ≤ 767) : d.used < 4096 ∧ Ca.usedL d.ls ≤ 100000 ∧ d.line.length ≤ 100000 ∧ d.raw.length ≤ 100000 := by
  have h1 := h.mko hu
  exact ⟨by have := h1.used; omega, h1.ls, h1.line, h1.raw⟩
end
theorem szL_false (l : List Int) : Ca.szL (l, false) = l.length := by simp [Ca.szL]
theorem InPost.mono {S : Nat → Prop} {g : Nat} {R R' : Ds → Prop} {w w' : World} {e : Ending} (h : InPost S g R w e w') (hR : ∀ d, R d → R' d) : InPost S g R' w e w' := by
  obtain ⟨h1, d2, h2, h3⟩ := h
  exact ⟨h1, d2, hR d2 h2, h3⟩
/-- a text without an end of a line is typed -/
theorem tyok_text {S : Nat → Prop} {g : Nat} {t : Tm} {ls : List (List Int × Bool)} {line b : List Int} (ht : PlT t) (hb : ∀ c ∈ b, NoC t c ∧ c ≠ 10) (hl : line.length + b.length ≤ 253) (hu : Ca.usedL ls ≤ 500) :
    TyOk S g b (fun k d => LineS t ls (line ++ b.take k) d) := by
  refine ⟨fun k d hk hS => hS.ask (by rw [List.length_append, List.length_take]; omega), fun k d c w hc hS hD => ?_⟩
  have hk := (List.getElem?_eq_some_iff.1 hc).1
  have hcm := hb c (List.mem_of_getElem? hc)
  have hnew := hS.text c
  have e : line ++ b.take k ++ [c] = line ++ b.take (k + 1) := by rw [take_succ_of hc, List.append_assoc]
  rw [e] at hnew
  have hlen : (line ++ b.take k).length + 1 ≤ 254 := by rw [List.length_append, List.length_take]; omega
  refine (input_text d c w hD hS.nx (by rw [hS.t]; exact ht) (by rw [hS.t]; exact hcm.1) hcm.2 (by rw [hS.line]; exact hlen) (hnew.mko (by rw [List.length_append, List.length_take]; omega))).mono fun e w' h => h.mono fun d2 h2 => ?_
  rw [h2]
  exact hnew
/-- an end of a line is typed -/
theorem tyok_newline {S : Nat → Prop} {g : Nat} {t : Tm} {ls : List (List Int × Bool)} {line : List Int} (ht : PlT t) (hn : NoC t 10) (hl : line.length ≤ 253) (hu : Ca.usedL ls ≤ 500) (hls : ls.length ≤ 100000) :
    TyOk S g [10] (fun k d => if k = 0 then LineS t ls line d else LineS t (ls ++ [(line ++ [10], false)]) [] d) := by
  have hus : Ca.usedL (ls ++ [(line ++ [10], false)]) = Ca.usedL ls + (line.length + 1) := by
    rw [Ca.usedL_append]
    simp [Ca.usedL, szL_false]
  refine ⟨fun k d hk hS => ?_, fun k d c w hc hS hD => ?_⟩
  · obtain rfl : k = 0 := by simp at hk; exact hk
    rw [if_pos rfl] at hS
    exact hS.ask (by omega)
  · have hk := (List.getElem?_eq_some_iff.1 hc).1
    obtain rfl : k = 0 := by simp at hk; exact hk
    obtain rfl : c = 10 := by simpa using hc.symm
    rw [if_pos rfl] at hS
    have hnew := hS.newline 10
    refine (input_newline d w hD hS.nx (by rw [hS.t]; exact ht) (by rw [hS.t]; exact hn) (by rw [hS.ls, hS.line, szL_false, List.length_append]; simp; omega) (by rw [hS.ls]; exact hls) (hnew.mko (by rw [hus]; simp; omega))).mono fun e w' h => h.mono fun d2 h2 => ?_
    rw [h2, if_neg (by omega)]
    exact hnew
/-- the byte that kills is typed -/
theorem tyok_kill {S : Nat → Prop} {g : Nat} {t : Tm} {ls : List (List Int × Bool)} {line : List Int} {c : Int} (ht : PlT t) (hn : KiC t c) (hl : line.length ≤ 253) (hu : Ca.usedL ls ≤ 500) :
    TyOk S g [c] (fun k d => if k = 0 then LineS t ls line d else LineS t ls [] d) := by
  refine ⟨fun k d hk hS => ?_, fun k d c' w hc hS hD => ?_⟩
  · obtain rfl : k = 0 := by simp at hk; exact hk
    rw [if_pos rfl] at hS
    exact hS.ask (by omega)
  · have hk := (List.getElem?_eq_some_iff.1 hc).1
    obtain rfl : k = 0 := by simp at hk; exact hk
    obtain rfl : c' = c := by simpa using hc.symm
    rw [if_pos rfl] at hS
    refine (input_kill d c' w hD hS.nx (by rw [hS.t]; exact ht) (by rw [hS.t]; exact hn) (fun d2 h2 => (hS.kill h2).mko (by simp; omega))).mono fun e w' h => h.mono fun d2 h2 => ?_
    rw [if_neg (by omega)]
    exact hS.kill h2
theorem charL_bd {t : Tm} (h : t.Ok) (op : Int) : 0 ≤ (charL t op).1 ∧ (charL t op).1 ≤ 255 := by
  unfold charL
  split
  · rename_i hh
    rcases Nat.lt_or_ge op.toNat t.c.length with h1 | h1
    · show 0 ≤ t.c.getD op.toNat 0 ∧ t.c.getD op.toNat 0 ≤ 255
      rw [List.getD_eq_getElem?_getD, List.getElem?_eq_getElem h1]
      exact h.b _ (List.getElem_mem h1)
    · show 0 ≤ t.c.getD op.toNat 0 ∧ t.c.getD op.toNat 0 ≤ 255
      rw [List.getD_eq_getElem?_getD, List.getElem?_eq_none h1]
      decide
  · exact ⟨Int.le_refl 0, by decide⟩
end Go.Proofs.YtfnicinnjkbedaaGreatDoor
