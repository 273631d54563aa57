/- A whole process stored over one of a row of the call's own. No condition. -/
import Derived.Test.YtmpmnikgbepphaaU20
namespace Go.Proofs.Ytmpmnikgbepphaa
open Go.RowKit Go.Kb

theorem mid_take (cur L : List Value) (a b N : Nat) (hL : L.length = b) (h : a + b ≤ N) (hN : N ≤ cur.length) : ((cur.take a ++ L) ++ cur.drop (a + b)).take N = (cur.take N).take a ++ (L ++ (cur.take N).drop (a + b)) := by
  have h1 : (cur.take a).length = a := by simp; omega
  rw [List.take_append, List.take_append, List.length_append, h1, hL, List.take_take, List.take_take, List.drop_take, Nat.min_eq_right (by omega : a ≤ N), Nat.min_eq_left (by omega : a ≤ N), List.take_of_length_le (l := L) (by omega), List.append_assoc]
theorem own_row {base G n c j : Nat} {w : World} {l : List Pr} {p' : Pr} (h : OwnS Rp 43 base (fun _ => False) w (.slice (some ⟨G, 0, none⟩) n c) l) (hj : j < n) (hk : p'.ok) :
    OwnS Rp 43 base (fun _ => False) (w.setCells G (j * 43) p'.cells) (.slice (some ⟨G, 0, none⟩) n c) (l.set j p') := by
  obtain ⟨us, ho, he⟩ := h
  have hln := own_len ho
  obtain ⟨hul, ⟨hv, _⟩ | ⟨g', cap, cur, hv, hb0, hb, hcap, hmax, hcs, htk⟩⟩ := ho
  · cases hv
  cases hv
  clear hln
  have hul : us.length = l.length * 43 := hul
  have hcs : cur.size = c * 43 := hcs
  have htk : List.take (l.length * 43) cur.toList = us := htk
  have hb : Blk w G 43 cur := hb
  have hpl := Pr.len hk
  have hB := Blk.setCells p'.cells (j * 43) w cur hb (by rw [hpl, hcs]; omega)
  have htl : (cur.toList.take (j * 43)).length = j * 43 := by simp; omega
  have hset : l.set j p' = l.take j ++ ([p'] ++ l.drop (j + 1)) := by rw [List.set_eq_take_append_cons_drop, if_pos hj]; rfl
  refine ⟨us.take (j * 43) ++ (p'.cells ++ us.drop ((j + 1) * 43)), ⟨?_, .inr ⟨G, c, _, by rw [List.length_set], hb0, hB, by rw [List.length_set]; exact hcap, hmax, ?_, ?_⟩⟩, ?_⟩
  · rw [List.length_set, List.length_append, List.length_append, List.length_take, List.length_drop, hpl, hul]
    show _ = l.length * 43
    omega
  · rw [List.size_toArray, List.length_append, List.length_append, htl, hpl, List.length_drop, Array.length_toList, hcs]
    show _ = c * 43
    omega
  · rw [List.length_set]
    show ((cur.toList.take (j * 43) ++ p'.cells) ++ cur.toList.drop (j * 43 + p'.cells.length)).take (l.length * 43) = _
    rw [← htk, hpl, mid_take cur.toList p'.cells (j * 43) 43 (l.length * 43) hpl (by omega) (by have : cur.toList.length = cur.size := rfl; omega), Nat.add_mul, Nat.one_mul]
  · rw [hset]
    have e1 := he.take j (by omega)
    have e2 := he.drop (j + 1)
    exact RdE.keep (RdE.append e1 (RdE.append (RdE.single (rp_rel _ w hk)) e2)) fun k _ hk => hk.1.elim
end Go.Proofs.Ytmpmnikgbepphaa
