/- A function value that writes a whole process; the test for a fellow of a group; by contract. No condition. -/
import Derived.Test.YtmpmnikgbepphaaX20
namespace Go.Proofs.Ytmpmnikgbepphaa
open Go.RowKit Go.Kb

theorem enters_set1 (args : Array Value) (w : World) : (callFunc 54 args).run Try.prog w = .ok (.enter 54 args) w := by kernel_rfl
set_option maxRecDepth 100000 in
set_option maxHeartbeats 800000 in
theorem turns_set {m : Nat} {q : Pr} (w : World) (hq : q.ok) (h : Blk w m 43 q.cells.toArray) : Turns 54 #[] #[.pointer (some ⟨m, 0, none⟩)] (fun _ => q) w := by
  refine ⟨enters_set1, fun G base n c j l p w0 hE hb O hp => ?_⟩
  obtain ⟨hok, hG, hlt, hat, hfr, hc⟩ := own_at O hp
  have hB := Lib.hid (h.ext hE)
  have hj : j < n := by
    obtain ⟨_, _, hv, _⟩ := O.shape
    simp only [Value.slice.injEq] at hv
    have := (List.getElem?_eq_some_iff.1 hp).1
    omega
  have hth : w0.there G (j * 43) 43 := fun t ht => ⟨by rw [hc t _ (List.getElem?_eq_getElem (by rw [Pr.len hok]; exact ht))]; rfl, hfr _⟩
  have O2 := Lib.hid (own_row O hj hq)
  have M2 := Lib.hid (Mod.setCells q.cells (j * 43) w0 w0 (Mod.refl (fun k => k = G) w0))
  have hq3 := Pr.len hq
  clear O hp hat hok hc
  show Calls Try.prog _ #[.pointer (some ⟨G, j * 43, none⟩), .pointer (some ⟨m, 0, none⟩)] w0 _
  go_enter Try.func54, Try.ntmps54
  go_wp2_with (first
    | (refine wpList_load_row rfl 43 _ rfl _ rfl 43 _ _ _ hB.out Try.underlying43 rfl (by rw [List.size_toArray]; exact i43' hq) ?_)
    | (refine wpList_store_mid rfl 43 _ _ rfl G (j * 43) q.cells.toArray rfl rfl (by rw [List.size_toArray, hq3]; exact hth) (by rw [List.size_toArray]; exact i43' hq) (Pr.one hq) ?_))
  go_end0
  exact ⟨rfl, O2.out, M2.out⟩
end Go.Proofs.Ytmpmnikgbepphaa
