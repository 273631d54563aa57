/- The first record deleted (slices.Delete at 0, 1), by contract. Conditions: few records. -/
import Derived.Test.YtefcafohhppmbaaA06
import Derived.Lib.SliceRun
namespace Go.Proofs.Ytefcafohhppmbaa
open Go.RowKit Go.Kb

theorem info_rc : (Try.prog.info? 34).map (fun i => (i.zero, i.size, i.bytes)) = some (some (.slice none 0 0), Rc.size, 24) := by kernel_rfl
/-- where a slice's rest begins -/
theorem rest_at (g off c n : Nat) (w : World) (news : List Value) (hl : news.length = n) (hn : n + 1 ≤ c) (hc : ∀ j u, news[j]? = some u → w.cell? ⟨g, off + 1 + j, none⟩ = some u) :
    ∃ A : Addr, (if c = 1 then (some ⟨g, off, none⟩ : Option Addr) else some ⟨g, off + 1, none⟩) = some A ∧ Hid (∀ j u, news[j]? = some u → w.cell? (A.add j) = some u) := by
  by_cases h : c = 1
  · refine ⟨_, if_pos h, fun j u hu => ?_⟩
    have := (List.getElem?_eq_some_iff.1 hu).1
    omega
  · exact ⟨_, if_neg h, fun j u hu => by rw [Addr.add_lit]; exact hc j u hu⟩
set_option maxHeartbeats 800000 in
theorem delete_any {F : Nat → Prop} (v : Value) (d : List Int) (ds : List (List Int)) (w : World) (h : TailS Rc 34 F w v (d :: ds)) :
    Calls Try.prog 27 #[v, .int .i64 0, .int .i64 1] w fun e w' => ∃ Ad c, e = .returned (.slice Ad ds.length c) ∧ TailS Rc 34 F w' (.slice Ad ds.length c) ds ∧ Mod (fun k => v.ownBlock = some k) w w' := by
  obtain ⟨us, he, ⟨_, h0⟩ | ⟨g, off, c, cur, rfl, hF, hb, h1, h2, h3, h4⟩⟩ := h
  · cases h0
  obtain ⟨i0, hi0, hz0, hz1, hz2⟩ := info_parts info_rc
  obtain ⟨n, hn⟩ : ∃ n, ds.length = n := ⟨_, rfl⟩
  simp only [List.length_cons, hn] at h2 h4 ⊢
  have hlen : us.length = n + 1 := by have := he.1; rw [List.length_cons, hn] at this; simpa [Rep.sl] using this
  obtain ⟨news, hnews⟩ : ∃ news, news = us.drop 1 := ⟨_, rfl⟩
  have hl : news.length = n := by rw [hnews]; simp; omega
  have hcell : ∀ j u, us[j]? = some u → w.cell? ⟨g, off + j, none⟩ = some u := by
    intro j u hu
    have hj := (List.getElem?_eq_some_iff.1 hu).1
    rw [hb.cell, ← Array.getElem?_toList, ← hu, ← h4, List.getElem?_take, if_pos (by omega), List.getElem?_drop]
  obtain ⟨A, hA, hsrc⟩ := rest_at g off c n w.drew news hl h2 (fun j u hu => by
    rw [hnews, List.getElem?_drop] at hu
    rw [Nat.add_assoc]
    exact hcell _ u hu)
  have s1 : Hid (news.length = n * 1) := by rw [Nat.mul_one]; exact hl
  have s2 : Hid (∀ u ∈ news, u.oneCell' = true) := fun u hu => he.one u (by rw [hnews] at hu; exact List.mem_of_mem_drop hu)
  have s3 : Hid (∀ t, t < news.length → (w.drew.cell? ⟨g, off + 0 * 1 + t, none⟩).isSome = true ∧ w.drew.frozen? ⟨g, off + 0 * 1 + t, none⟩ = false) := by
    intro t ht
    refine ⟨?_, hb.frozen _⟩
    show (w.cell? _).isSome = true
    rw [hb.cell]
    simp
    omega
  obtain ⟨W1, hW1⟩ : ∃ W1, W1 = w.drew.setCells g (off + 0 * 1) news := ⟨_, rfl⟩
  have hB1 : Blk W1 g 34 (cur.toList.take off ++ news ++ cur.toList.drop (off + n)).toArray := by
    rw [hW1, ← hl]
    simpa using Blk.setCells news off w.drew cur hb (by omega)
  have hM1 : Mod (fun k => k = g) w W1 := by rw [hW1]; exact Mod.setCells _ _ _ _ (by exact (by repeat (first | with_reducible exact Mod.refl _ _ | refine Mod.drew ?_ | refine Mod.drewN ?_ _ | refine Mod.set1 ?_ _)))
  have hsz : (cur.toList.take off ++ news ++ cur.toList.drop (off + n)).length = cur.size := by simp [hl]; omega
  have hz := fun ty => Lib.run_clear_slice W1 43 34 ty (.slice none 0 0) Try.underlying43 (fun w => by simp [zeroValue, typeInfo, hi0, hz0]) rfl rfl g (off + n) 1 (c - n) (by omega)
    (fun t ht => by rw [hB1.cell, ← Array.getElem?_toList]; simp only [List.getElem?_eq_getElem, Option.isSome_some, show off + n + t < (cur.toList.take off ++ news ++ cur.toList.drop (off + n)).length by omega]) (fun t _ => hB1.frozen _)
  have hW := Lib.hid hW1
  have HB := Lib.hid hB1
  have HM := Lib.hid hM1
  have HE := Lib.hid he
  have HU := Lib.hid hnews
  have HC := Lib.hid h4
  have HS := Lib.hid hsz
  have HN := Lib.hid hn
  have i1 : (1 : Int) ≤ (n : Int) + 1 := by omega
  clear hW1 hB1 hM1 he hnews hl hcell hb h4 hsz hlen hn
  go_enter Try.func27, Try.ntmps27
  go_wp2_with fail
  go_region_law (refine step_append_room rfl (.tmp 22) (.tmp 25) 43 rfl 34 i0 1 Try.underlying43 hi0 hz1 g off 0 c (by simp [Act.eval, Act.put]) A n (c - 1) news (by simp [Act.eval, Act.put]) s1.out hsrc.out s2.out (by omega) s3.out ?_; rw [← hW.out])
  go_wp2
  go_ret
  have hcur : (cur.toList.take off).length = off := by simp; omega
  have hl : news.length = n := by simpa using s1.out
  have hBf := HB.out.set_ (off + n) (.slice none 0 0)
  have hMf : Mod (fun k => k = g) w (W1.setCell ⟨g, off + n, none⟩ (.slice none 0 0)) := HM.out.set1 _
  refine ⟨_, _, rfl, ⟨news, ?_, .inr ⟨g, off, c, _, by rw [HN.out], hF, hBf, ?_, by rw [HN.out]; omega, h3, ?_⟩⟩, hMf.mono fun k _ hk => by rw [hk]; rfl⟩
  · have h5 : RdE Rc (fun k => F k ∧ (Value.slice (some ⟨g, off, none⟩) (d :: ds).length c).ownBlock ≠ some k) w (us.drop 1) ds := by simpa [Rep.sl] using HE.out.drop 1
    rw [HU.out]
    refine RdE.keep h5 fun k hk ha => ⟨⟨ha.1, fun h => ha.2 ?_⟩, hMf.block k hk fun hkg => ha.2 (by rw [hkg]; rfl)⟩
    simpa [Value.ownBlock] using h
  · have := HS.out
    simp only [Array.size_setIfInBounds, List.size_toArray, this]
    exact h1
  · rw [HN.out, Array.toList_setIfInBounds, List.drop_set, if_neg (by omega), Nat.add_sub_cancel_left, List.take_set_of_le (Nat.le_refl _), List.append_assoc, List.drop_append, hcur, Nat.sub_self, List.drop_eq_nil_of_le (by omega), List.nil_append, List.drop_zero, List.take_append_of_le_length (by omega), List.take_of_length_le (by omega)]
end Go.Proofs.Ytefcafohhppmbaa
