/- One process deleted (slices.Delete at i, i+1), by contract. Condition: few processes. -/
import Derived.Test.YtmpmnikgbepphaaQ20
import Derived.Test.YtmpmnikgbepphaaTail
import Derived.Lib.SliceRun
namespace Go.Proofs.Ytmpmnikgbepphaa
open Go.RowKit Go.Kb

/-- clear, of elements of many cells -/
theorem run_clear_row {P : Program} (w : World) (t e ty : TypeId) (z : Value) (ht : P.underlying t = some (.slice e)) (hv : ∀ w, (zeroValue e).run P w = .ok z w) (b o n c : Nat) (hn : 0 < n) (L : List Value) (hL : (Builtin.zeroCells z.cells n).toList = L) (h1 : ∀ u ∈ L, u.oneCell' = true)
    (hc : ∀ j, j < L.length → (w.cell? ⟨b, o + j, none⟩).isSome = true) (hf : ∀ j, j < L.length → w.frozen? ⟨b, o + j, none⟩ = false) :
    (Builtin.clear_ #[t] ty #[.slice (some ⟨b, o, none⟩) n c]).run P w = .ok (.tuple #[]) (w.setCells b o L) := by
  have hst := run_storeCells_cells (P := P) b o L 0 w (by simpa using hc) (by simpa using hf) h1
  simp only [Nat.add_zero] at hst
  obtain ⟨m, rfl⟩ : ∃ m, n = m + 1 := ⟨n - 1, by omega⟩
  simp [Builtin.clear_, run_underlying ht, hv, hL, hst]
set_option maxRecDepth 100000 in
theorem zero_one : (Builtin.zeroCells (Value.agg zeroP.cells.toArray).cells 1).toList = zeroP.cells := by kernel_rfl
set_option maxRecDepth 100000 in
set_option maxHeartbeats 800000 in
theorem delete_any {base : Nat} (g c n i : Nat) (l : List Pr) (w : World) (h : OwnS Rp 43 base (fun _ => False) w (.slice (some ⟨g, 0, none⟩) n c) l) (hi : i < n) (hn : n ≤ 100000) :
    Calls Try.prog 65 #[.slice (some ⟨g, 0, none⟩) n c, .int .i64 i, .int .i64 (i + 1 : Nat)] w fun e w' => e = .returned (.slice (some ⟨g, 0, none⟩) (n - 1) c) ∧ OwnS Rp 43 base (fun _ => False) w' (.slice (some ⟨g, 0, none⟩) (n - 1) c) (l.eraseIdx i) ∧ Mod (fun k => k = g) w w' := by
  have H := Lib.hid h
  obtain ⟨us, ho, he⟩ := h
  have hln := own_len ho
  obtain ⟨hul, ⟨hv, _⟩ | ⟨g', cap, cur, hv, hb0, hb, hcap, hmax, hcs, htk⟩⟩ := ho
  · cases hv
  cases hv
  clear hln
  obtain ⟨n, hN⟩ : ∃ n, l.length = n := ⟨_, rfl⟩
  obtain ⟨i0, hi0, hz0, hz1, hz2⟩ := info_parts info_pr
  have hz1 : i0.size = 43 := hz1
  obtain ⟨m, hm⟩ : ∃ m, l.length - (i + 1) = m := ⟨_, rfl⟩
  obtain ⟨news, hnews⟩ : ∃ news, news = us.drop ((i + 1) * 43) := ⟨_, rfl⟩
  have hul : us.length = l.length * 43 := hul
  have hcs : cur.size = c * 43 := hcs
  have htk : List.take (l.length * 43) cur.toList = us := htk
  have hl : news.length = m * 43 := by rw [hnews, List.length_drop, hul, ← hm]; omega
  have hb : Blk w g 43 cur := hb
  have hcell : ∀ j u, us[j]? = some u → w.cell? ⟨g, j, none⟩ = some u := by
    intro j u hu
    have hj := (List.getElem?_eq_some_iff.1 hu).1
    rw [hb.cell, ← Array.getElem?_toList, ← hu, ← htk, List.getElem?_take, if_pos (by rw [← hul]; exact hj)]
  have hsrc : Hid (∀ j u, news[j]? = some u → w.drew.cell? ⟨g, (i + 1) * 43 + j, none⟩ = some u) := Lib.hid fun j u hu => by
    rw [hnews, List.getElem?_drop] at hu
    exact hcell _ u hu
  have s2 : Hid (∀ u ∈ news, u.oneCell' = true) := fun u hu => he.one u (by rw [hnews] at hu; exact List.mem_of_mem_drop hu)
  have s3 : Hid (∀ t, t < news.length → (w.drew.cell? ⟨g, 0 + i * 43 + t, none⟩).isSome = true ∧ w.drew.frozen? ⟨g, 0 + i * 43 + t, none⟩ = false) := by
    intro t ht
    refine ⟨?_, hb.frozen _⟩
    show (w.cell? _).isSome = true
    rw [hb.cell]
    simp
    omega
  obtain ⟨W1, hW1⟩ : ∃ W1, W1 = w.drew.setCells g (0 + i * 43) news := ⟨_, rfl⟩
  have hB1 : Blk W1 g 43 (cur.toList.take (0 + i * 43) ++ news ++ cur.toList.drop (0 + i * 43 + news.length)).toArray := by
    rw [hW1]
    exact Blk.setCells news (0 + i * 43) w.drew cur hb (by omega)
  have hM1 : Mod (fun k => k = g) w W1 := by rw [hW1]; exact Mod.setCells _ _ _ _ (by exact (by repeat (first | with_reducible exact Mod.refl _ _ | refine Mod.drew ?_ | refine Mod.drewN ?_ _ | refine Mod.set1 ?_ _)))
  obtain ⟨A, hA, hsA⟩ : ∃ A : Addr, (if c = i + 1 then (some ⟨g, 0, none⟩ : Option Addr) else some ⟨g, (i + 1) * 43, none⟩) = some A ∧ Hid (∀ j u, news[j]? = some u → w.drew.cell? (A.add j) = some u) := by
    by_cases h : c = i + 1
    · refine ⟨_, if_pos h, fun j u hu => ?_⟩
      have := (List.getElem?_eq_some_iff.1 hu).1
      omega
    · exact ⟨_, if_neg h, fun j u hu => by rw [Addr.add_lit]; exact hsrc.out j u hu⟩
  have hN : l.length = i + m + 1 := by omega
  have hsz : (cur.toList.take (0 + i * 43) ++ news ++ cur.toList.drop (0 + i * 43 + news.length)).length = cur.size := by simp [hl]; omega
  have hz := fun ty => run_clear_row W1 27 43 ty (.agg zeroP.cells.toArray) Try.underlying27 (fun w => by simp [zeroValue, typeInfo, hi0, hz0]) g ((i + m) * 43) 1 (c - (i + m)) (by omega) zeroP.cells zero_one (Rp.one (A := fun _ => True) (w := w) (d := zeroP) ⟨rfl, rfl⟩)
    (fun t ht => by
      have ht : t < 43 := ht
      rw [hB1.cell, ← Array.getElem?_toList]
      rw [List.getElem?_eq_getElem (by simp only [hsz, hcs]; omega)]
      rfl) (fun t _ => hB1.frozen _)
  have hW := Lib.hid hW1
  have HB := Lib.hid hB1
  have HM := Lib.hid hM1
  have HE := Lib.hid he
  have HU := Lib.hid hnews
  have HC := Lib.hid htk
  have HS := Lib.hid hsz
  have HL := Lib.hid hl
  have HK := Lib.hid hcs
  have HN := Lib.hid hN
  have HUL := Lib.hid hul
  rw [hN] at hcap hn hi ⊢
  have i1 : i ≤ i + m + 1 := by omega
  have i2 : i + 1 ≤ i + m + 1 := by omega
  have i3 : i ≤ c := by omega
  have i4 : i + m ≤ c := by omega
  have i5 : (0 : Int) ≤ (i : Int) + 1 := by omega
  have i6 : (i : Int) ≤ (i : Int) + (m : Int) := by omega
  have i7 : (0 : Int) ≤ (i : Int) + (m : Int) := by omega
  have i8 : (0 : Int) ≤ (i : Int) + (m : Int) + 1 := by omega
  have i9 : (i : Int) + (m : Int) + 1 ≤ (c : Int) := by omega
  clear hW1 hB1 hM1 he hnews hcell hb htk hsz hN hcs hl hul hsrc H
  go_enter Try.func65, Try.ntmps65
  go_wp2_with fail
  go_region_law (refine step_append_room rfl (.tmp 22) (.tmp 25) 27 rfl 43 i0 43 Try.underlying27 hi0 hz1 g 0 i c (by simp [Act.eval, Act.put]; trace_state) A m (c - (i + 1)) news (by simp [Act.eval, Act.put]; trace_state) HL.out hsA.out s2.out (by omega) s3.out ?_; rw [← hW.out])
  go_wp2
  go_ret
  have hl : news.length = m * 43 := HL.out
  have hcs : cur.size = c * 43 := HK.out
  have hs1 := HS.out
  have hN := HN.out
  have hle : (l.eraseIdx i).length = i + m := by rw [List.length_eraseIdx]; split <;> omega
  have hus : us.take (i * 43) = cur.toList.take (0 + i * 43) := by rw [← HC.out, List.take_take, Nat.min_eq_left (by omega), Nat.zero_add]
  have htl : (cur.toList.take (0 + i * 43)).length = i * 43 := by simp; omega
  have hB1 := HB.out
  obtain ⟨R, hR⟩ : ∃ R, cur.toList.drop (0 + i * 43 + news.length) = R := ⟨_, rfl⟩
  rw [hR] at hB1 hs1
  obtain ⟨L1, hL1⟩ : ∃ L1, cur.toList.take (0 + i * 43) ++ news ++ R = L1 := ⟨_, rfl⟩
  rw [hL1] at hB1 hs1
  have ht1 : L1.take ((i + m) * 43) = us.take (i * 43) ++ news := by
    rw [← hL1, hus]
    exact List.take_left' (by rw [List.length_append, htl, hl]; omega)
  have hB2 := Blk.setCells zeroP.cells ((i + m) * 43) W1 _ hB1 (by rw [List.size_toArray, hs1, hcs]; show _ + 43 ≤ _; omega)
  have hM2 : Mod (fun k => k = g) w (W1.setCells g ((i + m) * 43) zeroP.cells) := Mod.setCells _ _ _ _ HM.out
  have hto : (L1.toArray.toList.take ((i + m) * 43)).length = (i + m) * 43 := by
    rw [List.length_take]
    show min _ L1.length = _
    omega
  refine ⟨by first | rfl | simp, ⟨us.take (i * 43) ++ news, ⟨?_, .inr ⟨g, c, _, by rw [hle]; rfl, hb0, hB2, by omega, hmax, ?_, ?_⟩⟩, ?_⟩, hM2⟩
  · rw [hle, hus, List.length_append, htl, hl]
    show _ = (i + m) * 43
    omega
  · rw [List.size_toArray, List.length_append, List.length_append, hto, List.length_drop]
    show (i + m) * 43 + 43 + (L1.length - ((i + m) * 43 + 43)) = c * 43
    omega
  · rw [hle, ← ht1]
    show ((L1.take ((i + m) * 43) ++ zeroP.cells) ++ _).take ((i + m) * 43) = _
    rw [List.append_assoc]
    exact List.take_left' hto
  · have e1 := RdE.append (HE.out.take i (by omega)) (HE.out.drop (i + 1))
    have e2 : us.drop ((i + 1) * Rp.size) = news := HU.out.symm
    rw [e2, ← List.eraseIdx_eq_take_drop_succ] at e1
    exact RdE.keep e1 fun k _ hk => hk.1.elim
end Go.Proofs.Ytmpmnikgbepphaa
