/- With IUTF8 each character of a text is one, without it each byte is, walked: the law answers true for every argument. Conditions: the setting is one. -/
import Derived.Test.YtilmkghopeoipaaU10
import Derived.Test.YtilmkghopeoipaaR10
import Derived.Test.YtilmkghopeoipaaMoS
namespace Go.Proofs.Ytilmkghopeoipaa
open Go.RowKit Go.Kb

theorem txt_ri {w : World} {n : Nat} (s : ByteArray) (cap : Nat) (e : TypeId) (fr : Nat × Nat) (hn : w.heap.size = n) (h1 : s.size ≤ cap) (h2 : cap ≤ maxLen) : RI .u8 (w.alloc (.cells (bytesRow s cap) e fr)) (.slice (some ⟨n, 0, none⟩) s.size cap) (txt s) := by
  subst hn
  refine ⟨by simp, _, cap, by rw [txt_len], by rw [txt_len]; exact h1, h2, .inr ⟨_, _, rfl, fun j u hu => ?_⟩⟩
  have h : (w.alloc (.cells (bytesRow s cap) e fr)).cell? ⟨w.heap.size, 0 + j, none⟩ = (bytesRow s cap)[0 + j]? := cell_of_row _ _ _ _ e fr (heap_alloc_new w _)
  rw [h, Nat.zero_add]
  simp only [txt, List.map_map, List.getElem?_map] at hu
  cases hj : s.data.toList[j]? with
  | none => rw [hj] at hu; cases hu
  | some b =>
    rw [hj] at hu
    rw [Array.getElem?_toList] at hj
    obtain ⟨hlt, hb⟩ := Array.getElem?_eq_some_iff.1 hj
    rw [bytesRow_at s cap j hlt, hb]
    simpa using hu
theorem txt_rds {w : World} {n : Nat} (s : ByteArray) (cap : Nat) (e : TypeId) (fr : Nat × Nat) (hn : w.heap.size = n) (h1 : s.size ≤ cap) (h2 : cap ≤ maxLen) : RdS Ub (fun k => k = n) (w.alloc (.cells (bytesRow s cap) e fr)) (.slice (some ⟨n, 0, none⟩) s.size cap) (txt s) :=
  ⟨RI.y (txt_ri s cap e fr hn h1 h2), fun _ k hk => by simp only [Value.ownBlock, Option.some.injEq] at hk; exact hk.symm⟩
/-- an iterator's next step -/
theorem run_next_at {P : Program} {w : World} {g pos : Nat} {s : ByteArray} (hb : w.heap[g]? = some (.stringIter s pos)) (h : pos < s.size) : ∃ w', (∀ ty, (Instr.next (.pointer (some ⟨g, 0, none⟩)) true ty).run P w = .ok (.tuple #[.bool true, .int .i64 pos, .int .i32 (Utf8.decode s pos).1]) w') ∧
    Mod (fun k => k = g) w w' ∧ w'.heap[g]? = some (.stringIter s (pos + (Utf8.decode s pos).2)) := by
  refine ⟨{ w with heap := w.heap.setIfInBounds g (.stringIter s (pos + (Utf8.decode s pos).2)) }, fun ty => ?_, ⟨rfl, rfl, rfl, by simp, fun k _ hk => ?_⟩, ?_⟩
  · simp only [Instr.next, getObj, setObj, Sem.run_bind, Sem.run, hb, Result.andThen, h, if_true]
    simp [goInt]
  · simp [Ne.symm hk]
  · have := (Array.getElem?_eq_some_iff.1 hb).1
    simp [this]
theorem run_next_over {P : Program} {w : World} {g pos : Nat} {s : ByteArray} (hb : w.heap[g]? = some (.stringIter s pos)) (h : ¬ pos < s.size) : ∀ ty, (Instr.next (.pointer (some ⟨g, 0, none⟩)) true ty).run P w = .ok (.tuple #[.bool false]) w := by
  intro ty
  simp [Instr.next, getObj, Sem.run, hb, h]
theorem flag42 : flagL 42 = true := by decide +kernel
theorem hasL_42 {t : Tm} (h : t.Ok) (on : Bool) : hasL (setL t 42 on) 42 = on := by rw [hasL_setL h, if_pos ⟨flag42, rfl⟩]
set_option maxHeartbeats 3000000 in
set_option maxRecDepth 100000 in
theorem editorText_walk (t : Tm) (s : ByteArray) (w : World) (h : t.Ok) : Calls Try.prog 5 #[.agg t.arr, .string s] w fun e w' => e = .returned (.bool true) ∧ Ext w w' := by
  have hsz := t.size h
  have CS := Lib.hid fun on w' => set_any t 42 on w' h
  have CT : ∀ on v w', s.size ≤ 600 → RI .u8 w' v (txt s) → Calls Try.prog 13 #[.agg (setL t 42 on).arr, v] w' fun e w'' =>
      ∃ A c, e = .returned (.slice A (unitsL on (txt s)).length c) ∧ OwnS Lb 27 (w'.heap.size + 1) (fun k => w'.heap.size + 1 ≤ k) w'' (.slice A (unitsL on (txt s)).length c) (unitsL on (txt s)) ∧ Ext w' w'' := fun on v w' hs hr => by
    have := units_any (setL t 42 on) v (txt s) w' (setL_ok h 42 on) hr (txt_bs s) (by rw [txt_len]; omega)
    rw [hasL_42 h on] at this
    exact this
  have CT := Lib.hid CT
  generalize t.arr = cs at CS hsz ⊢
  have hi : (Try.prog.info? 26).map (·.size) = some cs.size := by rw [hsz]; kernel_rfl
  have hT := Lib.hid (Blk.new w 26 cs)
  have HCV : ∀ (b : ByteArray) w', (convert 9 27 (.string b)).run Try.prog w' = _ := fun b w' => run_bytes_of_string w' 9 27 5 b Try.underlying9 Try.underlying27 Try.underlying5
  clear h
  by_cases hbig : 600 < s.size
  · have hb : (600 : Int) < s.size := by omega
    go_enter Try.func5, Try.ntmps5
    go_wp2_with fail
    refine (alive_any _).mono ?_
    rintro e w1 ⟨rfl, E1⟩
    go_wp2
    go_ret
    exact ⟨rfl, (by repeat (first | with_reducible exact Ext.refl _ | refine Ext.drewN ?_ _ | refine Ext.drew ?_ | refine Ext.alloc ?_ _ | assumption | (refine Below.trans ?_ (by assumption)) | (refine Ext.trans ?_ (by assumption)) | (refine Below.trans ?_ (Below.mono (by assumption) (by omega)))))⟩
  have hb : ¬ ((600 : Int) < s.size) := by omega
  go_enter Try.func5, Try.ntmps5
  go_wp2_with fail
  refine (alive_any _).mono ?_
  rintro e w1 ⟨rfl, E1⟩
  go_wp2_with (refine wpList_load_row rfl 26 _ rfl _ rfl 26 _ _ _ (Blk.ext hT.out (by repeat (first | with_reducible exact Ext.refl _ | refine Ext.drewN ?_ _ | refine Ext.drew ?_ | refine Ext.alloc ?_ _ | assumption | (refine Below.trans ?_ (by assumption)) | (refine Ext.trans ?_ (by assumption)) | (refine Below.trans ?_ (Below.mono (by assumption) (by omega)))))) Try.underlying26 rfl hi ?_)
  refine (CS.out false _).mono ?_
  rintro e w2 ⟨rfl, E2⟩
  go_wp2_with fail
  refine (CT.out false _ _ (by omega) ?_).mono ?_
  · exact RdN.drew (txt_ri s _ _ _ rfl (grownCap_ge _ _ _ _) (grownCap_le_maxLen _ _ _ _ (by simp [maxLen]; omega)))
  rw [units_false_len _ _ (txt_len s)]
  rintro e w3 ⟨A3, c3, rfl, O3, E3⟩
  have hT3 := Lib.hid (Blk.ext hT.out (show Ext (w.alloc (.cells cs 26)) w3 from (by repeat (first | with_reducible exact Ext.refl _ | refine Ext.drewN ?_ _ | refine Ext.drew ?_ | refine Ext.alloc ?_ _ | assumption | (refine Below.trans ?_ (by assumption)) | (refine Ext.trans ?_ (by assumption)) | (refine Below.trans ?_ (Below.mono (by assumption) (by omega)))))))
  have E03 : Ext w w3 := (by repeat (first | with_reducible exact Ext.refl _ | refine Ext.drewN ?_ _ | refine Ext.drew ?_ | refine Ext.alloc ?_ _ | assumption | (refine Below.trans ?_ (by assumption)) | (refine Ext.trans ?_ (by assumption)) | (refine Below.trans ?_ (Below.mono (by assumption) (by omega)))))
  have hz : ((s.size : Int) != s.size) = false := by simp
  clear O3
  clear E1 E2 E3
  go_wp2
  go_loopw [6] (fun sv wr => ∃ (pos n : Nat) (Ao : Option Addr) (co : Nat), pos ≤ s.size ∧ n ≤ pos ∧ sv = .slice Ao n co ∧ Hid (wr.heap[w3.heap.size]? = some (.stringIter s pos)) ∧ Hid (OwnS Lb 27 (w3.heap.size + 1) (fun k => w3.heap.size + 1 ≤ k) wr (.slice Ao n co) (unitsL true ((txt s).take pos))) ∧ Hid ((unitsL true ((txt s).take pos)).length = n) ∧ Hid (Ext w3 wr)) (fun _ wr => s.size - wr.iterPos w3.heap.size)
  case atStart =>
    refine ⟨0, 0, none, 0, Nat.zero_le _, Nat.le_refl _, rfl, Lib.hid (World.iter_heap _ _ _), Lib.hid ?_, Lib.hid ?_, Lib.hid ((Ext.refl w3).alloc _)⟩
    · rw [List.take_zero]; exact OwnS.nil _ _ _ _ _
    · rw [List.take_zero]; rfl
  case round =>
    obtain ⟨pos, n, Ao, co, hp, hnp, rfl, HI, HO, HN, HE⟩ := hrel
    have hgl := (Array.getElem?_eq_some_iff.1 HI.out).1
    by_cases hlt : pos < s.size
    · obtain ⟨wn, hnx, hM, hI2⟩ := run_next_at (P := Try.prog) HI.out hlt
      have HI2 := Lib.hid hI2
      have HO2 := Lib.hid (HO.out.mod hM (fun k hk hs => by have := (HO.out.row k hk).1; omega) fun k _ hk hs => by omega)
      have HE2 := Lib.hid (Mod.toExt HE.out hM fun k hk hs => by omega)
      have hsz2 := hM.size
      obtain ⟨c, hc⟩ : ∃ c, (Utf8.decode s pos).1 = c := ⟨_, rfl⟩
      obtain ⟨wd, hwd⟩ : ∃ wd, (Utf8.decode s pos).2 = wd := ⟨_, rfl⟩
      have hcl := decode_le s pos
      have hch := fun h => chr_next (s := s) hlt h
      rw [hc, hwd] at hch
      rw [hc] at hnx hcl
      rw [hwd] at HI2
      have HC := Lib.hid hch
      clear hI2 hM hch hc hwd
      by_cases hbad : c = 65533
      · subst hbad
        go_wp2
        go_ret
        exact ⟨rfl, E03.trans HE2.out⟩
      · obtain ⟨k1, k2, k3, k4⟩ := HC.out hbad
        obtain ⟨E, hE⟩ : ∃ E, Utf8.encode (c : Int) = E := ⟨_, rfl⟩
        rw [hE] at k3 k4
        have hE1 : E.size ≤ 4 := by rw [← hE]; exact encode_size_le _
        have hrs : (convert 38 9 (.slice (some ⟨wn.heap.size, 0, none⟩) 1 1)).run Try.prog (wn.alloc (.cells #[.int .i32 c] 21)) = .ok (.string E) (wn.alloc (.cells #[.int .i32 c] 21)) := by
          have := run_convert_runes (P := Try.prog) (wn.alloc (.cells #[.int .i32 c] 21)) 38 9 21 ⟨wn.heap.size, 0, none⟩ 1 1 [(c : Int)] (by simp) Try.underlying38 Try.underlying21 Try.underlying9 (fun j hj => by
            obtain rfl : j = 0 := by simpa using hj
            exact (Blk.at_ (w := wn) 21 #[.int .i32 c] rfl).cell 0)
          rw [this, ← hE]
          simp [runesBytes]
        have K3 := Lib.hid k3
        have K4 := Lib.hid k4
        have hu2 : unitsL true ((txt s).take (pos + wd)) = unitsL true ((txt s).take pos) ++ [txt E] := by rw [K4.out]; exact units_snoc K3.out
        have HU2 := Lib.hid hu2
        clear k3 k4 hE hu2
        have hr2 := HO2.out.row
        have HR2 := Lib.hid hr2
        have hs3 : w3.heap.size + 1 ≤ wn.heap.size := by omega
        have hn600 : n ≤ 600 := by omega
        clear hr2
        go_wp2_with (at_builtin; go_loud (refine wpList_app (e := Lb) (base := w3.heap.size + 1) (B := fun k => w3.heap.size + 1 ≤ k) (A := fun k => k = wn.heap.size + 1) rfl (.tmp 31) (.tmp 36) rfl Try.underlying35 info_lb rfl (OwnS.ext HO2.out (by repeat (first | with_reducible exact Ext.refl _ | refine Ext.drewN ?_ _ | refine Ext.drew ?_ | refine Ext.alloc ?_ _ | assumption | (refine Below.trans ?_ (by assumption)) | (refine Ext.trans ?_ (by assumption)) | (refine Below.trans ?_ (Below.mono (by assumption) (by omega)))))) rfl (RdY.singleB (cs := [.slice (some ⟨wn.heap.size + 1, 0, none⟩) E.size _]) (lb_rel (RdS.ext (txt_rds E _ 5 _ (by simp only [World.size_alloc]) (grownCap_ge _ _ _ _) (grownCap_le_maxLen _ _ _ _ (by unfold maxLen; omega))) (((Ext.refl _).alloc _).drew))) (Blk.drew (Blk.at_ _ _ (by simp only [World.size_alloc])))) rfl (fun k _ hk => ⟨by omega, fun h => by have := (HR2.out k h).2; omega⟩) (N := n + 1) (by rw [List.length_singleton, HN.out]) (by unfold maxLen; omega) (by omega) (by simp only [World.size_alloc, World.size_drew]; omega) ?_; intro A5 c5 w5 O5 M5 B5))
        have BB : Below (w3.heap.size + 1) wn w5 := Below.trans (Below.mono (((((Ext.refl wn).alloc _).alloc _).alloc _).drew) hs3) B5
        have HI5 := Lib.hid ((BB.block w3.heap.size (by omega)).trans HI2.out)
        have E35 : Ext w3 w5 := HE2.out.trans_below BB (by omega)
        have HO5 := Lib.hid (show OwnS Lb 27 (w3.heap.size + 1) (fun k => w3.heap.size + 1 ≤ k) w5 (.slice A5 (n + 1) c5) (unitsL true ((txt s).take (pos + wd))) by rw [HU2.out]; exact O5)
        clear O5 M5 B5 BB
        go_roundw
        case rel => exact ⟨pos + wd, n + 1, A5, c5, k1, by omega, rfl, HI5, HO5, Lib.hid (by rw [HU2.out, List.length_append, HN.out]; rfl), Lib.hid E35⟩
        case measure => simp only [World.iterPos, HI5.out, HI.out]; omega
    · have hnx := run_next_over (P := Try.prog) HI.out hlt
      have hall : (txt s).take pos = txt s := List.take_of_length_le (by rw [txt_len]; omega)
      rw [hall] at HO HN
      have hT := Lib.hid (hT3.out.ext HE.out)
      have E0r : Ext w wr := E03.trans HE.out
      clear hall hT3 E03
      go_wp2_with (refine wpList_load_row rfl 26 _ rfl _ rfl 26 _ _ _ (Blk.ext hT.out (by repeat (first | with_reducible exact Ext.refl _ | refine Ext.drewN ?_ _ | refine Ext.drew ?_ | refine Ext.alloc ?_ _ | assumption | (refine Below.trans ?_ (by assumption)) | (refine Ext.trans ?_ (by assumption)) | (refine Below.trans ?_ (Below.mono (by assumption) (by omega)))))) Try.underlying26 rfl hi ?_)
      refine (CS.out true _).mono ?_
      rintro e w7 ⟨rfl, E7⟩
      have E7r : Ext wr w7 := (by repeat (first | with_reducible exact Ext.refl _ | refine Ext.drewN ?_ _ | refine Ext.drew ?_ | refine Ext.alloc ?_ _ | assumption | (refine Below.trans ?_ (by assumption)) | (refine Ext.trans ?_ (by assumption)) | (refine Below.trans ?_ (Below.mono (by assumption) (by omega)))))
      go_wp2_with fail
      refine (CT.out true _ _ (by omega) ?_).mono ?_
      · exact RdN.drew (txt_ri s _ _ _ rfl (grownCap_ge _ _ _ _) (grownCap_le_maxLen _ _ _ _ (by unfold maxLen; omega)))
      rintro e w8 ⟨A8, c8, rfl, O8, E8⟩
      have O8 := Lib.hid O8
      have E8r : Ext wr w8 := E7r.trans (((Ext.alloc (Ext.refl w7) _).drew).trans E8)
      go_wp2_with fail
      refine (lists_y (B := fun _ => True) _ _ (unitsL true (txt s)) (unitsL true (txt s)) _ (O8.out.rdT.y.ext (by repeat (first | with_reducible exact Ext.refl _ | refine Ext.drewN ?_ _ | refine Ext.drew ?_ | refine Ext.alloc ?_ _ | assumption | (refine Below.trans ?_ (by assumption)) | (refine Ext.trans ?_ (by assumption)) | (refine Below.trans ?_ (Below.mono (by assumption) (by omega)))))) ?_).mono ?_
      · have := HO.out.rdT.y.ext E8r
        exact this
      rintro e w9 ⟨rfl, E9⟩
      simp only [decide_true]
      go_wp2
      go_ret
      exact ⟨rfl, (E0r.trans E8r).trans E9⟩
end Go.Proofs.Ytilmkghopeoipaa
