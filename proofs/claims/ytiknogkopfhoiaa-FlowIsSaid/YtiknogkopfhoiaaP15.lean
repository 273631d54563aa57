/- FlowIs, walked: for every setting, flow, byte, marks and wish the law answers true. Conditions: the setting is one. -/
import Derived.Test.YtiknogkopfhoiaaO15
import Derived.Deep.MidRow
import Derived.Deep.DeepCutAuto
namespace Go.Proofs.Ytiknogkopfhoiaa
open Go.RowKit Go.Kb

/-- the argument's cells -/
def askedA (cs : Array Value) (a b : Bool) (c n lo hi k : Int) : Array Value := cs ++ #[.bool a, .bool b, .int .u8 c, .int .i64 n, .int .i64 lo, .int .i64 hi, .int .i64 k]
theorem askedA_mid {cs : Array Value} {a b : Bool} {c n lo hi k : Int} {w : World} {g : Nat} {T : TypeId} (hB : Blk w g T (askedA cs a b c n lo hi k)) : w.rangeAt g 0 cs.toList := by
  intro j x hj
  have hj' : cs[j]? = some x := by simpa using hj
  have hlt : j < cs.size := (Array.getElem?_eq_some_iff.1 hj').1
  rw [hB.cell (0 + j), Nat.zero_add]
  simp only [askedA]
  rw [Array.getElem?_append_left hlt]
  exact hj'
theorem askedA_at {cs : Array Value} {a b : Bool} {c n lo hi k : Int} (h : cs.size = 24) : (askedA cs a b c n lo hi k)[24]? = some (.bool a) ∧ (askedA cs a b c n lo hi k)[25]? = some (.bool b) ∧ (askedA cs a b c n lo hi k)[26]? = some (.int .u8 c) ∧
    (askedA cs a b c n lo hi k)[27]? = some (.int .i64 n) ∧ (askedA cs a b c n lo hi k)[28]? = some (.int .i64 lo) ∧ (askedA cs a b c n lo hi k)[29]? = some (.int .i64 hi) ∧ (askedA cs a b c n lo hi k)[30]? = some (.int .i64 k) := by
  simp only [askedA]
  refine ⟨?_, ?_, ?_, ?_, ?_, ?_, ?_⟩ <;>
  · rw [Array.getElem?_append_right (by omega)]
    simp [h]
set_option maxRecDepth 100000 in
set_option maxHeartbeats 4000000 in
theorem flowIs_walk (t : Tm) (a b : Bool) (c n lo hi k : Int) (w : World) (ht : t.Ok) : Calls Try.prog 3 #[.agg (askedA t.arr a b c n lo hi k)] w fun e w' => e = .returned (.bool true) ∧ Ext w w' := by
  have hn := t.size ht
  have hTy := fun w' => typed_any t a b c w' ht
  have hRy := fun w' => rtyped_any t a b c w' ht
  have hMk := fun w' => mark_any t a b n lo hi w' ht
  have hRm := fun w' => rmark_any t a b n lo hi w' ht
  have hAk := fun w' => ask_any t a b k w' ht
  have hRa := fun w' => rask_any t a b k w' ht
  generalize typedL t a b c = y at hTy hRy
  generalize markL t b n lo hi = m at hMk hRm
  generalize askL t a b k = s at hAk hRa
  obtain ⟨y1, y2, y3⟩ := y
  obtain ⟨m1, m2⟩ := m
  obtain ⟨s1, s2, s3, s4⟩ := s
  simp only at hTy hRy hMk hRm hAk hRa
  generalize t.arr = cs at *
  clear ht
  have hil : (Try.prog.info? 26).map (·.size) = some cs.toList.length := by rw [Array.length_toList, hn]; kernel_rfl
  have hiF : (Try.prog.info? 32).map (·.size) = some 2 := by kernel_rfl
  have hiG : (Try.prog.info? 33).map (·.size) = some 2 := by kernel_rfl
  have hT := Lib.hid (Blk.new w 30 (askedA cs a b c n lo hi k))
  have hA := askedA_at (a := a) (b := b) (c := c) (n := n) (lo := lo) (hi := hi) (k := k) hn
  generalize hq : askedA cs a b c n lo hi k = qs at *
  have HQ := Lib.hid hq
  clear hq hn
  go_enter Try.func3, Try.ntmps3
  (go_wp2_with fail; refine (alive_any _).mono ?_; rintro e w1 ⟨rfl, E1⟩)
  have T1 := hT.out.ext E1
  have E01 : Ext w w1 := (by repeat (first | with_reducible exact Ext.refl _ | refine Ext.drewN ?_ _ | refine Ext.drew ?_ | refine Ext.alloc ?_ _ | assumption | (refine Below.trans ?_ (by assumption)) | (refine Ext.trans ?_ (by assumption)) | (refine Below.trans ?_ (Below.mono (by assumption) (by omega)))))
  have TM := Lib.hid fun w' (hE : Ext w1 w') => askedA_mid (w := w') (by rw [HQ.out]; exact T1.ext hE)
  have KK : Hid (∀ w', Ext w1 w' → w'.cell? ⟨w.heap.size, 26, none⟩ = some (.int .u8 c) ∧ w'.cell? ⟨w.heap.size, 27, none⟩ = some (.int .i64 n) ∧ w'.cell? ⟨w.heap.size, 28, none⟩ = some (.int .i64 lo) ∧ w'.cell? ⟨w.heap.size, 29, none⟩ = some (.int .i64 hi) ∧ w'.cell? ⟨w.heap.size, 30, none⟩ = some (.int .i64 k)) := Lib.hid fun w' hE => by
    have hb := T1.ext hE
    obtain ⟨h24, h25, h26, h27, h28, h29, h30⟩ := hA
    exact ⟨by rw [hb.cell, h26], by rw [hb.cell, h27], by rw [hb.cell, h28], by rw [hb.cell, h29], by rw [hb.cell, h30]⟩
  have c24 := T1.cell 24
  have c25 := T1.cell 25
  rw [hA.1] at c24
  rw [hA.2.1] at c25
  have hlt := T1.lt
  clear E1 hT hA T1
  go_upto_region 3 with fail
  go_cut [3, 4] (fun s3 s4 wx => ∃ g3 g4, s3 = .pointer (some ⟨g3, 0, none⟩) ∧ s4 = .pointer (some ⟨g4, 0, none⟩) ∧ Blk wx g3 32 #[.bool a, .bool b] ∧ Blk wx g4 33 #[.bool a, .bool b] ∧ Ext w1 wx)
  case first =>
    go_region_law (fail)
    all_goals (go_wp2_with fail; go_meet)
    all_goals first
      | exact ⟨w1.heap.size, w1.heap.size + 1, rfl, rfl, Blk.drew ((Blk.new w1 _ _).alloc _), Blk.drew (Blk.at_ _ _ (by simp)), (by repeat (first | with_reducible exact Ext.refl _ | refine Ext.drewN ?_ _ | refine Ext.drew ?_ | refine Ext.alloc ?_ _ | assumption | (refine Below.trans ?_ (by assumption)) | (refine Ext.trans ?_ (by assumption)) | (refine Below.trans ?_ (Below.mono (by assumption) (by omega)))))⟩
      | exact ⟨w1.heap.size + 1, w1.heap.size, rfl, rfl, Blk.drew (Blk.at_ _ _ (by simp)), Blk.drew ((Blk.new w1 _ _).alloc _), (by repeat (first | with_reducible exact Ext.refl _ | refine Ext.drewN ?_ _ | refine Ext.drew ?_ | refine Ext.alloc ?_ _ | assumption | (refine Below.trans ?_ (by assumption)) | (refine Ext.trans ?_ (by assumption)) | (refine Below.trans ?_ (Below.mono (by assumption) (by omega)))))⟩
  case rest =>
    obtain ⟨g3, g4, rfl, rfl, X3, X4, EE⟩ := hcut
    have X3 := Lib.hid X3
    have X4 := Lib.hid X4
    obtain ⟨k26, k27, k28, k29, k30⟩ := KK.out _ EE
    clear c24 c25
    go_wp2_with (first | (refine wpList_load_mid rfl 26 _ rfl w.heap.size 0 rfl cs.toList _ (TM.out _ EE) Try.underlying26 rfl hil ?_; simp only [Array.toArray_toList]) | (refine wpList_load_row rfl 32 _ rfl _ rfl 32 _ _ _ X3.out Try.underlying32 rfl hiF ?_))
    refine (hTy _).mono ?_
    rintro e w5 ⟨rfl, Ew5⟩
    have EE := Ext.trans EE Ew5
    have X3 := Lib.hid (X3.out.ext Ew5)
    have X4 := Lib.hid (X4.out.ext Ew5)
    obtain ⟨k26, k27, k28, k29, k30⟩ := KK.out _ EE
    clear Ew5
    go_wp2_with (first | ((refine wpList_store_A rfl 32 _ _ rfl w5.heap.size _ rfl rfl 32 _ (show Blk _ _ _ _ from Blk.at_ _ _ (by simp)) hiF rfl (by simp [Value.oneCell']) ?_; intro w6 Hw6 Ew6; have Ew6 := Ew6 w5.heap.size w5 (by repeat (first | with_reducible exact Ext.refl _ | refine Ext.drewN ?_ _ | refine Ext.drew ?_ | refine Ext.alloc ?_ _ | assumption | (refine Below.trans ?_ (by assumption)) | (refine Ext.trans ?_ (by assumption)) | (refine Below.trans ?_ (Below.mono (by assumption) (by omega))))) (Nat.le_refl _); have Hw6 := Lib.hid Hw6); have EE := Ext.trans EE Ew6; have X3 := Lib.hid (X3.out.ext Ew6); have X4 := Lib.hid (X4.out.ext Ew6); obtain ⟨k26, k27, k28, k29, k30⟩ := KK.out _ EE; have P1 := Hw6) | (refine wpList_load_mid rfl 26 _ rfl w.heap.size 0 rfl cs.toList _ (TM.out _ EE) Try.underlying26 rfl hil ?_; simp only [Array.toArray_toList]) | (refine wpList_load_row rfl 33 _ rfl _ rfl 33 _ _ _ X4.out Try.underlying33 rfl hiG ?_))
    refine (hRy _).mono ?_
    rintro e w7 ⟨rfl, Ew7⟩
    have EE := Ext.trans EE Ew7
    have X3 := Lib.hid (X3.out.ext Ew7)
    have X4 := Lib.hid (X4.out.ext Ew7)
    have P1 := Lib.hid (P1.out.ext Ew7)
    obtain ⟨k26, k27, k28, k29, k30⟩ := KK.out _ EE
    clear Ew7
    go_wp2_with (first | ((refine wpList_store_A rfl 33 _ _ rfl w7.heap.size _ rfl rfl 33 _ (show Blk _ _ _ _ from Blk.at_ _ _ (by simp)) hiG rfl (by simp [Value.oneCell']) ?_; intro w8 Hw8 Ew8; have Ew8 := Ew8 w7.heap.size w7 (by repeat (first | with_reducible exact Ext.refl _ | refine Ext.drewN ?_ _ | refine Ext.drew ?_ | refine Ext.alloc ?_ _ | assumption | (refine Below.trans ?_ (by assumption)) | (refine Ext.trans ?_ (by assumption)) | (refine Below.trans ?_ (Below.mono (by assumption) (by omega))))) (Nat.le_refl _); have Hw8 := Lib.hid Hw8); have EE := Ext.trans EE Ew8; have X3 := Lib.hid (X3.out.ext Ew8); have X4 := Lib.hid (X4.out.ext Ew8); have P1 := Lib.hid (P1.out.ext Ew8); obtain ⟨k26, k27, k28, k29, k30⟩ := KK.out _ EE; have P2 := Hw8) | (refine wpList_load_mid rfl 26 _ rfl w.heap.size 0 rfl cs.toList _ (TM.out _ EE) Try.underlying26 rfl hil ?_; simp only [Array.toArray_toList]) | (refine wpList_load_row rfl 32 _ rfl _ rfl 32 _ _ _ X3.out Try.underlying32 rfl hiF ?_))
    refine (hMk _).mono ?_
    rintro e w9 ⟨AR1, cR1, rfl, R1, -, Ew9⟩
    have EE := Ext.trans EE Ew9
    have X3 := Lib.hid (X3.out.ext Ew9)
    have X4 := Lib.hid (X4.out.ext Ew9)
    have P1 := Lib.hid (P1.out.ext Ew9)
    have P2 := Lib.hid (P2.out.ext Ew9)
    obtain ⟨k26, k27, k28, k29, k30⟩ := KK.out _ EE
    have R1 := Lib.hid R1
    clear Ew9
    go_wp2_with (first | ((refine wpList_store_A rfl 32 _ _ rfl w9.heap.size _ rfl rfl 32 _ (show Blk _ _ _ _ from Blk.at_ _ _ (by simp)) hiF rfl (by simp [Value.oneCell']) ?_; intro w10 Hw10 Ew10; have Ew10 := Ew10 w9.heap.size w9 (by repeat (first | with_reducible exact Ext.refl _ | refine Ext.drewN ?_ _ | refine Ext.drew ?_ | refine Ext.alloc ?_ _ | assumption | (refine Below.trans ?_ (by assumption)) | (refine Ext.trans ?_ (by assumption)) | (refine Below.trans ?_ (Below.mono (by assumption) (by omega))))) (Nat.le_refl _); have Hw10 := Lib.hid Hw10); have EE := Ext.trans EE Ew10; have X3 := Lib.hid (X3.out.ext Ew10); have X4 := Lib.hid (X4.out.ext Ew10); have P1 := Lib.hid (P1.out.ext Ew10); have P2 := Lib.hid (P2.out.ext Ew10); have R1 := Lib.hid (RdN.ext R1.out Ew10); obtain ⟨k26, k27, k28, k29, k30⟩ := KK.out _ EE; have P3 := Hw10) | (refine wpList_load_mid rfl 26 _ rfl w.heap.size 0 rfl cs.toList _ (TM.out _ EE) Try.underlying26 rfl hil ?_; simp only [Array.toArray_toList]) | (refine wpList_load_row rfl 33 _ rfl _ rfl 33 _ _ _ X4.out Try.underlying33 rfl hiG ?_))
    refine (hRm _).mono ?_
    rintro e w11 ⟨AR2, cR2, rfl, R2, -, Ew11⟩
    have EE := Ext.trans EE Ew11
    have X3 := Lib.hid (X3.out.ext Ew11)
    have X4 := Lib.hid (X4.out.ext Ew11)
    have P1 := Lib.hid (P1.out.ext Ew11)
    have P2 := Lib.hid (P2.out.ext Ew11)
    have P3 := Lib.hid (P3.out.ext Ew11)
    have R1 := Lib.hid (RdN.ext R1.out Ew11)
    obtain ⟨k26, k27, k28, k29, k30⟩ := KK.out _ EE
    have R2 := Lib.hid R2
    clear Ew11
    go_wp2_with (first | ((refine wpList_store_A rfl 33 _ _ rfl w11.heap.size _ rfl rfl 33 _ (show Blk _ _ _ _ from Blk.at_ _ _ (by simp)) hiG rfl (by simp [Value.oneCell']) ?_; intro w12 Hw12 Ew12; have Ew12 := Ew12 w11.heap.size w11 (by repeat (first | with_reducible exact Ext.refl _ | refine Ext.drewN ?_ _ | refine Ext.drew ?_ | refine Ext.alloc ?_ _ | assumption | (refine Below.trans ?_ (by assumption)) | (refine Ext.trans ?_ (by assumption)) | (refine Below.trans ?_ (Below.mono (by assumption) (by omega))))) (Nat.le_refl _); have Hw12 := Lib.hid Hw12); have EE := Ext.trans EE Ew12; have X3 := Lib.hid (X3.out.ext Ew12); have X4 := Lib.hid (X4.out.ext Ew12); have P1 := Lib.hid (P1.out.ext Ew12); have P2 := Lib.hid (P2.out.ext Ew12); have P3 := Lib.hid (P3.out.ext Ew12); have R1 := Lib.hid (RdN.ext R1.out Ew12); have R2 := Lib.hid (RdN.ext R2.out Ew12); obtain ⟨k26, k27, k28, k29, k30⟩ := KK.out _ EE; have P4 := Hw12) | (refine wpList_load_mid rfl 26 _ rfl w.heap.size 0 rfl cs.toList _ (TM.out _ EE) Try.underlying26 rfl hil ?_; simp only [Array.toArray_toList]) | (refine wpList_load_row rfl 32 _ rfl _ rfl 32 _ _ _ X3.out Try.underlying32 rfl hiF ?_))
    refine (hAk _).mono ?_
    rintro e w13 ⟨AR3, cR3, rfl, R3, Ew13⟩
    have EE := Ext.trans EE Ew13
    have X3 := Lib.hid (X3.out.ext Ew13)
    have X4 := Lib.hid (X4.out.ext Ew13)
    have P1 := Lib.hid (P1.out.ext Ew13)
    have P2 := Lib.hid (P2.out.ext Ew13)
    have P3 := Lib.hid (P3.out.ext Ew13)
    have P4 := Lib.hid (P4.out.ext Ew13)
    have R1 := Lib.hid (RdN.ext R1.out Ew13)
    have R2 := Lib.hid (RdN.ext R2.out Ew13)
    obtain ⟨k26, k27, k28, k29, k30⟩ := KK.out _ EE
    have R3 := Lib.hid R3
    clear Ew13
    go_wp2_with (first | ((refine wpList_store_A rfl 32 _ _ rfl w13.heap.size _ rfl rfl 32 _ (show Blk _ _ _ _ from Blk.at_ _ _ (by simp)) hiF rfl (by simp [Value.oneCell']) ?_; intro w14 Hw14 Ew14; have Ew14 := Ew14 w13.heap.size w13 (by repeat (first | with_reducible exact Ext.refl _ | refine Ext.drewN ?_ _ | refine Ext.drew ?_ | refine Ext.alloc ?_ _ | assumption | (refine Below.trans ?_ (by assumption)) | (refine Ext.trans ?_ (by assumption)) | (refine Below.trans ?_ (Below.mono (by assumption) (by omega))))) (Nat.le_refl _); have Hw14 := Lib.hid Hw14); have EE := Ext.trans EE Ew14; have X3 := Lib.hid (X3.out.ext Ew14); have X4 := Lib.hid (X4.out.ext Ew14); have P1 := Lib.hid (P1.out.ext Ew14); have P2 := Lib.hid (P2.out.ext Ew14); have P3 := Lib.hid (P3.out.ext Ew14); have P4 := Lib.hid (P4.out.ext Ew14); have R1 := Lib.hid (RdN.ext R1.out Ew14); have R2 := Lib.hid (RdN.ext R2.out Ew14); have R3 := Lib.hid (RdN.ext R3.out Ew14); obtain ⟨k26, k27, k28, k29, k30⟩ := KK.out _ EE; have P5 := Hw14) | (refine wpList_load_mid rfl 26 _ rfl w.heap.size 0 rfl cs.toList _ (TM.out _ EE) Try.underlying26 rfl hil ?_; simp only [Array.toArray_toList]) | (refine wpList_load_row rfl 33 _ rfl _ rfl 33 _ _ _ X4.out Try.underlying33 rfl hiG ?_))
    refine (hRa _).mono ?_
    rintro e w15 ⟨AR4, cR4, rfl, R4, Ew15⟩
    have EE := Ext.trans EE Ew15
    have X3 := Lib.hid (X3.out.ext Ew15)
    have X4 := Lib.hid (X4.out.ext Ew15)
    have P1 := Lib.hid (P1.out.ext Ew15)
    have P2 := Lib.hid (P2.out.ext Ew15)
    have P3 := Lib.hid (P3.out.ext Ew15)
    have P4 := Lib.hid (P4.out.ext Ew15)
    have P5 := Lib.hid (P5.out.ext Ew15)
    have R1 := Lib.hid (RdN.ext R1.out Ew15)
    have R2 := Lib.hid (RdN.ext R2.out Ew15)
    have R3 := Lib.hid (RdN.ext R3.out Ew15)
    obtain ⟨k26, k27, k28, k29, k30⟩ := KK.out _ EE
    have R4 := Lib.hid R4
    clear Ew15
    go_wp2_with ((refine wpList_store_A rfl 33 _ _ rfl w15.heap.size _ rfl rfl 33 _ (show Blk _ _ _ _ from Blk.at_ _ _ (by simp)) hiG rfl (by simp [Value.oneCell']) ?_; intro w16 Hw16 Ew16; have Ew16 := Ew16 w15.heap.size w15 (by repeat (first | with_reducible exact Ext.refl _ | refine Ext.drewN ?_ _ | refine Ext.drew ?_ | refine Ext.alloc ?_ _ | assumption | (refine Below.trans ?_ (by assumption)) | (refine Ext.trans ?_ (by assumption)) | (refine Below.trans ?_ (Below.mono (by assumption) (by omega))))) (Nat.le_refl _); have Hw16 := Lib.hid Hw16); have EE := Ext.trans EE Ew16; have X3 := Lib.hid (X3.out.ext Ew16); have X4 := Lib.hid (X4.out.ext Ew16); have P1 := Lib.hid (P1.out.ext Ew16); have P2 := Lib.hid (P2.out.ext Ew16); have P3 := Lib.hid (P3.out.ext Ew16); have P4 := Lib.hid (P4.out.ext Ew16); have P5 := Lib.hid (P5.out.ext Ew16); have R1 := Lib.hid (RdN.ext R1.out Ew16); have R2 := Lib.hid (RdN.ext R2.out Ew16); have R3 := Lib.hid (RdN.ext R3.out Ew16); have R4 := Lib.hid (RdN.ext R4.out Ew16); obtain ⟨k26, k27, k28, k29, k30⟩ := KK.out _ EE; have P6 := Hw16; obtain ⟨P1a, P1b, -, -⟩ := P1.out.two; obtain ⟨P2a, P2b, -, -⟩ := P2.out.two; obtain ⟨P3a, P3b, -, -⟩ := P3.out.two; obtain ⟨P4a, P4b, -, -⟩ := P4.out.two; obtain ⟨P5a, P5b, -, -⟩ := P5.out.two; obtain ⟨P6a, P6b, -, -⟩ := P6.out.two)
    refine (bytes_same _ _ m2 _ R1.out R2.out).mono ?_
    rintro e w17 ⟨rfl, Ew17⟩
    have EE := Ext.trans EE Ew17
    have X3 := Lib.hid (X3.out.ext Ew17)
    have X4 := Lib.hid (X4.out.ext Ew17)
    have P1 := Lib.hid (P1.out.ext Ew17)
    have P2 := Lib.hid (P2.out.ext Ew17)
    have P3 := Lib.hid (P3.out.ext Ew17)
    have P4 := Lib.hid (P4.out.ext Ew17)
    have P5 := Lib.hid (P5.out.ext Ew17)
    have P6 := Lib.hid (P6.out.ext Ew17)
    have R1 := Lib.hid (RdN.ext R1.out Ew17)
    have R2 := Lib.hid (RdN.ext R2.out Ew17)
    have R3 := Lib.hid (RdN.ext R3.out Ew17)
    have R4 := Lib.hid (RdN.ext R4.out Ew17)
    obtain ⟨k26, k27, k28, k29, k30⟩ := KK.out _ EE
    obtain ⟨P1a, P1b, -, -⟩ := P1.out.two; obtain ⟨P2a, P2b, -, -⟩ := P2.out.two; obtain ⟨P3a, P3b, -, -⟩ := P3.out.two; obtain ⟨P4a, P4b, -, -⟩ := P4.out.two; obtain ⟨P5a, P5b, -, -⟩ := P5.out.two; obtain ⟨P6a, P6b, -, -⟩ := P6.out.two
    go_wp2_with fail
    refine (bytes_same _ _ s3 _ R3.out R4.out).mono ?_
    rintro e w18 ⟨rfl, Ew18⟩
    go_wp2
    go_ret
    exact ⟨by simp, Ext.trans E01 (Ext.trans EE Ew18)⟩
end Go.Proofs.Ytiknogkopfhoiaa
