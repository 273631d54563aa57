/- Any line without its last character, or word, and these, its characters, and with a byte more, walked: the law answers true for every argument. Conditions: the setting is one, bytes are bytes. -/
import Derived.Test.YtilmkghopeoipaaR10
namespace Go.Proofs.Ytilmkghopeoipaa
open Go.RowKit Go.Kb

theorem unitsL_len (u : Bool) (l : List Int) : (unitsL u l).length ≤ l.length := by
  unfold unitsL
  rw [List.length_reverse]
  exact unitsR_len _ _ (Nat.le_refl _)
theorem putE_len (l : List Int) (x : Int) : (putE l x).1.length ≤ l.length + 1 := by
  unfold putE
  split <;> simp
set_option maxHeartbeats 3000000 in
set_option maxRecDepth 100000 in
theorem editorIs_walk (t : Tm) (v : Value) (l : List Int) (x : Int) (w : World) (h : t.Ok) (hl : RI .u8 w v l) (hB : Bs l) : Calls Try.prog 6 #[.agg t.arr, v, .int .u8 x] w fun e w' => e = .returned (.bool true) ∧ Ext w w' := by
  obtain ⟨Ad, c, rfl, hc1, hc2⟩ := hl.shape
  have hsz := t.size h
  have CEr := Lib.hid fun v l w' hr hB hn => eraseW_any t v l w' h hr hB hn
  have CRe := Lib.hid fun v l w' hr hB hn => rerase_any t v l w' h hr hB hn
  have CWo := Lib.hid fun v l w' hr hB hn => wordW_any t v l w' h hr hB hn
  have CRw := Lib.hid fun v l w' hr hB hn => rword_any t v l w' h hr hB hn
  have CUn := Lib.hid fun v l w' hr hB hn => unitsW_any t v l w' h hr hB hn
  have CRu := Lib.hid fun v l w' hr hB hn => runits_any t h l.length v l w' (Nat.le_refl _) hr hB hn
  generalize hasL t 42 = u at CEr CRe CWo CRw CUn CRu
  generalize t.arr = cs at CEr CRe CWo CRw CUn CRu hsz ⊢
  have HB := Lib.hid hB
  have H := Lib.hid hl
  clear hl hB h
  have hi : (Try.prog.info? 26).map (·.size) = some cs.size := by rw [hsz]; kernel_rfl
  have hT := Lib.hid (Blk.new w 26 cs)
  by_cases hbig : 1000 < l.length
  · have hb : (1000 : Int) < l.length := by omega
    go_enter Try.func6, Try.ntmps6
    go_wp2_with fail
    refine (alive_any _).mono ?_
    rintro e w1 ⟨rfl, E1⟩
    go_wp2
    go_ret
    exact ⟨rfl, (by repeat (first | with_reducible exact Ext.refl _ | refine Ext.drewN ?_ _ | refine Ext.drew ?_ | refine Ext.alloc ?_ _ | assumption | (refine Below.trans ?_ (by assumption)) | (refine Ext.trans ?_ (by assumption)) | (refine Below.trans ?_ (Below.mono (by assumption) (by omega)))))⟩
  have hb : (l.length : Int) ≤ 1000 := by omega
  have hb2 : l.length ≤ 1000 := by omega
  have hn : l.length ≤ 100000000 := by omega
  go_enter Try.func6, Try.ntmps6
  go_wp2_with fail
  refine (alive_any _).mono ?_
  rintro e w1 ⟨rfl, E1⟩
  go_wp2_with (at_builtin; refine wpList_app (e := Ub) (base := w1.heap.size) (B := fun _ => False) (A := fun _ => False) rfl _ (.tmp 30) rfl Try.underlying27 info_u8 rfl (OwnS.empty _ _ _ rfl (Nat.le_refl _)) rfl (RI.y (RdN.ext H.out (by repeat (first | with_reducible exact Ext.refl _ | refine Ext.drewN ?_ _ | refine Ext.drew ?_ | refine Ext.alloc ?_ _ | assumption | (refine Below.trans ?_ (by assumption)) | (refine Ext.trans ?_ (by assumption)) | (refine Below.trans ?_ (Below.mono (by assumption) (by omega))))))) rfl (fun _ _ h => h.elim) (N := l.length) (by simp) (by simp [maxLen]; omega) (by omega) (by simp) ?_; intro A2 c2 w2 o2 M2 E2)
  rw [List.nil_append] at o2
  have E12 : Ext w1 w2 := (by repeat (first | with_reducible exact Ext.refl _ | refine Ext.drewN ?_ _ | refine Ext.drew ?_ | refine Ext.alloc ?_ _ | assumption | (refine Below.trans ?_ (by assumption)) | (refine Ext.trans ?_ (by assumption)) | (refine Below.trans ?_ (Below.mono (by assumption) (by omega)))))
  have HIN := Lib.hid (show RI .u8 w2 (.slice A2 l.length c2) l from o2.rdT.ri)
  have HIO := Lib.hid o2
  have EW2 : Ext w w2 := (by repeat (first | with_reducible exact Ext.refl _ | refine Ext.drewN ?_ _ | refine Ext.drew ?_ | refine Ext.alloc ?_ _ | assumption | (refine Below.trans ?_ (by assumption)) | (refine Ext.trans ?_ (by assumption)) | (refine Below.trans ?_ (Below.mono (by assumption) (by omega)))))
  have HL2 := Lib.hid (show RI .u8 w2 (.slice Ad l.length c) l from RdN.ext H.out EW2)
  have hT := Lib.hid (Blk.ext hT.out (show Ext (w.alloc (.cells cs 26)) w2 from E1.trans E12))
  have HL0 := Lib.hid H.out
  clear o2 M2 E2 E12 E1 H
  go_wp2_with fail
  refine (putW_any _ l x _ (RdN.ext HIN.out (by repeat (first | with_reducible exact Ext.refl _ | refine Ext.drewN ?_ _ | refine Ext.drew ?_ | refine Ext.alloc ?_ _ | assumption | (refine Below.trans ?_ (by assumption)) | (refine Ext.trans ?_ (by assumption)) | (refine Below.trans ?_ (Below.mono (by assumption) (by omega)))))) hn).mono ?_
  obtain ⟨⟨pl, pb⟩, hp⟩ : ∃ z, putE l x = z := ⟨_, rfl⟩
  have hpl : pl.length ≤ 1001 := by have := putE_len l x; rw [hp] at this; simp only at this; omega
  rw [hp]
  have HP := Lib.hid hp
  clear hp
  rintro e w3 ⟨A3, c3, rfl, R3, E3⟩
  have R3 := Lib.hid R3
  simp only at R3 ⊢
  go_wp2_with fail
  have hrp := rput_any _ l x w3 (RdN.ext HL2.out (by repeat (first | with_reducible exact Ext.refl _ | refine Ext.drewN ?_ _ | refine Ext.drew ?_ | refine Ext.alloc ?_ _ | assumption | (refine Below.trans ?_ (by assumption)) | (refine Ext.trans ?_ (by assumption)) | (refine Below.trans ?_ (Below.mono (by assumption) (by omega)))))) hn
  rw [HP.out] at hrp
  refine hrp.mono ?_
  rintro e w4 ⟨A4, c4, rfl, R4, E4⟩
  have R4 := Lib.hid (RdS.ri R4)
  simp only at R4 ⊢
  clear hrp
  obtain ⟨sa, hsa⟩ : ∃ sa, startL u l = sa := ⟨_, rfl⟩
  obtain ⟨sw, hsw⟩ : ∃ sw, wordL u l = sw := ⟨_, rfl⟩
  have hsa1 : sa ≤ l.length := by rw [← hsa]; exact startL_le u l
  have hsw1 : sw ≤ l.length := by rw [← hsw]; exact wordL_le u l
  have HSA := Lib.hid hsa
  have HSW := Lib.hid hsw
  clear hsa hsw
  go_wp2_with (refine wpList_load_row rfl 26 _ rfl _ rfl 26 _ _ _ (Blk.ext hT.out (by repeat (first | with_reducible exact Ext.refl _ | refine Ext.drewN ?_ _ | refine Ext.drew ?_ | refine Ext.alloc ?_ _ | assumption | (refine Below.trans ?_ (by assumption)) | (refine Ext.trans ?_ (by assumption)) | (refine Below.trans ?_ (Below.mono (by assumption) (by omega)))))) Try.underlying26 rfl hi ?_)
  have h5 := CEr.out _ l w4 (RdN.ext HIN.out (by repeat (first | with_reducible exact Ext.refl _ | refine Ext.drewN ?_ _ | refine Ext.drew ?_ | refine Ext.alloc ?_ _ | assumption | (refine Below.trans ?_ (by assumption)) | (refine Ext.trans ?_ (by assumption)) | (refine Below.trans ?_ (Below.mono (by assumption) (by omega)))))) HB.out hn
  rw [HSA.out] at h5
  refine h5.mono ?_
  rintro e w5 ⟨A5, c5, B5, d5, rfl, R5, S5, E5⟩
  have R5 := Lib.hid R5
  have S5 := Lib.hid S5
  clear h5
  go_wp2_with (refine wpList_load_row rfl 26 _ rfl _ rfl 26 _ _ _ (Blk.ext hT.out (by repeat (first | with_reducible exact Ext.refl _ | refine Ext.drewN ?_ _ | refine Ext.drew ?_ | refine Ext.alloc ?_ _ | assumption | (refine Below.trans ?_ (by assumption)) | (refine Ext.trans ?_ (by assumption)) | (refine Below.trans ?_ (Below.mono (by assumption) (by omega)))))) Try.underlying26 rfl hi ?_)
  have h6 := CRe.out _ l w5 (RdN.ext HL2.out (by repeat (first | with_reducible exact Ext.refl _ | refine Ext.drewN ?_ _ | refine Ext.drew ?_ | refine Ext.alloc ?_ _ | assumption | (refine Below.trans ?_ (by assumption)) | (refine Ext.trans ?_ (by assumption)) | (refine Below.trans ?_ (Below.mono (by assumption) (by omega)))))) HB.out hn
  rw [HSA.out] at h6
  refine h6.mono ?_
  rintro e w6 ⟨A6, c6, B6, d6, rfl, R6, S6, E6⟩
  have R6 := Lib.hid (RdS.ri R6)
  have S6 := Lib.hid (RdS.ri S6)
  clear h6
  go_wp2_with (refine wpList_load_row rfl 26 _ rfl _ rfl 26 _ _ _ (Blk.ext hT.out (by repeat (first | with_reducible exact Ext.refl _ | refine Ext.drewN ?_ _ | refine Ext.drew ?_ | refine Ext.alloc ?_ _ | assumption | (refine Below.trans ?_ (by assumption)) | (refine Ext.trans ?_ (by assumption)) | (refine Below.trans ?_ (Below.mono (by assumption) (by omega)))))) Try.underlying26 rfl hi ?_)
  have h7 := CWo.out _ l w6 (RdN.ext HIN.out (by repeat (first | with_reducible exact Ext.refl _ | refine Ext.drewN ?_ _ | refine Ext.drew ?_ | refine Ext.alloc ?_ _ | assumption | (refine Below.trans ?_ (by assumption)) | (refine Ext.trans ?_ (by assumption)) | (refine Below.trans ?_ (Below.mono (by assumption) (by omega)))))) HB.out hn
  rw [HSW.out] at h7
  refine h7.mono ?_
  rintro e w7 ⟨A7, c7, B7, d7, rfl, R7, S7, E7⟩
  have R7 := Lib.hid R7
  have S7 := Lib.hid S7
  clear h7
  go_wp2_with (refine wpList_load_row rfl 26 _ rfl _ rfl 26 _ _ _ (Blk.ext hT.out (by repeat (first | with_reducible exact Ext.refl _ | refine Ext.drewN ?_ _ | refine Ext.drew ?_ | refine Ext.alloc ?_ _ | assumption | (refine Below.trans ?_ (by assumption)) | (refine Ext.trans ?_ (by assumption)) | (refine Below.trans ?_ (Below.mono (by assumption) (by omega)))))) Try.underlying26 rfl hi ?_)
  have h8 := CRw.out _ l w7 (RdN.ext HL2.out (by repeat (first | with_reducible exact Ext.refl _ | refine Ext.drewN ?_ _ | refine Ext.drew ?_ | refine Ext.alloc ?_ _ | assumption | (refine Below.trans ?_ (by assumption)) | (refine Ext.trans ?_ (by assumption)) | (refine Below.trans ?_ (Below.mono (by assumption) (by omega)))))) HB.out hn
  rw [HSW.out] at h8
  refine h8.mono ?_
  rintro e w8 ⟨A8, c8, B8, d8, rfl, R8, S8, E8⟩
  have R8 := Lib.hid (RdS.ri R8)
  have S8 := Lib.hid (RdS.ri S8)
  clear h8
  have hul := unitsL_len u l
  obtain ⟨U, hU⟩ : ∃ U, unitsL u l = U := ⟨_, rfl⟩
  rw [hU] at hul
  have HU := Lib.hid hU
  clear hU
  go_wp2_with (refine wpList_load_row rfl 26 _ rfl _ rfl 26 _ _ _ (Blk.ext hT.out (by repeat (first | with_reducible exact Ext.refl _ | refine Ext.drewN ?_ _ | refine Ext.drew ?_ | refine Ext.alloc ?_ _ | assumption | (refine Below.trans ?_ (by assumption)) | (refine Ext.trans ?_ (by assumption)) | (refine Below.trans ?_ (Below.mono (by assumption) (by omega)))))) Try.underlying26 rfl hi ?_)
  have h9 := CUn.out _ l w8 (RdN.ext HIN.out (by repeat (first | with_reducible exact Ext.refl _ | refine Ext.drewN ?_ _ | refine Ext.drew ?_ | refine Ext.alloc ?_ _ | assumption | (refine Below.trans ?_ (by assumption)) | (refine Ext.trans ?_ (by assumption)) | (refine Below.trans ?_ (Below.mono (by assumption) (by omega)))))) HB.out hn
  rw [HU.out] at h9
  refine h9.mono ?_
  rintro e w9 ⟨A9, c9, rfl, O9, E9⟩
  have O9 := Lib.hid O9
  clear h9
  have z1 : (pb != pb) = false := by cases pb <;> rfl
  go_wp2_with fail
  refine (bytes_any _ _ pl pl _ (RdN.ext R3.out.ri (by repeat (first | with_reducible exact Ext.refl _ | refine Ext.drewN ?_ _ | refine Ext.drew ?_ | refine Ext.alloc ?_ _ | assumption | (refine Below.trans ?_ (by assumption)) | (refine Ext.trans ?_ (by assumption)) | (refine Below.trans ?_ (Below.mono (by assumption) (by omega)))))) (RdN.ext R4.out (by repeat (first | with_reducible exact Ext.refl _ | refine Ext.drewN ?_ _ | refine Ext.drew ?_ | refine Ext.alloc ?_ _ | assumption | (refine Below.trans ?_ (by assumption)) | (refine Ext.trans ?_ (by assumption)) | (refine Below.trans ?_ (Below.mono (by assumption) (by omega))))))).mono ?_
  rintro e w10 ⟨rfl, E10⟩
  simp only [decide_true]
  go_wp2_with fail
  refine (bytes_any _ _ (l.take sa) (l.take sa) _ (RdN.ext R5.out.ri (by repeat (first | with_reducible exact Ext.refl _ | refine Ext.drewN ?_ _ | refine Ext.drew ?_ | refine Ext.alloc ?_ _ | assumption | (refine Below.trans ?_ (by assumption)) | (refine Ext.trans ?_ (by assumption)) | (refine Below.trans ?_ (Below.mono (by assumption) (by omega)))))) (RdN.ext R6.out (by repeat (first | with_reducible exact Ext.refl _ | refine Ext.drewN ?_ _ | refine Ext.drew ?_ | refine Ext.alloc ?_ _ | assumption | (refine Below.trans ?_ (by assumption)) | (refine Ext.trans ?_ (by assumption)) | (refine Below.trans ?_ (Below.mono (by assumption) (by omega))))))).mono ?_
  rintro e w11 ⟨rfl, E11⟩
  simp only [decide_true]
  go_wp2_with fail
  refine (bytes_any _ _ (l.drop sa) (l.drop sa) _ (RdN.ext S5.out.ri (by repeat (first | with_reducible exact Ext.refl _ | refine Ext.drewN ?_ _ | refine Ext.drew ?_ | refine Ext.alloc ?_ _ | assumption | (refine Below.trans ?_ (by assumption)) | (refine Ext.trans ?_ (by assumption)) | (refine Below.trans ?_ (Below.mono (by assumption) (by omega)))))) (RdN.ext S6.out (by repeat (first | with_reducible exact Ext.refl _ | refine Ext.drewN ?_ _ | refine Ext.drew ?_ | refine Ext.alloc ?_ _ | assumption | (refine Below.trans ?_ (by assumption)) | (refine Ext.trans ?_ (by assumption)) | (refine Below.trans ?_ (Below.mono (by assumption) (by omega))))))).mono ?_
  rintro e w12 ⟨rfl, E12⟩
  simp only [decide_true]
  go_wp2_with fail
  refine (bytes_any _ _ (l.take sw) (l.take sw) _ (RdN.ext R7.out.ri (by repeat (first | with_reducible exact Ext.refl _ | refine Ext.drewN ?_ _ | refine Ext.drew ?_ | refine Ext.alloc ?_ _ | assumption | (refine Below.trans ?_ (by assumption)) | (refine Ext.trans ?_ (by assumption)) | (refine Below.trans ?_ (Below.mono (by assumption) (by omega)))))) (RdN.ext R8.out (by repeat (first | with_reducible exact Ext.refl _ | refine Ext.drewN ?_ _ | refine Ext.drew ?_ | refine Ext.alloc ?_ _ | assumption | (refine Below.trans ?_ (by assumption)) | (refine Ext.trans ?_ (by assumption)) | (refine Below.trans ?_ (Below.mono (by assumption) (by omega))))))).mono ?_
  rintro e w13 ⟨rfl, E13⟩
  simp only [decide_true]
  go_wp2_with fail
  refine (bytes_any _ _ (l.drop sw) (l.drop sw) _ (RdN.ext S7.out.ri (by repeat (first | with_reducible exact Ext.refl _ | refine Ext.drewN ?_ _ | refine Ext.drew ?_ | refine Ext.alloc ?_ _ | assumption | (refine Below.trans ?_ (by assumption)) | (refine Ext.trans ?_ (by assumption)) | (refine Below.trans ?_ (Below.mono (by assumption) (by omega)))))) (RdN.ext S8.out (by repeat (first | with_reducible exact Ext.refl _ | refine Ext.drewN ?_ _ | refine Ext.drew ?_ | refine Ext.alloc ?_ _ | assumption | (refine Below.trans ?_ (by assumption)) | (refine Ext.trans ?_ (by assumption)) | (refine Below.trans ?_ (Below.mono (by assumption) (by omega))))))).mono ?_
  rintro e w14 ⟨rfl, E14⟩
  simp only [decide_true]
  go_wp2_with (refine wpList_openG rfl rfl ?_; (refine wpList_load_row rfl 26 _ rfl _ rfl 26 _ _ _ (Blk.ext hT.out (by repeat (first | with_reducible exact Ext.refl _ | refine Ext.drewN ?_ _ | refine Ext.drew ?_ | refine Ext.alloc ?_ _ | assumption | (refine Below.trans ?_ (by assumption)) | (refine Ext.trans ?_ (by assumption)) | (refine Below.trans ?_ (Below.mono (by assumption) (by omega)))))) Try.underlying26 rfl hi ?_))
  have h15 := CRu.out _ l w14 (RdN.ext HL2.out (by repeat (first | with_reducible exact Ext.refl _ | refine Ext.drewN ?_ _ | refine Ext.drew ?_ | refine Ext.alloc ?_ _ | assumption | (refine Below.trans ?_ (by assumption)) | (refine Ext.trans ?_ (by assumption)) | (refine Below.trans ?_ (Below.mono (by assumption) (by omega)))))) HB.out hn
  rw [HU.out] at h15
  refine h15.mono ?_
  rintro e w15 ⟨A15, c15, rfl, O15, E15⟩
  have O15 := Lib.hid O15
  clear h15
  go_wp2_with fail
  refine (lists_y _ _ U U _ ((y_lb O9.out.rdT.y).ext (by repeat (first | with_reducible exact Ext.refl _ | refine Ext.drewN ?_ _ | refine Ext.drew ?_ | refine Ext.alloc ?_ _ | assumption | (refine Below.trans ?_ (by assumption)) | (refine Ext.trans ?_ (by assumption)) | (refine Below.trans ?_ (Below.mono (by assumption) (by omega)))))) (O15.out.rdT.y.ext (by repeat (first | with_reducible exact Ext.refl _ | refine Ext.drewN ?_ _ | refine Ext.drew ?_ | refine Ext.alloc ?_ _ | assumption | (refine Below.trans ?_ (by assumption)) | (refine Ext.trans ?_ (by assumption)) | (refine Below.trans ?_ (Below.mono (by assumption) (by omega))))))).mono ?_
  rintro e wz ⟨rfl, E16⟩
  simp only [decide_true]
  have ZZ : Ext w3 wz ∧ Ext w5 wz ∧ Ext w7 wz ∧ Ext w9 wz ∧ Ext w2 wz := ⟨(by repeat (first | with_reducible exact Ext.refl _ | refine Ext.drewN ?_ _ | refine Ext.drew ?_ | refine Ext.alloc ?_ _ | assumption | (refine Below.trans ?_ (by assumption)) | (refine Ext.trans ?_ (by assumption)) | (refine Below.trans ?_ (Below.mono (by assumption) (by omega))))), (by repeat (first | with_reducible exact Ext.refl _ | refine Ext.drewN ?_ _ | refine Ext.drew ?_ | refine Ext.alloc ?_ _ | assumption | (refine Below.trans ?_ (by assumption)) | (refine Ext.trans ?_ (by assumption)) | (refine Below.trans ?_ (Below.mono (by assumption) (by omega))))), (by repeat (first | with_reducible exact Ext.refl _ | refine Ext.drewN ?_ _ | refine Ext.drew ?_ | refine Ext.alloc ?_ _ | assumption | (refine Below.trans ?_ (by assumption)) | (refine Ext.trans ?_ (by assumption)) | (refine Below.trans ?_ (Below.mono (by assumption) (by omega))))), (by repeat (first | with_reducible exact Ext.refl _ | refine Ext.drewN ?_ _ | refine Ext.drew ?_ | refine Ext.alloc ?_ _ | assumption | (refine Below.trans ?_ (by assumption)) | (refine Ext.trans ?_ (by assumption)) | (refine Below.trans ?_ (Below.mono (by assumption) (by omega))))), (by repeat (first | with_reducible exact Ext.refl _ | refine Ext.drewN ?_ _ | refine Ext.drew ?_ | refine Ext.alloc ?_ _ | assumption | (refine Below.trans ?_ (by assumption)) | (refine Ext.trans ?_ (by assumption)) | (refine Below.trans ?_ (Below.mono (by assumption) (by omega)))))⟩
  have X4 : Ext w2 w4 := (by repeat (first | with_reducible exact Ext.refl _ | refine Ext.drewN ?_ _ | refine Ext.drew ?_ | refine Ext.alloc ?_ _ | assumption | (refine Below.trans ?_ (by assumption)) | (refine Ext.trans ?_ (by assumption)) | (refine Below.trans ?_ (Below.mono (by assumption) (by omega)))))
  have X6 : Ext w2 w6 := (by repeat (first | with_reducible exact Ext.refl _ | refine Ext.drewN ?_ _ | refine Ext.drew ?_ | refine Ext.alloc ?_ _ | assumption | (refine Below.trans ?_ (by assumption)) | (refine Ext.trans ?_ (by assumption)) | (refine Below.trans ?_ (Below.mono (by assumption) (by omega)))))
  have X8 : Ext w2 w8 := (by repeat (first | with_reducible exact Ext.refl _ | refine Ext.drewN ?_ _ | refine Ext.drew ?_ | refine Ext.alloc ?_ _ | assumption | (refine Below.trans ?_ (by assumption)) | (refine Ext.trans ?_ (by assumption)) | (refine Below.trans ?_ (Below.mono (by assumption) (by omega)))))
  have Q3 := Lib.hid ((RdW.ext R3.out ZZ.1).lt)
  have Q5 := Lib.hid (((RdW.ext R5.out ZZ.2.1).mono (B := fun k => w2.heap.size ≤ k) fun k _ hk => Nat.le_trans X4.size hk).lt)
  have P5 := Lib.hid (((RdW.ext S5.out ZZ.2.1).mono (B := fun k => w2.heap.size ≤ k) fun k _ hk => Nat.le_trans X4.size hk).lt)
  have Q7 := Lib.hid (((RdW.ext R7.out ZZ.2.2.1).mono (B := fun k => w2.heap.size ≤ k) fun k _ hk => Nat.le_trans X6.size hk).lt)
  have P7 := Lib.hid (((RdW.ext S7.out ZZ.2.2.1).mono (B := fun k => w2.heap.size ≤ k) fun k _ hk => Nat.le_trans X6.size hk).lt)
  have Q9 := Lib.hid (((O9.out.y.ext ZZ.2.2.2.1).lt).mono (B := fun k => w2.heap.size ≤ k ∧ k < wz.heap.size) fun k _ hk => ⟨by have := X8.size; have := hk.1.1; omega, hk.2⟩)
  have EWz : Ext w wz := EW2.trans ZZ.2.2.2.2
  clear E3 E4 E5 E6 E7 E8 E9 E10 E11 E12 E13 E14 E15 E16 X4 X6 X8 R3 R5 S5 R7 S7 O9 R4 R6 S6 R8 S8 O15 CEr CRe CWo CRw CUn CRu
  have hla : (l.take sa).length = sa := by rw [List.length_take]; omega
  have hlb : (l.drop sa).length = l.length - sa := List.length_drop
  have hlc : (l.take sw).length = sw := by rw [List.length_take]; omega
  have hld : (l.drop sw).length = l.length - sw := List.length_drop
  have HF := Lib.hid (fun lit => five_e (Q3.out.ext ((Ext.refl wz).alloc lit)) (Q5.out.ext ((Ext.refl wz).alloc lit)) (P5.out.ext ((Ext.refl wz).alloc lit)) (Q7.out.ext ((Ext.refl wz).alloc lit)) (P7.out.ext ((Ext.refl wz).alloc lit)))
  have hsz2 := ZZ.2.2.2.2.size
  clear hla hlb hlc hld
  obtain ⟨nu, hnu⟩ : ∃ nu, 5 + U.length = nu := ⟨_, rfl⟩
  have hnub : nu ≤ 1005 := by omega
  have HNU := Lib.hid hnu
  clear hnu
  go_wp2_with (at_builtin; go_loud (refine wpList_app (e := Lbw) (base := wz.heap.size) (B := fun k => w2.heap.size ≤ k ∧ k < wz.heap.size) (A := fun k => w2.heap.size ≤ k ∧ k < wz.heap.size) rfl (.tmp 117) (.tmp 118) rfl Try.underlying35 info_lbw rfl (OwnS.litB (HF.out _) (Blk.at_ _ _ rfl) (fun k _ hk => ⟨hk, by omega⟩) (Nat.le_refl _) (m := 5) rfl (by decide)) rfl (Q9.out.alloc _) rfl (fun k _ hk => ⟨hk, fun h => by simp [Value.ownBlock] at h; omega⟩) (N := nu) HNU.out (by simp [maxLen]; omega) (by omega) (by simp) ?_; intro A20 c20 ws o20 M20 B20))
  have HPL := Lib.hid (o20.y.mono (B := fun k => w2.heap.size ≤ k) fun k _ hk => hk.1.1)
  have BW : Below w2.heap.size w2 ws := by first | exact Below.trans ((ZZ.2.2.2.2).alloc _) (B20.mono (by omega)) | exact Below.trans ((ZZ.2.2.2.2).alloc _).drew (B20.mono (by omega))
  have hs2 : w2.heap.size ≤ ws.heap.size := BW.size
  have hIw := HIO.out.row
  have EWs : Ext w ws := EW2.trans_below BW EW2.size
  have hw2 : w.heap.size ≤ w2.heap.size := EW2.size
  clear M20 B20 o20 HF Q3 Q5 P5 Q7 P7 Q9 ZZ hIw
  go_loopw [121] (fun j wr => ∃ m : Nat, m ≤ nu ∧ j = .int .i64 m ∧ Hid (Ow w2.heap.size ws wr)) (fun j _ => nu - (intOf j).toNat)
  case atStart => exact ⟨0, Nat.zero_le _, rfl, Lib.hid (Ow.refl _ _)⟩
  case round =>
    obtain ⟨m, hm, rfl, HO2⟩ := hrel
    obtain ⟨wv, rfl⟩ : ∃ wv, wv = wr := ⟨_, rfl⟩
    by_cases hlm : m < nu
    · obtain ⟨b1, off1, At, lt, ct, rfl, hx, hd, hrt, hl1, hl2⟩ := lbw_at HPL.out hlm
      have hx := HO2.out.row hx
      obtain ⟨nt, hnt⟩ : ∃ nt, lt.length = nt := ⟨_, rfl⟩
      have HNT := Lib.hid hnt
      rw [hnt] at hx hrt hl1
      clear hd hnt
      go_wp2
      go_loopw [127] (fun j wr => ∃ q : Nat, q ≤ nt ∧ j = .int .i64 q ∧ Hid (Ow w2.heap.size ws wr)) (fun j _ => nt - (intOf j).toNat)
      case atStart => exact ⟨0, Nat.zero_le _, rfl, HO2⟩
      case round =>
        obtain ⟨q, hq, rfl, HO3⟩ := hrel
        by_cases hlq : q < nt
        · obtain ⟨tb, toff, y, rfl, hc, hf, hA⟩ := Ow.u8 HO3.out hrt.out HNT.out hlq
          go_wp2
          go_roundw
          case rel => exact ⟨q + 1, by omega, by go_num, Lib.hid (Ow.set HO3.out hc (by omega))⟩
          case measure => simp [intOf]; omega
        · go_wp2
          go_roundw
          case rel => exact ⟨m + 1, by omega, by go_num, HO3⟩
          case measure => simp [intOf]; omega
    · have hlow := HO2.out.low
      have HINr := Lib.hid (((HIO.out.rdT.lt.mono (B := fun k => k < w2.heap.size) fun k _ hk => hk.2).below BW fun k _ hk => hk).below hlow fun k _ hk => hk)
      have EF : Ext w wv := EWs.trans_below hlow hw2
      have HLr := Lib.hid (RdN.ext HL0.out EF)
      clear hlow BW EWs
      go_wp2_with fail
      refine (bytes_any _ _ l l _ HINr.out.ri HLr.out).mono ?_
      rintro e w30 ⟨rfl, E30⟩
      simp only [decide_true]
      go_wp2
      go_ret
      exact ⟨rfl, EF.trans E30⟩
end Go.Proofs.Ytilmkghopeoipaa
