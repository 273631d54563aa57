/- octet.Read of the bytes of fields, by contract: it answers these fields. Conditions: none of them is Names, their kinds may stand in a row, each is as octet.Write writes it; there are at most 8. -/
import Derived.Test.YtldijmappinngaaGreatDoorOL04
namespace Go.Proofs.YtldijmappinngaaGreatDoor
open Go.RowKit Go.Kb
set_option maxRecDepth 100000

/-- a field as it is read -/
def FdCan (f : Fd) : Prop := (f.k = 1 ∧ (0 ≤ f.n ∧ f.n ≤ 255) ∧ f.t = []) ∨ (f.k = 2 ∧ (0 ≤ f.n ∧ f.n ≤ 1) ∧ f.t = []) ∨ (f.k = 3 ∧ (0 ≤ f.n ∧ f.n ≤ 4294967295) ∧ f.t = []) ∨ (f.k = 4 ∧ f.n = 0 ∧ f.t.length ≤ 32768) ∨ (f.k = 6 ∧ f.n = 0 ∧ f.t.length ≤ 33792)
/-- what reads a field -/
structure ReadsF (kk fn : Nat) (f : Fd) (r : List Int) : Prop where
  k : f.k = (kk : Int)
  lt : kk < 7
  at_ : sortsV[kk * 3 + 2]? = some (.func (.func fn) #[] #[])
  enters : ∀ args w', (callFunc fn args).run Tryz.prog w' = .ok (.enter fn args) w'
  reads : ∀ g A v w, Re g A w v (encF f.k f.n f.t ++ r) → (∀ k, A k → k ≠ g ∧ k < w.heap.size) → Calls Tryz.prog fn #[.pointer (some ⟨g, 0, none⟩)] w (RdP g A f.n f.t r w)
theorem en_octet (args : Array Value) (w : World) : (callFunc 69 args).run Tryz.prog w = .ok (.enter 69 args) w := by kernel_rfl
theorem en_flag (args : Array Value) (w : World) : (callFunc 71 args).run Tryz.prog w = .ok (.enter 71 args) w := by kernel_rfl
theorem en_number (args : Array Value) (w : World) : (callFunc 74 args).run Tryz.prog w = .ok (.enter 74 args) w := by kernel_rfl
theorem en_text (args : Array Value) (w : World) : (callFunc 77 args).run Tryz.prog w = .ok (.enter 77 args) w := by kernel_rfl
theorem en_rest (args : Array Value) (w : World) : (callFunc 83 args).run Tryz.prog w = .ok (.enter 83 args) w := by kernel_rfl
theorem read_fn {f : Fd} (hc : FdCan f) (r : List Int) (hr : f.k = 6 → r = []) : ∃ kk fn : Nat, ReadsF kk fn f r := by
  obtain ⟨k, n, t⟩ := f
  rcases hc with ⟨rfl, hn, ht⟩ | ⟨rfl, hn, ht⟩ | ⟨rfl, hn, ht⟩ | ⟨rfl, hn, ht⟩ | ⟨rfl, hn, ht⟩
  · dsimp only at hn ht
    subst ht
    exact ⟨1, 69, rfl, by omega, rfl, en_octet, fun g A v w h hA => roct_any g A v n r w (by simpa [encF] using h) hA hn⟩
  · dsimp only at hn ht
    subst ht
    exact ⟨2, 71, rfl, by omega, rfl, en_flag, fun g A v w h hA => rflag_any g A v n r w (by simpa [encF] using h) hA hn⟩
  · dsimp only at hn ht
    subst ht
    exact ⟨3, 74, rfl, by omega, rfl, en_number, fun g A v w h hA => rnum_any g A v n r w (by simpa [encF] using h) hA hn⟩
  · dsimp only at hn ht
    subst hn
    exact ⟨4, 77, rfl, by omega, rfl, en_text, fun g A v w h hA => rtext_any g A v t r w (by simpa [encF] using h) hA ht⟩
  · dsimp only at hn ht
    subst hn
    obtain rfl := hr rfl
    exact ⟨6, 83, rfl, by omega, rfl, en_rest, fun g A v w h _ => rrest_any g A v t w (by simpa [encF] using h) ht⟩
theorem encL_drop {fs : List Fd} {m : Nat} {f : Fd} (h : fs[m]? = some f) : encL (fs.drop m) = encF f.k f.n f.t ++ encL (fs.drop (m + 1)) := by
  obtain ⟨hlt, rfl⟩ := List.getElem?_eq_some_iff.1 h
  rw [List.drop_eq_getElem_cons hlt]
  rfl
theorem info_fd : (Tryz.prog.info? 59).map (fun i => (i.zero, i.size, i.bytes)) = some (some (.agg #[.int .i64 0, .int .u32 0, .slice none 0 0, .slice none 0 0]), FdR.size, 64) := by kernel_rfl
/-- what octet.Read answers -/
def ReP (fs : List Fd) (w : World) (e : Ending) (w' : World) : Prop :=
  ∃ v, e = .returned (.tuple #[v, .int .i64 0]) ∧ OwnS FdR 59 w.heap.size (fun k => w.heap.size ≤ k) w' v fs ∧ Ext w w'
set_option maxHeartbeats 3000000 in
theorem oread_any (vk v : Value) (fs : List Fd) (w : World) (hk : RI .i64 w vk (fs.map (·.k))) (hv : RI .u8 w v (encL fs)) (hN : fs.length ≤ 8) (hr : RowOk (fs.map (·.k))) (hf : ∀ f ∈ fs, FdCan f) :
    Calls Tryz.prog 27 #[vk, v] w (ReP fs w) := by
  obtain ⟨Ak, ck, rfl, hk1, hk2⟩ := hk.shape
  obtain ⟨Av, cv, hvs, hv1, hv2⟩ := hv.shape
  obtain ⟨LV, hLV⟩ : ∃ LV, (encL fs).length = LV := ⟨_, rfl⟩
  rw [hLV] at hvs hv1
  have HK := Lib.hid hk
  have HV := Lib.hid ((show RdS Ub8 (fun _ => True) w v (encL fs) from RI.s hv).lt.mono (B := fun k => k < w.heap.size) (fun k _ h => h.2))
  have HR := Lib.hid hr
  have HF := Lib.hid hf
  have hi21 : (Tryz.prog.info? 101).map (·.size) = some 21 := by kernel_rfl
  have hi : (Tryz.prog.info? 59).map (·.size) = some 4 := by kernel_rfl
  have hone : sortsV.all (·.oneCell') = true := by simp [sortsV, fnV, Value.oneCell']
  have al101 : Tryz.prog.arrayLen 101 = 7 := by kernel_rfl
  obtain ⟨N, hNN⟩ : ∃ N, fs.length = N := ⟨_, rfl⟩
  have HN := Lib.hid hNN
  rw [show (fs.map (·.k)).length = N by simpa using hNN] at hk1 ⊢
  have HK := Lib.hid (show RdN w 1 (.slice Ak N ck) (fs.map (·.k)).length ((fs.map (·.k)).map (Value.int .i64)) by have h9 := HK.out; unfold RI at h9; rw [show (fs.map (·.k)).length = N by simpa using hNN] at h9 ⊢; exact h9)
  rw [hNN] at hN
  subst hvs
  clear hk hv hr hf hNN hLV
  go_enter Tryz.func27, Tryz.ntmps27
  go_wp2_with fail
  refine (row_any _ _ _ HK.out HR.out).mono ?_
  rintro e w2 ⟨rfl, E2⟩
  have E02 : Ext w w2 := (by repeat (first | with_reducible exact Ext.refl _ | refine Ext.drewN ?_ _ | refine Ext.drew ?_ | refine Ext.alloc ?_ _ | assumption | (refine Below.trans ?_ (by assumption)) | (refine Ext.trans ?_ (by assumption)) | (refine Below.trans ?_ (Below.mono (by assumption) (by omega)))))
  go_wp2_with fail
  refine (sorts_any _).mono ?_
  rintro e w3 ⟨rfl, E3⟩
  have E03 := Lib.hid (E02.trans E3)
  clear E02 E2 E3
  go_upto_region 4 with (refine wpList_store_A rfl 101 _ _ rfl w3.heap.size sortsV rfl rfl 101 _ (show Blk _ _ _ _ from Blk.at_ _ _ rfl) hi21 rfl hone ?_; intro w4 HB4 E4; have E4 : Ext w3 w4 := E4 w3.heap.size w3 ((Ext.refl w3).alloc _) (by omega))
  have E04 := Lib.hid (E03.out.trans E4)
  have B7 := Lib.hid HB4
  obtain ⟨n7, hn7⟩ : ∃ n7, w3.heap.size = n7 := ⟨_, rfl⟩
  rw [hn7] at B7 ⊢
  have HN7 := Lib.hid (show w.heap.size ≤ n7 by rw [← hn7]; exact E03.out.size)
  clear E4 E03 HB4 hn7
  go_upto_region 5 with fail
  obtain ⟨W8, hW8⟩ : ∃ W8, W8 = w4.alloc (.cells #[.slice Av LV cv, .int .i64 0] 112) := ⟨_, rfl⟩
  have E48 : Ext w4 W8 := by rw [hW8]; exact (Ext.refl _).alloc _
  have B8 := Lib.hid (show Blk W8 w4.heap.size 112 #[.slice Av LV cv, .int .i64 0] by rw [hW8]; exact Blk.new w4 _ _)
  obtain ⟨n8, hn8⟩ : ∃ n8, w4.heap.size = n8 := ⟨_, rfl⟩
  have HN8 := Lib.hid (show n7 < n8 by rw [← hn8]; exact B7.out.lt)
  rw [← hW8]
  rw [hn8] at B8 ⊢
  have E08 := Lib.hid (E04.out.trans E48)
  have B7 := Lib.hid (B7.out.ext E48)
  have HW8 := Lib.hid (show Re n8 (fun k => k < w.heap.size) W8 (.slice Av LV cv) (encL (fs.drop 0)) from ⟨B8.out, by rw [List.drop_zero]; exact HV.out.ext E08.out⟩)
  clear hW8 E04 E48 hn8 B8 HV
  go_wp2
  go_loopw [8, 21] (fun u i wr => ∃ (m : Nat) (v2 : Value), m ≤ N ∧ i = .int .i64 m ∧ Hid (OwnS FdR 59 (n8 + 1) (fun k => n8 < k) wr u (fs.take m)) ∧ Hid (Re n8 (fun k => k < w.heap.size) wr v2 (encL (fs.drop m))) ∧ Hid (Blk wr n7 101 sortsV) ∧ Hid (Ext w wr)) (fun _ i _ => N - (intOf i).toNat)
  case atStart => exact ⟨0, .slice Av LV cv, Nat.zero_le _, rfl, Lib.hid (by rw [List.take_zero]; exact OwnS.nil _ _ _ _ _), HW8, B7, E08⟩
  case round =>
    clear B7 E08 HW8
    obtain ⟨m, v2, hm, rfl, HO, HW, B7, hE⟩ := hrel
    by_cases hmn : m < N
    · obtain ⟨b, off, x, rfl, hx, hd⟩ := (RdN.ext HK.out hE.out).icell hmn
      obtain ⟨f, hfm, hfk⟩ : ∃ f, fs[m]? = some f ∧ x = f.k := by
        have h9 := hd.out
        rw [List.getElem?_map] at h9
        cases h8 : fs[m]? with
        | none => rw [h8] at h9; cases h9
        | some f => rw [h8] at h9; exact ⟨f, rfl, by simpa using h9.symm⟩
      obtain ⟨kk, fn, hfn⟩ := read_fn (HF.out f (List.mem_of_getElem? hfm)) (encL (fs.drop (m + 1))) (fun h6 => by
        have h9 := (HR.out m x hd.out).2 (by rw [hfk]; exact h6)
        rw [List.drop_of_length_le (by simpa using Nat.le_of_eq h9.symm)]
        rfl)
      obtain ⟨hkk, hlt, hat, hen, hrd⟩ := hfn
      rw [hkk] at hfk
      subst hfk
      have HFM := Lib.hid hfm
      have HKK := Lib.hid hkk
      have HAT := Lib.hid hat
      have HRD := Lib.hid hrd
      have HW := Lib.hid (show Re n8 (fun k => k < w.heap.size) wr v2 (encF f.k f.n f.t ++ encL (fs.drop (m + 1))) by rw [← encL_drop hfm]; exact HW.out)
      clear hfm hkk hat hrd hd
      have hlt2 : (kk : Int) < 7 := by omega
      have hkf : wr.cell? ⟨n7, kk * 3 + 2, none⟩ = some (.func (.func fn) #[] #[]) := by rw [B7.out.cell, HAT.out]
      have hgl := HW.out.blk.lt
      have hwl := hE.out.size
      go_wp2_with fail
      refine (HRD.out n8 (fun k => k < w.heap.size) v2 wr HW.out (fun k hk => ⟨by have := HN7.out; have := HN8.out; omega, by omega⟩)).mono ?_
      rintro e w9 ⟨vt, v3, rfl, T9, R9, M9⟩
      obtain ⟨At, ct, rfl, -, -⟩ := T9.shape
      obtain ⟨Ao, co, rfl, -, -⟩ := HO.out.shape
      have hlm : (fs.take m).length = m := by rw [List.length_take, HN.out]; omega
      rw [hlm]
      have HO0 := HO.out
      rw [hlm] at HO0
      have HRow := Lib.hid HO0.row
      have HO9 := Lib.hid (HO0.mod M9 (fun k hk he => by have := (HO0.row k hk).1; omega) (fun k _ hk he => by omega))
      have B9 := Lib.hid (B7.out.mod M9 (by have := HN8.out; omega))
      have hE9 := Lib.hid (Mod.toExt hE.out M9 (fun k hk he => by have := HN7.out; have := HN8.out; omega))
      have T9 := Lib.hid T9
      have R9 := Lib.hid R9
      have hs9 := M9.size
      clear HO HW B7 hE HRD M9 HO0 hen hkf
      go_upto_region 10 with fail
      obtain ⟨W10, hW10⟩ : ∃ W10, W10 = w9.alloc (.cells #[.int .i64 0, .int .u32 f.n, .slice At f.t.length ct, .slice none 0 0] 59) := ⟨_, rfl⟩
      have E10 : Ext w9 W10 := by rw [hW10]; exact (Ext.refl _).alloc _
      have P10 := Lib.hid (show Blk W10 w9.heap.size 59 #[.int .i64 0, .int .u32 f.n, .slice At f.t.length ct, .slice none 0 0] by rw [hW10]; exact Blk.new w9 _ _)
      rw [← hW10]
      clear hW10
      obtain ⟨n11, hn11⟩ : ∃ n11, w9.heap.size = n11 := ⟨_, rfl⟩
      rw [hn11] at P10 hs9 ⊢
      have kr := (R9.out.blk.ext E10).cell 1
      have kf := P10.out.frozen 0
      have kp := P10.out.cell 0
      have P12 := Lib.hid (show Blk (W10.setCell ⟨n11, 0, none⟩ (.int .i64 kk)) n11 59 #[.int .i64 kk, .int .u32 f.n, .slice At f.t.length ct, .slice none 0 0] by simpa using P10.out.set_ 0 (.int .i64 kk))
      have M12 : Mod (fun k => k = n11) w9 (W10.setCell ⟨n11, 0, none⟩ (.int .i64 kk)) := (Mod.of_ext E10).set1 _
      have hn12 : n11 < (W10.setCell ⟨n11, 0, none⟩ (.int .i64 kk)).heap.size := P12.out.lt
      have HO12 := Lib.hid (HO9.out.mod M12 (fun k hk he => by have := (HO9.out.row k hk).2; omega) (fun k hk hb he => by omega))
      have B12 := Lib.hid (B9.out.mod M12 (by have := B9.out.lt; omega))
      have hE12 := Lib.hid (Mod.toExt hE9.out M12 (fun k hk he => by have := hE9.out.size; omega))
      have T12 := Lib.hid (show RdS Ub8 (fun k => wr.heap.size ≤ k ∧ k < n11) _ _ _ from (T9.out.lt.mono (fun k _ hk => by rw [hn11] at hk; exact hk)).mod M12 (fun k _ hk he => by omega))
      have R12 := Lib.hid (R9.out.mod M12 (by omega) (fun k hk ha he => by omega))
      clear E10 P10 M12 HO9 B9 hE9 T9 R9
      go_upto_region 13 with fail
      generalize W10.setCell ⟨n11, 0, none⟩ (.int .i64 kk) = W12 at *
      have hrel12 := Lib.hid (show FdR.rel (fun k => wr.heap.size ≤ k ∧ k < n11) W12 [.int .i64 kk, .int .u32 f.n, .slice At f.t.length ct, .slice none 0 0] f from ⟨_, by rw [HKK.out], T12.out⟩)
      have hA12 : ∀ k, wr.heap.size ≤ k ∧ k < n11 → n8 < k ∧ (Value.slice Ao m co).ownBlock ≠ some k := fun k hk => ⟨by omega, fun he => by have := (HRow.out k he).2; omega⟩
      have hb12 : n8 + 1 ≤ W12.heap.size := by omega
      go_wp2_with (first
        | (refine wpList_load_row rfl 59 _ rfl _ rfl 59 _ _ _ P12.out Tryz.underlying59 rfl hi ?_)
        | (at_builtin; refine wpList_app (e := FdR) (base := n8 + 1) (B := fun k => n8 < k) (A := fun k => wr.heap.size ≤ k ∧ k < n11) rfl (.tmp 42) (.tmp 44) rfl Tryz.underlying60 info_fd rfl (HO12.out.alloc _) rfl (RdY.singleB (e := FdR) (cs := [.int .i64 kk, .int .u32 f.n, .slice At f.t.length ct, .slice none 0 0]) (d := f) (Rep.ext hrel12.out ((Ext.refl _).alloc _)) (Blk.new _ _ _)) rfl (fun k _ hk => hA12 k hk) (N := m + 1) (by simp [hlm]) (by unfold maxLen; omega) (by omega) (by simp; omega) ?_; intro A13 c13 w13 o13 M13 L13))
      have M14 : Mod (fun k => (Value.slice Ao m co).ownBlock = some k) W12 w13 := (Mod.of_ext ((Ext.refl W12).alloc _)).trans M13
      refine ⟨⟨m + 1, v3, by omega, by go_num, Lib.hid ?_, Lib.hid ?_, Lib.hid ?_, Lib.hid ?_⟩, by simp [intOf]; omega⟩
      · rw [List.take_add_one, HFM.out]
        exact o13
      · exact R12.out.mod M14 (fun he => by have := (HRow.out _ he).1; omega) (fun k _ hk he => by have := (HRow.out _ he).1; have := HN7.out; have := HN8.out; omega)
      · exact B12.out.mod M14 (fun he => by have := (HRow.out _ he).1; have := HN8.out; omega)
      · exact Mod.toExt hE12.out M14 (fun k hk he => by have := (HRow.out _ he).1; have := HN7.out; have := HN8.out; omega)
    · obtain rfl : m = N := by omega
      have hdr : fs.drop m = [] := List.drop_of_length_le (by rw [HN.out]; exact Nat.le_refl _)
      have hta : fs.take m = fs := List.take_of_length_le (by rw [HN.out]; exact Nat.le_refl _)
      rw [hdr] at HW
      rw [hta] at HO
      obtain ⟨Ar, cr, rfl, -, -⟩ := HW.out.rd.shape
      have kr := HW.out.blk.cell 0
      have hEE : Ext w wr := hE.out
      have H7 := HN7.out
      have H8 := HN8.out
      have HOO := Lib.hid ((HO.out.lower (base' := w.heap.size) (by omega)).mono (B := fun k => w.heap.size ≤ k) (fun k _ hk => by omega))
      clear hdr hta HW HO hE
      go_wp2
      go_ret2
      exact ⟨_, rfl, HOO.out, hEE⟩
end Go.Proofs.YtldijmappinngaaGreatDoor
