/- Parts OM04 ON04 OO04 OP04 OQ04 OT04 OU04 Tail MY28 Late MZ28 NA28 OD28 PE28 QE28 RE28 RF28 RG28 RH28 SN28 TN28 UN28 VN28 WN28 XN28 YN28 ZN28. No condition. -/
import Derived.Test.YtmmhcllibpmfnaaGreatDoorZB01
import Derived.Deep.DeepCutAuto
import Derived.Deep.RegionLaw
import Derived.Deep.RegionHeld
import Derived.Deep.CutBlock
import Derived.Lib.SlBytesConst
import Derived.MapKept
namespace Go.Proofs.YtmmhcllibpmfnaaGreatDoor
open Go.RowKit Go.Kb
set_option maxRecDepth 100000
/-- a field as it is read -/
def FdCan (f : Fd) : Prop := (f.k = 1 ∧ (0 ≤ f.n ∧ f.n ≤ 255) ∧ f.t = []) ∨ (f.k = 2 ∧ (0 ≤ f.n ∧ f.n ≤ 1) ∧ f.t = []) ∨ (f.k = 3 ∧ (0 ≤ f.n ∧ f.n ≤ 4294967295) ∧ f.t = []) ∨ (f.k = 4 ∧ f.n = 0 ∧ f.t.length ≤ 32768) ∨ (f.k = 6 ∧ f.n = 0 ∧ f.t.length ≤ 33792)
/-- what reads a field -/
structure ReadsF (kk fn : Nat) (f : Fd) (r : List Int) : Prop where
 k : f.k = (kk : Int)
 lt : kk < 7
 at_ : sortsV[kk * 3 + 2]? = some (.func (.func fn) #[] #[])
 enters : ∀ args w', (callFunc fn args).run Tryz.prog w' = .ok (.enter fn args) w'
 reads : ∀ g A v w, Re g A w v (encF f.k f.n f.t ++ r) → (∀ k, A k → k ≠ g ∧ k < w.heap.size) → Calls Tryz.prog fn #[.pointer (some ⟨g, 0, none⟩)] w (RdP g A f.n f.t r w)
theorem en_octet (args : Array Value) (w : World) : (callFunc 87 args).run Tryz.prog w = .ok (.enter 87 args) w := by kernel_rfl
theorem en_flag (args : Array Value) (w : World) : (callFunc 89 args).run Tryz.prog w = .ok (.enter 89 args) w := by kernel_rfl
theorem en_number (args : Array Value) (w : World) : (callFunc 92 args).run Tryz.prog w = .ok (.enter 92 args) w := by kernel_rfl
theorem en_text (args : Array Value) (w : World) : (callFunc 95 args).run Tryz.prog w = .ok (.enter 95 args) w := by kernel_rfl
theorem en_rest (args : Array Value) (w : World) : (callFunc 101 args).run Tryz.prog w = .ok (.enter 101 args) w := by kernel_rfl
theorem read_fn {f : Fd} (hc : FdCan f) (r : List Int) (hr : f.k = 6 → r = []) : ∃ kk fn : Nat, ReadsF kk fn f r := by
 obtain ⟨k, n, t⟩ := f
 rcases hc with ⟨rfl, hn, ht⟩ | ⟨rfl, hn, ht⟩ | ⟨rfl, hn, ht⟩ | ⟨rfl, hn, ht⟩ | ⟨rfl, hn, ht⟩
 · dsimp only at hn ht
   subst ht
   exact ⟨1, 87, rfl, by omega, rfl, en_octet, fun g A v w h hA => roct_any g A v n r w (by simpa [encF] using h) hA hn⟩
 · dsimp only at hn ht
   subst ht
   exact ⟨2, 89, rfl, by omega, rfl, en_flag, fun g A v w h hA => rflag_any g A v n r w (by simpa [encF] using h) hA hn⟩
 · dsimp only at hn ht
   subst ht
   exact ⟨3, 92, rfl, by omega, rfl, en_number, fun g A v w h hA => rnum_any g A v n r w (by simpa [encF] using h) hA hn⟩
 · dsimp only at hn ht
   subst hn
   exact ⟨4, 95, rfl, by omega, rfl, en_text, fun g A v w h hA => rtext_any g A v t r w (by simpa [encF] using h) hA ht⟩
 · dsimp only at hn ht
   subst hn
   obtain rfl := hr rfl
   exact ⟨6, 101, rfl, by omega, rfl, en_rest, fun g A v w h _ => rrest_any g A v t w (by simpa [encF] using h) ht⟩
theorem encL_drop {fs : List Fd} {m : Nat} {f : Fd} (h : fs[m]? = some f) : encL (fs.drop m) = encF f.k f.n f.t ++ encL (fs.drop (m + 1)) := by
 obtain ⟨hlt, rfl⟩ := List.getElem?_eq_some_iff.1 h
 rw [List.drop_eq_getElem_cons hlt]
 rfl
theorem info_fd : (Tryz.prog.info? 86).map (fun i => (i.zero, i.size, i.bytes)) = some (some (.agg #[.int .i64 0, .int .u32 0, .slice none 0 0, .slice none 0 0]), FdR.size, 64) := by kernel_rfl
/-- what octet.Read answers -/
def ReP (fs : List Fd) (w : World) (e : Ending) (w' : World) : Prop :=
 ∃ v, e = .returned (.tuple #[v, .int .i64 0]) ∧ OwnS FdR 86 w.heap.size (fun k => w.heap.size ≤ k) w' v fs ∧ Ext w w'
set_option maxHeartbeats 3000000 in
theorem oread_any (vk v : Value) (fs : List Fd) (w : World) (hk : RI .i64 w vk (fs.map (·.k))) (hv : RI .u8 w v (encL fs)) (hN : fs.length ≤ 8) (hr : RowOk (fs.map (·.k))) (hf : ∀ f ∈ fs, FdCan f) :
   Calls Tryz.prog 144 #[vk, v] w (ReP fs w) := by
 obtain ⟨Ak, ck, rfl, hk1, hk2⟩ := hk.shape
 obtain ⟨Av, cv, hvs, hv1, hv2⟩ := hv.shape
 obtain ⟨LV, hLV⟩ : ∃ LV, (encL fs).length = LV := ⟨_, rfl⟩
 rw [hLV] at hvs hv1
 have HK := Lib.hid hk
 have HV := Lib.hid ((show RdS Ub8 (fun _ => True) w v (encL fs) from RI.s hv).lt.mono (B := fun k => k < w.heap.size) (fun k _ h => h.2))
 have HR := Lib.hid hr
 have HF := Lib.hid hf
 have hi21 : (Tryz.prog.info? 163).map (·.size) = some 21 := by kernel_rfl
 have hi : (Tryz.prog.info? 86).map (·.size) = some 4 := by kernel_rfl
 have hone : sortsV.all (·.oneCell') = true := by simp [sortsV, fnV, Value.oneCell']
 have al101 : Tryz.prog.arrayLen 163 = 7 := by kernel_rfl
 obtain ⟨N, hNN⟩ : ∃ N, fs.length = N := ⟨_, rfl⟩
 have HN := Lib.hid hNN
 rw [show (fs.map (·.k)).length = N by simpa using hNN] at hk1 ⊢
 have HK := Lib.hid (show RdN w 1 (.slice Ak N ck) (fs.map (·.k)).length ((fs.map (·.k)).map (Value.int .i64)) by have h9 := HK.out; unfold RI at h9; rw [show (fs.map (·.k)).length = N by simpa using hNN] at h9 ⊢; exact h9)
 rw [hNN] at hN
 subst hvs
 clear hk hv hr hf hNN hLV
 go_enter Tryz.func144, Tryz.ntmps144
 go_wp2_with fail
 refine (row_any _ _ _ HK.out HR.out).mono ?_
 rintro e w2 ⟨rfl, E2⟩
 have E02 : Ext w w2 := zX
 go_wp2_with fail
 refine (sorts_any _).mono ?_
 rintro e w3 ⟨rfl, E3⟩
 have E03 := Lib.hid (E02.trans E3)
 clear E02 E2 E3
 go_upto_region 4 with (refine wpList_store_A rfl 163 _ _ rfl w3.heap.size sortsV rfl rfl 163 _ (show Blk _ _ _ _ from Blk.at_ _ _ rfl) hi21 rfl hone ?_; intro w4 HB4 E4; have E4 : Ext w3 w4 := E4 w3.heap.size w3 ((Ext.refl w3).alloc _) (by omega))
 have E04 := Lib.hid (E03.out.trans E4)
 have B7 := Lib.hid HB4
 obtain ⟨n7, hn7⟩ : ∃ n7, w3.heap.size = n7 := ⟨_, rfl⟩
 rw [hn7] at B7 ⊢
 have HN7 := Lib.hid (show w.heap.size ≤ n7 by rw [← hn7]; exact E03.out.size)
 clear E4 E03 HB4 hn7
 go_upto_region 5 with fail
 obtain ⟨W8, hW8⟩ : ∃ W8, W8 = w4.alloc (.cells #[.slice Av LV cv, .int .i64 0] 290) := ⟨_, rfl⟩
 have E48 : Ext w4 W8 := by rw [hW8]; exact (Ext.refl _).alloc _
 have B8 := Lib.hid (show Blk W8 w4.heap.size 290 #[.slice Av LV cv, .int .i64 0] by rw [hW8]; exact Blk.new w4 _ _)
 obtain ⟨n8, hn8⟩ : ∃ n8, w4.heap.size = n8 := ⟨_, rfl⟩
 have HN8 := Lib.hid (show n7 < n8 by rw [← hn8]; exact B7.out.lt)
 rw [← hW8]
 rw [hn8] at B8 ⊢
 have E08 := Lib.hid (E04.out.trans E48)
 have B7 := Lib.hid (B7.out.ext E48)
 have HW8 := Lib.hid (show Re n8 (fun k => k < w.heap.size) W8 (.slice Av LV cv) (encL (fs.drop 0)) from ⟨B8.out, by rw [List.drop_zero]; exact HV.out.ext E08.out⟩)
 clear hW8 E04 E48 hn8 B8 HV
 go_wp2
 go_loopw [8, 21] (fun u i wr => ∃ (m : Nat) (v2 : Value), m ≤ N ∧ i = .int .i64 m ∧ Hid (OwnS FdR 86 (n8 + 1) (fun k => n8 < k) wr u (fs.take m)) ∧ Hid (Re n8 (fun k => k < w.heap.size) wr v2 (encL (fs.drop m))) ∧ Hid (Blk wr n7 163 sortsV) ∧ Hid (Ext w wr)) (fun _ i _ => N - (intOf i).toNat)
 case atStart => exact ⟨0, .slice Av LV cv, Nat.zero_le _, rfl, Lib.hid (by rw [List.take_zero]; exact OwnS.nil _ _ _ _ _), HW8, B7, E08⟩
 case round =>
   clear B7 E08 HW8
   obtain ⟨m, v2, hm, rfl, HO, HW, B7, hE⟩ := hrel
   by_cases hmn : m < N
   · obtain ⟨b, off, x, rfl, hx, hd⟩ := (RdN.ext HK.out hE.out).icell hmn
     obtain ⟨f, hfm, hfk⟩ : ∃ f, fs[m]? = some f ∧ x = f.k := by
       have h9 := hd.out
       rw [List.getElem?_map] at h9
       cases h8 : fs[m]? with
       | none => rw [h8] at h9; cases h9
       | some f => rw [h8] at h9; exact ⟨f, rfl, by simpa using h9.symm⟩
     obtain ⟨kk, fn, hfn⟩ := read_fn (HF.out f (List.mem_of_getElem? hfm)) (encL (fs.drop (m + 1))) (fun h6 => by
       have h9 := (HR.out m x hd.out).2 (by rw [hfk]; exact h6)
       rw [List.drop_of_length_le (by simpa using Nat.le_of_eq h9.symm)]
       rfl)
     obtain ⟨hkk, hlt, hat, hen, hrd⟩ := hfn
     rw [hkk] at hfk
     subst hfk
     have HFM := Lib.hid hfm
     have HKK := Lib.hid hkk
     have HAT := Lib.hid hat
     have HRD := Lib.hid hrd
     have HW := Lib.hid (show Re n8 (fun k => k < w.heap.size) wr v2 (encF f.k f.n f.t ++ encL (fs.drop (m + 1))) by rw [← encL_drop hfm]; exact HW.out)
     clear hfm hkk hat hrd hd
     have hlt2 : (kk : Int) < 7 := by omega
     have hkf : wr.cell? ⟨n7, kk * 3 + 2, none⟩ = some (.func (.func fn) #[] #[]) := by rw [B7.out.cell, HAT.out]
     have hgl := HW.out.blk.lt
     have hwl := hE.out.size
     go_wp2_with fail
     refine (HRD.out n8 (fun k => k < w.heap.size) v2 wr HW.out (fun k hk => ⟨by have := HN7.out; have := HN8.out; omega, by omega⟩)).mono ?_
     rintro e w9 ⟨vt, v3, rfl, T9, R9, M9⟩
     obtain ⟨At, ct, rfl, -, -⟩ := T9.shape
     obtain ⟨Ao, co, rfl, -, -⟩ := HO.out.shape
     have hlm : (fs.take m).length = m := by rw [List.length_take, HN.out]; omega
     rw [hlm]
     have HO0 := HO.out
     rw [hlm] at HO0
     have HRow := Lib.hid HO0.row
     have HO9 := Lib.hid (HO0.mod M9 (fun k hk he => by have := (HO0.row k hk).1; omega) (fun k _ hk he => by omega))
     have B9 := Lib.hid (B7.out.mod M9 (by have := HN8.out; omega))
     have hE9 := Lib.hid (Mod.toExt hE.out M9 (fun k hk he => by have := HN7.out; have := HN8.out; omega))
     have T9 := Lib.hid T9
     have R9 := Lib.hid R9
     have hs9 := M9.size
     clear HO HW B7 hE HRD M9 HO0 hen hkf
     go_upto_region 10 with fail
     obtain ⟨W10, hW10⟩ : ∃ W10, W10 = w9.alloc (.cells #[.int .i64 0, .int .u32 f.n, .slice At f.t.length ct, .slice none 0 0] 86) := ⟨_, rfl⟩
     have E10 : Ext w9 W10 := by rw [hW10]; exact (Ext.refl _).alloc _
     have P10 := Lib.hid (show Blk W10 w9.heap.size 86 #[.int .i64 0, .int .u32 f.n, .slice At f.t.length ct, .slice none 0 0] by rw [hW10]; exact Blk.new w9 _ _)
     rw [← hW10]
     clear hW10
     obtain ⟨n11, hn11⟩ : ∃ n11, w9.heap.size = n11 := ⟨_, rfl⟩
     rw [hn11] at P10 hs9 ⊢
     have kr := (R9.out.blk.ext E10).cell 1
     have kf := P10.out.frozen 0
     have kp := P10.out.cell 0
     have P12 := Lib.hid (show Blk (W10.setCell ⟨n11, 0, none⟩ (.int .i64 kk)) n11 86 #[.int .i64 kk, .int .u32 f.n, .slice At f.t.length ct, .slice none 0 0] by simpa using P10.out.set_ 0 (.int .i64 kk))
     have M12 : Mod (fun k => k = n11) w9 (W10.setCell ⟨n11, 0, none⟩ (.int .i64 kk)) := (Mod.of_ext E10).set1 _
     have hn12 : n11 < (W10.setCell ⟨n11, 0, none⟩ (.int .i64 kk)).heap.size := P12.out.lt
     have HO12 := Lib.hid (HO9.out.mod M12 (fun k hk he => by have := (HO9.out.row k hk).2; omega) (fun k hk hb he => by omega))
     have B12 := Lib.hid (B9.out.mod M12 (by have := B9.out.lt; omega))
     have hE12 := Lib.hid (Mod.toExt hE9.out M12 (fun k hk he => by have := hE9.out.size; omega))
     have T12 := Lib.hid (show RdS Ub8 (fun k => wr.heap.size ≤ k ∧ k < n11) _ _ _ from (T9.out.lt.mono (fun k _ hk => by rw [hn11] at hk; exact hk)).mod M12 (fun k _ hk he => by omega))
     have R12 := Lib.hid (R9.out.mod M12 (by omega) (fun k hk ha he => by omega))
     clear E10 P10 M12 HO9 B9 hE9 T9 R9
     go_upto_region 13 with fail
     generalize W10.setCell ⟨n11, 0, none⟩ (.int .i64 kk) = W12 at *
     have hrel12 := Lib.hid (show FdR.rel (fun k => wr.heap.size ≤ k ∧ k < n11) W12 [.int .i64 kk, .int .u32 f.n, .slice At f.t.length ct, .slice none 0 0] f from ⟨_, by rw [HKK.out], T12.out⟩)
     have hA12 : ∀ k, wr.heap.size ≤ k ∧ k < n11 → n8 < k ∧ (Value.slice Ao m co).ownBlock ≠ some k := fun k hk => ⟨by omega, fun he => by have := (HRow.out k he).2; omega⟩
     have hb12 : n8 + 1 ≤ W12.heap.size := by omega
     go_wp2_with (first
       | (refine wpList_load_row rfl 86 _ rfl _ rfl 86 _ _ _ P12.out Tryz.underlying86 rfl hi ?_)
       | (at_builtin; refine wpList_app (e := FdR) (base := n8 + 1) (B := fun k => n8 < k) (A := fun k => wr.heap.size ≤ k ∧ k < n11) rfl (.tmp 42) (.tmp 44) rfl Tryz.underlying87 info_fd rfl (HO12.out.alloc _) rfl (RdY.singleB (e := FdR) (cs := [.int .i64 kk, .int .u32 f.n, .slice At f.t.length ct, .slice none 0 0]) (d := f) (Rep.ext hrel12.out ((Ext.refl _).alloc _)) (Blk.new _ _ _)) rfl (fun k _ hk => hA12 k hk) (N := m + 1) (by simp [hlm]) (by unfold maxLen; omega) (by omega) (by simp; omega) ?_; intro A13 c13 w13 o13 M13 L13))
     have M14 : Mod (fun k => (Value.slice Ao m co).ownBlock = some k) W12 w13 := (Mod.of_ext ((Ext.refl W12).alloc _)).trans M13
     refine ⟨⟨m + 1, v3, by omega, by go_num, Lib.hid ?_, Lib.hid ?_, Lib.hid ?_, Lib.hid ?_⟩, by simp [intOf]; omega⟩
     · rw [List.take_add_one, HFM.out]
       exact o13
     · exact R12.out.mod M14 (fun he => by have := (HRow.out _ he).1; omega) (fun k _ hk he => by have := (HRow.out _ he).1; have := HN7.out; have := HN8.out; omega)
     · exact B12.out.mod M14 (fun he => by have := (HRow.out _ he).1; have := HN8.out; omega)
     · exact Mod.toExt hE12.out M14 (fun k hk he => by have := (HRow.out _ he).1; have := HN7.out; have := HN8.out; omega)
   · obtain rfl : m = N := by omega
     have hdr : fs.drop m = [] := List.drop_of_length_le (by rw [HN.out]; exact Nat.le_refl _)
     have hta : fs.take m = fs := List.take_of_length_le (by rw [HN.out]; exact Nat.le_refl _)
     rw [hdr] at HW
     rw [hta] at HO
     obtain ⟨Ar, cr, rfl, -, -⟩ := HW.out.rd.shape
     have kr := HW.out.blk.cell 0
     have hEE : Ext w wr := hE.out
     have H7 := HN7.out
     have H8 := HN8.out
     have HOO := Lib.hid ((HO.out.lower (base' := w.heap.size) (by omega)).mono (B := fun k => w.heap.size ≤ k) (fun k _ hk => by omega))
     clear hdr hta HW HO hE
     go_wp2
     go_ret2
     exact ⟨_, rfl, HOO.out, hEE⟩
end Go.Proofs.YtmmhcllibpmfnaaGreatDoor
namespace Go.Proofs.YtmmhcllibpmfnaaGreatDoor
open Go.RowKit Go.Kb
set_option maxRecDepth 100000
/-- all parts -/
def allPa : List Pa := [paCode, paWords, paLang, paName, paWant, paRest, paSender, paWindow, paPacket, paChan]
/-- a part of a message as a field -/
def vOf (q : Pa) (m : Mg) : Fd :=
 if q.g = 230 then ⟨q.k, m.co, []⟩ else if q.g = 240 then ⟨q.k, m.se, []⟩ else if q.g = 242 then ⟨q.k, m.wi, []⟩ else if q.g = 244 then ⟨q.k, m.pk, []⟩ else
 if q.g = 246 then ⟨q.k, m.ch, []⟩ else if q.g = 238 then ⟨q.k, if m.wa = true then 1 else 0, []⟩ else if q.g = 236 then ⟨q.k, 0, bsL m.nm⟩ else if q.g = 234 then ⟨q.k, 0, bsL m.la⟩ else ⟨q.k, 0, m.da⟩
theorem vOf_k (q : Pa) (m : Mg) : (vOf q m).k = q.k := by
 unfold vOf
 repeat (split; rfl)
 rfl
theorem en_getCode (args : Array Value) (w : World) : (callFunc 230 args).run Tryz.prog w = .ok (.enter 230 args) w := by kernel_rfl
theorem en_getSender (args : Array Value) (w : World) : (callFunc 240 args).run Tryz.prog w = .ok (.enter 240 args) w := by kernel_rfl
theorem en_getWindow (args : Array Value) (w : World) : (callFunc 242 args).run Tryz.prog w = .ok (.enter 242 args) w := by kernel_rfl
theorem en_getPacket (args : Array Value) (w : World) : (callFunc 244 args).run Tryz.prog w = .ok (.enter 244 args) w := by kernel_rfl
theorem en_getChan (args : Array Value) (w : World) : (callFunc 246 args).run Tryz.prog w = .ok (.enter 246 args) w := by kernel_rfl
theorem en_getWant (args : Array Value) (w : World) : (callFunc 238 args).run Tryz.prog w = .ok (.enter 238 args) w := by kernel_rfl
theorem en_getName (args : Array Value) (w : World) : (callFunc 236 args).run Tryz.prog w = .ok (.enter 236 args) w := by kernel_rfl
theorem en_getLang (args : Array Value) (w : World) : (callFunc 234 args).run Tryz.prog w = .ok (.enter 234 args) w := by kernel_rfl
theorem en_getData (args : Array Value) (w : World) : (callFunc 232 args).run Tryz.prog w = .ok (.enter 232 args) w := by kernel_rfl
/-- what gets a part -/
structure GetsP (q : Pa) (m : Mg) : Prop where
 enters : ∀ args w', (callFunc q.g args).run Tryz.prog w' = .ok (.enter q.g args) w'
 gets : ∀ g v A w, Blk w g 224 (mgA m v) → RdS Ub8 A w v m.da → Calls Tryz.prog q.g #[.pointer (some ⟨g, 0, none⟩)] w (GetP A (vOf q m).n (vOf q m).t w)
theorem gets_all {q : Pa} (hq : q ∈ allPa) (m : Mg) (h1 : m.nm.size ≤ 1000000) (h2 : m.la.size ≤ 1000000) : GetsP q m := by
 simp only [allPa, List.mem_cons, List.not_mem_nil, or_false] at hq
 rcases hq with rfl | rfl | rfl | rfl | rfl | rfl | rfl | rfl | rfl | rfl
 · exact ⟨en_getCode, fun g v A w hb _ => mgetCode g m v A w hb⟩
 · exact ⟨en_getData, fun g v A w hb hv => mgetData g m v A w hb hv⟩
 · exact ⟨en_getLang, fun g v A w hb _ => mgetLang g m v A w hb h2⟩
 · exact ⟨en_getName, fun g v A w hb _ => mgetName g m v A w hb h1⟩
 · exact ⟨en_getWant, fun g v A w hb _ => mgetWant g m v A w hb⟩
 · exact ⟨en_getData, fun g v A w hb hv => mgetData g m v A w hb hv⟩
 · exact ⟨en_getSender, fun g v A w hb _ => mgetSender g m v A w hb⟩
 · exact ⟨en_getWindow, fun g v A w hb _ => mgetWindow g m v A w hb⟩
 · exact ⟨en_getPacket, fun g v A w hb _ => mgetPacket g m v A w hb⟩
 · exact ⟨en_getChan, fun g v A w hb _ => mgetChan g m v A w hb⟩
/-- a kind that there is -/
def KindOk (k : Int) : Prop := k = 1 ∨ k = 80 ∨ k = 81 ∨ k = 82 ∨ k = 90 ∨ k = 91 ∨ k = 92 ∨ k = 93 ∨ k = 94 ∨ k = 95 ∨ k = 96 ∨ k = 97 ∨ k = 98 ∨ k = 99 ∨ k = 100
theorem row_kind {k : Int} {ps : List Pa} (h : rowL k = some ps) : KindOk k := by
 unfold KindOk
 apply Classical.byContradiction
 intro hn
 simp only [not_or] at hn
 obtain ⟨h1, h80, h81, h82, h90, h91, h92, h93, h94, h95, h96, h97, h98, h99, h100⟩ := hn
 rw [show rowL k = none by simp [rowL, h1, h80, h81, h82, h90, h91, h92, h93, h94, h95, h96, h97, h98, h99, h100]] at h
 cases h
theorem rowOk_of {ks : List Int} (h1 : ks.all (fun x => decide (1 ≤ x ∧ x ≤ 6)) = true) (h2 : ks.dropLast.all (fun x => decide (x ≠ 6)) = true) : RowOk ks := by
 intro i x hx
 have hm := List.mem_of_getElem? hx
 refine ⟨of_decide_eq_true (List.all_eq_true.1 h1 x hm), fun h6 => ?_⟩
 have hlt := (List.getElem?_eq_some_iff.1 hx).1
 apply Classical.byContradiction
 intro hn
 have h9 : ks.dropLast[i]? = some x := by rw [List.getElem?_dropLast, if_pos (by omega)]; exact hx
 exact of_decide_eq_true (List.all_eq_true.1 h2 x (List.mem_of_getElem? h9)) h6
theorem row_all {k : Int} {ps : List Pa} (h : rowL k = some ps) : ps.length ≤ 5 ∧ (∀ q ∈ ps, q ∈ allPa) ∧ RowOk (1 :: ps.map (·.k)) := by
 have hk := row_kind h
 unfold KindOk at hk
 rcases hk with rfl | rfl | rfl | rfl | rfl | rfl | rfl | rfl | rfl | rfl | rfl | rfl | rfl | rfl | rfl
 all_goals
   simp [rowL] at h
   subst h
   exact ⟨by decide, by simp [allPa], rowOk_of (by decide) (by decide)⟩
theorem pa_ix {ps : List Pa} {j : Nat} {q : Pa} (h : ps[j]? = some q) (i : Nat) (hi : i < 3) : (ps.flatMap (fun q => (paA q).toList))[j * 3 + i]? = (paA q).toList[i]? := by
 induction ps generalizing j with
 | nil => simp at h
 | cons a l ih =>
   rw [List.flatMap_cons]
   cases j with
   | zero =>
     simp only [List.getElem?_cons_zero, Option.some.injEq] at h
     subst h
     rw [Nat.zero_mul, Nat.zero_add, List.getElem?_append_left (by simpa using hi)]
   | succ j =>
     rw [List.getElem?_append_right (by simp; omega), show (j + 1) * 3 + i - ((paA a).toList).length = j * 3 + i by simp; omega]
     exact ih (by simpa using h)
theorem pa_at {w : World} {g : Nat} {t : TypeId} {ps : List Pa} {j : Nat} {q : Pa} (h : Blk w g t (ps.flatMap (fun q => (paA q).toList)).toArray) (hj : ps[j]? = some q) :
   w.cell? ⟨g, j * 3, none⟩ = some (.int .i64 q.k) ∧ w.cell? ⟨g, j * 3 + 1, none⟩ = some (.func (.func q.g) #[] #[]) ∧ w.cell? ⟨g, j * 3 + 2, none⟩ = some (.func (.func q.p) #[] #[]) := by
 refine ⟨?_, ?_, ?_⟩
 · have h9 := pa_ix hj 0 (by omega)
   rw [h.cell, List.getElem?_toArray]
   simpa using h9
 · have h9 := pa_ix hj 1 (by omega)
   rw [h.cell, List.getElem?_toArray, h9]
   rfl
 · have h9 := pa_ix hj 2 (by omega)
   rw [h.cell, List.getElem?_toArray, h9]
   rfl
/-- a message's fields -/
def flds (m : Mg) (ps : List Pa) : List Fd := ⟨1, m.k, []⟩ :: ps.map (fun q => vOf q m)
theorem flds_k (m : Mg) (ps : List Pa) : (flds m ps).map (·.k) = 1 :: ps.map (·.k) := by
 unfold flds
 rw [List.map_cons, List.map_map]
 congr 1
 exact List.map_congr_left fun q _ => vOf_k q m
/-- numbers that fit, and texts that aren't too long -/
structure Mg.Ok (m : Mg) : Prop where
 ch : 0 ≤ m.ch ∧ m.ch ≤ 4294967295
 se : 0 ≤ m.se ∧ m.se ≤ 4294967295
 wi : 0 ≤ m.wi ∧ m.wi ≤ 4294967295
 pk : 0 ≤ m.pk ∧ m.pk ≤ 4294967295
 co : 0 ≤ m.co ∧ m.co ≤ 4294967295
 nm : m.nm.size ≤ 10000
 la : m.la.size ≤ 10000
 da : m.da.length ≤ 100000
 bs : Bs m.da
theorem vOf_ok {q : Pa} {m : Mg} (hm : m.Ok) (hk : q ∈ allPa) : FdOk (vOf q m) := by
 refine ⟨?_, ?_⟩
 · rw [vOf_k]
   simp only [allPa, List.mem_cons, List.not_mem_nil, or_false] at hk
   rcases hk with rfl | rfl | rfl | rfl | rfl | rfl | rfl | rfl | rfl | rfl <;> simp [paCode, paWords, paLang, paName, paWant, paRest, paSender, paWindow, paPacket, paChan]
 · obtain ⟨h1, h2, h3, h4, h5, -, -, -, -⟩ := hm
   unfold vOf
   repeat' split
   all_goals (dsimp only; first | assumption | omega)
/-- what Encode answers -/
def EncP (m : Mg) (w : World) (e : Ending) (w' : World) : Prop :=
 ∃ (u : Value) (q : Int), e = .returned (.tuple #[u, .int .i64 q]) ∧ Ext w w' ∧ (q = 0 → ∃ ps, rowL m.k = some ps ∧ FitP m ∧ (∀ f ∈ flds m ps, fltF f.k f.n f.t = 0) ∧ (encL (flds m ps)).length ≤ 33792 ∧ OwnS Ub8 5 w.heap.size (fun _ => False) w' u (encL (flds m ps))) ∧ (q ≠ 0 → u = .slice none 0 0) ∧ (∀ ps, rowL m.k = some ps → FitP m → (∀ f ∈ flds m ps, fltF f.k f.n f.t = 0) → (encL (flds m ps)).length ≤ 33792 → q = 0)
set_option maxHeartbeats 3000000 in
theorem encode_any (m : Mg) (v : Value) (w : World) (hd : RdS Ub8 (fun k => k < w.heap.size) w v m.da) (hm : m.Ok) : Calls Tryz.prog 46 #[.agg (mgA m v)] w (EncP m w) := by
 obtain ⟨Av, cv, rfl, -, -⟩ := hd.shape
 have HD := Lib.hid hd
 have hi : (Tryz.prog.info? 86).map (·.size) = some 4 := by kernel_rfl
 have hiM : (Tryz.prog.info? 62).map (·.size) = some 10 := by kernel_rfl
 have hiP : (Tryz.prog.info? 228).map (·.size) = some 3 := by kernel_rfl
 have HOK := Lib.hid hm
 have HRW := Lib.hid (fun w' => mrow_any m.k w')
 have HFT := Lib.hid (fun w' => fitsm_any m (.slice Av m.da.length cv) w' (by have := hm.nm; omega) (by have := hm.la; omega))
 obtain ⟨W1, hW1⟩ : ∃ W1, W1 = w.alloc (.cells (mgA m (.slice Av m.da.length cv)) 62) := ⟨_, rfl⟩
 have E1 : Ext w W1 := by rw [hW1]; exact (Ext.refl _).alloc _
 have P1 := Lib.hid (show Blk W1 w.heap.size 62 (mgA m (.slice Av m.da.length cv)) by rw [hW1]; exact Blk.new w _ _)
 have HW1 := Lib.hid hW1
 clear hd hm hW1
 go_enter Tryz.func46, Tryz.ntmps46
 go_upto_region 1 with fail
 rw [← HW1.out]
 clear HW1
 have k0 := (mgC P1.out).k0
 have hs1 : w.heap.size < W1.heap.size := P1.out.lt
 go_wp2_with fail
 refine (HRW.out _).mono ?_
 rintro e w2 ⟨E2, hrow⟩
 have E02 : Ext w w2 := E1.trans E2
 have P2 := Lib.hid (P1.out.ext E2)
 clear k0 P1 E1 E2
 cases hps : rowL m.k with
 | none =>
   rw [hps] at hrow
   obtain rfl := hrow
   go_wp2
   go_ret2
   exact ⟨_, 8, rfl, E02, fun h => absurd h (by decide), fun _ => rfl, fun ps h => by rw [hps] at h; cases h⟩
 | some ps =>
   rw [hps] at hrow
   obtain ⟨Ap, rfl, hpart⟩ := hrow
   have HPS := Lib.hid hps
   have HPT := Lib.hid hpart
   clear hps hpart
   go_wp2_with (first | (refine wpList_load_row rfl 62 _ rfl _ rfl 62 _ _ _ P2.out Tryz.underlying62 rfl hiM ?_) | fail)
   refine (HFT.out _).mono ?_
   rintro e w3 ⟨qf, rfl, hqf, E3⟩
   have E03 := E02.trans E3
   have P3 := Lib.hid (P2.out.ext E3)
   have HPT := Lib.hid (show ps = [] ∨ ∃ g, Ap = some ⟨g, 0, none⟩ ∧ w.heap.size ≤ g ∧ Blk w3 g 228 (ps.flatMap (fun q => (paA q).toList)).toArray from HPT.out.imp id (fun ⟨g, h1, h2, h3⟩ => ⟨g, h1, Nat.le_trans (Nat.le_of_lt hs1) h2, h3.ext E3⟩))
   clear P2 E3 E02
   cases qf with
   | false =>
     have HNF := Lib.hid (show ¬ FitP m from fun h9 => by have := hqf.2 h9; cases this)
     clear hqf
     go_wp2
     go_ret2
     exact ⟨_, 4, rfl, E03, fun h => absurd h (by decide), fun _ => rfl, fun _ _ h9 => absurd h9 HNF.out⟩
   | true =>
     have HFP := Lib.hid (hqf.1 rfl)
     clear hqf
     have hkk : IntKind.u32.wrap m.k = m.k := by
       have h9 := row_kind HPS.out
       unfold KindOk at h9
       unfold IntKind.wrap
       simp [IntKind.bits, IntKind.signed]
       omega
     go_upto_region 7 with (refine wpList_load_row rfl 62 _ rfl _ rfl 62 _ _ _ P3.out Tryz.underlying62 rfl hiM ?_)
     obtain ⟨W6, hW6⟩ : ∃ W6, W6 = w3.alloc (.cells (mgA m (.slice Av m.da.length cv)) 224) := ⟨_, rfl⟩
     have E6 : Ext w3 W6 := by rw [hW6]; exact (Ext.refl _).alloc _
     have P6 := Lib.hid (show Blk W6 w3.heap.size 224 (mgA m (.slice Av m.da.length cv)) by rw [hW6]; exact Blk.new w3 _ _)
     have hs3 : w.heap.size ≤ w3.heap.size := E03.size
     obtain ⟨n6, hn6⟩ : ∃ n6, w3.heap.size = n6 := ⟨_, rfl⟩
     rw [← hW6]
     rw [hn6] at P6 hs3 ⊢
     clear hW6 hn6
     have k0 := (mgC (P3.out.ext E6)).k0
     have E06 := E03.trans E6
     have HPT := Lib.hid (show ps = [] ∨ ∃ g, Ap = some ⟨g, 0, none⟩ ∧ w.heap.size ≤ g ∧ Blk W6 g 228 (ps.flatMap (fun q => (paA q).toList)).toArray from HPT.out.imp id (fun ⟨g, h1, h2, h3⟩ => ⟨g, h1, h2, h3.ext E6⟩))
     clear P3 E03 E6
     have HL := Lib.hid hs1
     have hlen : (flds m ps).length = ps.length + 1 := by simp [flds]
     obtain ⟨K, hK⟩ : ∃ K, ps.length = K := ⟨_, rfl⟩
     have HKL := Lib.hid hK
     have hK5 : K ≤ 5 := by have := (row_all HPS.out).1; omega
     have hlen := Lib.hid (show (flds m ps).length = K + 1 by rw [← hK]; exact hlen)
     rw [hK]
     have hs6 : n6 < W6.heap.size := P6.out.lt
     go_upto_region 8 with fail
     have HO0 := Lib.hid (show OwnS FdR 86 W6.heap.size (fun _ => True) (W6.alloc (.cells #[.int .i64 1, .int .u32 m.k, .slice none 0 0, .slice none 0 0] 86)) (.slice (some ⟨W6.heap.size, 0, none⟩) 1 1) ((flds m ps).take 1) from by
       refine OwnS.litB (A := fun k => k < W6.heap.size) (cs := [.int .i64 1, .int .u32 m.k, .slice none 0 0, .slice none 0 0]) ?_ (Blk.new _ _ _) (fun k _ hk => ⟨trivial, by omega⟩) (Nat.le_refl _) rfl (by omega)
       exact RdE.single (e := FdR) (d := ⟨1, m.k, []⟩) ⟨_, rfl, RdS.nil _ _ _⟩)
     have HE0 := Lib.hid ((Ext.refl W6).alloc (.cells #[.int .i64 1, .int .u32 m.k, .slice none 0 0, .slice none 0 0] 86))
     clear hK k0
     go_wp2
     go_loopw [7, 34] (fun u i wr => ∃ j : Nat, j ≤ K ∧ i = .int .i64 j ∧ Hid (OwnS FdR 86 W6.heap.size (fun _ => True) wr u ((flds m ps).take (j + 1))) ∧ Hid (Ext W6 wr)) (fun _ i _ => K - (intOf i).toNat)
     case atStart => exact ⟨0, Nat.zero_le _, rfl, HO0, HE0⟩
     case round =>
       clear HO0 HE0
       obtain ⟨j, hj, rfl, HO, hE⟩ := hrel
       by_cases hjk : j < K
       · obtain ⟨q, hq⟩ : ∃ q, ps[j]? = some q := ⟨_, List.getElem?_eq_getElem (by rw [HKL.out]; exact hjk)⟩
         obtain ⟨gp, rfl, hgp, hbp⟩ : ∃ g, Ap = some ⟨g, 0, none⟩ ∧ w.heap.size ≤ g ∧ Blk W6 g 228 (ps.flatMap (fun q => (paA q).toList)).toArray := by
           rcases HPT.out with h9 | h9
           · rw [h9] at hq; simp at hq
           · exact h9
         obtain ⟨c0, c1, c2⟩ := pa_at (hbp.ext hE.out) hq
         have HQ := Lib.hid hq
         have hgets := gets_all ((row_all HPS.out).2.1 q (List.mem_of_getElem? hq)) m (by have := HOK.out.nm; omega) (by have := HOK.out.la; omega)
         have hen := hgets.enters
         have HG := Lib.hid hgets.gets
         clear hbp hq hgets
         go_upto_region 11 with (refine wpList_store_M rfl 228 _ _ rfl wr.heap.size _ rfl rfl 228 _ (Blk.new _ _ _) hiP rfl (by simp [Value.oneCell']) ?_; intro w10 P10 M10)
         have E10 : Ext wr w10 := Mod.toExt ((Ext.refl wr).alloc _) M10 (fun k hk he => by omega)
         have kp0 := P10.cell 0
         have kp1 := P10.cell 1
         have hE10 := hE.out.trans E10
         have HP10 := Lib.hid P10
         clear M10 P10 c0 c1 c2
         go_wp2_with fail
         refine (HG.out n6 _ (fun k => k < w.heap.size) w10 (P6.out.ext hE10) (HD.out.ext (E06.trans hE10))).mono ?_
         rintro e w11 ⟨vt, rfl, T11, E11⟩
         obtain ⟨At, ct, rfl, -, -⟩ := T11.shape
         obtain ⟨Ao, co, rfl, -, -⟩ := HO.out.shape
         have hlm : ((flds m ps).take (j + 1)).length = j + 1 := by rw [List.length_take, hlen.out]; omega
         rw [hlm]
         have HO0 := HO.out
         rw [hlm] at HO0
         have HRow := Lib.hid HO0.row
         have hvf : (flds m ps)[j + 1]? = some (vOf q m) := by
           unfold flds
           rw [List.getElem?_cons_succ, List.getElem?_map, HQ.out]
           rfl
         have hvk : (vOf q m).k = q.k := vOf_k q m
         obtain ⟨f, hf⟩ : ∃ f, vOf q m = f := ⟨_, rfl⟩
         rw [hf] at hvf hvk T11 ⊢
         have hwr := E10.size
         have E1011 := E10.trans E11
         have hs11 := E1011.size
         have HO11 := Lib.hid (HO0.ext E1011)
         have P11 := Lib.hid (HP10.out.ext E11)
         have hE11 := Lib.hid (hE10.trans E11)
         have T11 := Lib.hid T11
         have HVF := Lib.hid hvf
         have HVK := Lib.hid hvk
         clear HO hE hE10 E10 E11 E1011 HP10 HO0 hen kp0 kp1 hf hvf hvk HG
         go_upto_region 12 with fail
         obtain ⟨W12, hW12⟩ : ∃ W12, W12 = w11.alloc (.cells #[.int .i64 0, .int .u32 f.n, .slice At f.t.length ct, .slice none 0 0] 86) := ⟨_, rfl⟩
         have E12 : Ext w11 W12 := by rw [hW12]; exact (Ext.refl _).alloc _
         have P12 := Lib.hid (show Blk W12 w11.heap.size 86 #[.int .i64 0, .int .u32 f.n, .slice At f.t.length ct, .slice none 0 0] by rw [hW12]; exact Blk.new w11 _ _)
         rw [← hW12]
         clear hW12
         obtain ⟨n12, hn12⟩ : ∃ n12, w11.heap.size = n12 := ⟨_, rfl⟩
         rw [hn12] at P12 hs11 ⊢
         have kf := P12.out.frozen 0
         have kp := P12.out.cell 0
         have kk := (P11.out.ext E12).cell 0
         have P13 := Lib.hid (show Blk (W12.setCell ⟨n12, 0, none⟩ (.int .i64 q.k)) n12 86 #[.int .i64 q.k, .int .u32 f.n, .slice At f.t.length ct, .slice none 0 0] by simpa using P12.out.set_ 0 (.int .i64 q.k))
         have M13 : Mod (fun k => k = n12) w11 (W12.setCell ⟨n12, 0, none⟩ (.int .i64 q.k)) := (Mod.of_ext E12).set1 _
         have hl13 : n12 < (W12.setCell ⟨n12, 0, none⟩ (.int .i64 q.k)).heap.size := P13.out.lt
         have HO13 := Lib.hid (show OwnS FdR 86 W6.heap.size (fun _ => True) (W12.setCell ⟨n12, 0, none⟩ (.int .i64 q.k)) (.slice Ao (j + 1) co) ((flds m ps).take (j + 1)) from by
           refine ((HO11.out.mono (B := fun k => k < w11.heap.size) (fun k hk _ => hk)).mod M13 (fun k hk he => by have := (HO11.out.row k hk).2; omega) (fun k hk hb he => by omega)).mono (fun _ _ _ => trivial))
         have hE13 := Lib.hid (Mod.toExt hE11.out M13 (fun k hk he => by have := hE11.out.size; omega))
         have T13 := Lib.hid (show RdS Ub8 (fun k => (k < w.heap.size ∨ wr.heap.size ≤ k) ∧ k < n12) _ _ _ from (T11.out.lt.mono (fun k _ hk => by rw [hn12] at hk; exact ⟨by omega, hk.2⟩)).mod M13 (fun k _ hk he => by omega))
         clear E12 P12 M13 HO11 hE11 T11 P11
         go_upto_region 13 with fail
         generalize W12.setCell ⟨n12, 0, none⟩ (.int .i64 q.k) = W13 at *
         have hrel := Lib.hid (show FdR.rel (fun k => (k < w.heap.size ∨ wr.heap.size ≤ k) ∧ k < n12) W13 [.int .i64 q.k, .int .u32 f.n, .slice At f.t.length ct, .slice none 0 0] f from ⟨_, by rw [HVK.out], T13.out⟩)
         have h6l := HL.out
         have hA13 : ∀ k, (k < w.heap.size ∨ wr.heap.size ≤ k) ∧ k < n12 → True ∧ (Value.slice Ao (j + 1) co).ownBlock ≠ some k := fun k hk => ⟨trivial, fun he => by have := HRow.out k he; omega⟩
         have hb13 : W6.heap.size ≤ W13.heap.size := hE13.out.size
         go_wp2_with (first
           | (refine wpList_load_row rfl 86 _ rfl _ rfl 86 _ _ _ P13.out Tryz.underlying86 rfl hi ?_)
           | (at_builtin; refine wpList_app (e := FdR) (base := W6.heap.size) (B := fun _ => True) (A := fun k => (k < w.heap.size ∨ wr.heap.size ≤ k) ∧ k < n12) rfl (.tmp 45) (.tmp 47) rfl Tryz.underlying87 info_fd rfl (HO13.out.alloc _) rfl (RdY.singleB (e := FdR) (cs := [.int .i64 q.k, .int .u32 f.n, .slice At f.t.length ct, .slice none 0 0]) (d := f) (Rep.ext hrel.out ((Ext.refl _).alloc _)) (Blk.new _ _ _)) rfl (fun k _ hk => hA13 k hk) (N := j + 1 + 1) (by simp [hlm]) (by unfold maxLen; omega) (by omega) (by simp; omega) ?_; intro A14 c14 w14 o14 M14 L14))
         have M15 : Mod (fun k => (Value.slice Ao (j + 1) co).ownBlock = some k) W13 w14 := (Mod.of_ext ((Ext.refl W13).alloc _)).trans M14
         refine ⟨⟨j + 1, by omega, by go_num, Lib.hid ?_, Lib.hid ?_⟩, by simp [intOf]; omega⟩
         · rw [List.take_add_one, HVF.out]
           exact o14
         · exact Mod.toExt hE13.out M15 (fun k hk he => by have := (HRow.out _ he).1; omega)
       · obtain rfl : j = K := by omega
         have hta : (flds m ps).take (j + 1) = flds m ps := List.take_of_length_le (by rw [hlen.out]; exact Nat.le_refl _)
         rw [hta] at HO
         have hrow := row_all HPS.out
         have HRY := Lib.hid (HO.out.rdT.y)
         have HEE := Lib.hid (E06.trans hE.out)
         obtain ⟨Ao, co, rfl, -, -⟩ := HO.out.shape
         have hok : ∀ f ∈ flds m ps, FdOk f := by
           intro f hf
           unfold flds at hf
           rcases List.mem_cons.1 hf with rfl | hf
           · have h9 := row_kind HPS.out
             unfold KindOk at h9
             exact ⟨.inl rfl, by dsimp only; omega⟩
           · obtain ⟨q, hq, rfl⟩ := List.mem_map.1 hf
             exact vOf_ok HOK.out (hrow.2.1 q hq)
         have HW := Lib.hid (owrite_any _ _ _ HRY.out (by rw [hlen.out]; omega) (by rw [flds_k]; exact hrow.2.2) hok)
         rw [hlen.out] at HW ⊢
         have hes := HEE.out.size
         clear hta hrow HRY hok HO hE
         go_wp2_with fail
         refine (HW.out).mono ?_
         rintro e w9 ⟨u, qw, rfl, E9, hq0, hq1, hq2⟩
         have E09 := HEE.out.trans E9
         have HQ0 := Lib.hid hq0
         have HQ1 := Lib.hid hq1
         have HQ2 := Lib.hid hq2
         clear hq0 hq1 hq2
         go_wp2
         go_ret2
         exact ⟨u, qw, rfl, E09, fun h0 => ⟨ps, HPS.out, HFP.out, (HQ0.out h0).1, (HQ0.out h0).2.1, (HQ0.out h0).2.2.lower hes⟩, HQ1.out, fun ps9 h9 _ ha hl => by obtain rfl : ps = ps9 := Option.some.inj (HPS.out.symm.trans h9); exact HQ2.out ha hl⟩
end Go.Proofs.YtmmhcllibpmfnaaGreatDoor
namespace Go.Proofs.YtmmhcllibpmfnaaGreatDoor
open Go.RowKit Go.Kb
set_option maxRecDepth 100000
/-- what a putter leaves -/
def PutP (g : Nat) (A : Nat → Prop) (m : Mg) (w : World) (e : Ending) (w' : World) : Prop :=
 e = .returned (.tuple #[]) ∧ ∃ v, Blk w' g 224 (mgA m v) ∧ RdS Ub8 A w' v m.da ∧ Mod (fun k => k = g) w w'
set_option maxHeartbeats 800000 in
theorem mputCode (g : Nat) (m : Mg) (v : Value) (k n : Int) (t : List Int) (vt vl : Value) (A : Nat → Prop) (w : World) (h : Blk w g 224 (mgA m v)) (hv : RdS Ub8 A w v m.da) (ht : RdS Ub8 A w vt t) (hA : ∀ k, A k → k ≠ g) :
   Calls Tryz.prog 231 #[.pointer (some ⟨g, 0, none⟩), .agg #[.int .i64 k, .int .u32 n, vt, vl]] w (PutP g A { m with co := n } w) := by
 obtain ⟨Av, cv, rfl, -, -⟩ := hv.shape
 obtain ⟨At, ct, rfl, -, -⟩ := ht.shape
 have E0 : Ext w (w.alloc (.cells #[.int .i64 k, .int .u32 n, .slice At t.length ct, vl] 86)) := (Ext.refl w).alloc _
 have HX := Lib.hid (h.ext E0)
 have kc := HX.out.cell 5
 have kf := HX.out.frozen 5
 clear h
 go_enter Tryz.func231, Tryz.ntmps231
 go_wp2
 go_end0
 have M1 : Mod (fun k => k = g) w (World.setCell (w.alloc (.cells #[.int .i64 k, .int .u32 n, .slice At t.length ct, vl] 86)) ⟨g, 5, none⟩ (.int .u32 n)) := (Mod.of_ext E0).set1 _
 refine ⟨rfl, _, by simpa using HX.out.set_ 5 (.int .u32 n), hv.mod M1 (fun k _ hk he => hA k hk he), M1⟩
set_option maxHeartbeats 800000 in
theorem mputSender (g : Nat) (m : Mg) (v : Value) (k n : Int) (t : List Int) (vt vl : Value) (A : Nat → Prop) (w : World) (h : Blk w g 224 (mgA m v)) (hv : RdS Ub8 A w v m.da) (ht : RdS Ub8 A w vt t) (hA : ∀ k, A k → k ≠ g) :
   Calls Tryz.prog 241 #[.pointer (some ⟨g, 0, none⟩), .agg #[.int .i64 k, .int .u32 n, vt, vl]] w (PutP g A { m with se := n } w) := by
 obtain ⟨Av, cv, rfl, -, -⟩ := hv.shape
 obtain ⟨At, ct, rfl, -, -⟩ := ht.shape
 have E0 : Ext w (w.alloc (.cells #[.int .i64 k, .int .u32 n, .slice At t.length ct, vl] 86)) := (Ext.refl w).alloc _
 have HX := Lib.hid (h.ext E0)
 have kc := HX.out.cell 2
 have kf := HX.out.frozen 2
 clear h
 go_enter Tryz.func241, Tryz.ntmps241
 go_wp2
 go_end0
 have M1 : Mod (fun k => k = g) w (World.setCell (w.alloc (.cells #[.int .i64 k, .int .u32 n, .slice At t.length ct, vl] 86)) ⟨g, 2, none⟩ (.int .u32 n)) := (Mod.of_ext E0).set1 _
 refine ⟨rfl, _, by simpa using HX.out.set_ 2 (.int .u32 n), hv.mod M1 (fun k _ hk he => hA k hk he), M1⟩
set_option maxHeartbeats 800000 in
theorem mputWindow (g : Nat) (m : Mg) (v : Value) (k n : Int) (t : List Int) (vt vl : Value) (A : Nat → Prop) (w : World) (h : Blk w g 224 (mgA m v)) (hv : RdS Ub8 A w v m.da) (ht : RdS Ub8 A w vt t) (hA : ∀ k, A k → k ≠ g) :
   Calls Tryz.prog 243 #[.pointer (some ⟨g, 0, none⟩), .agg #[.int .i64 k, .int .u32 n, vt, vl]] w (PutP g A { m with wi := n } w) := by
 obtain ⟨Av, cv, rfl, -, -⟩ := hv.shape
 obtain ⟨At, ct, rfl, -, -⟩ := ht.shape
 have E0 : Ext w (w.alloc (.cells #[.int .i64 k, .int .u32 n, .slice At t.length ct, vl] 86)) := (Ext.refl w).alloc _
 have HX := Lib.hid (h.ext E0)
 have kc := HX.out.cell 3
 have kf := HX.out.frozen 3
 clear h
 go_enter Tryz.func243, Tryz.ntmps243
 go_wp2
 go_end0
 have M1 : Mod (fun k => k = g) w (World.setCell (w.alloc (.cells #[.int .i64 k, .int .u32 n, .slice At t.length ct, vl] 86)) ⟨g, 3, none⟩ (.int .u32 n)) := (Mod.of_ext E0).set1 _
 refine ⟨rfl, _, by simpa using HX.out.set_ 3 (.int .u32 n), hv.mod M1 (fun k _ hk he => hA k hk he), M1⟩
set_option maxHeartbeats 800000 in
theorem mputPacket (g : Nat) (m : Mg) (v : Value) (k n : Int) (t : List Int) (vt vl : Value) (A : Nat → Prop) (w : World) (h : Blk w g 224 (mgA m v)) (hv : RdS Ub8 A w v m.da) (ht : RdS Ub8 A w vt t) (hA : ∀ k, A k → k ≠ g) :
   Calls Tryz.prog 245 #[.pointer (some ⟨g, 0, none⟩), .agg #[.int .i64 k, .int .u32 n, vt, vl]] w (PutP g A { m with pk := n } w) := by
 obtain ⟨Av, cv, rfl, -, -⟩ := hv.shape
 obtain ⟨At, ct, rfl, -, -⟩ := ht.shape
 have E0 : Ext w (w.alloc (.cells #[.int .i64 k, .int .u32 n, .slice At t.length ct, vl] 86)) := (Ext.refl w).alloc _
 have HX := Lib.hid (h.ext E0)
 have kc := HX.out.cell 4
 have kf := HX.out.frozen 4
 clear h
 go_enter Tryz.func245, Tryz.ntmps245
 go_wp2
 go_end0
 have M1 : Mod (fun k => k = g) w (World.setCell (w.alloc (.cells #[.int .i64 k, .int .u32 n, .slice At t.length ct, vl] 86)) ⟨g, 4, none⟩ (.int .u32 n)) := (Mod.of_ext E0).set1 _
 refine ⟨rfl, _, by simpa using HX.out.set_ 4 (.int .u32 n), hv.mod M1 (fun k _ hk he => hA k hk he), M1⟩
set_option maxHeartbeats 800000 in
theorem mputChan (g : Nat) (m : Mg) (v : Value) (k n : Int) (t : List Int) (vt vl : Value) (A : Nat → Prop) (w : World) (h : Blk w g 224 (mgA m v)) (hv : RdS Ub8 A w v m.da) (ht : RdS Ub8 A w vt t) (hA : ∀ k, A k → k ≠ g) :
   Calls Tryz.prog 247 #[.pointer (some ⟨g, 0, none⟩), .agg #[.int .i64 k, .int .u32 n, vt, vl]] w (PutP g A { m with ch := n } w) := by
 obtain ⟨Av, cv, rfl, -, -⟩ := hv.shape
 obtain ⟨At, ct, rfl, -, -⟩ := ht.shape
 have E0 : Ext w (w.alloc (.cells #[.int .i64 k, .int .u32 n, .slice At t.length ct, vl] 86)) := (Ext.refl w).alloc _
 have HX := Lib.hid (h.ext E0)
 have kc := HX.out.cell 1
 have kf := HX.out.frozen 1
 clear h
 go_enter Tryz.func247, Tryz.ntmps247
 go_wp2
 go_end0
 have M1 : Mod (fun k => k = g) w (World.setCell (w.alloc (.cells #[.int .i64 k, .int .u32 n, .slice At t.length ct, vl] 86)) ⟨g, 1, none⟩ (.int .u32 n)) := (Mod.of_ext E0).set1 _
 refine ⟨rfl, _, by simpa using HX.out.set_ 1 (.int .u32 n), hv.mod M1 (fun k _ hk he => hA k hk he), M1⟩
set_option maxHeartbeats 800000 in
theorem mputData (g : Nat) (m : Mg) (v : Value) (k n : Int) (t : List Int) (vt vl : Value) (A : Nat → Prop) (w : World) (h : Blk w g 224 (mgA m v)) (hv : RdS Ub8 A w v m.da) (ht : RdS Ub8 A w vt t) (hA : ∀ k, A k → k ≠ g) :
   Calls Tryz.prog 233 #[.pointer (some ⟨g, 0, none⟩), .agg #[.int .i64 k, .int .u32 n, vt, vl]] w (PutP g A { m with da := t } w) := by
 obtain ⟨Av, cv, rfl, -, -⟩ := hv.shape
 obtain ⟨At, ct, rfl, -, -⟩ := ht.shape
 have E0 : Ext w (w.alloc (.cells #[.int .i64 k, .int .u32 n, .slice At t.length ct, vl] 86)) := (Ext.refl w).alloc _
 have HX := Lib.hid (h.ext E0)
 have kc := HX.out.cell 9
 have kf := HX.out.frozen 9
 clear h
 go_enter Tryz.func233, Tryz.ntmps233
 go_wp2
 go_end0
 have M1 : Mod (fun k => k = g) w (World.setCell (w.alloc (.cells #[.int .i64 k, .int .u32 n, .slice At t.length ct, vl] 86)) ⟨g, 9, none⟩ (.slice At t.length ct)) := (Mod.of_ext E0).set1 _
 refine ⟨rfl, _, by simpa using HX.out.set_ 9 (.slice At t.length ct), ht.mod M1 (fun k _ hk he => hA k hk he), M1⟩
set_option maxHeartbeats 800000 in
theorem mputWant (g : Nat) (m : Mg) (v : Value) (k n : Int) (t : List Int) (vt vl : Value) (A : Nat → Prop) (w : World) (h : Blk w g 224 (mgA m v)) (hv : RdS Ub8 A w v m.da) (ht : RdS Ub8 A w vt t) (hA : ∀ k, A k → k ≠ g) :
   Calls Tryz.prog 239 #[.pointer (some ⟨g, 0, none⟩), .agg #[.int .i64 k, .int .u32 n, vt, vl]] w (PutP g A { m with wa := (n == 1) } w) := by
 obtain ⟨Av, cv, rfl, -, -⟩ := hv.shape
 obtain ⟨At, ct, rfl, -, -⟩ := ht.shape
 have E0 : Ext w (w.alloc (.cells #[.int .i64 k, .int .u32 n, .slice At t.length ct, vl] 86)) := (Ext.refl w).alloc _
 have HX := Lib.hid (h.ext E0)
 have kc := HX.out.cell 8
 have kf := HX.out.frozen 8
 clear h
 go_enter Tryz.func239, Tryz.ntmps239
 go_wp2
 go_end0
 have M1 : Mod (fun k => k = g) w (World.setCell (w.alloc (.cells #[.int .i64 k, .int .u32 n, .slice At t.length ct, vl] 86)) ⟨g, 8, none⟩ (.bool (n == 1))) := (Mod.of_ext E0).set1 _
 refine ⟨rfl, _, by simpa using HX.out.set_ 8 (.bool (n == 1)), hv.mod M1 (fun k _ hk he => hA k hk he), M1⟩
set_option maxHeartbeats 800000 in
theorem mputName (g : Nat) (m : Mg) (v : Value) (k n : Int) (t : List Int) (vt vl : Value) (A : Nat → Prop) (w : World) (h : Blk w g 224 (mgA m v)) (hv : RdS Ub8 A w v m.da) (ht : RdS Ub8 A w vt t) (hA : ∀ k, A k → k ≠ g) :
   Calls Tryz.prog 237 #[.pointer (some ⟨g, 0, none⟩), .agg #[.int .i64 k, .int .u32 n, vt, vl]] w (PutP g A { m with nm := strOfNums t } w) := by
 obtain ⟨Av, cv, rfl, -, -⟩ := hv.shape
 obtain ⟨At, ct, rfl, -, -⟩ := ht.shape
 have E0 : Ext w (w.alloc (.cells #[.int .i64 k, .int .u32 n, .slice At t.length ct, vl] 86)) := (Ext.refl w).alloc _
 have HX := Lib.hid (h.ext E0)
 have hcv : (convert 43 9 (.slice At t.length ct)).run Tryz.prog (w.alloc (.cells #[.int .i64 k, .int .u32 n, .slice At t.length ct, vl] 86)) = _ := RI.str Tryz.underlying43 Tryz.underlying5 Tryz.underlying9 ((RdS.ri ht).ext E0)
 have kc := HX.out.cell 6
 have kf := HX.out.frozen 6
 clear h
 go_enter Tryz.func237, Tryz.ntmps237
 go_wp2
 go_end0
 have M1 : Mod (fun k => k = g) w (World.setCell (w.alloc (.cells #[.int .i64 k, .int .u32 n, .slice At t.length ct, vl] 86)) ⟨g, 6, none⟩ (.string (strOfNums t))) := (Mod.of_ext E0).set1 _
 refine ⟨rfl, _, by simpa using HX.out.set_ 6 (.string (strOfNums t)), hv.mod M1 (fun k _ hk he => hA k hk he), M1⟩
set_option maxHeartbeats 800000 in
theorem mputLang (g : Nat) (m : Mg) (v : Value) (k n : Int) (t : List Int) (vt vl : Value) (A : Nat → Prop) (w : World) (h : Blk w g 224 (mgA m v)) (hv : RdS Ub8 A w v m.da) (ht : RdS Ub8 A w vt t) (hA : ∀ k, A k → k ≠ g) :
   Calls Tryz.prog 235 #[.pointer (some ⟨g, 0, none⟩), .agg #[.int .i64 k, .int .u32 n, vt, vl]] w (PutP g A { m with la := strOfNums t } w) := by
 obtain ⟨Av, cv, rfl, -, -⟩ := hv.shape
 obtain ⟨At, ct, rfl, -, -⟩ := ht.shape
 have E0 : Ext w (w.alloc (.cells #[.int .i64 k, .int .u32 n, .slice At t.length ct, vl] 86)) := (Ext.refl w).alloc _
 have HX := Lib.hid (h.ext E0)
 have hcv : (convert 43 9 (.slice At t.length ct)).run Tryz.prog (w.alloc (.cells #[.int .i64 k, .int .u32 n, .slice At t.length ct, vl] 86)) = _ := RI.str Tryz.underlying43 Tryz.underlying5 Tryz.underlying9 ((RdS.ri ht).ext E0)
 have kc := HX.out.cell 7
 have kf := HX.out.frozen 7
 clear h
 go_enter Tryz.func235, Tryz.ntmps235
 go_wp2
 go_end0
 have M1 : Mod (fun k => k = g) w (World.setCell (w.alloc (.cells #[.int .i64 k, .int .u32 n, .slice At t.length ct, vl] 86)) ⟨g, 7, none⟩ (.string (strOfNums t))) := (Mod.of_ext E0).set1 _
 refine ⟨rfl, _, by simpa using HX.out.set_ 7 (.string (strOfNums t)), hv.mod M1 (fun k _ hk he => hA k hk he), M1⟩
end Go.Proofs.YtmmhcllibpmfnaaGreatDoor
namespace Go.Proofs.YtmmhcllibpmfnaaGreatDoor
open Go.RowKit Go.Kb
set_option maxRecDepth 100000
/-- a part put into a message -/
def putM (q : Pa) (m : Mg) (f : Fd) : Mg :=
 if q.p = 231 then { m with co := f.n } else
 if q.p = 241 then { m with se := f.n } else
 if q.p = 243 then { m with wi := f.n } else
 if q.p = 245 then { m with pk := f.n } else
 if q.p = 247 then { m with ch := f.n } else
 if q.p = 239 then { m with wa := (f.n == 1) } else
 if q.p = 237 then { m with nm := strOfNums f.t } else
 if q.p = 235 then { m with la := strOfNums f.t } else
 { m with da := f.t }
theorem en_putCode (args : Array Value) (w : World) : (callFunc 231 args).run Tryz.prog w = .ok (.enter 231 args) w := by kernel_rfl
theorem en_putSender (args : Array Value) (w : World) : (callFunc 241 args).run Tryz.prog w = .ok (.enter 241 args) w := by kernel_rfl
theorem en_putWindow (args : Array Value) (w : World) : (callFunc 243 args).run Tryz.prog w = .ok (.enter 243 args) w := by kernel_rfl
theorem en_putPacket (args : Array Value) (w : World) : (callFunc 245 args).run Tryz.prog w = .ok (.enter 245 args) w := by kernel_rfl
theorem en_putChan (args : Array Value) (w : World) : (callFunc 247 args).run Tryz.prog w = .ok (.enter 247 args) w := by kernel_rfl
theorem en_putData (args : Array Value) (w : World) : (callFunc 233 args).run Tryz.prog w = .ok (.enter 233 args) w := by kernel_rfl
theorem en_putWant (args : Array Value) (w : World) : (callFunc 239 args).run Tryz.prog w = .ok (.enter 239 args) w := by kernel_rfl
theorem en_putName (args : Array Value) (w : World) : (callFunc 237 args).run Tryz.prog w = .ok (.enter 237 args) w := by kernel_rfl
theorem en_putLang (args : Array Value) (w : World) : (callFunc 235 args).run Tryz.prog w = .ok (.enter 235 args) w := by kernel_rfl
/-- what puts a part -/
structure PutsP (q : Pa) : Prop where
 enters : ∀ args w', (callFunc q.p args).run Tryz.prog w' = .ok (.enter q.p args) w'
 puts : ∀ g m v k f vt vl A w, Blk w g 224 (mgA m v) → RdS Ub8 A w v m.da → RdS Ub8 A w vt f.t → (∀ k, A k → k ≠ g) → Calls Tryz.prog q.p #[.pointer (some ⟨g, 0, none⟩), .agg #[.int .i64 k, .int .u32 f.n, vt, vl]] w (PutP g A (putM q m f) w)
theorem puts_all {q : Pa} (hq : q ∈ allPa) : PutsP q := by
 simp only [allPa, List.mem_cons, List.not_mem_nil, or_false] at hq
 rcases hq with rfl | rfl | rfl | rfl | rfl | rfl | rfl | rfl | rfl | rfl
 · exact ⟨en_putCode, fun g m v k f vt vl A w h1 h2 h3 h4 => mputCode g m v k f.n f.t vt vl A w h1 h2 h3 h4⟩
 · exact ⟨en_putData, fun g m v k f vt vl A w h1 h2 h3 h4 => mputData g m v k f.n f.t vt vl A w h1 h2 h3 h4⟩
 · exact ⟨en_putLang, fun g m v k f vt vl A w h1 h2 h3 h4 => mputLang g m v k f.n f.t vt vl A w h1 h2 h3 h4⟩
 · exact ⟨en_putName, fun g m v k f vt vl A w h1 h2 h3 h4 => mputName g m v k f.n f.t vt vl A w h1 h2 h3 h4⟩
 · exact ⟨en_putWant, fun g m v k f vt vl A w h1 h2 h3 h4 => mputWant g m v k f.n f.t vt vl A w h1 h2 h3 h4⟩
 · exact ⟨en_putData, fun g m v k f vt vl A w h1 h2 h3 h4 => mputData g m v k f.n f.t vt vl A w h1 h2 h3 h4⟩
 · exact ⟨en_putSender, fun g m v k f vt vl A w h1 h2 h3 h4 => mputSender g m v k f.n f.t vt vl A w h1 h2 h3 h4⟩
 · exact ⟨en_putWindow, fun g m v k f vt vl A w h1 h2 h3 h4 => mputWindow g m v k f.n f.t vt vl A w h1 h2 h3 h4⟩
 · exact ⟨en_putPacket, fun g m v k f vt vl A w h1 h2 h3 h4 => mputPacket g m v k f.n f.t vt vl A w h1 h2 h3 h4⟩
 · exact ⟨en_putChan, fun g m v k f vt vl A w h1 h2 h3 h4 => mputChan g m v k f.n f.t vt vl A w h1 h2 h3 h4⟩
theorem str_back (s : ByteArray) : strOfNums (bsL s) = s := by
 have h : (bsL s).map (fun n => UInt8.ofNat n.toNat) = s.data.toList := by
   unfold bsL
   rw [List.map_map]
   conv => rhs; rw [← List.map_id s.data.toList]
   refine List.map_congr_left fun x _ => ?_
   simp
 unfold strOfNums
 rw [h]
/-- the message of a kind with nothing put -/
def mg0 (k : Int) : Mg := ⟨k, 0, 0, 0, 0, 0, ⟨#[]⟩, ⟨#[]⟩, false, []⟩
/-- parts of a message put into another one -/
def putAll (ps : List Pa) (m x : Mg) : Mg := ps.foldl (fun x q => putM q x (vOf q m)) x
/-- a message with the fields of its kind alone -/
def ownM (m : Mg) : Mg := match rowL m.k with | some ps => putAll ps m (mg0 m.k) | none => mg0 m.k
theorem putAll_take {ps : List Pa} {j : Nat} {q : Pa} (h : ps[j]? = some q) (m x : Mg) : putAll (ps.take (j + 1)) m x = putM q (putAll (ps.take j) m x) (vOf q m) := by
 unfold putAll
 rw [List.take_add_one, h]
 simp
/-- the fields of a message that is encoded are as they are read -/
theorem flds_can {m : Mg} (hm : m.Ok) {ps : List Pa} (h : rowL m.k = some ps) (hf : ∀ f ∈ flds m ps, fltF f.k f.n f.t = 0) : ∀ f ∈ flds m ps, FdCan f := by
 intro f hmem
 have h0 := hf f hmem
 have hk := row_kind h
 unfold KindOk at hk
 unfold flds at hmem
 rcases List.mem_cons.1 hmem with rfl | hmem
 · exact .inl ⟨rfl, by dsimp only; omega, rfl⟩
 · obtain ⟨q, hq, rfl⟩ := List.mem_map.1 hmem
   have ha := (row_all h).2.1 q hq
   obtain ⟨h1, h2, h3, h4, h5, -, -, -, -⟩ := hm
   simp only [allPa, List.mem_cons, List.not_mem_nil, or_false] at ha
   rcases ha with rfl | rfl | rfl | rfl | rfl | rfl | rfl | rfl | rfl | rfl
   · exact .inr (.inr (.inl ⟨rfl, h5, rfl⟩))
   · refine .inr (.inr (.inr (.inl ⟨rfl, rfl, ?_⟩)))
     simpa [fltF, vOf, paWords] using h0
   · refine .inr (.inr (.inr (.inl ⟨rfl, rfl, ?_⟩)))
     simpa [fltF, vOf, paLang] using h0
   · refine .inr (.inr (.inr (.inl ⟨rfl, rfl, ?_⟩)))
     simpa [fltF, vOf, paName] using h0
   · refine .inr (.inl ⟨rfl, ?_, rfl⟩)
     show 0 ≤ (if m.wa = true then (1 : Int) else 0) ∧ (if m.wa = true then (1 : Int) else 0) ≤ 1
     split <;> omega
   · refine .inr (.inr (.inr (.inr ⟨rfl, rfl, ?_⟩)))
     simpa [fltF, vOf, paRest] using h0
   · exact .inr (.inr (.inl ⟨rfl, h2, rfl⟩))
   · exact .inr (.inr (.inl ⟨rfl, h3, rfl⟩))
   · exact .inr (.inr (.inl ⟨rfl, h4, rfl⟩))
   · exact .inr (.inr (.inl ⟨rfl, h1, rfl⟩))
/-- what is put fits as what it was put of -/
theorem own_fit {m : Mg} {ps : List Pa} (h : rowL m.k = some ps) (hf : FitP m) : FitP (putAll ps m (mg0 m.k)) := by
 have hk := row_kind h
 unfold KindOk at hk
 obtain ⟨k, ch, se, wi, pk, co, nm, la, wa, da⟩ := m
 dsimp only at hk h
 rcases hk with rfl | rfl | rfl | rfl | rfl | rfl | rfl | rfl | rfl | rfl | rfl | rfl | rfl | rfl | rfl
 all_goals
   simp [rowL] at h
   subst h
   simp [FitP, putAll, putM, vOf, mg0, paCode, paWords, paLang, paName, paWant, paRest, paSender, paWindow, paPacket, paChan, str_back] at hf ⊢
   try exact hf
theorem putAll_sizes (ps : List Pa) (m x : Mg) (h1 : x.nm.size ≤ m.nm.size) (h2 : x.la.size ≤ m.la.size) (h3 : x.da = [] ∨ x.da = m.da) (hp : ∀ q ∈ ps, q ∈ allPa) : (putAll ps m x).nm.size ≤ m.nm.size ∧ (putAll ps m x).la.size ≤ m.la.size ∧ ((putAll ps m x).da = [] ∨ (putAll ps m x).da = m.da) := by
 induction ps generalizing x with
 | nil => exact ⟨h1, h2, h3⟩
 | cons a l ih =>
   have ha := hp a (List.mem_cons_self)
   have hl : ∀ q ∈ l, q ∈ allPa := fun q hq => hp q (List.mem_cons_of_mem _ hq)
   have key : (putM a x (vOf a m)).nm.size ≤ m.nm.size ∧ (putM a x (vOf a m)).la.size ≤ m.la.size ∧ ((putM a x (vOf a m)).da = [] ∨ (putM a x (vOf a m)).da = m.da) := by
     simp only [allPa, List.mem_cons, List.not_mem_nil, or_false] at ha
     rcases ha with rfl | rfl | rfl | rfl | rfl | rfl | rfl | rfl | rfl | rfl
     all_goals simp [putM, vOf, paCode, paWords, paLang, paName, paWant, paRest, paSender, paWindow, paPacket, paChan, str_back]
     all_goals first | exact ⟨h1, h2, h3⟩ | exact ⟨h1, h3⟩ | exact ⟨h2, h3⟩ | exact ⟨h1, h2⟩
   exact ih _ key.1 key.2.1 key.2.2 hl
theorem own_sizes (m : Mg) : (ownM m).nm.size ≤ m.nm.size ∧ (ownM m).la.size ≤ m.la.size ∧ ((ownM m).da = [] ∨ (ownM m).da = m.da) := by
 have hz : (⟨#[]⟩ : ByteArray).size = 0 := rfl
 unfold ownM
 split
 · rename_i ps hps
   exact putAll_sizes ps m _ (by show (⟨#[]⟩ : ByteArray).size ≤ _; omega) (by show (⟨#[]⟩ : ByteArray).size ≤ _; omega) (.inl rfl) (row_all hps).2.1
 · exact ⟨by show (⟨#[]⟩ : ByteArray).size ≤ _; omega, by show (⟨#[]⟩ : ByteArray).size ≤ _; omega, .inl rfl⟩
end Go.Proofs.YtmmhcllibpmfnaaGreatDoor
namespace Go.Proofs.YtmmhcllibpmfnaaGreatDoor
open Go.RowKit Go.Kb
set_option maxRecDepth 100000
abbrev Ib : Rep Int := Rep.int .i64
theorem info_int : (Tryz.prog.info? 3).map (fun i => (i.zero, i.size, i.bytes)) = some (some (.int .i64 0), Ib.size, 8) := by kernel_rfl
/-- what Decode answers -/
def DecP (m : Mg) (w : World) (e : Ending) (w' : World) : Prop :=
 ∃ v, e = .returned (.tuple #[.agg (mgA (ownM m) v), .int .i64 0]) ∧ RdS Ub8 (fun k => w.heap.size ≤ k) w' v (ownM m).da ∧ Ext w w'
set_option maxHeartbeats 4000000 in
theorem decode_any (m : Mg) (ps : List Pa) (vb : Value) (w : World) (h : RI .u8 w vb (encL (flds m ps))) (hps : rowL m.k = some ps) (hm : m.Ok) (hf : ∀ f ∈ flds m ps, fltF f.k f.n f.t = 0) (hfit : FitP m) :
   Calls Tryz.prog 71 #[vb] w (DecP m w) := by
 have hiM : (Tryz.prog.info? 62).map (·.size) = some 10 := by kernel_rfl
 have hiP : (Tryz.prog.info? 228).map (·.size) = some 3 := by kernel_rfl
 have hi : (Tryz.prog.info? 86).map (·.size) = some 4 := by kernel_rfl
 obtain ⟨A, c, rfl, hc1, hc2⟩ := h.shape
 obtain ⟨r, hr⟩ : ∃ r, encL (flds m ps) = m.k :: r := ⟨encL (ps.map (fun q => vOf q m)), by simp [encL, flds, encF]⟩
 obtain ⟨L, hL⟩ : ∃ L, (encL (flds m ps)).length = L := ⟨_, rfl⟩
 have hL0 : 0 < L := by rw [← hL, hr]; simp
 have HL := Lib.hid hL
 have HPS := Lib.hid hps
 have HFT := Lib.hid hf
 have HOK := Lib.hid hm
 have HOWN : Hid (ownM m = putAll ps m (mg0 m.k)) := Lib.hid (by unfold ownM; rw [hps])
 have HFI := Lib.hid (own_fit hps hfit)
 have H := Lib.hid (show RdN w 1 (.slice A L c) (encL (flds m ps)).length ((encL (flds m ps)).map (Value.int .u8)) by rw [← hL]; exact h)
 have hkb : 0 ≤ m.k ∧ m.k ≤ 100 := by have h9 := row_kind hps; unfold KindOk at h9; omega
 have HRW := Lib.hid (fun w' => mrow_any m.k w')
 have hwr : IntKind.i64.wrap m.k = m.k := by unfold IntKind.wrap; simp [IntKind.bits, IntKind.signed]; omega
 rw [hL] at hc1 ⊢
 have hLi : ¬ ((L : Int) = 0) := by omega
 have hLb : ((L : Int) == 0) = false := by simpa using hLi
 obtain ⟨b, off, x, rfl, kx, hx⟩ := RdN.icell (l := encL (flds m ps)) (k := .u8) H.out hL0
 rw [Nat.add_zero] at kx
 have hxk : x = m.k := by
   have h9 := hx.out
   rw [hr] at h9
   simpa using h9.symm
 subst hxk
 obtain ⟨W1, hW1⟩ : ∃ W1, W1 = w.alloc (.cells #[.int .i64 0, .int .u32 0, .int .u32 0, .int .u32 0, .int .u32 0, .int .u32 0, .string ⟨#[]⟩, .string ⟨#[]⟩, .bool false, .slice none 0 0] 62) := ⟨_, rfl⟩
 have E1 : Ext w W1 := by rw [hW1]; exact (Ext.refl _).alloc _
 have P1 := Lib.hid (show Blk W1 w.heap.size 62 (mgA (mg0 0) (.slice none 0 0)) by rw [hW1]; exact Blk.new w _ _)
 have HW1 := Lib.hid hW1
 have HKX := Lib.hid kx
 clear h hps hf hm hfit hr hL hx kx hW1
 go_enter Tryz.func71, Tryz.ntmps71
 go_upto_region 1 with fail
 rw [← HW1.out]
 have kx := cell_ext E1 HKX.out
 clear HW1
 go_wp2_with fail
 refine (HRW.out _).mono ?_
 rintro e w2 ⟨E2, hrow⟩
 rw [HPS.out] at hrow
 obtain ⟨Ap, rfl, hpart⟩ := hrow
 have HPT := Lib.hid hpart
 have E02 : Ext w w2 := E1.trans E2
 have P2 := Lib.hid (P1.out.ext E2)
 have hs2 := E02.size
 have HRK := Lib.hid (row_all HPS.out)
 obtain ⟨K, hK⟩ : ∃ K, ps.length = K := ⟨_, rfl⟩
 have HKL := Lib.hid hK
 have hK5 : K ≤ 5 := by have := HRK.out.1; omega
 rw [hK]
 clear hpart kx E1 E2 P1 hK HRW
 go_upto_region 7 with fail
 have HO0 := Lib.hid (show OwnS Ib 3 w2.heap.size (fun _ => False) (w2.alloc (.cells #[.int .i64 1] 3)) (.slice (some ⟨w2.heap.size, 0, none⟩) 1 1) ((1 :: ps.map (·.k)).take 1) from by
   refine OwnS.litB (A := fun _ => False) (cs := [.int .i64 1]) ?_ (Blk.new _ _ _) (fun k _ h => h.elim) (Nat.le_refl _) rfl (by omega)
   exact RdE.single (e := Ib) (d := 1) rfl)
 have HE0 := Lib.hid ((Ext.refl w2).alloc (.cells #[.int .i64 1] 3))
 go_wp2
 go_loopw [6, 32] (fun u i wr => ∃ j : Nat, j ≤ K ∧ i = .int .i64 j ∧ Hid (OwnS Ib 3 w2.heap.size (fun _ => False) wr u ((1 :: ps.map (·.k)).take (j + 1))) ∧ Hid (Ext w2 wr)) (fun _ i _ => K - (intOf i).toNat)
 case atStart => exact ⟨0, Nat.zero_le _, rfl, HO0, HE0⟩
 case round =>
   clear HO0 HE0
   obtain ⟨j, hj, rfl, HO, hE⟩ := hrel
   by_cases hjk : j < K
   · obtain ⟨q, hq⟩ : ∃ q, ps[j]? = some q := ⟨_, List.getElem?_eq_getElem (by rw [HKL.out]; exact hjk)⟩
     obtain ⟨gp, rfl, hgp, hbp⟩ : ∃ g, Ap = some ⟨g, 0, none⟩ ∧ W1.heap.size ≤ g ∧ Blk w2 g 228 (ps.flatMap (fun q => (paA q).toList)).toArray := by
       rcases HPT.out with h9 | h9
       · rw [h9] at hq; simp at hq
       · exact h9
     obtain ⟨c0, c1, c2⟩ := pa_at (hbp.ext hE.out) hq
     have HQ := Lib.hid hq
     clear hbp hq
     go_upto_region 10 with (refine wpList_store_M rfl 228 _ _ rfl wr.heap.size _ rfl rfl 228 _ (Blk.new _ _ _) hiP rfl (by simp [Value.oneCell']) ?_; intro w10 P10 M10)
     have E10 : Ext wr w10 := Mod.toExt ((Ext.refl wr).alloc _) M10 (fun k hk he => by omega)
     have kp0 := P10.cell 0
     have hE10 := Lib.hid (hE.out.trans E10)
     have HO10 := Lib.hid (HO.out.ext E10)
     have hlm : ((1 :: ps.map (·.k)).take (j + 1)).length = j + 1 := by rw [List.length_take]; simp [HKL.out]; omega
     obtain ⟨Ao, co, rfl, -, -⟩ := HO.out.shape
     rw [hlm] at HO10 ⊢
     have hvf : (1 :: ps.map (·.k))[j + 1]? = some q.k := by rw [List.getElem?_cons_succ, List.getElem?_map, HQ.out]; rfl
     have HVF := Lib.hid hvf
     have HRow := Lib.hid HO10.out.row
     have hb10 := hE10.out.size
     clear HO hE E10 M10 P10 c0 c1 c2 hvf
     go_wp2_with (at_builtin; refine wpList_app (e := Ib) (base := w2.heap.size) (B := fun _ => False) (A := fun _ => False) rfl (.tmp 36) (.tmp 39) rfl Tryz.underlying109 info_int rfl (HO10.out.alloc _) rfl (RdY.singleB (e := Ib) (cs := [.int .i64 q.k]) (d := q.k) rfl (Blk.new _ _ _)) rfl (fun k _ hk => hk.elim) (N := j + 1 + 1) (by rw [hlm]; rfl) (by unfold maxLen; omega) (by omega) (by simp; omega) ?_; intro A14 c14 w14 o14 M14 L14)
     have M15 : Mod (fun k => (Value.slice Ao (j + 1) co).ownBlock = some k) w10 w14 := (Mod.of_ext ((Ext.refl w10).alloc _)).trans M14
     refine ⟨⟨j + 1, by omega, by go_num, Lib.hid ?_, Lib.hid ?_⟩, by simp [intOf]; omega⟩
     · rw [List.take_add_one, HVF.out]
       exact o14
     · exact Mod.toExt hE10.out M15 (fun k hk he => by have := (HRow.out _ he).1; omega)
   · obtain rfl : j = K := by omega
     obtain ⟨wq, rfl⟩ : ∃ wq, wq = wr := ⟨_, rfl⟩
     have hta : (1 :: ps.map (·.k)).take (j + 1) = (flds m ps).map (·.k) := by
       rw [flds_k]
       exact List.take_of_length_le (by simp [HKL.out])
     rw [hta] at HO
     have hrk : RI .i64 wq _ ((flds m ps).map (·.k)) := RdS.ri HO.out.rdT
     have E0r := E02.trans hE.out
     have HRD := Lib.hid (oread_any _ _ (flds m ps) wq hrk (RdN.ext (show RI .u8 w (.slice (some ⟨b, off, none⟩) L c) (encL (flds m ps)) from H.out) E0r) (by have := HKL.out; simp [flds]; omega) (by rw [flds_k]; exact HRK.out.2.2) (flds_can HOK.out HPS.out HFT.out))
     obtain ⟨Ao, co, rfl, -, -⟩ := HO.out.shape
     have hlk : ((flds m ps).map (·.k)).length = j + 1 := by rw [List.length_map]; simp [flds, HKL.out]
     rw [hlk] at HRD ⊢
     have E0r := Lib.hid E0r
     have Pr := Lib.hid (P2.out.ext hE.out)
     have HPT := Lib.hid (show ps = [] ∨ ∃ g, Ap = some ⟨g, 0, none⟩ ∧ W1.heap.size ≤ g ∧ Blk wq g 228 (ps.flatMap (fun q => (paA q).toList)).toArray from HPT.out.imp id (fun ⟨g, h1, h2, h3⟩ => ⟨g, h1, h2, h3.ext hE.out⟩))
     clear hta hrk hlk HO P2 hE
     go_wp2_with fail
     with_reducible refine (HRD.out).mono ?_
     rintro e w3 ⟨vl, rfl, o3, E3⟩
     obtain ⟨Al, cl, rfl, -, -⟩ := o3.shape
     have hll : (flds m ps).length = j + 1 := by simp [flds, HKL.out]
     have HL3 := Lib.hid ((o3.rd (A := fun k => wq.heap.size ≤ k) (fun k hk => hk) (fun k hk => hk)).lt)
     rw [hll] at HL3 ⊢
     have E03 := E0r.out.trans E3
     have kx := cell_ext E03 HKX.out
     have P3 := Lib.hid (Pr.out.ext E3)
     have HPT := Lib.hid (show ps = [] ∨ ∃ g, Ap = some ⟨g, 0, none⟩ ∧ g < w3.heap.size ∧ Blk w3 g 228 (ps.flatMap (fun q => (paA q).toList)).toArray from HPT.out.imp id (fun ⟨g, h1, h2, h3⟩ => ⟨g, h1, (h3.ext E3).lt, h3.ext E3⟩))
     have hr3 := E3.size
     have hwn3 : w.heap.size < w3.heap.size := P3.out.lt
     have hr0 : w.heap.size < wq.heap.size := Pr.out.lt
     clear o3 hll E3 E0r Pr HRD
     go_upto_region 16 with fail
     obtain ⟨W4, hW4⟩ : ∃ W4, W4 = w3.alloc (.cells #[.int .i64 m.k, .int .u32 0, .int .u32 0, .int .u32 0, .int .u32 0, .int .u32 0, .string ⟨#[]⟩, .string ⟨#[]⟩, .bool false, .slice none 0 0] 224) := ⟨_, rfl⟩
     have E4 : Ext w3 W4 := by rw [hW4]; exact (Ext.refl _).alloc _
     have P4 := Lib.hid (show Blk W4 w3.heap.size 224 (mgA (mg0 m.k) (.slice none 0 0)) by rw [hW4]; exact Blk.new w3 _ _)
     rw [← hW4]
     clear hW4
     obtain ⟨n11, hn11⟩ : ∃ n11, w3.heap.size = n11 := ⟨_, rfl⟩
     have E04 := E03.trans E4
     have P34 := Lib.hid (P3.out.ext E4)
     have HL4 := Lib.hid ((HL3.out.mono (B := fun k => wq.heap.size ≤ k ∧ k < n11) (fun k _ hk => by rw [← hn11]; exact hk)).ext E4)
     have HPT := Lib.hid (show ps = [] ∨ ∃ g, Ap = some ⟨g, 0, none⟩ ∧ g < n11 ∧ Blk W4 g 228 (ps.flatMap (fun q => (paA q).toList)).toArray from HPT.out.imp id (fun ⟨g, h1, h2, h3⟩ => ⟨g, h1, by rw [← hn11]; exact h2, h3.ext E4⟩))
     rw [hn11] at P4 hr3 hwn3 ⊢
     clear HL3 kx E03 P3 E4 hn11
     go_wp2
     go_loopw [61] (fun i wz => ∃ (q : Nat) (v : Value), q ≤ j ∧ i = .int .i64 q ∧ Hid (Blk wz n11 224 (mgA (putAll (ps.take q) m (mg0 m.k)) v)) ∧ Hid (RdS Ub8 (fun k => wq.heap.size ≤ k ∧ k < n11) wz v (putAll (ps.take q) m (mg0 m.k)).da) ∧ Hid (Mod (fun k => k = n11) W4 wz)) (fun i _ => j - (intOf i).toNat)
     case atStart => exact ⟨0, _, Nat.zero_le _, rfl, P4, Lib.hid (RdS.nil _ _ _), Lib.hid (Mod.refl _ _)⟩
     case round =>
       clear P4
       obtain ⟨q, v, hq, rfl, PX, HV, HM⟩ := hrel
       by_cases hqj : q < j
       · obtain ⟨p, hp⟩ : ∃ p, ps[q]? = some p := ⟨_, List.getElem?_eq_getElem (by rw [HKL.out]; exact hqj)⟩
         obtain ⟨gp, rfl, hgp, hbp⟩ : ∃ g, Ap = some ⟨g, 0, none⟩ ∧ g < n11 ∧ Blk W4 g 228 (ps.flatMap (fun q => (paA q).toList)).toArray := by
           rcases HPT.out with h9 | h9
           · rw [h9] at hp; simp at hp
           · exact h9
         obtain ⟨c0, c1, c2⟩ := pa_at (hbp.mod HM.out (by omega)) hp
         have hputs := puts_all (HRK.out.2.1 p (List.mem_of_getElem? hp))
         have hen := hputs.enters
         have HPU := Lib.hid hputs.puts
         have HQ := Lib.hid hp
         have HLr := Lib.hid (HL4.out.mod HM.out (fun k _ hk he => by omega))
         clear hbp hp hputs
         go_upto_region 19 with (refine wpList_store_M rfl 228 _ _ rfl wr.heap.size _ rfl rfl 228 _ (Blk.new _ _ _) hiP rfl (by simp [Value.oneCell']) ?_; intro w18 P18 M18)
         have E18 : Ext wr w18 := Mod.toExt ((Ext.refl wr).alloc _) M18 (fun k hk he => by omega)
         have P18 := Lib.hid P18
         obtain ⟨bl, ol, At, ct, f, hAl, d0, d1, d2, d3, hd, ht⟩ := fd_at (HLr.out.ext E18).y (j := q + 1) (by omega)
         subst hAl
         have hfv : f = vOf p m := by
           have h9 := hd.out
           unfold flds at h9
           rw [List.getElem?_cons_succ, List.getElem?_map, HQ.out] at h9
           simpa using h9.symm
         have HFV := Lib.hid hfv
         clear hfv
         have hbl : bl < n11 := (HLr.out.2 (by simp [flds]) bl rfl).2
         have hn18 : n11 < wr.heap.size := PX.out.lt
         have hbw : bl < w18.heap.size := by have := E18.size; omega
         have PX := Lib.hid (PX.out.ext E18)
         have HV := Lib.hid (HV.out.ext E18)
         have HM := Lib.hid (HM.out.ext E18)
         clear M18 E18 c0 c1 c2 hd
         refine wp_region_held_drew (S := fun w' => Mod (fun k => k = n11) w18 w') (by kernel_rfl) (Mod.of_ext (Ext.drew (Ext.refl _))) (fun hHeld => ?_)
         have hw1 : IntKind.i64.wrap ((q : Int) + 1) = (q : Int) + 1 := by have h9 := (HRK.out).1; unfold IntKind.wrap; simp [IntKind.bits, IntKind.signed]; omega
         have hi1 : (0 : Int) ≤ (q : Int) + 1 := by omega
         have hi2 : (q : Int) + 1 < ((j + 1 : Nat) : Int) := by omega
         have hi3 : (q : Int) < (j : Int) := by omega
         have hbn : ¬ bl = n11 := by omega
         have hwn : ¬ wr.heap.size = n11 := by omega
         obtain ⟨D, hD⟩ : ∃ D, D = w18.drew := ⟨_, rfl⟩
         have ED : Ext w18 D := by rw [hD]; exact (Ext.refl _).drew
         rw [← hD] at hHeld ⊢
         clear hD
         (refine zR 0 rfl ?_; (try simp only [zP]))
         (refine zT 1 (v := ?_) rfl (Or.inl ⟨by rfl, ?_⟩) ?_; rotate_left; (focus (intro w' hSw; have kc := (P18.out.mod hSw hwn).cell 2; go_simp; try with_reducible rfl)); (try simp only [zP]))
         (refine zR 2 rfl ?_; (try simp only [zP]))
         (refine zR 3 rfl ?_; (try simp only [zP]))
         (refine zR 4 rfl ?_; (try simp only [zP]))
         (refine zR 5 rfl ?_; (try simp only [zP]))
         (refine zR 6 rfl ?_; (try simp only [zP]))
         (refine zT 7 (v := ?_) rfl (Or.inl ⟨by rfl, ?_⟩) ?_; rotate_left; (focus (intro w' hSw; have kc0 := (hSw.cell bl (ol + (q + 1) * 4) hbw hbn).trans d0; have kc1 := (hSw.cell bl (ol + (q + 1) * 4 + 1) hbw hbn).trans d1; have kc2 := (hSw.cell bl (ol + (q + 1) * 4 + 2) hbw hbn).trans d2; have kc3 := (hSw.cell bl (ol + (q + 1) * 4 + 3) hbw hbn).trans d3; go_simp; try with_reducible rfl)); (try simp only [zP]))
         refine wpAnyH_ready (rs := [8]) (by kernel_rfl) (by simp) ?_
         refine AllReadyH.cons rfl (fun K hK => ?_) AllReadyH.nil
         go_simp
         refine (HPU.out n11 _ v _ f _ _ (fun k => wq.heap.size ≤ k ∧ k < n11) D (PX.out.ext ED) (HV.out.ext ED) (ht.out.ext ED) (fun k hk he => by omega)).mono ?_
         rintro e w19 ⟨rfl, v2, B19, V19, M19⟩
         (try dsimp only)
         have M20 := (Mod.of_ext (S := fun k => k = n11) ED).trans M19
         refine hK.out _ _ M20 (fun hHeld => ?_)
         clear hK K
         (try simp only [zP])
         refine wpAnyH_done (by kernel_rfl) ?_ _
         have hpt := putAll_take HQ.out m (mg0 m.k)
         rw [← HFV.out] at hpt
         rw [← hpt] at B19 V19
         have B19 := Lib.hid B19
         have V19 := Lib.hid V19
         have M21 := Lib.hid (HM.out.trans M20)
         clear M19 M20 hHeld hpt hen d0 d1 d2 d3
         go_wp2
         exact ⟨⟨q + 1, v2, by omega, by go_num, B19, V19, M21⟩, by simp [intOf]; omega⟩
       · obtain rfl : q = j := by omega
         rw [List.take_of_length_le (by rw [HKL.out]; exact Nat.le_refl _), ← HOWN.out] at PX HV
         have HFI := HFI.out
         rw [← HOWN.out] at HFI
         obtain ⟨Av, cv, rfl, -, -⟩ := HV.out.shape
         have hown1 : (ownM m).nm.size ≤ 1000000 := by have := (own_sizes m).1; have := HOK.out.nm; omega
         have hown2 : (ownM m).la.size ≤ 1000000 := by have := (own_sizes m).2.1; have := HOK.out.la; omega
         have HFM := Lib.hid (fun w' => fitsm_any (ownM m) (.slice Av (ownM m).da.length cv) w' hown1 hown2)
         go_wp2_with (first | (refine wpList_load_row rfl 62 _ rfl _ rfl 224 _ _ _ PX.out Tryz.underlying62 rfl hiM ?_) | fail)
         refine (HFM.out _).mono ?_
         rintro e w9 ⟨qf, rfl, hqf, E9⟩
         obtain rfl : qf = true := hqf.2 HFI
         have P9 := Lib.hid (PX.out.ext E9)
         have Pr := Lib.hid ((P34.out.mod HM.out (by omega)).ext E9)
         have HV9 := Lib.hid (HV.out.ext E9)
         have HM9 := Lib.hid (HM.out.ext E9)
         have HRES := Lib.hid (show ∀ v e w', (e = .returned (.tuple #[.agg (mgA (ownM m) v), .int .i64 0]) ∧ RdS Ub8 (fun k => w.heap.size ≤ k) w' v (ownM m).da ∧ Ext w w') → DecP m w e w' from fun v _ _ h => ⟨v, h⟩)
         generalize ownM m = om at *
         clear HFM HFI HKX HL HPS HFT HOK HOWN HKL HRK hkb hwr hLi hLb
         clear HM PX HV hqf hown1 hown2 E9
         generalize Value.agg #[.int .i64 m.k, .int .u32 0, .int .u32 0, .int .u32 0, .int .u32 0, .int .u32 0, .string ⟨#[]⟩, .string ⟨#[]⟩, .bool false, .slice none 0 0] = z56
         generalize Value.agg (mgA om (.slice Av om.da.length cv)) = z79
         go_upto_region 23 with fail
         go_wp2_with (first | (refine wpList_load_row rfl 62 _ rfl _ rfl 224 _ _ _ P9.out Tryz.underlying62 rfl hiM ?_) | (refine wpList_store_M rfl 62 _ _ rfl w.heap.size _ rfl rfl 62 _ Pr.out hiM rfl (by simp [Value.oneCell']) ?_; intro w10 P10 M10))
         refine bodyPost_ret_by (Kb.results_cell_tmp Tryz.results71 _ _ w.heap.size 62 _ _ _ rfl _ rfl P10 Tryz.underlying62 rfl hiM) rfl ?_
         refine HRES.out _ _ _ ⟨rfl, ?_, ?_⟩
         · exact (HV9.out.mod M10 (fun k _ hk he => by omega)).mono (fun k _ hk => by omega)
         · exact Mod.toExt (Mod.toExt E04 HM9.out (fun k hk he => by omega)) M10 (fun k hk he => by omega)
end Go.Proofs.YtmmhcllibpmfnaaGreatDoor
namespace Go.Proofs.YtmmhcllibpmfnaaGreatDoor.Fr
set_option maxRecDepth 100000
open Go.RowKit Go.Kb Go.Kb.Frame
theorem hd4_four (n : Int) (t : List Int) : hd4 (four n ++ t) = n := by
 simp only [hd4, four, List.cons_append, List.nil_append, List.getD_cons_zero, List.getD_cons_succ]
 omega
theorem feed_put (p t : List Int) (h : 1 ≤ p.length ∧ p.length ≤ 33792) : feed (four p.length ++ p ++ t) = (p :: (feed t).1, (feed t).2) := by
 have e1 : hd4 (four p.length ++ p ++ t) = (p.length : Int) := by rw [List.append_assoc]; exact hd4_four _ _
 have hl : (four (p.length : Int)).length = 4 := rfl
 rw [feed_more4 (n := p.length) (by simp only [List.length_append, hl]; omega) (by rw [e1]; omega) e1 (by simp only [List.length_append, hl]; omega)]
 have e2 : ((four (p.length : Int) ++ p ++ t).drop 4).take p.length = p := by
   rw [List.append_assoc, List.drop_append_of_le_length (by simp [hl])]
   simp [four]
 have e3 : (four (p.length : Int) ++ p ++ t).drop (4 + p.length) = t := by
   rw [← List.drop_drop, List.append_assoc, List.drop_append_of_le_length (by simp [hl])]
   simp [four]
 rw [e2, e3]
end Go.Proofs.YtmmhcllibpmfnaaGreatDoor.Fr
namespace Go.Proofs.YtmmhcllibpmfnaaGreatDoor
open Go.RowKit Go.Kb Go.Kb.Frame
set_option maxRecDepth 100000
/-- how a message lies in ten cells -/
def MgR : Rep Mg where
 size := 10
 pos := by decide
 rel := fun A w cs m => ∃ v, cs = (mgA m v).toList ∧ RdS Ub8 A w v m.da
 len := fun ⟨v, h, _⟩ => by rw [h]; rfl
 one := fun ⟨v, h, h2⟩ u hu => by
   obtain ⟨Ad, c, rfl, _⟩ := h2.shape
   rw [h] at hu
   simp at hu
   rcases hu with rfl | rfl | rfl | rfl | rfl | rfl | rfl | rfl | rfl | rfl <;> rfl
 keep := fun ⟨v, h, h2⟩ hk => ⟨v, h, h2.keep hk⟩
theorem mg_at {A : Nat → Prop} {w : World} {Ad : Option Addr} {n c j : Nat} {ms : List Mg} (h : RdY MgR A w (.slice Ad n c) ms) (hj : j < n) :
   ∃ b off m At ct, Ad = some ⟨b, off, none⟩ ∧ Hid (w.rangeAt b (off + j * 10) (mgA m (.slice At m.da.length ct)).toList) ∧ Hid (ms[j]? = some m) ∧ Hid (RdS Ub8 A w (.slice At m.da.length ct) m.da) := by
 obtain ⟨Ad', c', hv, _⟩ := h.shape
 simp only [Value.slice.injEq] at hv
 obtain ⟨rfl, rfl, rfl⟩ := hv
 obtain ⟨b, off, c, d, cs, hv, hd, ⟨v, rfl, hr⟩, hl, hc⟩ := h.cells hj
 simp only [Value.slice.injEq] at hv
 obtain ⟨At, ct, rfl, -, -⟩ := hr.shape
 exact ⟨b, off, d, At, ct, hv.1, Lib.hid hc, hd, Lib.hid hr⟩
/-- a message's payload -/
def encM (m : Mg) : List Int := match rowL m.k with | some ps => encL (flds m ps) | none => []
/-- a message that can be encoded -/
structure GoodM (m : Mg) : Prop where
 ok : m.Ok
 ps : ∃ ps, rowL m.k = some ps ∧ FitP m ∧ (∀ f ∈ flds m ps, fltF f.k f.n f.t = 0) ∧ (encL (flds m ps)).length ≤ 33792
theorem encM_len {m : Mg} (h : GoodM m) : 1 ≤ (encM m).length ∧ (encM m).length ≤ 33792 := by
 obtain ⟨ps, h1, -, -, h2⟩ := h.ps
 unfold encM
 rw [h1]
 exact ⟨by simp [encL, flds, encF], h2⟩
theorem fours_bs (n : Int) (h0 : 0 ≤ n) (h1 : n ≤ 4294967295) : Bs (Fr.four n) := by
 intro x hx
 simp only [Fr.four, List.mem_cons, List.not_mem_nil, or_false] at hx
 rcases hx with rfl | rfl | rfl | rfl <;> omega
theorem bsL_bs (s : ByteArray) : Bs (bsL s) := by
 intro x hx
 obtain ⟨u, _, rfl⟩ := List.mem_map.1 hx
 have := u.toNat_lt
 omega
theorem can_bs {f : Fd} (h : FdCan f) (ht : Bs f.t) : Bs (encF f.k f.n f.t) := by
 obtain ⟨k, n, t⟩ := f
 rcases h with ⟨rfl, hn, -⟩ | ⟨rfl, hn, -⟩ | ⟨rfl, hn, -⟩ | ⟨rfl, -, hl⟩ | ⟨rfl, -, -⟩
 · intro x hx
   simp [encF] at hx
   dsimp only at hn
   omega
 · intro x hx
   simp [encF] at hx
   dsimp only at hn
   omega
 · have : encF 3 n t = Fr.four n := by simp [encF]
   show Bs (encF 3 n t)
   rw [this]
   exact fours_bs n hn.1 hn.2
 · have : encF 4 n t = Fr.four t.length ++ t := by simp [encF]
   show Bs (encF 4 n t)
   rw [this]
   intro x hx
   rcases List.mem_append.1 hx with hx | hx
   · exact fours_bs _ (by omega) (by dsimp only at hl; omega) x hx
   · exact ht x hx
 · have : encF 6 n t = t := by simp [encF]
   show Bs (encF 6 n t)
   rw [this]
   exact ht
theorem vOf_bs {q : Pa} {m : Mg} (h : m.Ok) : Bs (vOf q m).t := by
 unfold vOf
 repeat' split
 all_goals first
   | exact bsL_bs _
   | exact h.bs
   | (intro x hx; simp at hx)
theorem encM_bs {m : Mg} (h : GoodM m) : Bs (encM m) := by
 obtain ⟨ps, h1, -, h2, -⟩ := h.ps
 unfold encM
 rw [h1]
 intro x hx
 simp only [encL, List.mem_flatten, List.mem_map] at hx
 obtain ⟨l, ⟨f, hf, rfl⟩, hx⟩ := hx
 refine can_bs (flds_can h.ok h1 h2 f hf) ?_ x hx
 unfold flds at hf
 rcases List.mem_cons.1 hf with rfl | hf
 · intro y hy; simp at hy
 · obtain ⟨q, hq, rfl⟩ := List.mem_map.1 hf
   exact vOf_bs h.ok
end Go.Proofs.YtmmhcllibpmfnaaGreatDoor
namespace Go.Kb
open Go.RowKit
section
variable {D : Type} {e : Rep D} {T : TypeId} {A F G : Nat → Prop} {S : Nat → Prop} {w w' : World} {cs us : List Value} {d : D} {ds : List D} {v v' : Value}
theorem Blk.setCells {g : Nat} {t : TypeId} : ∀ (vs : List Value) (o : Nat) (w : World) (cs : Array Value), Blk w g t cs → o + vs.length ≤ cs.size → Blk (w.setCells g o vs) g t (cs.toList.take o ++ vs ++ cs.toList.drop (o + vs.length)).toArray
 | [], o, w, cs, h, _ => by
   have e : w.setCells g o [] = w := rfl
   rw [e]
   simpa using h
 | u :: r, o, w, cs, h, hl => by
   simp only [List.length_cons] at hl
   have h1 := Blk.setCells r (o + 1) _ _ (h.set_ o u) (by simp; omega)
   have e1 : ((cs.setIfInBounds o u).toList.take (o + 1) ++ r ++ (cs.setIfInBounds o u).toList.drop (o + 1 + r.length)) = cs.toList.take o ++ u :: r ++ cs.toList.drop (o + (u :: r).length) := by
     have hlt : o < cs.toList.length := by simp; omega
     rw [Array.toList_setIfInBounds, List.set_eq_take_append_cons_drop, if_pos hlt]
     have h2 : (cs.toList.take o).length = o := by simp; omega
     have h3 : (cs.toList.take o ++ u :: cs.toList.drop (o + 1)).take (o + 1) = cs.toList.take o ++ [u] := by
       rw [List.take_append, h2, List.take_of_length_le (by omega)]
       simp
     have h4 : (cs.toList.take o ++ u :: cs.toList.drop (o + 1)).drop (o + 1 + r.length) = cs.toList.drop (o + (u :: r).length) := by
       rw [List.drop_append, h2, List.drop_eq_nil_of_le (by omega), List.nil_append, show o + 1 + r.length - o = r.length + 1 by omega, List.drop_succ_cons, List.drop_drop, List.length_cons]
       congr 1
       omega
     rw [h3, h4]
     simp
   rw [← e1]
   exact h1
theorem Mod.setCells {g : Nat} : ∀ (vs : List Value) (o : Nat) (a w : World), Mod (fun k => k = g) a w → Mod (fun k => k = g) a (w.setCells g o vs)
 | [], _, _, _, h => h
 | u :: r, o, a, _, h => Mod.setCells r (o + 1) a _ (h.set1 u)
/-- the row lies in a block of F (or there is none); what its elements read lies in F, and not in the row -/
def TailS (e : Rep D) (T : TypeId) (F : Nat → Prop) (w : World) (v : Value) (ds : List D) : Prop :=
 ∃ us, RdE e (fun k => F k ∧ v.ownBlock ≠ some k) w us ds ∧ ((v = .slice none 0 0 ∧ ds = []) ∨
   ∃ g off c cur, v = .slice (some ⟨g, off, none⟩) ds.length c ∧ F g ∧ Blk w g T cur ∧ off + c ≤ cur.size ∧ ds.length ≤ c ∧ c ≤ 9223372036854775807 ∧ (cur.toList.drop off).take ds.length = us)
theorem TailS.nil (e : Rep D) (T : TypeId) (F : Nat → Prop) (w : World) : TailS e T F w (.slice none 0 0) [] := ⟨[], RdE.nil _ _ _, .inl ⟨rfl, rfl⟩⟩
theorem TailS.keep (h : TailS e T F w v ds) (hk : ∀ k, k < w.heap.size → F k → G k ∧ w'.heap[k]? = w.heap[k]?) : TailS e T G w' v ds := by
 obtain ⟨us, he, h⟩ := h
 refine ⟨us, he.keep fun k hl ha => ⟨⟨(hk k hl ha.1).1, ha.2⟩, (hk k hl ha.1).2⟩, ?_⟩
 rcases h with h | ⟨g, off, c, cur, hv, hF, hb, h⟩
 · exact .inl h
 · exact .inr ⟨g, off, c, cur, hv, (hk g hb.lt hF).1, (hk g hb.lt hF).2.trans hb, h⟩
theorem TailS.rd (he : e.size = 1) (h : TailS e T F w v ds) : RdS e F w v ds := by
 obtain ⟨us, hr, h⟩ := h
 have hlen : us.length = ds.length := by have := hr.1; rw [he, Nat.mul_one] at this; exact this
 rcases h with ⟨rfl, rfl⟩ | ⟨g, off, c, cur, rfl, hF, hb, h1, h2, h3, h4⟩
 · exact RdS.nil _ _ _
 · refine ⟨⟨us, ⟨hr.1, _, c, rfl, h2, h3, .inr ⟨g, off, rfl, fun j u hu => ?_⟩⟩, hr.keep fun k _ ha => ⟨ha.1, rfl⟩⟩, fun _ k hk => ?_⟩
   · rw [hb.cell, ← Array.getElem?_toList, ← hu, ← h4, List.getElem?_take, if_pos (by rw [← hlen]; exact (List.getElem?_eq_some_iff.1 hu).1), List.getElem?_drop]
   · simp only [Value.ownBlock, Option.some.injEq] at hk
     exact hk ▸ hF
theorem TailS.shape (h : TailS e T F w v ds) : ∃ Ad c, v = .slice Ad ds.length c ∧ ds.length ≤ c ∧ c ≤ 9223372036854775807 := by
 obtain ⟨us, _, ⟨rfl, rfl⟩ | ⟨g, off, c, cur, rfl, _, _, _, h2, h3, _⟩⟩ := h
 · exact ⟨_, _, rfl, by simp, by simp⟩
 · exact ⟨_, _, rfl, h2, h3⟩
/-- a row of the call's own is one -/
theorem TailS.own {base : Nat} {us : List Value} (hr : RdE e A w us ds) (ho : w.ownsRow base T 1 v ds.length us) (hA : ∀ k, k < w.heap.size → A k → F k ∧ v.ownBlock ≠ some k) (hv : ∀ k, v.ownBlock = some k → F k) : TailS e T F w v ds := by
 refine ⟨us, hr.keep fun k hk ha => ⟨hA k hk ha, rfl⟩, ?_⟩
 rcases ho.2 with ⟨rfl, h0⟩ | ⟨g, cap, cur, rfl, hb, hh, h1, h2, h3, h4⟩
 · exact .inl ⟨rfl, List.eq_nil_of_length_eq_zero h0⟩
 · exact .inr ⟨g, 0, cap, cur, rfl, hv g rfl, hh, by omega, h1, by unfold maxLen at h2; omega, by simpa using h4⟩
variable {P : Program} {z : Value} {bytes : Nat} {t : TypeId}
end
end Go.Kb
namespace Go.Proofs.YtmmhcllibpmfnaaGreatDoor
open Go.RowKit Go.Kb
set_option maxRecDepth 100000
abbrev muxA (v : Value) (dd : Bool) : Array Value := #[v, .int .u32 4096, .bool dd]
theorem rdy_ch {A B : Nat → Prop} {w : World} {v : Value} {cs : List Ch} (h : RdY ChR A w v cs) : RdY ChR B w v cs := h
/-- channels in new memory -/
def TwinP (cs : List Ch) (dd : Bool) (w : World) (e : Ending) (w' : World) : Prop :=
 ∃ Ad c, e = .returned (.agg (muxA (.slice Ad cs.length c) dd)) ∧ OwnS ChR 156 w.heap.size (fun _ => False) w' (.slice Ad cs.length c) cs ∧ Ext w w'
set_option maxHeartbeats 800000 in
theorem twin_mux {A : Nat → Prop} (v : Value) (dd : Bool) (cs : List Ch) (w : World) (h : RdY ChR A w v cs) (hn : cs.length ≤ 1000) : Calls Tryz.prog 145 #[.agg (muxA v dd)] w (TwinP cs dd w) := by
 have hiM : (Tryz.prog.info? 72).map (·.size) = some 3 := by kernel_rfl
 obtain ⟨Ad, c, rfl, -, -⟩ := h.shape
 obtain ⟨W1, hW1⟩ : ∃ W1, W1 = (w.alloc (.cells (muxA (.slice Ad cs.length c) dd) 72)).alloc (.cells #[.slice none 0 0, .int .u32 0, .bool false] 72) := ⟨_, rfl⟩
 have E1 : Ext w W1 := by rw [hW1]; exact ((Ext.refl _).alloc _).alloc _
 have B1 := Lib.hid (show Blk W1 w.heap.size 72 (muxA (.slice Ad cs.length c) dd) by rw [hW1]; exact (Blk.new w _ _).alloc _)
 have B2 := Lib.hid (show Blk W1 (w.heap.size + 1) 72 #[.slice none 0 0, .int .u32 0, .bool false] by rw [hW1]; exact Blk.at_ _ _ (by simp))
 have hw1 : w.heap.size + 1 < W1.heap.size := B2.out.lt
 have HW1 := Lib.hid hW1
 have H1 := Lib.hid (rdy_ch (B := fun _ => False) (h.ext E1))
 have k0 := B1.out.cell 0
 simp only [List.getElem?_toArray, List.getElem?_cons_zero] at k0
 obtain ⟨L, hL⟩ : ∃ L, cs.length = L := ⟨_, rfl⟩
 have HC := Lib.hid (clone_ch (A := fun _ => False) (.slice Ad cs.length c) cs W1 H1.out (by omega))
 rw [hL] at HC B1 k0 HW1 ⊢
 unfold TwinP
 rw [hL]
 clear h hW1 hL
 go_enter Tryz.func145, Tryz.ntmps145
 go_upto_region 1 with fail
 rw [← HW1.out]
 clear HW1
 go_wp2_with fail
 refine (HC.out).mono ?_
 rintro e w2 ⟨A2, c2, rfl, O2, E2⟩
 have B1 := B1.out.ext E2
 have k0 := B1.cell 0
 have f0 := B1.frozen 0
 simp only [List.getElem?_toArray, List.getElem?_cons_zero] at k0
 have B3 := Lib.hid (show Blk (w2.setCell ⟨w.heap.size, 0, none⟩ (.slice A2 L c2)) w.heap.size 72 (muxA (.slice A2 L c2) dd) by simpa using B1.set_ 0 (.slice A2 L c2))
 have B2 := Lib.hid ((B2.out.ext E2).far (p := ⟨w.heap.size, 0, none⟩) (by show w.heap.size + 1 ≠ w.heap.size; omega) (.slice A2 L c2))
 have hw2 := (E1.trans E2).size
 have M3 : Mod (fun k => k = w.heap.size) w2 (w2.setCell ⟨w.heap.size, 0, none⟩ (.slice A2 L c2)) := (Mod.refl _ _).set1 _
 have O3 := Lib.hid (O2.mod M3 (fun k hk he => by have := (O2.row k hk).1; omega) (fun k _ hk => hk.1.elim))
 have E3 := Lib.hid (Mod.toExt (E1.trans E2) M3 (fun k hk he => by omega))
 clear B1 O2 M3 E2 H1 HC
 go_wp2_with (first | (refine wpList_load_row rfl 72 _ rfl _ rfl 72 _ _ _ B3.out Tryz.underlying72 rfl hiM ?_) | (refine wpList_store_M rfl 72 _ _ rfl (w.heap.size + 1) _ rfl rfl 72 _ B2.out hiM rfl (by simp [Value.oneCell']) ?_; intro w4 P4 M4))
 refine bodyPost_ret_by (results_cell_row Tryz.results145 _ _ (w.heap.size + 1) 72 _ _ _ rfl P4 Tryz.underlying72 rfl hiM) rfl ?_
 refine ⟨_, _, rfl, ((O3.out.mod M4 (fun k hk he => by have := (O3.out.row k hk).1; have := B2.out.lt; omega) (fun k _ hk => hk.1.elim)).lower (by omega)).mono (fun _ _ h => h.1), Mod.toExt E3.out M4 (fun k hk he => by omega)⟩
theorem fnd_some {cs : List Ch} {m : Nat} {c : Ch} (h : cs[m]? = some c) (hu : ∀ j d, j < m → cs[j]? = some d → d.lo ≠ c.lo) : fndC cs c.lo = m := by
 refine idxG_some h (fun q hq => ?_) (by simp)
 obtain ⟨j, hj, rfl⟩ := List.mem_take_iff_getElem.1 hq
 have := hu j (cs[j]'(by omega)) (by omega) (List.getElem?_eq_getElem (by omega))
 simpa using this
set_option maxHeartbeats 800000 in
theorem get_mux {A : Nat → Prop} (v : Value) (dd : Bool) (cs : List Ch) (x : Int) (m : Nat) (c : Ch) (w : World) (h : RdY ChR A w v cs) (hf : fndC cs x = m) (hm : cs[m]? = some c) :
   Calls Tryz.prog 277 #[.agg (muxA v dd), .int .u32 x] w fun e w' => e = .returned (.tuple #[.agg (chL c).toArray, .bool true]) ∧ Ext w w' := by
 have hiC : (Tryz.prog.info? 156).map (·.size) = some 12 := by kernel_rfl
 have hiL : ∀ c, (Tryz.prog.info? 156).map (·.size) = some (chL c).length := fun _ => hiC
 have hiM : (Tryz.prog.info? 72).map (·.size) = some 3 := by kernel_rfl
 obtain ⟨Ad, cc, rfl, -, -⟩ := h.shape
 have hlt := (List.getElem?_eq_some_iff.1 hm).1
 obtain ⟨W1, hW1⟩ : ∃ W1, W1 = (w.alloc (.cells (muxA (.slice Ad cs.length cc) dd) 72)).alloc (.cells ch0 156) := ⟨_, rfl⟩
 have E1 : Ext w W1 := by rw [hW1]; exact ((Ext.refl _).alloc _).alloc _
 have B1 := Lib.hid (show Blk W1 w.heap.size 72 (muxA (.slice Ad cs.length cc) dd) by rw [hW1]; exact (Blk.new w _ _).alloc _)
 have B2 := Lib.hid (show Blk W1 (w.heap.size + 1) 156 ch0 by rw [hW1]; exact Blk.at_ _ _ (by simp))
 have HW1 := Lib.hid hW1
 have HF := Lib.hid (fun w' (E : Ext w w') => find_ch (A := A) (.slice Ad cs.length cc) dd cs x w' (h.ext E))
 have H := Lib.hid h
 have HM := Lib.hid hm
 rw [hf] at HF
 obtain ⟨L, hL⟩ : ∃ L, cs.length = L := ⟨_, rfl⟩
 have HL := Lib.hid hL
 rw [hL] at HF B1 HW1 H hlt ⊢
 have hmi : ¬ (m : Int) < 0 := by omega
 have hml : (m : Int) < (L : Int) := by omega
 clear h hW1 hL hf hm
 go_enter Tryz.func277, Tryz.ntmps277
 go_upto_region 1 with fail
 rw [← HW1.out]
 clear HW1
 go_wp2_with (first | (refine wpList_load_row rfl 72 _ rfl _ rfl 72 _ _ _ B1.out Tryz.underlying72 rfl hiM ?_) | fail)
 refine (HF.out _ E1).mono ?_
 rintro e w2 ⟨rfl, E2⟩
 have B1 := B1.out.ext E2
 have k0 := B1.cell 0
 simp only [List.getElem?_toArray, List.getElem?_cons_zero] at k0
 have B2 := Lib.hid (B2.out.ext E2)
 have E02 := E1.trans E2
 obtain ⟨b, off, c2, d, cl, hv, hd, hrel2, hlen, hcell⟩ := (show RdY ChR A w2 (.slice Ad L cc) cs from H.out.ext E02).cells (j := m) (by rw [HL.out]; exact hlt)
 simp only [Value.slice.injEq] at hv
 obtain ⟨rfl, -, rfl⟩ := hv
 obtain rfl : c = d := Option.some.inj (HM.out.symm.trans hd.out)
 obtain rfl : cl = chL c := hrel2.out
 have HCELL := Lib.hid (show w2.rangeAt b (off + m * 12) (chL c) from hcell)
 clear B1 HF E1 E2 hlen hcell hd hrel2
 go_wp2_with (first
   | (refine wpList_load_mid rfl 156 _ rfl b (off + m * 12) rfl (chL c) _ HCELL.out Tryz.underlying156 rfl (hiL c) ?_)
   | (refine wpList_store_M rfl 156 _ _ rfl (w.heap.size + 1) _ rfl rfl 156 _ B2.out hiC rfl (by simp [Value.oneCell']) ?_; intro w4 P4 M4))
 refine bodyPost_ret_by (Kb.results_cell_tmp Tryz.results277 _ _ (w.heap.size + 1) 156 _ _ _ rfl _ rfl P4 Tryz.underlying156 rfl hiC) rfl ?_
 exact ⟨rfl, Mod.toExt E02 M4 (fun k hk he => by omega)⟩
theorem mid_takeG (cur L : List Value) (a b N : Nat) (hL : L.length = b) (h : a + b ≤ N) (hN : N ≤ cur.length) : ((cur.take a ++ L) ++ cur.drop (a + b)).take N = (cur.take N).take a ++ (L ++ (cur.take N).drop (a + b)) := by
 have h1 : (cur.take a).length = a := by simp; omega
 rw [List.take_append, List.take_append, List.length_append, h1, hL, List.take_take, List.take_take, List.drop_take, Nat.min_eq_right (by omega : a ≤ N), Nat.min_eq_left (by omega : a ≤ N), List.take_of_length_le (l := L) (by omega), List.append_assoc]
/-- a whole element stored over one of a row -/
theorem own_rowG {D : Type} {e : Rep D} {T : TypeId} {base G n c j : Nat} {w : World} {l : List D} {cs : List Value} {d' : D} (h : OwnS e T base (fun _ => False) w (.slice (some ⟨G, 0, none⟩) n c) l) (hj : j < n) (hr : e.rel (fun _ => False) w cs d') :
   OwnS e T base (fun _ => False) (w.setCells G (j * e.size) cs) (.slice (some ⟨G, 0, none⟩) n c) (l.set j d') := by
 obtain ⟨us, ho, he⟩ := h
 obtain rfl := own_len ho
 have hpl : cs.length = e.size := e.len hr
 obtain ⟨hul, ⟨hv, _⟩ | ⟨g', cap, cur, hv, hb0, hb, hcap, hmax, hcs, htk⟩⟩ := ho
 · cases hv
 cases hv
 have hul : us.length = l.length * e.size := hul
 have hcs : cur.size = c * e.size := hcs
 have htk : List.take (l.length * e.size) cur.toList = us := htk
 have hb : Blk w G T cur := hb
 have hje : (j + 1) * e.size ≤ l.length * e.size := Nat.mul_le_mul_right _ hj
 have hle : l.length * e.size ≤ c * e.size := Nat.mul_le_mul_right _ hcap
 rw [Nat.add_mul, Nat.one_mul] at hje
 have hB := Blk.setCells cs (j * e.size) w cur hb (by rw [hpl, hcs]; omega)
 have htl : (cur.toList.take (j * e.size)).length = j * e.size := by rw [List.length_take]; have : cur.toList.length = cur.size := rfl; omega
 have hset : l.set j d' = l.take j ++ ([d'] ++ l.drop (j + 1)) := by rw [List.set_eq_take_append_cons_drop, if_pos hj]; rfl
 refine ⟨us.take (j * e.size) ++ (cs ++ us.drop ((j + 1) * e.size)), ⟨?_, .inr ⟨G, c, _, by rw [List.length_set], hb0, hB, by rw [List.length_set]; exact hcap, hmax, ?_, ?_⟩⟩, ?_⟩
 · rw [List.length_set, List.length_append, List.length_append, List.length_take, List.length_drop, hpl, hul, Nat.add_mul, Nat.one_mul]
   omega
 · rw [List.size_toArray, List.length_append, List.length_append, htl, hpl, List.length_drop, Array.length_toList, hcs]
   omega
 · rw [List.length_set]
   show ((cur.toList.take (j * e.size) ++ cs) ++ cur.toList.drop (j * e.size + cs.length)).take (l.length * e.size) = _
   rw [← htk, hpl, mid_takeG cur.toList cs (j * e.size) e.size (l.length * e.size) hpl (by omega) (by have : cur.toList.length = cur.size := rfl; omega), Nat.add_mul, Nat.one_mul]
 · rw [hset]
   have e1 := he.take j (by omega)
   have e2 := he.drop (j + 1)
   exact RdE.keep (RdE.append (RdE.keep e1 fun k _ hk => ⟨hk.1, rfl⟩) (RdE.append (RdE.single hr) (RdE.keep e2 fun k _ hk => ⟨hk.1, rfl⟩))) fun k _ hk => hk.elim
/-- channels with one changed -/
def SetCP (cs : List Ch) (m : Nat) (c : Ch) (dd : Bool) (w : World) (e : Ending) (w' : World) : Prop :=
 ∃ Ad cc, e = .returned (.agg (muxA (.slice Ad cs.length cc) dd)) ∧ OwnS ChR 156 w.heap.size (fun _ => False) w' (.slice Ad cs.length cc) (cs.set m c) ∧ Ext w w'
set_option maxHeartbeats 3000000 in
theorem set_mux {A : Nat → Prop} (v : Value) (dd : Bool) (cs : List Ch) (m : Nat) (c : Ch) (w : World) (h : RdY ChR A w v cs) (hn : cs.length ≤ 1000) (hf : fndC cs c.lo = m) (hm : m < cs.length) :
   Calls Tryz.prog 275 #[.agg (muxA v dd), .agg (chL c).toArray] w (SetCP cs m c dd w) := by
 have hiC : (Tryz.prog.info? 156).map (·.size) = some 12 := by kernel_rfl
 have hiM : (Tryz.prog.info? 72).map (·.size) = some 3 := by kernel_rfl
 obtain ⟨Ad, cc, rfl, -, -⟩ := h.shape
 obtain ⟨W1, hW1⟩ : ∃ W1, W1 = ((w.alloc (.cells (muxA (.slice Ad cs.length cc) dd) 72)).alloc (.cells (chL c).toArray 156)).alloc (.cells #[.slice none 0 0, .int .u32 0, .bool false] 72) := ⟨_, rfl⟩
 have E1 : Ext w W1 := by rw [hW1]; exact (((Ext.refl _).alloc _).alloc _).alloc _
 have B1 := Lib.hid (show Blk W1 w.heap.size 72 (muxA (.slice Ad cs.length cc) dd) by rw [hW1]; exact ((Blk.new w _ _).alloc _).alloc _)
 have B2 := Lib.hid (show Blk W1 (w.heap.size + 1) 156 (chL c).toArray by rw [hW1]; exact (Blk.at_ _ _ (by simp)).alloc _)
 have B3 := Lib.hid (show Blk W1 (w.heap.size + 1 + 1) 72 #[.slice none 0 0, .int .u32 0, .bool false] by rw [hW1]; exact Blk.at_ _ _ (by simp))
 have hw1 : w.heap.size + 1 + 1 < W1.heap.size := B3.out.lt
 have HW1 := Lib.hid hW1
 have HT := Lib.hid (twin_mux (.slice Ad cs.length cc) dd cs W1 (h.ext E1) hn)
 have HF := Lib.hid (fun v' w' (h' : RdY ChR (fun _ => True) w' v' cs) => find_ch v' dd cs c.lo w' h')
 rw [hf] at HF
 unfold TwinP at HT
 unfold SetCP
 obtain ⟨L, hL⟩ : ∃ L, cs.length = L := ⟨_, rfl⟩
 have HL := Lib.hid hL
 rw [hL] at HT B1 HW1 hm ⊢
 have hmi : ¬ (m : Int) < 0 := by omega
 have hmg : (0 : Int) ≤ (m : Int) := by omega
 have hml : (m : Int) < (L : Int) := by omega
 clear h hW1 hL hf hn
 go_enter Tryz.func275, Tryz.ntmps275
 go_upto_region 1 with fail
 rw [← HW1.out]
 clear HW1
 go_wp2_with (first | (refine wpList_load_row rfl 72 _ rfl _ rfl 72 _ _ _ B1.out Tryz.underlying72 rfl hiM ?_) | fail)
 refine (HT.out).mono ?_
 rintro e w2 ⟨A2, c2, rfl, O2, E2⟩
 have B1 := Lib.hid (B1.out.ext E2)
 have B2 := Lib.hid (B2.out.ext E2)
 have B3 := Lib.hid (B3.out.ext E2)
 have E02 := E1.trans E2
 have O2 := Lib.hid O2
 clear E1 E2 HT
 go_upto_region 2 with (refine wpList_store_M rfl 72 _ _ rfl w.heap.size _ rfl rfl 72 _ B1.out hiM rfl (by simp [Value.oneCell']) ?_; intro w3 P3 M3)
 have O3 := Lib.hid (O2.out.mod M3 (fun k hk he => by have := (O2.out.row k hk).1; omega) (fun k _ hk => hk.elim))
 have B2 := Lib.hid (B2.out.mod M3 (by omega))
 have B3 := Lib.hid (B3.out.mod M3 (by omega))
 have E03 := Mod.toExt E02 M3 (fun k hk he => by omega)
 have P3 := Lib.hid P3
 have kc := B2.out.cell 0
 simp only [List.getElem?_toArray, List.getElem?_cons_zero] at kc
 clear M3 E02 B1 O2
 go_wp2_with (first | (refine wpList_load_row rfl 72 _ rfl _ rfl 72 _ _ _ P3.out Tryz.underlying72 rfl hiM ?_) | fail)
 refine (HF.out _ _ (RdS.y O3.out.rdT)).mono ?_
 rintro e w4 ⟨rfl, E4⟩
 have P4 := Lib.hid (P3.out.ext E4)
 have B2 := Lib.hid (B2.out.ext E4)
 have B3 := Lib.hid (B3.out.ext E4)
 have E04 := E03.trans E4
 have O4 := Lib.hid (O3.out.ext E4)
 have k0 := P4.out.cell 0
 simp only [List.getElem?_toArray, List.getElem?_cons_zero] at k0
 obtain ⟨g4, rfl, hg4, hfz⟩ := O4.out.addr (by omega)
 obtain ⟨b, off, c9, d, cl, hv, hd, hrel2, hlen, hcell⟩ := (O4.out.rdT.y).cells (j := m) (by rw [HL.out]; exact hm)
 simp only [Value.slice.injEq, Option.some.injEq, Addr.mk.injEq, and_true] at hv
 obtain ⟨⟨rfl, rfl⟩, -, rfl⟩ := hv
 have hcell : ∀ i u, cl[i]? = some u → w4.cell? ⟨g4, m * 12 + i, none⟩ = some u := fun i u hu => by have h9 := hcell i u hu; rw [Nat.zero_add] at h9; exact h9
 have hlen : cl.length = 12 := hlen
 have hth : w4.there g4 (m * 12) 12 := fun t ht => ⟨by rw [hcell t _ (List.getElem?_eq_getElem (by omega))]; rfl, hfz _⟩
 have O5 := Lib.hid (own_rowG (cs := chL c) (d' := c) O4.out hm rfl)
 have M5 := Lib.hid (Mod.setCells (chL c) (m * 12) w4 w4 (Mod.refl (fun k => k = g4) w4))
 have hb4 : g4 < w4.heap.size := (O4.out.row g4 rfl).2
 clear P3 kc HF E03 E4 hcell hd hrel2 hlen hfz O3 O4
 go_upto_region 5 with (first
   | (refine wpList_load_row rfl 156 _ rfl _ rfl 156 _ _ _ B2.out Tryz.underlying156 rfl hiC ?_)
   | (refine wpList_store_mid rfl 156 _ _ rfl g4 (m * 12) (chL c).toArray rfl rfl (by first | exact hth | (rw [show (chL c).toArray.size = 12 from rfl]; exact hth)) (by exact hiC) (by simp [Value.oneCell']) ?_))
 have hne4 : ∀ o, o < W1.heap.size → ¬ o = g4 := fun o ho he => by omega
 have P5 := Lib.hid (P4.out.mod M5.out (hne4 _ (by omega)))
 have B5 := Lib.hid (B3.out.mod M5.out (hne4 _ (by omega)))
 have E5 := Lib.hid (Mod.toExt E04 M5.out (fun k hk he => by omega))
 obtain ⟨W5, hW5⟩ : ∃ W5, W5 = w4.setCells g4 (m * 12) (chL c) := ⟨_, rfl⟩
 have O5 := Lib.hid (show OwnS ChR 156 W1.heap.size (fun _ => False) W5 (.slice (some ⟨g4, 0, none⟩) L c2) (cs.set m c) by rw [hW5]; exact O5.out)
 rw [← hW5] at P5 B5 E5
 first | rw [← hW5] | (show Code.wp _ _ _ _ (w4.setCells g4 (m * 12) (chL c)); rw [← hW5])
 clear hW5 M5 hth P4 B2 B3
 go_wp2_with (first | (refine wpList_load_row rfl 72 _ rfl _ rfl 72 _ _ _ P5.out Tryz.underlying72 rfl hiM ?_) | (refine wpList_store_M rfl 72 _ _ rfl (w.heap.size + 1 + 1) _ rfl rfl 72 _ B5.out hiM rfl (by simp [Value.oneCell']) ?_; intro w6 P6 M6))
 refine bodyPost_ret_by (results_cell_row Tryz.results275 _ _ (w.heap.size + 1 + 1) 72 _ _ _ rfl P6 Tryz.underlying72 rfl hiM) rfl ?_
 exact ⟨_, _, rfl, (O5.out.mod M6 (fun k hk he => by have := (O5.out.row k hk).1; omega) (fun k _ hk => hk.elim)).lower (by omega), Mod.toExt E5.out M6 (fun k hk he => by omega)⟩
end Go.Proofs.YtmmhcllibpmfnaaGreatDoor
namespace Go.Kb
open Go
section
variable {P : Program} {ops : Array Oper} {Q : Exit → Act → World → Prop} {md : Region.Mode} {T : World → Prop} {k : Nat}
/-- whatever comes up next: behind it, unless it is number k, T holds, and the rest goes in whatever order -/
def AnyTill (P : Program) (md : Region.Mode) (ops : Array Oper) (Q : Exit → Act → World → Prop) (k : Nat) (T : World → Prop) : Nat → Array Bool → Act → World → Prop
 | 0, listed, a, w => Region.ready md ops listed = [] ∧ Q .normal a w
 | fuel + 1, listed, a, w =>
   (Region.ready md ops listed = [] → Q .normal a w) ∧
   ∀ i ∈ Region.ready md ops listed, wpOp P ops Q i (fun a' w' => (i ≠ k → T w') ∧ AnyTill P md ops Q k T fuel (listed.setIfInBounds i true) a' w') a w
theorem any_of_till : ∀ (fuel : Nat) (listed : Array Bool) (a : Act) (w : World), AnyTill P md ops Q k T fuel listed a w → wpAny P md ops Q fuel listed a w
 | 0, _, _, _, h => h
 | fuel + 1, _, _, _, h => ⟨h.1, fun i hi => wpOp_mono (fun _ _ h' => any_of_till fuel _ _ _ h'.2) (h.2 i hi)⟩
/-- number k waits for number i -/
def lateOf (md : Region.Mode) (ops : Array Oper) (k i : Nat) : Bool :=
 match ops[k]? with
 | some o => o.after.any fun e => Region.binds md e && e.on == i
 | none => false
theorem late_spec {i : Nat} (h : lateOf md ops k i = true) : ∃ o, ops[k]? = some o ∧ ∃ e ∈ o.after, Region.binds md e = true ∧ e.on = i := by
 unfold lateOf at h
 split at h
 · rename_i o ho
   obtain ⟨n, hn, h2⟩ := Array.any_eq_true.1 h
   simp only [Bool.and_eq_true, beq_iff_eq] at h2
   exact ⟨o, ho, o.after[n], Array.getElem_mem hn, h2⟩
 · cases h
theorem till_first {i : Nat} {oi : Oper} {v : Value} (hi : ops[i]? = some oi) (hsel : ∀ (j : Nat) (o : Oper) cs b, ops[j]? = some o → o.op ≠ .select cs b)
   (hQ : ∀ c a w, Q (.panic c) (a.put oi.dst v) w → Q (.panic c) a w) (hk : lateOf md ops k i = true) :
   ∀ (fuel : Nat) (listed : Array Bool) (a : Act) (w : World),
     (∀ j oj, ops[j]? = some oj → j ≠ i → listed.getD j true = false → (∀ e ∈ oj.after, Region.binds md e = true → e.on ≠ i) → oi.apart ops oj = true) →
     i ∈ Region.ready md ops listed → YieldsIf P ops T oi v a → T w → i ≠ k →
     AnyTill P md ops Q k T fuel (listed.setIfInBounds i true) (a.put oi.dst v) w → AnyTill P md ops Q k T (fuel + 1) listed a w := by
 intro fuel
 induction fuel with
 | zero =>
   intro listed a w _ hr hy hS hik H
   refine ⟨fun h => (by rw [h] at hr; cases hr), fun j hj => ?_⟩
   by_cases hji : j = i
   · subst hji; exact hy.wpOp hi hS ⟨fun _ => hS, H⟩
   · have := ready_mono hj hji
     rw [H.1] at this
     cases this
 | succ fuel ih =>
   intro listed a w hfree hr hy hS hik H
   refine ⟨fun h => (by rw [h] at hr; cases hr), fun j hj => ?_⟩
   by_cases hji : j = i
   · subst hji; exact hy.wpOp hi hS ⟨fun _ => hS, H⟩
   · have h1 := H.2 j (ready_mono hj hji)
     obtain ⟨hjun, oj, hoj, hall⟩ := mem_ready.1 hj
     have hnot : ∀ e ∈ oj.after, Region.binds md e = true → e.on ≠ i := fun e he hb heq => by
       have h1 := hall e he hb
       have h0 := (mem_ready.1 hr).1
       rw [heq] at h1
       rcases Nat.lt_or_ge i listed.size with h' | h'
       · simp [h'] at h0 h1; rw [h0] at h1; cases h1
       · simp [Array.getElem?_eq_none h'] at h1
     have hjk : j ≠ k := by
       rintro rfl
       obtain ⟨o, ho, e, he, hb, heq⟩ := late_spec hk
       rw [hoj] at ho
       cases ho
       exact hnot e he hb heq
     have h2 := wpOp_putIf hoj (hfree j oj hoj hji hjun hnot) (fun cs b => hsel i oi cs b hi) (fun cs b => hsel j oj cs b hoj) hQ hy h1
     have hfree' : ∀ m om, ops[m]? = some om → m ≠ i → (listed.setIfInBounds j true).getD m true = false →
         (∀ e ∈ om.after, Region.binds md e = true → e.on ≠ i) → oi.apart ops om = true := fun m om hm hmi hun hno => by
       refine hfree m om hm hmi ?_ hno
       by_cases hjm : j = m
       · subst hjm; exact hjun
       · rw [getD_set_ne true hjm] at hun; exact hun
     refine wpOp_mono (fun a' w' h3 => ⟨h3.2.1, ih (listed.setIfInBounds j true) a' w' hfree' (ready_mono hr (Ne.symm hji)) h3.1 (h3.2.1 hjk) hik ?_⟩) h2
     rw [Array.setIfInBounds_comm _ _ hji]
     exact h3.2.2
/-- a value, before the store comes -/
theorem till_take {i : Nat} {oi : Oper} {v : Value} {fuel : Nat} {listed : Array Bool} {a : Act} {w : World} (hi : ops[i]? = some oi)
   (hs : Region.noSelect ops = true) (hf : Region.free md ops listed i = true) (hr : (Region.ready md ops listed).contains i = true) (hk : (lateOf md ops k i && i != k) = true)
   (hQ : ∀ c a w, Q (.panic c) (a.put oi.dst v) w → Q (.panic c) a w) (hy : YieldsIf P ops T oi v a) (hS : T w)
   (h : AnyTill P md ops Q k T fuel (listed.setIfInBounds i true) (a.put oi.dst v) w) : AnyTill P md ops Q k T (fuel + 1) listed a w := by
 simp only [Bool.and_eq_true, bne_iff_ne] at hk
 exact till_first hi (Region.noSelect_spec hs) hQ hk.1 fuel listed a w (Region.free_spec hi hf) (by simpa using hr) hy hS hk.2 h
def AllTill (P : Program) (md : Region.Mode) (ops : Array Oper) (Q : Exit → Act → World → Prop) (k : Nat) (T : World → Prop) (fuel : Nat) (listed : Array Bool) (a : Act) (w : World) (rs : List Nat) : Prop :=
 ∀ i ∈ rs, wpOp P ops Q i (fun a' w' => (i ≠ k → T w') ∧ AnyTill P md ops Q k T fuel (listed.setIfInBounds i true) a' w') a w
theorem AllTill.nil {fuel : Nat} {listed : Array Bool} {a : Act} {w : World} : AllTill P md ops Q k T fuel listed a w [] := fun _ h => by cases h
/-- one that comes ahead of the store -/
theorem AllTill.cons {fuel : Nat} {listed : Array Bool} {a : Act} {w : World} {i : Nat} {o : Oper} {rs : List Nat} (ho : ops[i]? = some o)
   (h : ∀ K' : Act → World → Prop, Shut (∀ a w, T w → (T w → AnyTill P md ops Q k T fuel (listed.setIfInBounds i true) a w) → K' a w) → if Region.wanted o (yielded ops a.tmps) = true then Oper.wp P o a w K' Q else K' (a.put o.dst undef) w)
   (hs : AllTill P md ops Q k T fuel listed a w rs) : AllTill P md ops Q k T fuel listed a w (i :: rs) := fun j hj => by
 rcases List.mem_cons.1 hj with rfl | hj
 · exact wpOp_step ho (fun K' hK => h K' (fun a w hS hW => hK a w ⟨fun _ => hS, hW hS⟩))
 · exact hs j hj
/-- the store -/
theorem AllTill.last {fuel : Nat} {listed : Array Bool} {a : Act} {w : World} {o : Oper} {rs : List Nat} (ho : ops[k]? = some o)
   (h : ∀ K' : Act → World → Prop, Shut (∀ a w, AnyTill P md ops Q k T fuel (listed.setIfInBounds k true) a w → K' a w) → if Region.wanted o (yielded ops a.tmps) = true then Oper.wp P o a w K' Q else K' (a.put o.dst undef) w)
   (hs : AllTill P md ops Q k T fuel listed a w rs) : AllTill P md ops Q k T fuel listed a w (k :: rs) := fun j hj => by
 rcases List.mem_cons.1 hj with rfl | hj
 · exact wpOp_step ho (fun K' hK => h K' (fun a w hW => hK a w ⟨fun hn => (hn rfl).elim, hW⟩))
 · exact hs j hj
theorem till_ready {rs : List Nat} {fuel : Nat} {listed : Array Bool} {a : Act} {w : World} (hr : Region.ready md ops listed = rs) (hne : rs ≠ [])
   (h : AllTill P md ops Q k T fuel listed a w rs) : AnyTill P md ops Q k T (fuel + 1) listed a w :=
 ⟨fun h0 => absurd (hr ▸ h0) hne, hr ▸ h⟩
theorem till_done {listed : Array Bool} {a : Act} {w : World} (hr : Region.ready md ops listed = []) (h : Q .normal a w) :
   ∀ fuel, AnyTill P md ops Q k T fuel listed a w
 | 0 => ⟨hr, h⟩
 | _ + 1 => ⟨fun _ => h, by rw [hr]; simp⟩
/-- the beginning -/
theorem region_till {id : Nat} {a : Act} {w : World} (k : Nat) (T : World → Prop) (hm : P.follows .mixedOrders = true) (hS : T w.drew)
   (h : T w.drew → AnyTill P .any ops Q k T ops.size (Array.replicate ops.size false) a w.drew) : (Code.region id ops true).wp P Q a w :=
 wp_region_any hm (any_of_till _ _ _ _ (h hS))
end
end Go.Kb
namespace Go.Proofs.YtmmhcllibpmfnaaGreatDoor
open Go.RowKit Go.Kb
set_option maxRecDepth 100000
/-- what comes of a message -/
structure Ev where
 (k ch co : Int)
 nm : ByteArray
 wa : Bool
 da : List Int
abbrev evA (x : Ev) (v : Value) : Array Value := #[.int .i64 x.k, .int .u32 x.ch, .int .u32 x.co, .string x.nm, .bool x.wa, v]
def EvR : Rep Ev where
 size := 6
 pos := by decide
 rel := fun A w cs x => ∃ v, cs = (evA x v).toList ∧ RdS Ub8 A w v x.da
 len := fun ⟨v, h, _⟩ => by rw [h]; rfl
 one := fun ⟨v, h, h2⟩ u hu => by
   obtain ⟨Ad, c, rfl, _⟩ := h2.shape
   rw [h] at hu
   simp at hu
   rcases hu with rfl | rfl | rfl | rfl | rfl | rfl <;> rfl
 keep := fun ⟨v, h, h2⟩ hk => ⟨v, h, h2.keep hk⟩
theorem info_msg : (Tryz.prog.info? 62).map (fun i => (i.zero, i.size, i.bytes)) = some (some (.agg #[.int .i64 0, .int .u32 0, .int .u32 0, .int .u32 0, .int .u32 0, .int .u32 0, .string ⟨#[]⟩, .string ⟨#[]⟩, .bool false, .slice none 0 0]), MgR.size, 96) := by kernel_rfl
theorem info_ev : (Tryz.prog.info? 207).map (fun i => (i.zero, i.size, i.bytes)) = some (some (.agg #[.int .i64 0, .int .u32 0, .int .u32 0, .string ⟨#[]⟩, .bool false, .slice none 0 0]), EvR.size, 64) := by kernel_rfl
abbrev tkA (cv lv dv ov vv ev : Value) : Array Value := #[cv, lv, dv, ov, vv, ev]
def TsendP (g : Nat) (A : Nat → Prop) (m : Mg) (cv lv dv vv ev : Value) (w : World) (e : Ending) (w' : World) : Prop :=
 e = .returned (.tuple #[]) ∧ ∃ A' c', Blk w' g 267 (tkA cv lv dv (.slice A' 1 c') vv ev) ∧ OwnS MgR 62 w.heap.size A w' (.slice A' 1 c') [m] ∧ Mod (fun k => k = g) w w'
set_option maxHeartbeats 3000000 in
theorem tsend0 (g : Nat) (cv lv dv vv ev : Value) (m : Mg) (v : Value) (A : Nat → Prop) (w : World) (h : Blk w g 267 (tkA cv lv dv (.slice none 0 0) vv ev)) (hv : RdS Ub8 A w v m.da) (hA : ∀ k, A k → k ≠ g ∧ k < w.heap.size) :
   Calls Tryz.prog 263 #[.pointer (some ⟨g, 0, none⟩), .agg (mgA m v)] w (TsendP g A m cv lv dv vv ev w) := by
 have hiM : (Tryz.prog.info? 62).map (·.size) = some 10 := by kernel_rfl
 obtain ⟨Av, c, rfl, -, -⟩ := hv.shape
 obtain ⟨W1, hW1⟩ : ∃ W1, W1 = w.alloc (.cells (mgA m (.slice Av m.da.length c)) 62) := ⟨_, rfl⟩
 have E1 : Ext w W1 := by rw [hW1]; exact (Ext.refl _).alloc _
 have B1 := Lib.hid (show Blk W1 w.heap.size 62 (mgA m (.slice Av m.da.length c)) by rw [hW1]; exact Blk.new w _ _)
 have HW1 := Lib.hid hW1
 have HB := Lib.hid (h.ext E1)
 have HV := Lib.hid (hv.ext E1)
 have hg := h.lt
 have hw1 : w.heap.size < W1.heap.size := B1.out.lt
 obtain ⟨n1, hn1⟩ : ∃ n1, w.heap.size = n1 := ⟨_, rfl⟩
 clear h hv hW1
 go_enter Tryz.func263, Tryz.ntmps263
 go_upto_region 1 with fail
 rw [← HW1.out]
 clear HW1
 generalize Value.agg (mgA m (.slice Av m.da.length c)) = z1
 unfold TsendP
 rw [hn1] at B1 hg hw1 ⊢
 have HN1 := Lib.hid hn1
 clear hn1
 refine region_till 10 (fun w' => Ext W1 w') (by kernel_rfl) (Ext.drew (Ext.refl _)) (fun hHeld => ?_)
 obtain ⟨D, hD⟩ : ∃ D, D = W1.drew := ⟨_, rfl⟩
 have ED : Ext W1 D := by rw [hD]; exact (Ext.refl _).drew
 rw [← hD] at hHeld ⊢
 clear hD
 have k1 := HB.out.cell 3
 simp only [List.getElem?_toArray, List.getElem?_cons_succ, List.getElem?_cons_zero] at k1
 (refine till_take (i := 0) (v := ?_) rfl (by kernel_rfl) (by kernel_rfl) (by kernel_rfl) (by kernel_rfl) (fun _ _ _ h => h) (Or.inl ⟨by rfl, ?_⟩) (by assumption) ?_; rotate_left; (focus (intro w' hSw; go_simp; try with_reducible rfl)); (try simp only [zP]))
 (refine till_take (i := 1) (v := ?_) rfl (by kernel_rfl) (by kernel_rfl) (by kernel_rfl) (by kernel_rfl) (fun _ _ _ h => h) (Or.inl ⟨by rfl, ?_⟩) (by assumption) ?_; rotate_left; (focus (intro w' hSw; go_simp; try with_reducible rfl)); (try simp only [zP]))
 (refine till_take (i := 2) (v := ?_) rfl (by kernel_rfl) (by kernel_rfl) (by kernel_rfl) (by kernel_rfl) (fun _ _ _ h => h) (Or.inl ⟨by rfl, ?_⟩) (by assumption) ?_; rotate_left; (focus (intro w' hSw; go_simp; try with_reducible rfl)); (try simp only [zP]))
 (refine till_take (i := 3) (v := ?_) rfl (by kernel_rfl) (by kernel_rfl) (by kernel_rfl) (by kernel_rfl) (fun _ _ _ h => h) (Or.inl ⟨by rfl, ?_⟩) (by assumption) ?_; rotate_left; (focus (intro w' hSw; go_simp; try with_reducible rfl)); (try simp only [zP]))
 (refine till_take (i := 4) (v := ?_) rfl (by kernel_rfl) (by kernel_rfl) (by kernel_rfl) (by kernel_rfl) (fun _ _ _ h => h) (Or.inl ⟨by rfl, ?_⟩) (by assumption) ?_; rotate_left; (focus (intro w' hSw; have kc := cell_ext hSw k1; go_simp; try with_reducible rfl)); (try simp only [zP]))
 (refine till_take (i := 5) (v := .agg (mgA m (.slice Av m.da.length c))) rfl (by kernel_rfl) (by kernel_rfl) (by kernel_rfl) (by kernel_rfl) (fun _ _ _ h => h) (yieldsIf_load_row (by rfl) 62 _ rfl _ rfl 62 (mgA m (.slice Av m.da.length c)) _ _ (fun w' hSw => (B1.out.ext hSw)) Tryz.underlying62 rfl hiM) (by assumption) ?_; (try simp only [zP]))
 refine till_ready (rs := [6]) (by kernel_rfl) (by simp) ?_
 refine AllTill.cons rfl (fun K hK => ?_) AllTill.nil
 go_simp
 have HX := Lib.hid (Blk.new D 62 (mgA m (.slice Av m.da.length c)))
 have EX : Ext D (D.alloc (.cells (mgA m (.slice Av m.da.length c)) 62)) := (Ext.refl _).alloc _
 refine hK.out _ _ (ED.trans EX) (fun hHeld => ?_)
 clear hK K
 (try simp only [zP])
 have hds : W1.heap.size ≤ D.heap.size := ED.size
 have HB2 := Lib.hid ((HB.out.ext ED).ext EX)
 have HV2 := Lib.hid ((HV.out.ext ED).ext EX)
 have EE := ED.trans EX
 generalize D.alloc (.cells (mgA m (.slice Av m.da.length c)) 62) = u4 at *
 generalize D.heap.size = nX at *
 clear EX ED
 refine till_ready (rs := [7]) (by kernel_rfl) (by simp) ?_
 refine AllTill.cons rfl (fun K hK => ?_) AllTill.nil
 refine step_app (e := MgR) (base := W1.heap.size) (B := A) (A := A) rfl (.tmp 8) (.tmp 10) rfl Tryz.underlying57 info_msg rfl (OwnS.nil _ _ _ _ _) rfl (RdY.singleB (e := MgR) (cs := (mgA m (.slice Av m.da.length c)).toList) (d := m) ⟨_, rfl, HV2.out⟩ HX.out) rfl (fun k _ hk => ⟨hk, fun he => by cases he⟩) (N := 1) rfl (by unfold maxLen; omega) (by omega) EE.size ?_
 intro A9 c9 u5 o9 M9 L9
 have E9 : Ext u4 u5 := Mod.toExt (Ext.refl _) M9 (fun k _ hk => by cases hk)
 refine hK.out _ _ (EE.trans E9) (fun hHeld => ?_)
 clear hK K
 (try simp only [zP])
 have HB5 := Lib.hid (HB2.out.ext E9)
 have o9 := Lib.hid o9
 have EE5 := EE.trans E9
 clear M9 L9 HX HB2 HV2 EE
 (refine till_ready (rs := [8]) (by kernel_rfl) (by simp) ?_; refine AllTill.cons rfl (fun K hK => ?_) AllTill.nil; go_simp; refine hK.out _ _ EE5 (fun hHeld => ?_); clear hK K; (try simp only [zP]))
 (refine till_take (i := 9) (v := ?_) rfl (by kernel_rfl) (by kernel_rfl) (by kernel_rfl) (by kernel_rfl) (fun _ _ _ h => h) (Or.inl ⟨by rfl, ?_⟩) (by assumption) ?_; rotate_left; (focus (intro w' hSw; go_simp; try with_reducible rfl)); (try simp only [zP]))
 have k3 := HB5.out.cell 3
 have f3 := HB5.out.frozen 3
 simp only [List.getElem?_toArray, List.getElem?_cons_succ, List.getElem?_cons_zero] at k3
 have M6 : Mod (fun k => k = g) W1 (u5.setCell ⟨g, 3, none⟩ (.slice A9 1 c9)) := (Mod.of_ext EE5).set1 _
 (refine till_ready (rs := [10]) (by kernel_rfl) (by simp) ?_; refine AllTill.last rfl (fun K hK => ?_) AllTill.nil; go_simp; refine hK.out _ _ ?_; clear hK K; (try simp only [zP]))
 refine till_done (by kernel_rfl) ?_ _
 go_end0
 have M7 : Mod (fun k => k = g) u5 (u5.setCell ⟨g, 3, none⟩ (.slice A9 1 c9)) := (Mod.refl _ _).set1 _
 refine ⟨rfl, A9, c9, by simpa using HB5.out.set_ 3 (.slice A9 1 c9), ?_, (Mod.of_ext E1).trans M6⟩
 exact (o9.out.mod M7 (fun k hk he => by have := (o9.out.row k hk).1; omega) (fun k _ hk he => by have := (hA k hk).1; omega)).lower (by rw [← HN1.out]; exact E1.size)
def TtellP (g : Nat) (A : Nat → Prop) (m : Ev) (cv lv dv ov ev : Value) (w : World) (e : Ending) (w' : World) : Prop :=
 e = .returned (.tuple #[]) ∧ ∃ A' c', Blk w' g 267 (tkA cv lv dv ov (.slice A' 1 c') ev) ∧ OwnS EvR 207 w.heap.size A w' (.slice A' 1 c') [m] ∧ Mod (fun k => k = g) w w'
set_option maxHeartbeats 3000000 in
theorem ttell0 (g : Nat) (cv lv dv ov ev : Value) (m : Ev) (v : Value) (A : Nat → Prop) (w : World) (h : Blk w g 267 (tkA cv lv dv ov (.slice none 0 0) ev)) (hv : RdS Ub8 A w v m.da) (hA : ∀ k, A k → k ≠ g ∧ k < w.heap.size) :
   Calls Tryz.prog 262 #[.pointer (some ⟨g, 0, none⟩), .agg (evA m v)] w (TtellP g A m cv lv dv ov ev w) := by
 have hiM : (Tryz.prog.info? 207).map (·.size) = some 6 := by kernel_rfl
 obtain ⟨Av, c, rfl, -, -⟩ := hv.shape
 obtain ⟨W1, hW1⟩ : ∃ W1, W1 = w.alloc (.cells (evA m (.slice Av m.da.length c)) 207) := ⟨_, rfl⟩
 have E1 : Ext w W1 := by rw [hW1]; exact (Ext.refl _).alloc _
 have B1 := Lib.hid (show Blk W1 w.heap.size 207 (evA m (.slice Av m.da.length c)) by rw [hW1]; exact Blk.new w _ _)
 have HW1 := Lib.hid hW1
 have HB := Lib.hid (h.ext E1)
 have HV := Lib.hid (hv.ext E1)
 have hg := h.lt
 have hw1 : w.heap.size < W1.heap.size := B1.out.lt
 obtain ⟨n1, hn1⟩ : ∃ n1, w.heap.size = n1 := ⟨_, rfl⟩
 clear h hv hW1
 go_enter Tryz.func262, Tryz.ntmps262
 go_upto_region 1 with fail
 rw [← HW1.out]
 clear HW1
 generalize Value.agg (evA m (.slice Av m.da.length c)) = z1
 unfold TtellP
 rw [hn1] at B1 hg hw1 ⊢
 have HN1 := Lib.hid hn1
 clear hn1
 refine region_till 10 (fun w' => Ext W1 w') (by kernel_rfl) (Ext.drew (Ext.refl _)) (fun hHeld => ?_)
 obtain ⟨D, hD⟩ : ∃ D, D = W1.drew := ⟨_, rfl⟩
 have ED : Ext W1 D := by rw [hD]; exact (Ext.refl _).drew
 rw [← hD] at hHeld ⊢
 clear hD
 have k1 := HB.out.cell 4
 simp only [List.getElem?_toArray, List.getElem?_cons_succ, List.getElem?_cons_zero] at k1
 (refine till_take (i := 0) (v := ?_) rfl (by kernel_rfl) (by kernel_rfl) (by kernel_rfl) (by kernel_rfl) (fun _ _ _ h => h) (Or.inl ⟨by rfl, ?_⟩) (by assumption) ?_; rotate_left; (focus (intro w' hSw; go_simp; try with_reducible rfl)); (try simp only [zP]))
 (refine till_take (i := 1) (v := ?_) rfl (by kernel_rfl) (by kernel_rfl) (by kernel_rfl) (by kernel_rfl) (fun _ _ _ h => h) (Or.inl ⟨by rfl, ?_⟩) (by assumption) ?_; rotate_left; (focus (intro w' hSw; go_simp; try with_reducible rfl)); (try simp only [zP]))
 (refine till_take (i := 2) (v := ?_) rfl (by kernel_rfl) (by kernel_rfl) (by kernel_rfl) (by kernel_rfl) (fun _ _ _ h => h) (Or.inl ⟨by rfl, ?_⟩) (by assumption) ?_; rotate_left; (focus (intro w' hSw; go_simp; try with_reducible rfl)); (try simp only [zP]))
 (refine till_take (i := 3) (v := ?_) rfl (by kernel_rfl) (by kernel_rfl) (by kernel_rfl) (by kernel_rfl) (fun _ _ _ h => h) (Or.inl ⟨by rfl, ?_⟩) (by assumption) ?_; rotate_left; (focus (intro w' hSw; go_simp; try with_reducible rfl)); (try simp only [zP]))
 (refine till_take (i := 4) (v := ?_) rfl (by kernel_rfl) (by kernel_rfl) (by kernel_rfl) (by kernel_rfl) (fun _ _ _ h => h) (Or.inl ⟨by rfl, ?_⟩) (by assumption) ?_; rotate_left; (focus (intro w' hSw; have kc := cell_ext hSw k1; go_simp; try with_reducible rfl)); (try simp only [zP]))
 (refine till_take (i := 5) (v := .agg (evA m (.slice Av m.da.length c))) rfl (by kernel_rfl) (by kernel_rfl) (by kernel_rfl) (by kernel_rfl) (fun _ _ _ h => h) (yieldsIf_load_row (by rfl) 207 _ rfl _ rfl 207 (evA m (.slice Av m.da.length c)) _ _ (fun w' hSw => (B1.out.ext hSw)) Tryz.underlying207 rfl hiM) (by assumption) ?_; (try simp only [zP]))
 refine till_ready (rs := [6]) (by kernel_rfl) (by simp) ?_
 refine AllTill.cons rfl (fun K hK => ?_) AllTill.nil
 go_simp
 have HX := Lib.hid (Blk.new D 207 (evA m (.slice Av m.da.length c)))
 have EX : Ext D (D.alloc (.cells (evA m (.slice Av m.da.length c)) 207)) := (Ext.refl _).alloc _
 refine hK.out _ _ (ED.trans EX) (fun hHeld => ?_)
 clear hK K
 (try simp only [zP])
 have hds : W1.heap.size ≤ D.heap.size := ED.size
 have HB2 := Lib.hid ((HB.out.ext ED).ext EX)
 have HV2 := Lib.hid ((HV.out.ext ED).ext EX)
 have EE := ED.trans EX
 generalize D.alloc (.cells (evA m (.slice Av m.da.length c)) 207) = u4 at *
 generalize D.heap.size = nX at *
 clear EX ED
 refine till_ready (rs := [7]) (by kernel_rfl) (by simp) ?_
 refine AllTill.cons rfl (fun K hK => ?_) AllTill.nil
 refine step_app (e := EvR) (base := W1.heap.size) (B := A) (A := A) rfl (.tmp 8) (.tmp 10) rfl Tryz.underlying201 info_ev rfl (OwnS.nil _ _ _ _ _) rfl (RdY.singleB (e := EvR) (cs := (evA m (.slice Av m.da.length c)).toList) (d := m) ⟨_, rfl, HV2.out⟩ HX.out) rfl (fun k _ hk => ⟨hk, fun he => by cases he⟩) (N := 1) rfl (by unfold maxLen; omega) (by omega) EE.size ?_
 intro A9 c9 u5 o9 M9 L9
 have E9 : Ext u4 u5 := Mod.toExt (Ext.refl _) M9 (fun k _ hk => by cases hk)
 refine hK.out _ _ (EE.trans E9) (fun hHeld => ?_)
 clear hK K
 (try simp only [zP])
 have HB5 := Lib.hid (HB2.out.ext E9)
 have o9 := Lib.hid o9
 have EE5 := EE.trans E9
 clear M9 L9 HX HB2 HV2 EE
 (refine till_ready (rs := [8]) (by kernel_rfl) (by simp) ?_; refine AllTill.cons rfl (fun K hK => ?_) AllTill.nil; go_simp; refine hK.out _ _ EE5 (fun hHeld => ?_); clear hK K; (try simp only [zP]))
 (refine till_take (i := 9) (v := ?_) rfl (by kernel_rfl) (by kernel_rfl) (by kernel_rfl) (by kernel_rfl) (fun _ _ _ h => h) (Or.inl ⟨by rfl, ?_⟩) (by assumption) ?_; rotate_left; (focus (intro w' hSw; go_simp; try with_reducible rfl)); (try simp only [zP]))
 have k3 := HB5.out.cell 4
 have f3 := HB5.out.frozen 4
 simp only [List.getElem?_toArray, List.getElem?_cons_succ, List.getElem?_cons_zero] at k3
 have M6 : Mod (fun k => k = g) W1 (u5.setCell ⟨g, 4, none⟩ (.slice A9 1 c9)) := (Mod.of_ext EE5).set1 _
 (refine till_ready (rs := [10]) (by kernel_rfl) (by simp) ?_; refine AllTill.last rfl (fun K hK => ?_) AllTill.nil; go_simp; refine hK.out _ _ ?_; clear hK K; (try simp only [zP]))
 refine till_done (by kernel_rfl) ?_ _
 go_end0
 have M7 : Mod (fun k => k = g) u5 (u5.setCell ⟨g, 4, none⟩ (.slice A9 1 c9)) := (Mod.refl _ _).set1 _
 refine ⟨rfl, A9, c9, by simpa using HB5.out.set_ 4 (.slice A9 1 c9), ?_, (Mod.of_ext E1).trans M6⟩
 exact (o9.out.mod M7 (fun k hk he => by have := (o9.out.row k hk).1; omega) (fun k _ hk he => by have := (hA k hk).1; omega)).lower (by rw [← HN1.out]; exact E1.size)
end Go.Proofs.YtmmhcllibpmfnaaGreatDoor
namespace Go.Proofs.YtmmhcllibpmfnaaGreatDoor
open Go.RowKit Go.Kb
set_option maxRecDepth 100000
theorem idxG_mem {D : Type} {f : D → Bool} {l : List D} (h : ∃ c ∈ l, f c = true) : ∃ m c, idxG f l = (m : Nat) ∧ l[m]? = some c ∧ f c = true := by
 unfold idxG
 obtain ⟨c, hc, hf⟩ := h
 cases hx : l.findIdx? f with
 | none =>
   have := List.findIdx?_eq_none_iff.1 hx c hc
   rw [hf] at this
   cases this
 | some m =>
   obtain ⟨hlt, h1, -⟩ := List.findIdx?_eq_some_iff_getElem.1 hx
   exact ⟨m, _, rfl, List.getElem?_eq_getElem hlt, h1⟩
theorem fnd_mem {cs : List Ch} {x : Int} (h : ∃ c ∈ cs, c.lo = x) : ∃ m c, fndC cs x = (m : Nat) ∧ cs[m]? = some c ∧ c.lo = x := by
 obtain ⟨c, hc, hx⟩ := h
 obtain ⟨m, d, h1, h2, h3⟩ := idxG_mem (f := fun c => c.lo == x) ⟨c, hc, by simpa using hx⟩
 exact ⟨m, d, h1, h2, by simpa using h3⟩
set_option maxHeartbeats 400000 in
theorem contains_ch {A : Nat → Prop} (k : Nat) (bs fs : Array Value) (f : Ch → Bool) (v : Value) (l : List Ch) (w : World) (h : RdY ChR A w v l) (hf : AskG k bs fs ChR f w) :
   Calls Tryz.prog 264 #[v, .func (.func k) bs fs] w fun e w' => e = .returned (.bool (l.any f)) ∧ Ext w w' := by
 have HI := Lib.hid (fun w' (E : Ext w w') => index_ch k bs fs f v l w' (h.ext E) (hf.ext E))
 clear h hf
 by_cases ha : l.any f = true
 · obtain ⟨m, c, hm, -, -⟩ := idxG_mem (f := f) (l := l) (by simpa using ha)
   rw [hm] at HI
   have hge : (0 : Int) ≤ (m : Int) := by omega
   have HA := Lib.hid ha
   rw [HA.out]
   clear ha hm
   go_enter Tryz.func264, Tryz.ntmps264
   go_wp2_with fail
   refine (HI.out _ zX).mono ?_
   rintro e w1 ⟨rfl, E1⟩
   go_wp2
   go_ret
   exact ⟨by simp, zX⟩
 · have hn : idxG f l = -1 := idxG_none (fun p hp => by
     have h9 : l.any f = false := by simpa using ha
     exact List.any_eq_false.1 h9 p hp |> fun h8 => by simpa using h8)
   rw [hn] at HI
   have HA := Lib.hid (show l.any f = false by simpa using ha)
   rw [HA.out]
   clear ha hn
   go_enter Tryz.func264, Tryz.ntmps264
   go_wp2_with fail
   refine (HI.out _ zX).mono ?_
   rintro e w1 ⟨rfl, E1⟩
   go_wp2
   go_ret
   exact ⟨by simp, zX⟩
theorem enters_open1 (args : Array Value) (w : World) : (callFunc 265 args).run Tryz.prog w = .ok (.enter 265 args) w := by kernel_rfl
set_option maxHeartbeats 400000 in
theorem open1_any (n : Nat) (m : Mg) (v : Value) (c : Ch) (w : World) (h : Blk w n 62 (mgA m v)) :
   Calls Tryz.prog 265 #[.agg (chL c).toArray, .pointer (some ⟨n, 0, none⟩)] w fun e w' => e = .returned (.bool (c.re == m.se)) ∧ Ext w w' := by
 have c1 := (mgC (h.alloc (.cells (chL c).toArray 156))).k2
 clear h
 go_enter Tryz.func265, Tryz.ntmps265
 go_wp2
 go_ret
 exact ⟨rfl, zX⟩
theorem asks_open1 {m : Mg} {v : Value} {n : Nat} {w : World} (h : Blk w n 62 (mgA m v)) : AskG 265 #[] #[.pointer (some ⟨n, 0, none⟩)] ChR (fun c => c.re == m.se) w :=
 ⟨enters_open1, fun cs d w' hE hr => by
   obtain rfl : cs = chL d := hr
   exact open1_any n m v d w' (h.ext hE)⟩
theorem enters_open2 (args : Array Value) (w : World) : (callFunc 268 args).run Tryz.prog w = .ok (.enter 268 args) w := by kernel_rfl
set_option maxHeartbeats 400000 in
theorem open2_any (n : Nat) (x d : Ch) (w : World) (h : Blk w n 156 (chL x).toArray) :
   Calls Tryz.prog 268 #[.agg (chL d).toArray, .pointer (some ⟨n, 0, none⟩)] w fun e w' => e = .returned (.bool (decide (x.lo ≤ d.lo))) ∧ Ext w w' := by
 have c1 := (h.alloc (.cells (chL d).toArray 156)).cell 0
 simp only [List.getElem?_toArray, List.getElem?_cons_zero] at c1
 clear h
 go_enter Tryz.func268, Tryz.ntmps268
 go_wp2
 go_ret
 exact ⟨rfl, zX⟩
theorem asks_open2 {x : Ch} {n : Nat} {w : World} (h : Blk w n 156 (chL x).toArray) : AskG 268 #[] #[.pointer (some ⟨n, 0, none⟩)] ChR (fun d => decide (x.lo ≤ d.lo)) w :=
 ⟨enters_open2, fun cs d w' hE hr => by
   obtain rfl : cs = chL d := hr
   exact open2_any n x d w' (h.ext hE)⟩
set_option maxHeartbeats 800000 in
theorem insert_end (base : Nat) (v y : Value) (cs : List Ch) (c : Ch) (w : World) (h : OwnS ChR 156 base (fun _ => False) w v cs) (hy : RdY ChR (fun _ => False) w y [c]) (hn : cs.length ≤ 1000) (hb : base ≤ w.heap.size) :
   Calls Tryz.prog 269 #[v, .int .i64 (cs.length : Int), y] w fun e w' =>
     ∃ A' c', e = .returned (.slice A' (cs.length + 1) c') ∧ OwnS ChR 156 base (fun _ => False) w' (.slice A' (cs.length + 1) c') (cs ++ [c]) ∧ Mod (fun k => v.ownBlock = some k) w w' := by
 obtain ⟨Ad, cc, rfl, hc1, hc2⟩ := h.shape
 obtain ⟨Ay, cy, rfl, -, -⟩ := hy.shape
 have H := Lib.hid h
 have HY := Lib.hid hy
 obtain ⟨L, hL⟩ : ∃ L, cs.length = L := ⟨_, rfl⟩
 have HL := Lib.hid hL
 rw [hL] at H hc1 hn ⊢
 have i1 : (0 : Int) ≤ (L : Int) := by omega
 have i2 : (L : Int) ≤ (cc : Int) := by omega
 clear h hy hL
 by_cases hcl : cc = L
 · subst hcl
   go_enter Tryz.func269, Tryz.ntmps269
   go_wp2_with ((at_builtin; refine wpList_app (e := ChR) (base := base) (B := fun _ => False) (A := fun _ => False) rfl (.tmp 23) (.tmp 24) rfl Tryz.underlying70 info_ch rfl H.out rfl HY.out rfl (fun _ _ h => h.elim) (N := cc + 1) (by rw [HL.out]; rfl) (by unfold maxLen; omega) (by omega) hb ?_; intro A1 c1 w1 hown hM hB))
   go_ret
   exact ⟨A1, c1, rfl, hown, hM⟩
 ·
   go_enter Tryz.func269, Tryz.ntmps269
   go_wp2_with ((at_builtin; refine wpList_app (e := ChR) (base := base) (B := fun _ => False) (A := fun _ => False) rfl (.tmp 23) (.tmp 24) rfl Tryz.underlying70 info_ch rfl H.out rfl HY.out rfl (fun _ _ h => h.elim) (N := L + 1) (by rw [HL.out]; rfl) (by unfold maxLen; omega) (by omega) hb ?_; intro A1 c1 w1 hown hM hB))
   go_ret
   exact ⟨A1, c1, rfl, hown, hM⟩
set_option maxHeartbeats 800000 in
theorem free_any {A : Nat → Prop} (g : Nat) (cv ov vv ev : Value) (cs : List Ch) (w : World) (h : Blk w g 267 (tkA cv (.int .u32 4096) (.bool false) ov vv ev)) (hc : RdY ChR A w cv cs) (hn : cs.length ≤ 1000) (hlo : ∀ n : Nat, n < cs.length → ∃ c ∈ cs, c.lo = (n : Int)) :
   Calls Tryz.prog 266 #[.pointer (some ⟨g, 0, none⟩)] w fun e w' => e = .returned (.int .u32 (cs.length : Int)) ∧ Ext w w' := by
 obtain ⟨Ad, cc, rfl, -, -⟩ := hc.shape
 have HB := Lib.hid h
 have HC := Lib.hid hc
 have HLO := Lib.hid hlo
 obtain ⟨L, hL⟩ : ∃ L, cs.length = L := ⟨_, rfl⟩
 have HL := Lib.hid hL
 rw [hL] at HB HC hn ⊢
 have k0 := HB.out.cell 0
 have k1 := HB.out.cell 1
 have k2 := HB.out.cell 2
 simp only [List.getElem?_toArray, List.getElem?_cons_zero, List.getElem?_cons_succ] at k0 k1 k2
 have hwr : IntKind.u32.wrap (L : Int) = (L : Int) := by unfold IntKind.wrap; simp [IntKind.bits, IntKind.signed]; omega
 clear h hc hlo hL
 go_enter Tryz.func266, Tryz.ntmps266
 go_wp2
 go_loopw [11] (fun i wr => ∃ m : Nat, m ≤ L ∧ i = .int .u32 m ∧ Hid (Ext w wr)) (fun i _ => L - (intOf i).toNat)
 case atStart => exact ⟨0, Nat.zero_le _, rfl, Lib.hid (Ext.refl _)⟩
 case round =>
   obtain ⟨m, hm, rfl, hE⟩ := hrel
   have k0 := cell_ext hE.out k0
   have k1 := cell_ext hE.out k1
   have k2 := cell_ext hE.out k2
   by_cases hml : m < L
   · obtain ⟨j, c, hj, -, -⟩ := fnd_mem (HLO.out m (by rw [HL.out]; exact hml))
     have HF := Lib.hid (find_ch (A := A) (.slice Ad L cc) false cs (m : Int) wr (HC.out.ext hE.out))
     rw [hj] at HF
     have hj0 : ¬ (j : Int) < 0 := by omega
     have hwr2 : IntKind.u32.wrap ((m : Int) + 1) = (m : Int) + 1 := by unfold IntKind.wrap; simp [IntKind.bits, IntKind.signed]; omega
     clear hj
     go_wp2_with fail
     refine (HF.out).mono ?_
     rintro e w1 ⟨rfl, E1⟩
     have hE1 := Lib.hid (hE.out.trans E1)
     clear hE E1 HF k0 k1 k2
     go_wp2
     go_roundw
     case rel => exact ⟨m + 1, by omega, by go_num, hE1⟩
     case measure => simp [intOf]; omega
   · obtain rfl : m = L := by omega
     go_wp2
     go_ret
     exact ⟨rfl, hE.out⟩
end Go.Proofs.YtmmhcllibpmfnaaGreatDoor
namespace Go.Proofs.YtmmhcllibpmfnaaGreatDoor
open Go.RowKit Go.Kb
set_option maxRecDepth 100000
def sesB : ByteArray := ⟨#[115, 101, 115, 115, 105, 111, 110]⟩
/-- channels with the numbers from 0 on -/
def LoOk (cs : List Ch) : Prop := ∀ (j : Nat) (c : Ch), cs[j]? = some c → c.lo = (j : Int)
theorem LoOk.has {cs : List Ch} (h : LoOk cs) (n : Nat) (hn : n < cs.length) : ∃ c ∈ cs, c.lo = (n : Int) := ⟨cs[n], List.getElem_mem hn, h n _ (List.getElem?_eq_getElem hn)⟩
theorem LoOk.fnd {cs : List Ch} (h : LoOk cs) {j : Nat} {c : Ch} (hj : cs[j]? = some c) : fndC cs (j : Int) = j := by
 have h1 := h j c hj
 have h2 := fnd_some hj (fun i d hi hd => by rw [h i d hd, h1]; omega)
 rw [h1] at h2
 exact h2
def newC (cs : List Ch) (m : Mg) : Ch := ⟨cs.length, m.se, m.wi, m.pk, 4096, 0⟩
def confM (cs : List Ch) (m : Mg) : Mg := ⟨91, m.se, cs.length, 4096, 32768, 0, ⟨#[]⟩, ⟨#[]⟩, false, []⟩
def opEv (cs : List Ch) : Ev := ⟨1, cs.length, 0, ⟨#[]⟩, false, []⟩
def OpenP (g base : Nat) (cv : Value) (cs : List Ch) (m : Mg) (w : World) (e : Ending) (w' : World) : Prop :=
 e = .returned (.tuple #[]) ∧ ∃ A1 c1 A2 c2 A3 c3, Blk w' g 267 (tkA (.slice A1 (cs.length + 1) c1) (.int .u32 4096) (.bool false) (.slice A2 1 c2) (.slice A3 1 c3) (.int .i64 0)) ∧
   OwnS ChR 156 base (fun _ => False) w' (.slice A1 (cs.length + 1) c1) (cs ++ [newC cs m]) ∧ OwnS MgR 62 base (fun _ => False) w' (.slice A2 1 c2) [confM cs m] ∧
   OwnS EvR 207 base (fun _ => False) w' (.slice A3 1 c3) [opEv cs] ∧ Mod (fun k => k = g ∨ cv.ownBlock = some k) w w'
set_option maxHeartbeats 6000000 in
theorem open_new (g base : Nat) (cv : Value) (cs : List Ch) (m : Mg) (v : Value) (w : World) (h : Blk w g 267 (tkA cv (.int .u32 4096) (.bool false) (.slice none 0 0) (.slice none 0 0) (.int .i64 0)))
   (hc : OwnS ChR 156 base (fun _ => False) w cv cs) (hb : base ≤ w.heap.size) (hn : cs.length < 8) (hlo : LoOk cs) (hnm : m.nm = sesB) (hse : ∀ c ∈ cs, c.re ≠ m.se) :
   Calls Tryz.prog 209 #[.pointer (some ⟨g, 0, none⟩), .agg (mgA m v)] w (OpenP g base cv cs m w) := by
 have hiC : (Tryz.prog.info? 156).map (·.size) = some 12 := by kernel_rfl
 obtain ⟨Ad, cc, rfl, -, -⟩ := hc.shape
 obtain ⟨W1, hW1⟩ : ∃ W1, W1 = w.alloc (.cells (mgA m v) 62) := ⟨_, rfl⟩
 have E1 : Ext w W1 := by rw [hW1]; exact (Ext.refl _).alloc _
 have P1 := Lib.hid (show Blk W1 w.heap.size 62 (mgA m v) by rw [hW1]; exact Blk.new w _ _)
 have HW1 := Lib.hid hW1
 have HB := Lib.hid (h.ext E1)
 have HC := Lib.hid (hc.ext E1)
 have hgl := h.lt
 have hrow := Lib.hid (show ∀ k, (Value.slice Ad cs.length cc).ownBlock = some k → k < w.heap.size from fun k hk => (hc.row k hk).2)
 have k6 := (mgC P1.out).k6
 rw [hnm] at k6
 have k6 : W1.cell? ⟨w.heap.size, 6, none⟩ = some (.string ⟨#[115, 101, 115, 115, 105, 111, 110]⟩) := k6
 obtain ⟨L, hL⟩ : ∃ L, cs.length = L := ⟨_, rfl⟩
 have HL := Lib.hid hL
 have k0 := HB.out.cell 0
 simp only [List.getElem?_toArray, List.getElem?_cons_zero] at k0
 have HCF := Lib.hid (fun w' (E : Ext W1 w') => contains_ch (A := fun _ => True) _ _ _ _ (.slice Ad cs.length cc) cs w' (RdS.y (HC.out.ext E).rdT) (asks_open1 (P1.out.ext E)))
 have hany : cs.any (fun c => c.re == m.se) = false := by
   rw [List.any_eq_false]
   intro c hc9
   simpa using hse c hc9
 rw [hany] at HCF
 have HFR := Lib.hid (fun w' (E : Ext W1 w') => free_any (A := fun _ => True) g (.slice Ad cs.length cc) (.slice none 0 0) (.slice none 0 0) (.int .i64 0) cs w' (HB.out.ext E) (RdS.y (HC.out.ext E).rdT) (by omega) hlo.has)
 have HLO := Lib.hid hlo
 have h8 : ¬ (8 : Int) ≤ (L : Int) := by omega
 unfold OpenP
 obtain ⟨n1, hn1⟩ : ∃ n1, w.heap.size = n1 := ⟨_, rfl⟩
 have HN1 := Lib.hid hn1
 rw [hL] at HCF HFR HC HB k0 hrow ⊢
 rw [hn1] at P1 k6 hgl HCF hrow
 clear h hc hW1 hL hlo hnm hse hany hn1
 go_enter Tryz.func209, Tryz.ntmps209
 go_upto_region 1 with fail
 rw [← HW1.out]
 rw [HN1.out]
 clear HW1
 generalize Value.agg (mgA m v) = z1
 go_wp2_with fail
 refine (HCF.out _ zX).mono ?_
 rintro e w2 ⟨rfl, E2⟩
 have HB := Lib.hid (HB.out.ext E2)
 have HC := Lib.hid (HC.out.ext E2)
 have P1 := Lib.hid (P1.out.ext E2)
 have E02 := E1.trans E2
 clear k0 k6 E1
 go_upto_region 10 with fail
 go_cut [5] (fun s5 wx => ∃ n5 : Nat, s5 = .pointer (some ⟨n5, 0, none⟩) ∧ w2.heap.size ≤ n5 ∧ Hid (Blk wx n5 156 #[.int .u32 (L : Int), .int .u32 m.se, .int .u32 m.wi, .int .u32 m.pk, .int .u32 4096, .int .u32 4096, .bool false, .bool false, .bool false, .bool false, .int .i64 0, .bool false]) ∧ Ext w2 wx)
 case first =>
   have q2 := (mgC P1.out).k2
   have q3 := (mgC P1.out).k3
   have q4 := (mgC P1.out).k4
   have q1 := HB.out.cell 1
   simp only [List.getElem?_toArray, List.getElem?_cons_zero, List.getElem?_cons_succ] at q1
   refine wp_region_held_drew (S := fun w' => Ext w2 w') (by kernel_rfl) (Ext.drew (Ext.refl _)) (fun hHeld => ?_)
   obtain ⟨D, hD⟩ : ∃ D, D = w2.drew := ⟨_, rfl⟩
   have ED : Ext w2 D := by rw [hD]; exact (Ext.refl _).drew
   rw [← hD] at hHeld ⊢
   clear hD
   (refine zR 0 rfl ?_; (try simp only [zP]))
   (refine zR 2 rfl ?_; (try simp only [zP]))
   (refine zT 3 (v := ?_) rfl (Or.inl ⟨by rfl, ?_⟩) ?_; rotate_left; (focus (intro w' hSw; have kc := cell_ext hSw q2; go_simp; try with_reducible rfl)); (try simp only [zP]))
   (refine zR 4 rfl ?_; (try simp only [zP]))
   (refine zT 5 (v := ?_) rfl (Or.inl ⟨by rfl, ?_⟩) ?_; rotate_left; (focus (intro w' hSw; have kc := cell_ext hSw q3; go_simp; try with_reducible rfl)); (try simp only [zP]))
   (refine zR 6 rfl ?_; (try simp only [zP]))
   (refine zT 7 (v := ?_) rfl (Or.inl ⟨by rfl, ?_⟩) ?_; rotate_left; (focus (intro w' hSw; have kc := cell_ext hSw q4; go_simp; try with_reducible rfl)); (try simp only [zP]))
   (refine wpAnyH_take (i := 8) (v := .agg #[.int .u32 m.wi, .int .u32 m.pk]) rfl (by kernel_rfl) (by kernel_rfl) (by kernel_rfl) (fun _ _ _ h => h) (yieldsIf_build (by rfl) 152 _ rfl (by simp [go_sem]; exact (by kernel_rfl))) (by assumption) ?_; (try simp only [zP]))
   (refine zR 9 rfl ?_; (try simp only [zP]))
   (refine zR 10 rfl ?_; (try simp only [zP]))
   (refine zR 11 rfl ?_; (try simp only [zP]))
   (refine zR 12 rfl ?_; (try simp only [zP]))
   (refine zT 13 (v := ?_) rfl (Or.inl ⟨by rfl, ?_⟩) ?_; rotate_left; (focus (intro w' hSw; have kc := cell_ext hSw q1; go_simp; try with_reducible rfl)); (try simp only [zP]))
   (refine zR 14 rfl ?_; (try simp only [zP]))
   (refine zR 15 rfl ?_; (try simp only [zP]))
   (refine zR 16 rfl ?_; (try simp only [zP]))
   (refine zR 17 rfl ?_; (try simp only [zP]))
   (refine zT 18 (v := ?_) rfl (Or.inl ⟨by rfl, ?_⟩) ?_; rotate_left; (focus (intro w' hSw; have kc := cell_ext hSw q1; go_simp; try with_reducible rfl)); (try simp only [zP]))
   (refine wpAnyH_take (i := 19) (v := .agg #[.int .u32 4096, .int .u32 4096]) rfl (by kernel_rfl) (by kernel_rfl) (by kernel_rfl) (fun _ _ _ h => h) (yieldsIf_build (by rfl) 154 _ rfl (by simp [go_sem]; exact (by kernel_rfl))) (by assumption) ?_; (try simp only [zP]))
   have hs2 := ED.size
   refine wpAnyH_ready (rs := [1, 21]) (by kernel_rfl) (by simp) ?_
   refine AllReadyH.cons rfl (fun K hK => ?_) (AllReadyH.cons rfl (fun K hK => ?_) AllReadyH.nil)
   · go_simp
     refine (HFR.out D (E2.trans ED)).mono ?_
     rintro e u1 ⟨rfl, F1⟩
     (try dsimp only)
     refine hK.out _ _ (ED.trans F1) (fun hHeld => ?_)
     clear hK K
     (try simp only [zP])
     (refine wpAnyH_take (i := 20) (v := .agg #[.int .u32 (L : Int), .int .u32 m.se, .int .u32 m.wi, .int .u32 m.pk, .int .u32 4096, .int .u32 4096, .bool false, .bool false, .bool false, .bool false, .int .i64 0, .bool false]) rfl (by kernel_rfl) (by kernel_rfl) (by kernel_rfl) (fun _ _ _ h => h) (yieldsIf_build (by rfl) 156 _ rfl (by simp [go_sem]; exact (by kernel_rfl))) (by assumption) ?_; (try simp only [zP]))
     have B5 := Lib.hid (Blk.new u1 156 ch0)
     have EU := (ED.trans F1).alloc (.cells ch0 156)
     have hs3 := (ED.trans F1).size
     (refine wpAnyH_ready (rs := [21]) (by kernel_rfl) (by simp) ?_; refine AllReadyH.cons rfl (fun K hK => ?_) AllReadyH.nil; go_simp; refine hK.out _ _ EU (fun hHeld => ?_); clear hK K; (try simp only [zP]))
     obtain ⟨n5, hn5⟩ : ∃ n5, u1.heap.size = n5 := ⟨_, rfl⟩
     rw [hn5] at B5 hs3 ⊢
     generalize u1.alloc (.cells ch0 156) = u2 at *
     (refine wpAnyH_ready (rs := [22]) (by kernel_rfl) (by simp) ?_; refine AllReadyH.cons rfl (fun K hK => ?_) AllReadyH.nil; rw [if_pos (by rfl)]; refine wp_store_M 156 _ _ rfl (n5) _ rfl rfl 156 _ B5.out hiC (by rfl) (by simp [Value.oneCell']) ?_; intro u3 B6 M6; refine hK.out _ _ (Mod.toExt EU M6 (fun k hk he => by omega)) (fun hHeld => ?_); clear hK K; (try simp only [zP]))
     refine wpAnyH_done (by kernel_rfl) ?_ _
     go_wp2_with fail
     go_meet
     exact ⟨n5, rfl, hs3, Lib.hid B6, hHeld⟩
   · go_simp
     have B5 := Lib.hid (Blk.new D 156 ch0)
     have EU := ED.alloc (.cells ch0 156)
     refine hK.out _ _ EU (fun hHeld => ?_)
     clear hK K
     (try simp only [zP])
     obtain ⟨n5, hn5⟩ : ∃ n5, D.heap.size = n5 := ⟨_, rfl⟩
     rw [hn5] at B5 hs2 ⊢
     generalize D.alloc (.cells ch0 156) = u2 at *
     refine wpAnyH_ready (rs := [1]) (by kernel_rfl) (by simp) ?_
     refine AllReadyH.cons rfl (fun K hK => ?_) AllReadyH.nil
     go_simp
     refine (HFR.out u2 (E2.trans EU)).mono ?_
     rintro e u1 ⟨rfl, F1⟩
     (try dsimp only)
     refine hK.out _ _ (EU.trans F1) (fun hHeld => ?_)
     clear hK K
     (try simp only [zP])
     (refine wpAnyH_take (i := 20) (v := .agg #[.int .u32 (L : Int), .int .u32 m.se, .int .u32 m.wi, .int .u32 m.pk, .int .u32 4096, .int .u32 4096, .bool false, .bool false, .bool false, .bool false, .int .i64 0, .bool false]) rfl (by kernel_rfl) (by kernel_rfl) (by kernel_rfl) (fun _ _ _ h => h) (yieldsIf_build (by rfl) 156 _ rfl (by simp [go_sem]; exact (by kernel_rfl))) (by assumption) ?_; (try simp only [zP]))
     (refine wpAnyH_ready (rs := [22]) (by kernel_rfl) (by simp) ?_; refine AllReadyH.cons rfl (fun K hK => ?_) AllReadyH.nil; rw [if_pos (by rfl)]; refine wp_store_M 156 _ _ rfl (n5) _ rfl rfl 156 _ (B5.out.ext F1) hiC (by rfl) (by simp [Value.oneCell']) ?_; intro u3 B6 M6; refine hK.out _ _ (Mod.toExt (EU.trans F1) M6 (fun k hk he => by omega)) (fun hHeld => ?_); clear hK K; (try simp only [zP]))
     refine wpAnyH_done (by kernel_rfl) ?_ _
     go_wp2_with fail
     go_meet
     exact ⟨n5, rfl, hs2, Lib.hid B6, hHeld⟩
 case rest =>
   obtain ⟨n5, rfl, hn5, B5, E25⟩ := hcut
   obtain ⟨W5, hW5⟩ : ∃ W5, W5 = wc := ⟨_, rfl⟩
   subst hW5
   have B5 := Lib.hid (show Blk W5 n5 156 (chL (newC cs m)).toArray by unfold newC; rw [HL.out]; exact B5.out)
   have HB := Lib.hid (HB.out.ext E25)
   have HC := Lib.hid (HC.out.ext E25)
   have P1 := Lib.hid (P1.out.ext E25)
   have E05 := E02.trans E25
   have hs5 : n1 ≤ w2.heap.size := by rw [← HN1.out]; exact E02.size
   have HROW := Lib.hid (show ∀ k, (Value.slice Ad L cc).ownBlock = some k → k < n1 from fun k hk => by have := hrow.out k hk; omega)
   have hng : ¬ n5 = g := by omega
   have hgO : (Value.slice Ad L cc).ownBlock ≠ some g := by
     obtain ⟨us, ho, _⟩ := HC.out
     exact own_blk_ne ho HB.out (by decide)
   have HIX := Lib.hid (index_ch (A := fun _ => True) _ _ _ _ (.slice Ad L cc) cs W5 (RdS.y HC.out.rdT) (asks_open2 B5.out))
   rw [idxG_none (l := cs) (fun d hd => by
     obtain ⟨j, hj, rfl⟩ := List.getElem_of_mem hd
     have h9 := HLO.out j _ (List.getElem?_eq_getElem hj)
     rw [h9]
     exact decide_eq_false (by show ¬ ((cs.length : Int) ≤ (j : Int)); omega))] at HIX
   have k0 := HB.out.cell 0
   simp only [List.getElem?_toArray, List.getElem?_cons_zero] at k0
   clear E02 E25 HCF HFR
   go_wp2_with fail
   refine (HIX.out).mono ?_
   rintro e w6 ⟨rfl, E6⟩
   have HB := Lib.hid (HB.out.ext E6)
   have HC := Lib.hid (HC.out.ext E6)
   have P1 := Lib.hid (P1.out.ext E6)
   have B5 := Lib.hid (B5.out.ext E6)
   have E06 := E05.trans E6
   have k0 := HB.out.cell 0
   simp only [List.getElem?_toArray, List.getElem?_cons_zero] at k0
   clear HIX E6 E05
   go_upto_region 14 with fail
   refine region_till 13 (fun w' => Kb.Mod (fun k => (Value.slice Ad L cc).ownBlock = some k) w6 w') (by kernel_rfl) (Mod.of_ext (Ext.drew (Ext.refl _))) (fun hHeld => ?_)
   obtain ⟨D, hD⟩ : ∃ D, D = w6.drew := ⟨_, rfl⟩
   have ED : Ext w6 D := by rw [hD]; exact (Ext.refl _).drew
   rw [← hD] at hHeld ⊢
   clear hD
   have hg6 : g < w6.heap.size := HB.out.lt
   have h5row : ¬ (Value.slice Ad L cc).ownBlock = some n5 := fun he => by have := HROW.out _ he; omega
   (refine till_take (i := 0) (v := ?_) rfl (by kernel_rfl) (by kernel_rfl) (by kernel_rfl) (by kernel_rfl) (fun _ _ _ h => h) (Or.inl ⟨by rfl, ?_⟩) (by assumption) ?_; rotate_left; (focus (intro w' hSw; go_simp; try with_reducible rfl)); (try simp only [zP]))
   (refine till_take (i := 1) (v := ?_) rfl (by kernel_rfl) (by kernel_rfl) (by kernel_rfl) (by kernel_rfl) (fun _ _ _ h => h) (Or.inl ⟨by rfl, ?_⟩) (by assumption) ?_; rotate_left; (focus (intro w' hSw; go_simp; try with_reducible rfl)); (try simp only [zP]))
   (refine till_take (i := 2) (v := ?_) rfl (by kernel_rfl) (by kernel_rfl) (by kernel_rfl) (by kernel_rfl) (fun _ _ _ h => h) (Or.inl ⟨by rfl, ?_⟩) (by assumption) ?_; rotate_left; (focus (intro w' hSw; go_simp; try with_reducible rfl)); (try simp only [zP]))
   (refine till_take (i := 3) (v := ?_) rfl (by kernel_rfl) (by kernel_rfl) (by kernel_rfl) (by kernel_rfl) (fun _ _ _ h => h) (Or.inl ⟨by rfl, ?_⟩) (by assumption) ?_; rotate_left; (focus (intro w' hSw; go_simp; try with_reducible rfl)); (try simp only [zP]))
   (refine till_take (i := 4) (v := ?_) rfl (by kernel_rfl) (by kernel_rfl) (by kernel_rfl) (by kernel_rfl) (fun _ _ _ h => h) (Or.inl ⟨by rfl, ?_⟩) (by assumption) ?_; rotate_left; (focus (intro w' hSw; go_simp; try with_reducible rfl)); (try simp only [zP]))
   (refine till_take (i := 5) (v := ?_) rfl (by kernel_rfl) (by kernel_rfl) (by kernel_rfl) (by kernel_rfl) (fun _ _ _ h => h) (Or.inl ⟨by rfl, ?_⟩) (by assumption) ?_; rotate_left; (focus (intro w' hSw; have kc := (hSw.cell g 0 hg6 hgO).trans k0; go_simp; try with_reducible rfl)); (try simp only [zP]))
   (refine till_take (i := 6) (v := ?_) rfl (by kernel_rfl) (by kernel_rfl) (by kernel_rfl) (by kernel_rfl) (fun _ _ _ h => h) (Or.inl ⟨by rfl, ?_⟩) (by assumption) ?_; rotate_left; (focus (intro w' hSw; go_simp; try with_reducible rfl)); (try simp only [zP]))
   (refine till_take (i := 7) (v := .agg (chL (newC cs m)).toArray) rfl (by kernel_rfl) (by kernel_rfl) (by kernel_rfl) (by kernel_rfl) (fun _ _ _ h => h) (yieldsIf_load_row (by rfl) 156 _ rfl _ rfl 156 (chL (newC cs m)).toArray _ _ (fun w' hSw => (B5.out.mod hSw h5row)) Tryz.underlying156 rfl hiC) (by assumption) ?_; (try simp only [zP]))
   refine till_ready (rs := [8]) (by kernel_rfl) (by simp) ?_
   refine AllTill.cons rfl (fun K hK => ?_) AllTill.nil
   go_simp
   have HX := Lib.hid (Blk.new D 156 (chL (newC cs m)).toArray)
   have EX : Ext D (D.alloc (.cells (chL (newC cs m)).toArray 156)) := (Ext.refl _).alloc _
   refine hK.out _ _ (Mod.of_ext (ED.trans EX)) (fun hHeld => ?_)
   clear hK K
   (try simp only [zP])
   have ED4 := ED.trans EX
   have HC4 := Lib.hid (HC.out.ext ED4)
   have HB4 := Lib.hid (HB.out.ext ED4)
   have P14 := Lib.hid (P1.out.ext ED4)
   have B54 := Lib.hid (B5.out.ext ED4)
   have hds4 := ED4.size
   generalize D.alloc (.cells (chL (newC cs m)).toArray 156) = u4 at *
   generalize D.heap.size = nX at *
   clear EX ED HC HB P1 B5 k0
   have hb4 : base ≤ u4.heap.size := by have := E06.size; omega
   have HIN := Lib.hid (insert_end base (.slice Ad cs.length cc) (.slice (some ⟨nX, 0, none⟩) 1 1) cs (newC cs m) u4 (by rw [HL.out]; exact HC4.out) (RdY.singleB (e := ChR) (cs := chL (newC cs m)) (d := newC cs m) rfl HX.out) (by omega) hb4)
   rw [HL.out] at HIN
   refine till_ready (rs := [9]) (by kernel_rfl) (by simp) ?_
   refine AllTill.cons rfl (fun K hK => ?_) AllTill.nil
   go_simp
   refine (HIN.out).mono ?_
   rintro e u5 ⟨A1, c1, rfl, O5, M5⟩
   (try dsimp only)
   have M65 : Kb.Mod (fun k => (Value.slice Ad L cc).ownBlock = some k) w6 u5 := (Mod.of_ext ED4).trans M5
   refine hK.out _ _ M65 (fun hHeld => ?_)
   clear hK K
   (try simp only [zP])
   have HB5 := Lib.hid (HB4.out.mod M5 hgO)
   have P15 := Lib.hid (P14.out.mod M5 (fun he => by have := HROW.out _ he; omega))
   have B55 := Lib.hid (B54.out.mod M5 h5row)
   have O5 := Lib.hid O5
   clear HIN M5 HX HC4 HB4 P14 B54
   (refine till_ready (rs := [10]) (by kernel_rfl) (by simp) ?_; refine AllTill.cons rfl (fun K hK => ?_) AllTill.nil; go_simp; refine hK.out _ _ M65 (fun hHeld => ?_); clear hK K; (try simp only [zP]))
   (refine till_ready (rs := [11]) (by kernel_rfl) (by simp) ?_; refine AllTill.cons rfl (fun K hK => ?_) AllTill.nil; go_simp; refine hK.out _ _ M65 (fun hHeld => ?_); clear hK K; (try simp only [zP]))
   (refine till_take (i := 12) (v := ?_) rfl (by kernel_rfl) (by kernel_rfl) (by kernel_rfl) (by kernel_rfl) (fun _ _ _ h => h) (Or.inl ⟨by rfl, ?_⟩) (by assumption) ?_; rotate_left; (focus (intro w' hSw; go_simp; try with_reducible rfl)); (try simp only [zP]))
   have f0 := HB5.out.frozen 0
   have k0 := HB5.out.cell 0
   simp only [List.getElem?_toArray, List.getElem?_cons_zero] at k0
   (refine till_ready (rs := [13]) (by kernel_rfl) (by simp) ?_; refine AllTill.last rfl (fun K hK => ?_) AllTill.nil; go_simp; refine hK.out _ _ ?_; clear hK K; (try simp only [zP]))
   refine till_done (by kernel_rfl) ?_ _
   have HB6 := Lib.hid (show Blk (u5.setCell ⟨g, 0, none⟩ (.slice A1 (L + 1) c1)) g 267 (tkA (.slice A1 (L + 1) c1) (.int .u32 4096) (.bool false) (.slice none 0 0) (.slice none 0 0) (.int .i64 0)) by simpa using HB5.out.set_ 0 (.slice A1 (L + 1) c1))
   have M6 : Kb.Mod (fun k => k = g) u5 (u5.setCell ⟨g, 0, none⟩ (.slice A1 (L + 1) c1)) := (Mod.refl _ _).set1 _
   have hgn1 : g < n1 := hgl
   have hO5g : (Value.slice A1 (L + 1) c1).ownBlock ≠ some g := by
     obtain ⟨us, ho, _⟩ := O5.out
     exact own_blk_ne ho HB5.out (by decide)
   have O6 := Lib.hid (O5.out.mod M6 (fun k hk he => hO5g (by rw [hk, he])) (fun k _ hk => hk.elim))
   have P16 := Lib.hid (P15.out.mod M6 (by omega))
   have B56 := Lib.hid (B55.out.mod M6 hng)
   have M06 := Lib.hid (show Kb.Mod (fun k => k = g ∨ (Value.slice Ad L cc).ownBlock = some k) w _ from ((Mod.of_ext E06).trans (M65.mono (fun k _ hk => .inr hk))).trans (M6.mono (fun k _ hk => .inl hk)))
   generalize u5.setCell ⟨g, 0, none⟩ (.slice A1 (L + 1) c1) = w7 at *
   clear HB5 P15 B55 O5 M65 M6 ED4 f0 k0 E06
   have q2 := (mgC P16.out).k2
   have q5 := B56.out.cell 0
   have q1 := HB6.out.cell 1
   simp only [List.getElem?_toArray, List.getElem?_cons_zero, List.getElem?_cons_succ, newC] at q1 q5
   rw [HL.out] at q5
   have hl5 := B56.out.lt
   have hl1 := P16.out.lt
   have hl6 := HB6.out.lt
   go_upto_region 15 with fail
   refine wp_region_held_drew (S := fun w' => Kb.Mod (fun k => k = g) w7 w') (by kernel_rfl) (Mod.of_ext (Ext.drew (Ext.refl _))) (fun hHeld => ?_)
   obtain ⟨D, hD⟩ : ∃ D, D = w7.drew := ⟨_, rfl⟩
   have ED : Ext w7 D := by rw [hD]; exact (Ext.refl _).drew
   rw [← hD] at hHeld ⊢
   clear hD
   have hn1g : ¬ n1 = g := by omega
   (refine zR 0 rfl ?_; (try simp only [zP]))
   (refine zR 1 rfl ?_; (try simp only [zP]))
   (refine zT 2 (v := ?_) rfl (Or.inl ⟨by rfl, ?_⟩) ?_; rotate_left; (focus (intro w' hSw; have kc := (hSw.cell n1 2 hl1 hn1g).trans q2; go_simp; try with_reducible rfl)); (try simp only [zP]))
   (refine zR 3 rfl ?_; (try simp only [zP]))
   (refine zT 4 (v := ?_) rfl (Or.inl ⟨by rfl, ?_⟩) ?_; rotate_left; (focus (intro w' hSw; have kc := (hSw.cell n5 0 hl5 hng).trans q5; go_simp; try with_reducible rfl)); (try simp only [zP]))
   (refine zR 5 rfl ?_; (try simp only [zP]))
   (refine zR 6 rfl ?_; (try simp only [zP]))
   (refine zR 7 rfl ?_; (try simp only [zP]))
   (refine zR 8 rfl ?_; (try simp only [zP]))
   have q1 := cell_ext ED q1
   (refine wpAnyH_ready (rs := [9]) (by kernel_rfl) (by simp) ?_; refine AllReadyH.cons rfl (fun K hK => ?_) AllReadyH.nil; go_simp; refine hK.out _ _ (Mod.of_ext ED) (fun hHeld => ?_); clear hK K; (try simp only [zP]))
   (refine wpAnyH_take (i := 10) (v := .agg #[.int .i64 91, .int .u32 m.se, .int .u32 (L : Int), .int .u32 4096, .int .u32 32768, .int .u32 0, .string ⟨#[]⟩, .string ⟨#[]⟩, .bool false, .slice none 0 0]) rfl (by kernel_rfl) (by kernel_rfl) (by kernel_rfl) (fun _ _ _ h => h) (yieldsIf_build (by rfl) 62 _ rfl (by simp [go_sem]; exact (by kernel_rfl))) (by assumption) ?_; (try simp only [zP]))
   have HSD := Lib.hid (tsend0 g (.slice A1 (L + 1) c1) (.int .u32 4096) (.bool false) (.slice none 0 0) (.int .i64 0) (confM cs m) (.slice none 0 0) (fun _ => False) D (HB6.out.ext ED) (RdS.nil _ _ _) (fun _ h => h.elim))
   have hcm : mgA (confM cs m) (.slice none 0 0) = #[.int .i64 91, .int .u32 m.se, .int .u32 (L : Int), .int .u32 4096, .int .u32 32768, .int .u32 0, .string ⟨#[]⟩, .string ⟨#[]⟩, .bool false, .slice none 0 0] := by unfold confM; rw [HL.out]
   rw [hcm] at HSD
   refine wpAnyH_ready (rs := [11]) (by kernel_rfl) (by simp) ?_
   refine AllReadyH.cons rfl (fun K hK => ?_) AllReadyH.nil
   go_simp
   refine (HSD.out).mono ?_
   rintro e w8 ⟨rfl, A2, c2, B8, O8, M8⟩
   (try dsimp only)
   refine hK.out _ _ ((Mod.of_ext ED).trans M8) (fun hHeld => ?_)
   clear hK K
   (try simp only [zP])
   refine wpAnyH_done (by kernel_rfl) ?_ _
   have P18 := Lib.hid (P16.out.mod hHeld hn1g)
   have B58 := Lib.hid (B56.out.mod hHeld hng)
   have O68 := Lib.hid (O6.out.mod hHeld (fun k hk he => hO5g (by rw [hk, he])) (fun k _ hk => hk.elim))
   have M08 := Lib.hid (M06.out.trans (hHeld.mono (fun k _ hk => .inl hk)))
   have B8 := Lib.hid B8
   have hO8g : (Value.slice A2 1 c2).ownBlock ≠ some g := by
     obtain ⟨us, ho, _⟩ := O8
     exact own_blk_ne ho B8.out (by decide)
   have hbD : base ≤ D.heap.size := by have := ED.size; have := M06.out.size; omega
   have O8 := Lib.hid (O8.lower hbD)
   have q5 := B58.out.cell 0
   simp only [List.getElem?_toArray, List.getElem?_cons_zero, newC] at q5
   rw [HL.out] at q5
   have HTL := Lib.hid (ttell0 g (.slice A1 (L + 1) c1) (.int .u32 4096) (.bool false) (.slice A2 1 c2) (.int .i64 0) (opEv cs) (.slice none 0 0) (fun _ => False) w8 B8.out (RdS.nil _ _ _) (fun _ h => h.elim))
   have hce : evA (opEv cs) (.slice none 0 0) = #[.int .i64 1, .int .u32 (L : Int), .int .u32 0, .string ⟨#[]⟩, .bool false, .slice none 0 0] := by unfold opEv; rw [HL.out]
   rw [hce] at HTL
   have hb8 : base ≤ w8.heap.size := by have := M08.out.size; omega
   clear M8 hHeld HB6 O6 P16 B56 M06 HSD hcm q1 q2 ED hce
   go_wp2_with fail
   refine (HTL.out).mono ?_
   rintro e w9 ⟨rfl, A3, c3, B9, O9, M9⟩
   go_wp2
   go_end0
   exact ⟨rfl, A1, c1, A2, c2, A3, c3, B9, O68.out.mod M9 (fun k hk he => hO5g (by rw [hk, he])) (fun k _ hk => hk.elim), O8.out.mod M9 (fun k hk he => hO8g (by rw [hk, he])) (fun k _ hk => hk.elim), O9.lower hb8, M08.out.trans (M9.mono (fun k _ hk => .inl hk))⟩
end Go.Proofs.YtmmhcllibpmfnaaGreatDoor
namespace Go.Proofs.YtmmhcllibpmfnaaGreatDoor
open Go.RowKit Go.Kb
set_option maxRecDepth 100000
def failM (m : Mg) : Mg := ⟨92, m.se, 0, 0, 0, 4, ⟨#[]⟩, ⟨#[]⟩, false, []⟩
def OpenFP (g : Nat) (cv : Value) (m : Mg) (w : World) (e : Ending) (w' : World) : Prop :=
 e = .returned (.tuple #[]) ∧ ∃ A2 c2, Blk w' g 267 (tkA cv (.int .u32 4096) (.bool false) (.slice A2 1 c2) (.slice none 0 0) (.int .i64 0)) ∧ OwnS MgR 62 w.heap.size (fun _ => False) w' (.slice A2 1 c2) [failM m] ∧ Mod (fun k => k = g) w w'
set_option maxHeartbeats 3000000 in
theorem open_full {A : Nat → Prop} (g : Nat) (cv : Value) (cs : List Ch) (m : Mg) (v : Value) (w : World) (h : Blk w g 267 (tkA cv (.int .u32 4096) (.bool false) (.slice none 0 0) (.slice none 0 0) (.int .i64 0)))
   (hc : RdY ChR A w cv cs) (hn : 8 ≤ cs.length) (hnm : m.nm = sesB) :
   Calls Tryz.prog 209 #[.pointer (some ⟨g, 0, none⟩), .agg (mgA m v)] w (OpenFP g cv m w) := by
 obtain ⟨Ad, cc, rfl, -, -⟩ := hc.shape
 obtain ⟨L, hL⟩ : ∃ L, cs.length = L := ⟨_, rfl⟩
 rw [hL] at h hn ⊢
 have h8 : (8 : Int) ≤ (L : Int) := by omega
 obtain ⟨W1, hW1⟩ : ∃ W1, W1 = w.alloc (.cells (mgA m v) 62) := ⟨_, rfl⟩
 have E1 : Ext w W1 := by rw [hW1]; exact (Ext.refl _).alloc _
 have P1 := Lib.hid (show Blk W1 w.heap.size 62 (mgA m v) by rw [hW1]; exact Blk.new w _ _)
 have HW1 := Lib.hid hW1
 have HB := Lib.hid (h.ext E1)
 have k6 := (mgC P1.out).k6
 rw [hnm] at k6
 replace k6 : W1.cell? ⟨w.heap.size, 6, none⟩ = some (.string ⟨#[115, 101, 115, 115, 105, 111, 110]⟩) := k6
 have k2 := (mgC P1.out).k2
 have k0 := HB.out.cell 0
 simp only [List.getElem?_toArray, List.getElem?_cons_zero] at k0
 have HSD := Lib.hid (fun w' (E : Ext W1 w') => tsend0 g (.slice Ad L cc) (.int .u32 4096) (.bool false) (.slice none 0 0) (.int .i64 0) (failM m) (.slice none 0 0) (fun _ => False) w' (HB.out.ext E) (RdS.nil _ _ _) (fun _ h => h.elim))
 have hcm : mgA (failM m) (.slice none 0 0) = #[.int .i64 92, .int .u32 m.se, .int .u32 0, .int .u32 0, .int .u32 0, .int .u32 4, .string ⟨#[]⟩, .string ⟨#[]⟩, .bool false, .slice none 0 0] := rfl
 rw [hcm] at HSD
 clear h hc hW1 hnm hcm hL
 go_enter Tryz.func209, Tryz.ntmps209
 go_upto_region 1 with fail
 rw [← HW1.out]
 clear HW1
 generalize Value.agg (mgA m v) = z1
 go_wp2_with fail
 with_reducible refine (HSD.out _ ?_).mono ?_
 · exact zX
 rintro e w2 ⟨rfl, A2, c2, B2, O2, M2⟩
 have hs1 := E1.size
 go_wp2
 go_end0
 exact ⟨rfl, A2, c2, B2, O2.lower hs1, (Mod.of_ext E1).trans M2⟩
def peB : List Int := [112, 114, 111, 116, 111, 99, 111, 108, 32, 101, 114, 114, 111, 114]
def discM : Mg := ⟨1, 0, 0, 0, 0, 2, ⟨#[]⟩, ⟨#[]⟩, false, peB⟩
def FaultP (cs : List Ch) (w : World) (e : Ending) (w' : World) : Prop :=
 ∃ Ad c A2 c2, e = .returned (.tuple #[.agg (muxA (.slice Ad cs.length c) true), .slice A2 1 c2]) ∧ OwnS ChR 156 w.heap.size (fun _ => False) w' (.slice Ad cs.length c) cs ∧
   OwnS MgR 62 w.heap.size (fun k => w.heap.size ≤ k) w' (.slice A2 1 c2) [discM] ∧ Ext w w'
set_option maxHeartbeats 3000000 in
theorem fault_mux {A : Nat → Prop} (v : Value) (cs : List Ch) (w : World) (h : RdY ChR A w v cs) (hn : cs.length ≤ 1000) : Calls Tryz.prog 80 #[.agg (muxA v false)] w (FaultP cs w) := by
 have hiM : (Tryz.prog.info? 72).map (·.size) = some 3 := by kernel_rfl
 obtain ⟨Ad, cc, rfl, -, -⟩ := h.shape
 obtain ⟨W1, hW1⟩ : ∃ W1, W1 = (w.alloc (.cells (muxA (.slice Ad cs.length cc) false) 72)).alloc (.cells #[.slice none 0 0, .int .u32 0, .bool false] 72) := ⟨_, rfl⟩
 have E1 : Ext w W1 := by rw [hW1]; exact ((Ext.refl _).alloc _).alloc _
 have B1 := Lib.hid (show Blk W1 w.heap.size 72 (muxA (.slice Ad cs.length cc) false) by rw [hW1]; exact (Blk.new w _ _).alloc _)
 have B2 := Lib.hid (show Blk W1 (w.heap.size + 1) 72 #[.slice none 0 0, .int .u32 0, .bool false] by rw [hW1]; exact Blk.at_ _ _ (by simp))
 have hw1 : w.heap.size + 1 < W1.heap.size := B2.out.lt
 have HW1 := Lib.hid hW1
 have HT := Lib.hid (twin_mux (.slice Ad cs.length cc) false cs W1 (h.ext E1) hn)
 unfold TwinP at HT
 unfold FaultP
 obtain ⟨L, hL⟩ : ∃ L, cs.length = L := ⟨_, rfl⟩
 rw [hL] at HT B1 HW1 ⊢
 clear h hW1 hL hn
 have kc := fun (u : World) (C : Array Value) (n c : Nat) => Lib.run_convert_bytes_const (P := Tryz.prog) u 43 5 C n c Tryz.underlying43 Tryz.underlying5
 go_enter Tryz.func80, Tryz.ntmps80
 go_upto_region 1 with fail
 rw [← HW1.out]
 clear HW1
 go_wp2_with (first | (refine wpList_load_row rfl 72 _ rfl _ rfl 72 _ _ _ B1.out Tryz.underlying72 rfl hiM ?_) | fail)
 refine (HT.out).mono ?_
 rintro e w2 ⟨A2, c2, rfl, O2, E2⟩
 have B1 := Lib.hid (B1.out.ext E2)
 have B2 := Lib.hid (B2.out.ext E2)
 have E02 := E1.trans E2
 have O2 := Lib.hid O2
 clear E1 E2 HT
 go_upto_region 2 with (refine wpList_store_M rfl 72 _ _ rfl w.heap.size _ rfl rfl 72 _ B1.out hiM rfl (by simp [Value.oneCell']) ?_; intro w3 P3 M3)
 have O3 := Lib.hid (O2.out.mod M3 (fun k hk he => by have := (O2.out.row k hk).1; omega) (fun k _ hk => hk.elim))
 have B2 := Lib.hid (B2.out.mod M3 (by omega))
 have E03 := Mod.toExt E02 M3 (fun k hk he => by omega)
 have k2 := P3.cell 2
 have f2 := P3.frozen 2
 simp only [List.getElem?_toArray, List.getElem?_cons_zero, List.getElem?_cons_succ] at k2
 have P4 := Lib.hid (show Blk (w3.setCell ⟨w.heap.size, 2, none⟩ (.bool true)) w.heap.size 72 (muxA (.slice A2 L c2) true) by simpa using P3.set_ 2 (.bool true))
 have M4 : Kb.Mod (fun k => k = w.heap.size) w3 (w3.setCell ⟨w.heap.size, 2, none⟩ (.bool true)) := (Mod.refl _ _).set1 _
 have O4 := Lib.hid (O3.out.mod M4 (fun k hk he => by have := (O3.out.row k hk).1; omega) (fun k _ hk => hk.elim))
 have B4 := Lib.hid (B2.out.mod M4 (by omega))
 have E04 := Mod.toExt E03 M4 (fun k hk he => by omega)
 clear M3 E02 B1 B2 O2 O3 M4 E03
 go_upto_region 5 with fail
 generalize w3.setCell ⟨w.heap.size, 2, none⟩ (.bool true) = w4 at *
 have hs4 := E04.size
 have hb4 : w.heap.size + 1 < w4.heap.size := B4.out.lt
 obtain ⟨W6, hW6⟩ : ∃ W6, W6 = (w4.alloc (.cells #[.int .u8 112, .int .u8 114, .int .u8 111, .int .u8 116, .int .u8 111, .int .u8 99, .int .u8 111, .int .u8 108, .int .u8 32, .int .u8 101, .int .u8 114, .int .u8 114, .int .u8 111, .int .u8 114] 5 (14, 15))).alloc (.cells #[.int .i64 1, .int .u32 0, .int .u32 0, .int .u32 0, .int .u32 0, .int .u32 2, .string ⟨#[]⟩, .string ⟨#[]⟩, .bool false, .slice (some ⟨w4.heap.size, 0, none⟩) 14 14] 62) := ⟨_, rfl⟩
 have E46 : Ext w4 W6 := by rw [hW6]; exact ((Ext.refl _).alloc _).alloc _
 have X2 : Blk W6 (w4.heap.size + 1) 62 (mgA discM (.slice (some ⟨w4.heap.size, 0, none⟩) 14 14)) := by rw [hW6]; exact Blk.at_ _ _ (by simp)
 have X3 : RdS Ub8 (fun k => k = w4.heap.size) W6 (.slice (some ⟨w4.heap.size, 0, none⟩) 14 14) peB := by
   rw [hW6]
   exact ⟨RI.y (RdN.alloc (show RI .u8 (w4.alloc (.cells (peB.map (Value.int .u8)).toArray 5 (14, 15))) (.slice (some ⟨w4.heap.size, 0, none⟩) 14 14) peB from RI.lit .u8 peB 5 rfl (by decide)) _), fun _ k hk => by
     have h9 : some w4.heap.size = some k := hk
     exact (Option.some.inj h9).symm⟩
 have O6 := Lib.hid (show OwnS MgR 62 w.heap.size (fun k => k = w4.heap.size) W6 (.slice (some ⟨w4.heap.size + 1, 0, none⟩) 1 1) [discM] from
   OwnS.litB (A := fun k => k = w4.heap.size) (cs := (mgA discM (.slice (some ⟨w4.heap.size, 0, none⟩) 14 14)).toList) (RdE.single (e := MgR) (d := discM) ⟨_, rfl, X3⟩) X2 (fun k _ hk => ⟨hk, by omega⟩) (by omega) rfl (by omega))
 have O46 := Lib.hid (O4.out.ext E46)
 have B46 := Lib.hid (B4.out.ext E46)
 have E06 := E04.trans E46
 have HB7 := Lib.hid (show Blk ((w4.alloc (.cells #[.int .u8 112, .int .u8 114, .int .u8 111, .int .u8 116, .int .u8 111, .int .u8 99, .int .u8 111, .int .u8 108, .int .u8 32, .int .u8 101, .int .u8 114, .int .u8 114, .int .u8 111, .int .u8 114] 5 (14, 15))).alloc (.cells #[.int .i64 1, .int .u32 0, .int .u32 0, .int .u32 0, .int .u32 0, .int .u32 2, .string ⟨#[]⟩, .string ⟨#[]⟩, .bool false, .slice (some ⟨w4.heap.size, 0, none⟩) 14 14] 62)) (w.heap.size + 1) 72 #[.slice none 0 0, .int .u32 0, .bool false] from by rw [← hW6]; exact B46.out)
 have HW6 := Lib.hid hW6
 clear hW6 X2 X3 E46 O4 B4
 have q0 := HB7.out.cell 0
 have q1 := HB7.out.cell 1
 have q2 := HB7.out.cell 2
 have r0 := HB7.out.frozen 0
 have r1 := HB7.out.frozen 1
 have r2 := HB7.out.frozen 2
 simp only [List.getElem?_toArray, List.getElem?_cons_zero, List.getElem?_cons_succ] at q0 q1 q2
 go_wp2_with (refine wpList_load_row rfl 72 _ rfl _ rfl 72 _ _ _ P4.out Tryz.underlying72 rfl hiM ?_)
 rw [← HW6.out]
 have P7 := Lib.hid (show Blk (((W6.setCell ⟨w.heap.size + 1, 0, none⟩ (.slice A2 L c2)).setCell ⟨w.heap.size + 1, 1, none⟩ (.int .u32 4096)).setCell ⟨w.heap.size + 1, 2, none⟩ (.bool true)) (w.heap.size + 1) 72 (muxA (.slice A2 L c2) true) by simpa using ((B46.out.set_ 0 (.slice A2 L c2)).set_ 1 (.int .u32 4096)).set_ 2 (.bool true))
 have M7 : Kb.Mod (fun k => k = w.heap.size + 1) W6 (((W6.setCell ⟨w.heap.size + 1, 0, none⟩ (.slice A2 L c2)).setCell ⟨w.heap.size + 1, 1, none⟩ (.int .u32 4096)).setCell ⟨w.heap.size + 1, 2, none⟩ (.bool true)) := (((Mod.refl _ _).set1 _).set1 _).set1 _
 refine bodyPost_ret_by (Kb.results_cell_tmp Tryz.results80 _ _ (w.heap.size + 1) 72 _ _ _ rfl _ rfl P7.out Tryz.underlying72 rfl hiM) rfl ?_
 have hw4 := P4.out.lt
 exact ⟨A2, c2, some ⟨w4.heap.size + 1, 0, none⟩, 1, rfl, (O46.out.mod M7 (fun k hk he => by have := (O46.out.row k hk).1; omega) (fun k _ hk => hk.elim)).lower (by omega), (O6.out.mod M7 (fun k hk he => by
     have h9 : some (w4.heap.size + 1) = some k := hk
     have := Option.some.inj h9
     omega) (fun k _ hk he => by omega)).mono (fun k _ hk => by omega), Mod.toExt E06 M7 (fun k hk he => by omega)⟩
def WrongP (g : Nat) (cs : List Ch) (x : Int) (w : World) (e : Ending) (w' : World) : Prop :=
 e = .returned (.tuple #[]) ∧ ∃ A1 c1 A2 c2, Blk w' g 267 (tkA (.slice A1 cs.length c1) (.int .u32 4096) (.bool true) (.slice A2 1 c2) (.slice none 0 0) (.int .i64 x)) ∧ OwnS ChR 156 w.heap.size (fun _ => False) w' (.slice A1 cs.length c1) cs ∧
   OwnS MgR 62 w.heap.size (fun k => w.heap.size ≤ k) w' (.slice A2 1 c2) [discM] ∧ Mod (fun k => k = g) w w'
set_option maxHeartbeats 3000000 in
theorem wrong_any {A : Nat → Prop} (g : Nat) (cv ov vv ev : Value) (cs : List Ch) (x : Int) (w : World) (h : Blk w g 267 (tkA cv (.int .u32 4096) (.bool false) ov vv ev)) (hc : RdY ChR A w cv cs) (hn : cs.length ≤ 1000) :
   Calls Tryz.prog 215 #[.pointer (some ⟨g, 0, none⟩), .int .i64 x] w (WrongP g cs x w) := by
 obtain ⟨Ad, cc, rfl, -, -⟩ := hc.shape
 have HF := Lib.hid (fault_mux (.slice Ad cs.length cc) cs w hc hn)
 unfold FaultP at HF
 unfold WrongP
 obtain ⟨L, hL⟩ : ∃ L, cs.length = L := ⟨_, rfl⟩
 rw [hL] at HF h ⊢
 have k0 := h.cell 0
 have k1 := h.cell 1
 have k2 := h.cell 2
 simp only [List.getElem?_toArray, List.getElem?_cons_zero, List.getElem?_cons_succ] at k0 k1 k2
 have HB := Lib.hid h
 have hg := h.lt
 clear h hc hL hn
 go_enter Tryz.func215, Tryz.ntmps215
 go_wp2_with fail
 refine (HF.out).mono ?_
 rintro e w2 ⟨A1, c1, A2, c2, rfl, O1, O2, E2⟩
 have B2 := Lib.hid (HB.out.ext E2)
 have O1 := Lib.hid O1
 have O2 := Lib.hid O2
 have q0 := B2.out.cell 0
 have q1 := B2.out.cell 1
 have q2 := B2.out.cell 2
 have q3 := B2.out.cell 3
 have q4 := B2.out.cell 4
 have q5 := B2.out.cell 5
 have r0 := B2.out.frozen 0
 have r1 := B2.out.frozen 1
 have r2 := B2.out.frozen 2
 have r3 := B2.out.frozen 3
 have r4 := B2.out.frozen 4
 have r5 := B2.out.frozen 5
 simp only [List.getElem?_toArray, List.getElem?_cons_zero, List.getElem?_cons_succ] at q0 q1 q2 q3 q4 q5
 clear k0 k1 k2 HF
 go_wp2
 go_end0
 have M3 : Kb.Mod (fun k => k = g) w2 _ := ((((((Mod.refl (fun k => k = g) w2).set1 (o := 0) (.slice A1 L c1)).set1 (o := 1) (.int .u32 4096)).set1 (o := 2) (.bool true)).set1 (o := 3) (.slice A2 1 c2)).set1 (o := 4) (.slice none 0 0)).set1 (o := 5) (.int .i64 x)
 refine ⟨rfl, A1, c1, A2, c2, by simpa using (((((B2.out.set_ 0 (.slice A1 L c1)).set_ 1 (.int .u32 4096)).set_ 2 (.bool true)).set_ 3 (.slice A2 1 c2)).set_ 4 (.slice none 0 0)).set_ 5 (.int .i64 x), O1.out.mod M3 (fun k hk he => by have := (O1.out.row k hk).1; omega) (fun k _ hk => hk.elim), O2.out.mod M3 (fun k hk he => by have := (O2.out.row k hk).1; omega) (fun k _ hk he => by omega), (Mod.of_ext E2).trans M3⟩
def OpenBP (g : Nat) (cs : List Ch) (w : World) (e : Ending) (w' : World) : Prop := WrongP g cs 4 w e w'
set_option maxHeartbeats 3000000 in
theorem open_bad {A : Nat → Prop} (g : Nat) (cv : Value) (cs : List Ch) (m : Mg) (v : Value) (w : World) (h : Blk w g 267 (tkA cv (.int .u32 4096) (.bool false) (.slice none 0 0) (.slice none 0 0) (.int .i64 0)))
   (hc : RdY ChR A w cv cs) (hn : cs.length < 8) (hnm : m.nm = sesB) (hse : ∃ c ∈ cs, c.re = m.se) :
   Calls Tryz.prog 209 #[.pointer (some ⟨g, 0, none⟩), .agg (mgA m v)] w (OpenBP g cs w) := by
 obtain ⟨Ad, cc, rfl, -, -⟩ := hc.shape
 obtain ⟨W1, hW1⟩ : ∃ W1, W1 = w.alloc (.cells (mgA m v) 62) := ⟨_, rfl⟩
 have E1 : Ext w W1 := by rw [hW1]; exact (Ext.refl _).alloc _
 have P1 := Lib.hid (show Blk W1 w.heap.size 62 (mgA m v) by rw [hW1]; exact Blk.new w _ _)
 have HW1 := Lib.hid hW1
 have HB := Lib.hid (h.ext E1)
 have HC := Lib.hid (hc.ext E1)
 have k6 := (mgC P1.out).k6
 rw [hnm] at k6
 replace k6 : W1.cell? ⟨w.heap.size, 6, none⟩ = some (.string ⟨#[115, 101, 115, 115, 105, 111, 110]⟩) := k6
 have hany : cs.any (fun c => c.re == m.se) = true := by
   obtain ⟨c, hc9, he⟩ := hse
   exact List.any_eq_true.2 ⟨c, hc9, by simpa using he⟩
 have HCF := Lib.hid (fun w' (E : Ext W1 w') => contains_ch (A := A) _ _ _ _ (.slice Ad cs.length cc) cs w' (HC.out.ext E) (asks_open1 (P1.out.ext E)))
 rw [hany] at HCF
 have HWR := Lib.hid (fun w' (E : Ext W1 w') => wrong_any (A := A) g (.slice Ad cs.length cc) (.slice none 0 0) (.slice none 0 0) (.int .i64 0) cs 4 w' (HB.out.ext E) (HC.out.ext E) (by omega))
 unfold OpenBP
 unfold WrongP at HWR ⊢
 obtain ⟨L, hL⟩ : ∃ L, cs.length = L := ⟨_, rfl⟩
 rw [hL] at HCF HWR HB hn ⊢
 have k0 := HB.out.cell 0
 simp only [List.getElem?_toArray, List.getElem?_cons_zero] at k0
 have h8 : ¬ (8 : Int) ≤ (L : Int) := by omega
 clear h hc hW1 hL hnm hse hany
 go_enter Tryz.func209, Tryz.ntmps209
 go_upto_region 1 with fail
 rw [← HW1.out]
 clear HW1
 generalize Value.agg (mgA m v) = z1
 go_wp2_with fail
 refine (HCF.out _ zX).mono ?_
 rintro e w2 ⟨rfl, E2⟩
 go_wp2_with fail
 refine (HWR.out _ E2).mono ?_
 rintro e w3 ⟨rfl, A1, c1, A2, c2, B3, O1, O2, M3⟩
 have E02 := E1.trans E2
 have hs2 := E02.size
 go_wp2
 first | go_end0 | (refine bodyPost_ret (v := .tuple #[]) (results_none rfl _ _ _) rfl ?_) | go_ret
 exact ⟨rfl, A1, c1, A2, c2, B3, O1.lower hs2, (O2.lower hs2).mono (fun k _ hk => by omega), (Mod.of_ext E02).trans M3⟩
end Go.Proofs.YtmmhcllibpmfnaaGreatDoor
namespace Go.Proofs.YtmmhcllibpmfnaaGreatDoor
open Go.RowKit Go.Kb
set_option maxRecDepth 100000
/-- a channel that owes one answer -/
def owe (c : Ch) (n : Int) : Ch := { c with ow := n }
set_option maxHeartbeats 800000 in
theorem casked_any (n : Nat) (c : Ch) (m : Mg) (v : Value) (w : World) (h : Blk w n 156 (chL c).toArray) (hwa : m.wa = true) (how : c.ow = 0) :
   Calls Tryz.prog 344 #[.pointer (some ⟨n, 0, none⟩), .agg (mgA m v)] w fun e w' => e = .returned (.int .i64 0) ∧ Blk w' n 156 (chL (owe c 1)).toArray ∧ Mod (fun k => k = n) w w' := by
 obtain ⟨W1, hW1⟩ : ∃ W1, W1 = w.alloc (.cells (mgA m v) 62) := ⟨_, rfl⟩
 have E1 : Ext w W1 := by rw [hW1]; exact (Ext.refl _).alloc _
 have P1 := Lib.hid (show Blk W1 w.heap.size 62 (mgA m v) by rw [hW1]; exact Blk.new w _ _)
 have HW1 := Lib.hid hW1
 have HB := Lib.hid (h.ext E1)
 have k8 := (mgC P1.out).k8
 rw [hwa] at k8
 have k10 := HB.out.cell 10
 have f10 := HB.out.frozen 10
 simp only [List.getElem?_toArray, List.getElem?_cons_zero, List.getElem?_cons_succ, how] at k10
 clear h hW1 hwa
 go_enter Tryz.func344, Tryz.ntmps344
 go_upto_region 1 with fail
 rw [← HW1.out]
 clear HW1
 go_wp2
 go_ret
 have M1 : Kb.Mod (fun k => k = n) W1 (W1.setCell ⟨n, 10, none⟩ (.int .i64 1)) := (Mod.refl _ _).set1 _
 exact ⟨rfl, by simpa [owe] using HB.out.set_ 10 (.int .i64 1), (Mod.of_ext E1).trans M1⟩
set_option maxHeartbeats 3000000 in
theorem recv_ask (c : Ch) (m : Mg) (v : Value) (w : World) (hk : m.k = 98) (hwa : m.wa = true) (how : c.ow = 0) :
   Calls Tryz.prog 303 #[.agg (chL c).toArray, .agg (mgA m v)] w fun e w' => e = .returned (.tuple #[.agg (chL (owe c 1)).toArray, .int .i64 0]) ∧ Ext w w' := by
 have hiC : (Tryz.prog.info? 156).map (·.size) = some 12 := by kernel_rfl
 have hiM : (Tryz.prog.info? 62).map (·.size) = some 10 := by kernel_rfl
 obtain ⟨W1, hW1⟩ : ∃ W1, W1 = ((w.alloc (.cells (chL c).toArray 156)).alloc (.cells (mgA m v) 62)).alloc (.cells ch0 156) := ⟨_, rfl⟩
 have E1 : Ext w W1 := by rw [hW1]; exact (((Ext.refl _).alloc _).alloc _).alloc _
 have B1 := Lib.hid (show Blk W1 w.heap.size 156 (chL c).toArray by rw [hW1]; exact ((Blk.new w _ _).alloc _).alloc _)
 have B2 := Lib.hid (show Blk W1 (w.heap.size + 1) 62 (mgA m v) by rw [hW1]; exact (Blk.at_ _ _ (by simp)).alloc _)
 have B3 := Lib.hid (show Blk W1 (w.heap.size + 1 + 1) 156 ch0 by rw [hW1]; exact Blk.at_ _ _ (by simp))
 have HW1 := Lib.hid hW1
 have k9 := B1.out.cell 9
 simp only [List.getElem?_toArray, List.getElem?_cons_zero, List.getElem?_cons_succ] at k9
 have hw1 : w.heap.size + 1 + 1 < W1.heap.size := B3.out.lt
 clear hW1
 go_enter Tryz.func303, Tryz.ntmps303
 go_upto_region 1 with fail
 rw [← HW1.out]
 clear HW1
 go_upto_region 4 with (first | (refine wpList_load_row rfl 156 _ rfl _ rfl 156 _ _ _ B1.out Tryz.underlying156 rfl hiC ?_) | (refine wpList_store_M rfl 156 _ _ rfl W1.heap.size _ rfl rfl 156 _ (Blk.new _ _ _) hiC rfl (by simp [Value.oneCell']) ?_; intro w2 P2 M2))
 have E2 : Ext W1 w2 := Mod.toExt ((Ext.refl _).alloc _) M2 (fun k hk he => by omega)
 have B1 := Lib.hid (B1.out.ext E2)
 have B2 := Lib.hid (B2.out.ext E2)
 have B3 := Lib.hid (B3.out.ext E2)
 have E02 := E1.trans E2
 have k0 := (mgC B2.out).k0
 rw [hk] at k0
 have HCA := Lib.hid (casked_any w.heap.size c m v w2 B1.out hwa how)
 clear k9 P2 M2 E1 E2
 go_wp2_with (first | (refine wpList_load_row rfl 62 _ rfl _ rfl 62 _ _ _ B2.out Tryz.underlying62 rfl hiM ?_) | fail)
 refine (HCA.out).mono ?_
 rintro e w3 ⟨rfl, B13, M3⟩
 have B3 := Lib.hid (B3.out.mod M3 (by omega))
 have B13 := Lib.hid B13
 have E03 := Lib.hid (Mod.toExt E02 M3 (fun k hk he => by omega))
 clear k0 HCA M3 E02 B2 B1
 go_wp2_with (first | (refine wpList_load_row rfl 156 _ rfl _ rfl 156 _ _ _ B13.out Tryz.underlying156 rfl hiC ?_) | (refine wpList_store_M rfl 156 _ _ rfl (w.heap.size + 1 + 1) _ rfl rfl 156 _ B3.out hiC rfl (by simp [Value.oneCell']) ?_; intro w4 P4 M4))
 refine bodyPost_ret_by (Kb.results_cell_tmp Tryz.results303 _ _ (w.heap.size + 1 + 1) 156 _ _ _ rfl _ rfl P4 Tryz.underlying156 rfl hiC) rfl ?_
 exact ⟨rfl, Mod.toExt E03.out M4 (fun k hk he => by omega)⟩
end Go.Proofs.YtmmhcllibpmfnaaGreatDoor
namespace Go.Proofs.YtmmhcllibpmfnaaGreatDoor
open Go.RowKit Go.Kb
set_option maxRecDepth 100000
def askEv (x : Int) (m : Mg) : Ev := ⟨5, x, 0, m.nm, true, m.da⟩
def ComesP (g base : Nat) (A : Nat → Prop) (cv : Value) (cs : List Ch) (j : Nat) (c : Ch) (m : Mg) (w : World) (e : Ending) (w' : World) : Prop :=
 e = .returned (.tuple #[]) ∧ ∃ A3 c3, Blk w' g 267 (tkA cv (.int .u32 4096) (.bool false) (.slice none 0 0) (.slice A3 1 c3) (.int .i64 0)) ∧
   OwnS ChR 156 base (fun _ => False) w' cv (cs.set j (owe c 1)) ∧ OwnS EvR 207 w.heap.size A w' (.slice A3 1 c3) [askEv j m] ∧ Mod (fun k => k = g ∨ cv.ownBlock = some k) w w'
set_option maxHeartbeats 6000000 in
theorem comes_ask (g base : Nat) (A : Nat → Prop) (cv : Value) (cs : List Ch) (j : Nat) (c : Ch) (m : Mg) (v dv : Value) (w : World) (h : Blk w g 267 (tkA cv (.int .u32 4096) (.bool false) (.slice none 0 0) (.slice none 0 0) (.int .i64 0)))
   (hc : OwnS ChR 156 base (fun _ => False) w cv cs) (hlo : LoOk cs) (hj : cs[j]? = some c) (hch : m.ch = (j : Int)) (hk : m.k = 98) (hwa : m.wa = true) (how : c.ow = 0)
   (hd : RdS Ub8 A w dv m.da) (hA : ∀ k, A k → k ≠ g ∧ k < w.heap.size ∧ cv.ownBlock ≠ some k) :
   Calls Tryz.prog 270 #[.pointer (some ⟨g, 0, none⟩), .agg (mgA m v), .agg #[.int .i64 5, .int .u32 0, .int .u32 0, .string m.nm, .bool true, dv]] w (ComesP g base A cv cs j c m w) := by
 have hiC : (Tryz.prog.info? 156).map (·.size) = some 12 := by kernel_rfl
 have hiL : ∀ c, (Tryz.prog.info? 156).map (·.size) = some (chL c).length := fun _ => hiC
 have hiM : (Tryz.prog.info? 62).map (·.size) = some 10 := by kernel_rfl
 have hiE : (Tryz.prog.info? 207).map (·.size) = some 6 := by kernel_rfl
 obtain ⟨Ad, cc, rfl, -, -⟩ := hc.shape
 obtain ⟨Av, cd, rfl, -, -⟩ := hd.shape
 obtain ⟨W1, hW1⟩ : ∃ W1, W1 = (w.alloc (.cells (mgA m v) 62)).alloc (.cells #[.int .i64 5, .int .u32 0, .int .u32 0, .string m.nm, .bool true, .slice Av m.da.length cd] 207) := ⟨_, rfl⟩
 have E1 : Ext w W1 := by rw [hW1]; exact ((Ext.refl _).alloc _).alloc _
 have B1 := Lib.hid (show Blk W1 w.heap.size 62 (mgA m v) by rw [hW1]; exact (Blk.new w _ _).alloc _)
 have B2 := Lib.hid (show Blk W1 (w.heap.size + 1) 207 #[.int .i64 5, .int .u32 0, .int .u32 0, .string m.nm, .bool true, .slice Av m.da.length cd] by rw [hW1]; exact Blk.at_ _ _ (by simp))
 have HW1 := Lib.hid hW1
 have hgl := h.lt
 have HROW := Lib.hid (show ∀ k, (Value.slice Ad cs.length cc).ownBlock = some k → k < w.heap.size from fun k hk => (hc.row k hk).2)
 have hgO : (Value.slice Ad cs.length cc).ownBlock ≠ some g := by
   obtain ⟨us, ho, _⟩ := hc
   exact own_blk_ne ho h (by decide)
 have HB := Lib.hid (h.ext E1)
 have HC := Lib.hid (hc.ext E1)
 have HD := Lib.hid (hd.ext E1)
 have hlt := (List.getElem?_eq_some_iff.1 hj).1
 have hfj := hlo.fnd hj
 have HJ := Lib.hid hj
 have HRC := Lib.hid (fun w' => recv_ask c m v w' hk hwa how)
 have HAA := Lib.hid hA
 have hlo1 := hlo j c hj
 have HFD := Lib.hid (fun w' (E : Ext W1 w') => find_ch (A := fun _ => True) (.slice Ad cs.length cc) false cs m.ch w' (RdS.y (HC.out.ext E).rdT))
 rw [hch, hfj] at HFD
 unfold ComesP
 obtain ⟨L, hL⟩ : ∃ L, cs.length = L := ⟨_, rfl⟩
 obtain ⟨DL, hDL⟩ : ∃ DL, m.da.length = DL := ⟨_, rfl⟩
 have HL := Lib.hid hL
 have HDL := Lib.hid hDL
 obtain ⟨n0, hn0⟩ : ∃ n0, w.heap.size = n0 := ⟨_, rfl⟩
 have HN0 := Lib.hid hn0
 rw [hL] at HFD HC HB HROW hgO hlt HAA ⊢
 rw [hDL] at B2 HD HW1 ⊢
 rw [hn0] at B1 B2 HROW hgl HAA ⊢
 have k0 := HB.out.cell 0
 have k1 := HB.out.cell 1
 have k2 := HB.out.cell 2
 have q1 := (mgC B1.out).k1
 rw [hch] at q1
 simp only [List.getElem?_toArray, List.getElem?_cons_zero, List.getElem?_cons_succ] at k0 k1 k2
 have hw1 : n0 + 1 < W1.heap.size := B2.out.lt
 have hjL : (j : Int) < (L : Int) := by omega
 have hj0 : ¬ (j : Int) < 0 := by omega
 have hj00 : (0 : Int) ≤ (j : Int) := by omega
 have HK := Lib.hid hk
 have HWA := Lib.hid hwa
 have HCH := Lib.hid hch
 clear h hc hd hA hW1 hL hDL hlo hj hch hk hwa how hfj hn0
 go_enter Tryz.func270, Tryz.ntmps270
 go_upto_region 1 with fail
 rw [← HW1.out]
 rw [HN0.out]
 clear HW1
 generalize Value.agg (mgA m v) = z1
 generalize Value.agg #[.int .i64 5, .int .u32 0, .int .u32 0, .string m.nm, .bool true, .slice Av DL cd] = z2
 refine wp_region_held_drew (S := fun w' => Ext W1 w') (by kernel_rfl) (Ext.drew (Ext.refl _)) (fun hHeld => ?_)
 (refine zR 0 rfl ?_; (try simp only [zP]))
 (refine zR 1 rfl ?_; (try simp only [zP]))
 (refine zR 2 rfl ?_; (try simp only [zP]))
 (refine zT 3 (v := ?_) rfl (Or.inl ⟨by rfl, ?_⟩) ?_; rotate_left; (focus (intro w' hSw; have c0 := cell_ext hSw k0; have c1 := cell_ext hSw k1; have c2 := cell_ext hSw k2; go_simp; try with_reducible rfl)); (try simp only [zP]))
 (refine zR 4 rfl ?_; (try simp only [zP]))
 (refine zT 5 (v := ?_) rfl (Or.inl ⟨by rfl, ?_⟩) ?_; rotate_left; (focus (intro w' hSw; have kc := cell_ext hSw q1; go_simp; try with_reducible rfl)); (try simp only [zP]))
 (refine wpAnyH_ready (rs := [6]) (by kernel_rfl) (by simp) ?_; refine AllReadyH.cons rfl (fun K hK => ?_) AllReadyH.nil; go_simp; go_at_call 300; refine (HFD.out _ zX).mono ?_; rintro e w2 ⟨rfl, E2⟩; (try dsimp only); refine hK.out _ _ zX (fun hHeld => ?_); clear hK K; (try simp only [zP]))
 (refine zR 7 rfl ?_; (try simp only [zP]))
 refine wpAnyH_done (by kernel_rfl) ?_ _
 have E12 := hHeld
 have HB := Lib.hid (HB.out.ext E12)
 have HC := Lib.hid (HC.out.ext E12)
 have HD := Lib.hid (HD.out.ext E12)
 have B1 := Lib.hid (B1.out.ext E12)
 have B2 := Lib.hid (B2.out.ext E12)
 have E02 := E1.trans E12
 have k0 := HB.out.cell 0
 simp only [List.getElem?_toArray, List.getElem?_cons_zero] at k0
 have hs12 := E12.size
 clear k1 k2 q1 E1 E2 HFD hHeld E12
 obtain ⟨b, off, c9, d, cl, hv, hd, hrel2, hlen, hcell⟩ := (HC.out.rdT.y).cells (j := j) (by rw [HL.out]; exact hlt)
 simp only [Value.slice.injEq] at hv
 obtain ⟨rfl, -, rfl⟩ := hv
 obtain rfl : c = d := Option.some.inj (HJ.out.symm.trans hd.out)
 obtain rfl : cl = chL c := hrel2.out
 have HCELL := Lib.hid (show w2.rangeAt b (off + j * 12) (chL c) from hcell)
 clear hcell hd hrel2 hlen
 go_upto_region 4 with fail
 go_cut [7, 8] (fun s7 s8 wx => ∃ n7 : Nat, s7 = .pointer (some ⟨n7, 0, none⟩) ∧ s8 = .int .i64 0 ∧ w2.heap.size ≤ n7 ∧ Hid (Blk wx n7 156 (chL (owe c 1)).toArray) ∧ Ext w2 wx)
 case first =>
   refine wp_region_held_drew (S := fun w' => Ext w2 w') (by kernel_rfl) (Ext.drew (Ext.refl _)) (fun hHeld => ?_)
   obtain ⟨D, hD⟩ : ∃ D, D = w2.drew := ⟨_, rfl⟩
   have ED : Ext w2 D := by rw [hD]; exact (Ext.refl _).drew
   rw [← hD] at hHeld ⊢
   clear hD
   have hs2 := ED.size
   (refine zR 0 rfl ?_; (try simp only [zP]))
   (refine zR 1 rfl ?_; (try simp only [zP]))
   (refine zR 2 rfl ?_; (try simp only [zP]))
   (refine zR 3 rfl ?_; (try simp only [zP]))
   (refine zT 4 (v := ?_) rfl (Or.inl ⟨by rfl, ?_⟩) ?_; rotate_left; (focus (intro w' hSw; have kc := cell_ext hSw k0; go_simp; try with_reducible rfl)); (try simp only [zP]))
   (refine zR 5 rfl ?_; (try simp only [zP]))
   (refine zR 6 rfl ?_; (try simp only [zP]))
   (refine wpAnyH_take (i := 7) (v := .agg (chL c).toArray) rfl (by kernel_rfl) (by kernel_rfl) (by kernel_rfl) (fun _ _ _ h => h) (yieldsIf_load_mid (by rfl) 156 _ rfl _ _ rfl (chL c) _ (fun w' hSw => (fun i u hu => cell_ext hSw (HCELL.out i u hu))) Tryz.underlying156 rfl (hiL c)) (by assumption) ?_; (try simp only [zP]))
   (refine wpAnyH_take (i := 8) (v := .agg (mgA m v)) rfl (by kernel_rfl) (by kernel_rfl) (by kernel_rfl) (fun _ _ _ h => h) (yieldsIf_load_row (by rfl) 62 _ rfl _ rfl 62 (mgA m v) _ _ (fun w' hSw => (B1.out.ext hSw)) Tryz.underlying62 rfl hiM) (by assumption) ?_; (try simp only [zP]))
   refine wpAnyH_ready (rs := [9, 13]) (by kernel_rfl) (by simp) ?_
   refine AllReadyH.cons rfl (fun K hK => ?_) (AllReadyH.cons rfl (fun K hK => ?_) AllReadyH.nil)
   · go_simp
     refine (HRC.out D).mono ?_
     rintro e u1 ⟨rfl, F1⟩
     (try dsimp only)
     refine hK.out _ _ (ED.trans F1) (fun hHeld => ?_)
     clear hK K
     (try simp only [zP])
     (refine zR 10 rfl ?_; (try simp only [zP]))
     (refine zR 11 rfl ?_; (try simp only [zP]))
     (refine zR 12 rfl ?_; (try simp only [zP]))
     have B5 := Lib.hid (Blk.new u1 156 ch0)
     have EU := (ED.trans F1).alloc (.cells ch0 156)
     have hs3 := (ED.trans F1).size
     (refine wpAnyH_ready (rs := [13]) (by kernel_rfl) (by simp) ?_; refine AllReadyH.cons rfl (fun K hK => ?_) AllReadyH.nil; go_simp; refine hK.out _ _ EU (fun hHeld => ?_); clear hK K; (try simp only [zP]))
     obtain ⟨n5, hn5⟩ : ∃ n5, u1.heap.size = n5 := ⟨_, rfl⟩
     rw [hn5] at B5 hs3 ⊢
     generalize u1.alloc (.cells ch0 156) = u2 at *
     (refine wpAnyH_ready (rs := [14]) (by kernel_rfl) (by simp) ?_; refine AllReadyH.cons rfl (fun K hK => ?_) AllReadyH.nil; rw [if_pos (by rfl)]; refine wp_store_M 156 _ _ rfl (n5) _ rfl rfl 156 _ B5.out hiC (by rfl) (by simp [Value.oneCell']) ?_; intro u3 B6 M6; refine hK.out _ _ (Mod.toExt EU M6 (fun k hk he => by omega)) (fun hHeld => ?_); clear hK K; (try simp only [zP]))
     (refine zR 15 rfl ?_; (try simp only [zP]))
     refine wpAnyH_done (by kernel_rfl) ?_ _
     go_wp2_with fail
     go_meet
     exact ⟨n5, rfl, rfl, hs3, Lib.hid B6, hHeld⟩
   · go_simp
     have B5 := Lib.hid (Blk.new D 156 ch0)
     have EU := ED.alloc (.cells ch0 156)
     refine hK.out _ _ EU (fun hHeld => ?_)
     clear hK K
     (try simp only [zP])
     obtain ⟨n5, hn5⟩ : ∃ n5, D.heap.size = n5 := ⟨_, rfl⟩
     rw [hn5] at B5 hs2 ⊢
     generalize D.alloc (.cells ch0 156) = u2 at *
     refine wpAnyH_ready (rs := [9]) (by kernel_rfl) (by simp) ?_
     refine AllReadyH.cons rfl (fun K hK => ?_) AllReadyH.nil
     go_simp
     refine (HRC.out u2).mono ?_
     rintro e u1 ⟨rfl, F1⟩
     (try dsimp only)
     refine hK.out _ _ (EU.trans F1) (fun hHeld => ?_)
     clear hK K
     (try simp only [zP])
     (refine zR 10 rfl ?_; (try simp only [zP]))
     (refine zR 11 rfl ?_; (try simp only [zP]))
     (refine zR 12 rfl ?_; (try simp only [zP]))
     (refine wpAnyH_ready (rs := [14]) (by kernel_rfl) (by simp) ?_; refine AllReadyH.cons rfl (fun K hK => ?_) AllReadyH.nil; rw [if_pos (by rfl)]; refine wp_store_M 156 _ _ rfl (n5) _ rfl rfl 156 _ (B5.out.ext F1) hiC (by rfl) (by simp [Value.oneCell']) ?_; intro u3 B6 M6; refine hK.out _ _ (Mod.toExt (EU.trans F1) M6 (fun k hk he => by omega)) (fun hHeld => ?_); clear hK K; (try simp only [zP]))
     (refine zR 15 rfl ?_; (try simp only [zP]))
     refine wpAnyH_done (by kernel_rfl) ?_ _
     go_wp2_with fail
     go_meet
     exact ⟨n5, rfl, rfl, hs2, Lib.hid B6, hHeld⟩
 case rest =>
   obtain ⟨n7, rfl, rfl, hn7, B7, E27⟩ := hcut
   obtain ⟨W5, hW5⟩ : ∃ W5, W5 = wc := ⟨_, rfl⟩
   subst hW5
   have HB := Lib.hid (HB.out.ext E27)
   have HC := Lib.hid (HC.out.ext E27)
   have HD := Lib.hid (HD.out.ext E27)
   have B2 := Lib.hid (B2.out.ext E27)
   have E05 := E02.trans E27
   have k0 := HB.out.cell 0
   simp only [List.getElem?_toArray, List.getElem?_cons_zero] at k0
   have hs27 := E27.size
   obtain ⟨g4, hA4, hg4, hfz⟩ := HC.out.addr (by omega)
   simp only [Option.some.injEq, Addr.mk.injEq, and_true] at hA4
   obtain ⟨rfl, rfl⟩ := hA4
   have HCELL5 : ∀ i u, (chL c)[i]? = some u → W5.cell? ⟨b, j * 12 + i, none⟩ = some u := fun i u hu => by
     have h9 := cell_ext E27 (HCELL.out i u hu)
     rw [Nat.zero_add] at h9
     exact h9
   have hbn7 : ¬ b = n7 := fun he => by
     obtain ⟨us, ho, _⟩ := HC.out
     have := HROW.out b rfl
     omega
   clear E02 E27 HCELL HRC
   go_upto_region 7 with fail
   refine region_till 8 (fun w' => Ext W5 w') (by kernel_rfl) (Ext.drew (Ext.refl _)) (fun hHeld => ?_)
   obtain ⟨D, hD⟩ : ∃ D, D = W5.drew := ⟨_, rfl⟩
   have ED : Ext W5 D := by rw [hD]; exact (Ext.refl _).drew
   rw [← hD] at hHeld ⊢
   clear hD
   (refine till_take (i := 0) (v := ?_) rfl (by kernel_rfl) (by kernel_rfl) (by kernel_rfl) (by kernel_rfl) (fun _ _ _ h => h) (Or.inl ⟨by rfl, ?_⟩) (by assumption) ?_; rotate_left; (focus (intro w' hSw; go_simp; try with_reducible rfl)); (try simp only [zP]))
   (refine till_take (i := 1) (v := ?_) rfl (by kernel_rfl) (by kernel_rfl) (by kernel_rfl) (by kernel_rfl) (fun _ _ _ h => h) (Or.inl ⟨by rfl, ?_⟩) (by assumption) ?_; rotate_left; (focus (intro w' hSw; go_simp; try with_reducible rfl)); (try simp only [zP]))
   (refine till_take (i := 2) (v := ?_) rfl (by kernel_rfl) (by kernel_rfl) (by kernel_rfl) (by kernel_rfl) (fun _ _ _ h => h) (Or.inl ⟨by rfl, ?_⟩) (by assumption) ?_; rotate_left; (focus (intro w' hSw; go_simp; try with_reducible rfl)); (try simp only [zP]))
   (refine till_take (i := 3) (v := ?_) rfl (by kernel_rfl) (by kernel_rfl) (by kernel_rfl) (by kernel_rfl) (fun _ _ _ h => h) (Or.inl ⟨by rfl, ?_⟩) (by assumption) ?_; rotate_left; (focus (intro w' hSw; go_simp; try with_reducible rfl)); (try simp only [zP]))
   (refine till_take (i := 4) (v := ?_) rfl (by kernel_rfl) (by kernel_rfl) (by kernel_rfl) (by kernel_rfl) (fun _ _ _ h => h) (Or.inl ⟨by rfl, ?_⟩) (by assumption) ?_; rotate_left; (focus (intro w' hSw; have kc := cell_ext hSw k0; go_simp; try with_reducible rfl)); (try simp only [zP]))
   (refine till_take (i := 5) (v := ?_) rfl (by kernel_rfl) (by kernel_rfl) (by kernel_rfl) (by kernel_rfl) (fun _ _ _ h => h) (Or.inl ⟨by rfl, ?_⟩) (by assumption) ?_; rotate_left; (focus (intro w' hSw; go_simp; try with_reducible rfl)); (try simp only [zP]))
   (refine till_take (i := 6) (v := .agg (chL (owe c 1)).toArray) rfl (by kernel_rfl) (by kernel_rfl) (by kernel_rfl) (by kernel_rfl) (fun _ _ _ h => h) (yieldsIf_load_row (by rfl) 156 _ rfl _ rfl 156 (chL (owe c 1)).toArray _ _ (fun w' hSw => (B7.out.ext hSw)) Tryz.underlying156 rfl hiC) (by assumption) ?_; (try simp only [zP]))
   (refine till_take (i := 7) (v := ?_) rfl (by kernel_rfl) (by kernel_rfl) (by kernel_rfl) (by kernel_rfl) (fun _ _ _ h => h) (Or.inl ⟨by rfl, ?_⟩) (by assumption) ?_; rotate_left; (focus (intro w' hSw; go_simp; try with_reducible rfl)); (try simp only [zP]))
   have hth : D.there b (j * 12) 12 := fun t ht => ⟨by rw [cell_ext ED (HCELL5 t _ (List.getElem?_eq_getElem (by simpa using ht)))]; rfl, by
     have h9 := hfz (j * 12 + t)
     rw [ED.frozen b _ (by have := HROW.out b rfl; omega)]
     exact h9⟩
   have O6 := Lib.hid (own_rowG (cs := chL (owe c 1)) (d' := owe c 1) (HC.out.ext ED) hlt rfl)
   have M6 := Lib.hid (Mod.setCells (chL (owe c 1)) (j * 12) D D (Mod.refl (fun k => k = b) D))
   refine till_ready (rs := [8]) (by kernel_rfl) (by simp) ?_
   refine AllTill.last rfl (fun K hK => ?_) AllTill.nil
   rw [if_pos (by rfl)]
   refine wp_store_mid 156 _ _ rfl b (j * 12) (chL (owe c 1)).toArray rfl rfl (by exact hth) hiC (by simp [Value.oneCell']) ?_
   refine hK.out _ _ ?_
   clear hK K
   (try simp only [zP])
   refine till_done (by kernel_rfl) ?_ _
   have hAb : ∀ k, A k → k ≠ g ∧ k < n0 ∧ k ≠ b := fun k hk => ⟨(HAA.out k hk).1, (HAA.out k hk).2.1, fun he => (HAA.out k hk).2.2 (by rw [he]; rfl)⟩
   have hbg : b < n0 := HROW.out b rfl
   have hgb : ¬ g = b := fun he => hgO (by rw [he]; rfl)
   have hbD : b < D.heap.size := by have := ED.size; omega
   have HB7 := Lib.hid ((HB.out.ext ED).mod M6.out hgb)
   have B77 := Lib.hid ((B7.out.ext ED).mod M6.out (fun he => hbn7 he.symm))
   have B27 := Lib.hid ((B2.out.ext ED).mod M6.out (by omega))
   have HD7 := Lib.hid ((HD.out.ext ED).mod M6.out (fun k _ hk he => (hAb k hk).2.2 he))
   have M07 := Lib.hid (show Kb.Mod (fun k => k = g ∨ (Value.slice (some ⟨b, 0, none⟩) L cc).ownBlock = some k) w _ from (Mod.of_ext (E05.trans ED)).trans (M6.out.mono (fun k _ hk => .inr (by rw [hk]; rfl))))
   obtain ⟨W7, hW7⟩ : ∃ W7, W7 = D.setCells b (j * 12) (chL (owe c 1)) := ⟨_, rfl⟩
   have O7 := Lib.hid (show OwnS ChR 156 base (fun _ => False) W7 (.slice (some ⟨b, 0, none⟩) L cc) (cs.set j (owe c 1)) by rw [hW7]; exact O6.out)
   rw [← hW7] at HB7 B77 B27 HD7 M07
   first | rw [← hW7] | (change Exit.then _ _ _ _ (D.setCells b (j * 12) (chL (owe c 1))); rw [← hW7])
   clear hW7 O6 M6 hth HB B7 B2 HD HC hHeld hfz HCELL5 E05 ED
   have q0 := B77.out.cell 0
   simp only [List.getElem?_toArray, List.getElem?_cons_zero, owe] at q0
   rw [hlo1] at q0
   have q1 := B27.out.cell 1
   have f1 := B27.out.frozen 1
   simp only [List.getElem?_toArray, List.getElem?_cons_zero, List.getElem?_cons_succ] at q1
   have B28 := Lib.hid (show Blk (W7.setCell ⟨n0 + 1, 1, none⟩ (.int .u32 (j : Int))) (n0 + 1) 207 #[.int .i64 5, .int .u32 (j : Int), .int .u32 0, .string m.nm, .bool true, .slice Av DL cd] by simpa using B27.out.set_ 1 (.int .u32 (j : Int)))
   have M8 : Kb.Mod (fun k => k = n0 + 1) W7 (W7.setCell ⟨n0 + 1, 1, none⟩ (.int .u32 (j : Int))) := (Mod.refl _ _).set1 _
   have HB8 := Lib.hid (HB7.out.mod M8 (by omega))
   have HD8 := Lib.hid (HD7.out.mod M8 (fun k _ hk he => by have := (hAb k hk).2.1; omega))
   have O8 := Lib.hid (O7.out.mod M8 (fun k hk he => by
     have h9 : some b = some k := hk
     have := Option.some.inj h9
     omega) (fun k _ hk => hk.elim))
   have M08 := Lib.hid (show Kb.Mod (fun k => k = g ∨ (Value.slice (some ⟨b, 0, none⟩) L cc).ownBlock = some k) w _ from Mod.transN M07.out M8 (fun i hi he => by have := HN0.out; omega))
   have hs8 : n0 ≤ (W7.setCell ⟨n0 + 1, 1, none⟩ (.int .u32 (j : Int))).heap.size := by have := M08.out.size; have := HN0.out; omega
   have HTL := Lib.hid (ttell0 g (.slice (some ⟨b, 0, none⟩) L cc) (.int .u32 4096) (.bool false) (.slice none 0 0) (.int .i64 0) (askEv j m) (.slice Av DL cd) A _ HB8.out HD8.out (fun k hk => ⟨(hAb k hk).1, by have := (hAb k hk).2.1; omega⟩))
   go_upto_region 9 with fail
   generalize W7.setCell ⟨n0 + 1, 1, none⟩ (.int .u32 (j : Int)) = W8 at *
   have hce : evA (askEv j m) (.slice Av DL cd) = #[.int .i64 5, .int .u32 (j : Int), .int .u32 0, .string m.nm, .bool true, .slice Av DL cd] := rfl
   rw [hce] at HTL
   clear HB7 B77 B27 HD7 M07 O7 q0 q1 f1 M8 HB8 HD8
   go_wp2_with (first | (refine wpList_load_row rfl 207 _ rfl _ rfl 207 _ _ _ B28.out Tryz.underlying207 rfl hiE ?_) | fail)
   refine (HTL.out).mono ?_
   rintro e w9 ⟨rfl, A3, c3, B9, O9, M9⟩
   go_wp2
   go_end0
   have hw8 : w.heap.size ≤ W8.heap.size := by have := HN0.out; omega
   refine ⟨rfl, A3, c3, B9, O8.out.mod M9 (fun k hk he => by
     have h9 : some b = some k := hk
     have := Option.some.inj h9
     omega) (fun k _ hk => hk.elim), by rw [← HN0.out]; exact O9.lower hw8, M08.out.trans (M9.mono (fun k _ hk => .inl hk))⟩
end Go.Proofs.YtmmhcllibpmfnaaGreatDoor
namespace Go.Proofs.YtmmhcllibpmfnaaGreatDoor
open Go.RowKit Go.Kb
set_option maxRecDepth 100000
/- slices.Clone at one slice type: slices.Clone[[]byte,byte] (u8), slice type []uint8, element uint8, rep Ub8 -/
theorem info_u8 : (Tryz.prog.info? 5).map (fun i => (i.zero, i.size, i.bytes)) = some (some (.int .u8 0), (Ub8).size, 1) := by kernel_rfl
set_option maxHeartbeats 400000 in
theorem clone_u8 {A : Nat → Prop} (v : Value) (ds : List _) (w : World) (h : RdY Ub8 A w v ds) (hn : ds.length * 1 ≤ 140737488355328) :
   Calls Tryz.prog 55 #[v] w fun e w' => ∃ Ad c, e = .returned (.slice Ad ds.length c) ∧ OwnS Ub8 5 w.heap.size (fun k => A k ∧ k < w.heap.size) w' (.slice Ad ds.length c) ds ∧ Ext w w' := by
 obtain ⟨us, ⟨hl, Ad, c, rfl, hnc, hcm, hA⟩, he⟩ := id h
 have H := Lib.hid h
 have HL := Lib.hid hl
 clear h hl he
 have heq := fun u => Lib.run_eql_slice_nil (P := Tryz.prog) u 43 _ Ad ds.length c 0 0 Tryz.underlying43
 rcases Ad with _ | ad
 · have h0 : ds.length = 0 ∧ c = 0 := by
     rcases hA with rfl | ⟨b, off, h0, _⟩
     · omega
     · cases h0
   obtain ⟨h1, rfl⟩ := h0
   obtain rfl : ds = [] := List.eq_nil_of_length_eq_zero h1
   clear hA HL h1
   simp only [List.length_nil] at heq ⊢
   go_enter Tryz.func55, Tryz.ntmps55
   go_wp2
   go_ret
   exact ⟨_, _, rfl, OwnS.nil _ _ _ _ _, zX⟩
 · clear hA
   go_enter Tryz.func55, Tryz.ntmps55
   go_wp2_with ((at_builtin; refine wpList_app (e := Ub8) (base := w.heap.size) (B := fun k => A k ∧ k < w.heap.size) (A := fun k => A k ∧ k < w.heap.size) rfl _ _ rfl Tryz.underlying43 info_u8 rfl (OwnS.empty _ _ _ rfl (Nat.le_refl _)) rfl (RdY.alloc (RdY.lt H.out) _) rfl (fun k _ hk => ⟨hk, fun h => by have := hk.2; simp [Value.ownBlock] at h; omega⟩) (N := ds.length) (by simp) (by simp [maxLen]; omega) (by omega) (by simp) ?_; intro A1 c1 w1 hown hM hB; simp only [List.nil_append] at hown))
   go_ret
   exact ⟨_, _, rfl, hown, zX⟩
theorem rdy_ub {A B : Nat → Prop} {w : World} {v : Value} {l : List Int} (h : RdY Ub8 A w v l) : RdY Ub8 B w v l := h
set_option maxHeartbeats 6000000 in
theorem asked_mux {A : Nat → Prop} (g base : Nat) (cv : Value) (cs : List Ch) (j : Nat) (c : Ch) (m : Mg) (v : Value) (w : World) (h : Blk w g 267 (tkA cv (.int .u32 4096) (.bool false) (.slice none 0 0) (.slice none 0 0) (.int .i64 0)))
   (hc : OwnS ChR 156 base (fun _ => False) w cv cs) (hlo : LoOk cs) (hj : cs[j]? = some c) (hch : m.ch = (j : Int)) (hk : m.k = 98) (hwa : m.wa = true) (how : c.ow = 0)
   (hd : RdS Ub8 A w v m.da) (hdl : m.da.length ≤ 1000000) :
   Calls Tryz.prog 214 #[.pointer (some ⟨g, 0, none⟩), .agg (mgA m v)] w (ComesP g base (fun k => w.heap.size ≤ k) cv cs j c m w) := by
 have hiM : (Tryz.prog.info? 62).map (·.size) = some 10 := by kernel_rfl
 obtain ⟨Ad, cc, rfl, -, -⟩ := hc.shape
 obtain ⟨W1, hW1⟩ : ∃ W1, W1 = w.alloc (.cells (mgA m v) 62) := ⟨_, rfl⟩
 have E1 : Ext w W1 := by rw [hW1]; exact (Ext.refl _).alloc _
 have B1 := Lib.hid (show Blk W1 w.heap.size 62 (mgA m v) by rw [hW1]; exact Blk.new w _ _)
 have HW1 := Lib.hid hW1
 have hgl := h.lt
 have HROW := Lib.hid (show ∀ k, (Value.slice Ad cs.length cc).ownBlock = some k → k < w.heap.size from fun k hk => (hc.row k hk).2)
 have HB := Lib.hid (h.ext E1)
 have HC := Lib.hid (hc.ext E1)
 have HCL := Lib.hid (fun w' (E : Ext W1 w') => clone_u8 (A := fun _ => False) v m.da w' (rdy_ub ((hd.ext E1).ext E).y) (by omega))
 have q6 := (mgC B1.out).k6
 have q8 := (mgC B1.out).k8
 have q9 := (mgC B1.out).k9
 rw [hwa] at q8
 obtain ⟨n0, hn0⟩ : ∃ n0, w.heap.size = n0 := ⟨_, rfl⟩
 have HN0 := Lib.hid hn0
 obtain ⟨L, hL⟩ : ∃ L, cs.length = L := ⟨_, rfl⟩
 obtain ⟨DL, hDL⟩ : ∃ DL, m.da.length = DL := ⟨_, rfl⟩
 have HCA := Lib.hid (fun (dv : Value) (D : World) (h1 : Blk D g 267 (tkA (.slice Ad cs.length cc) (.int .u32 4096) (.bool false) (.slice none 0 0) (.slice none 0 0) (.int .i64 0))) (h2 : OwnS ChR 156 base (fun _ => False) D (.slice Ad cs.length cc) cs) (h3 : RdS Ub8 (fun k => n0 ≤ k ∧ k < D.heap.size) D dv m.da) (h4 : n0 ≤ D.heap.size) =>
   comes_ask g base (fun k => n0 ≤ k ∧ k < D.heap.size) (.slice Ad cs.length cc) cs j c m v dv D h1 h2 hlo hj hch hk hwa how h3 (fun k hk => ⟨by omega, hk.2, fun he => by have := HROW.out k he; omega⟩))
 unfold ComesP at HCA ⊢
 rw [hL] at HB HC HROW HCA ⊢
 rw [hn0] at B1 HROW hgl q6 q8 q9 ⊢
 rw [hDL] at HCL
 have hs1 : n0 < W1.heap.size := B1.out.lt
 clear h hc hd hW1 hL hDL hlo hj hch hk hwa how hn0
 go_enter Tryz.func214, Tryz.ntmps214
 go_upto_region 1 with fail
 rw [← HW1.out]
 rw [HN0.out]
 clear HW1
 generalize Value.agg (mgA m v) = z1
 refine wp_region_held_drew (S := fun w' => Kb.Mod (fun k => k = g ∨ (Value.slice Ad L cc).ownBlock = some k) W1 w') (by kernel_rfl) (Mod.of_ext (Ext.drew (Ext.refl _))) (fun hHeld => ?_)
 obtain ⟨D, hD⟩ : ∃ D, D = W1.drew := ⟨_, rfl⟩
 have ED : Ext W1 D := by rw [hD]; exact (Ext.refl _).drew
 rw [← hD] at hHeld ⊢
 clear hD
 have hnS : ¬ (n0 = g ∨ (Value.slice Ad L cc).ownBlock = some n0) := fun h9 => h9.elim (fun h8 => by omega) (fun h8 => by have := HROW.out n0 h8; omega)
 (refine zR 0 rfl ?_; (try simp only [zP]))
 (refine wpAnyH_take (i := 1) (v := .agg (mgA m v)) rfl (by kernel_rfl) (by kernel_rfl) (by kernel_rfl) (fun _ _ _ h => h) (yieldsIf_load_row (by rfl) 62 _ rfl _ rfl 62 (mgA m v) _ _ (fun w' hSw => (B1.out.mod hSw hnS)) Tryz.underlying62 rfl hiM) (by assumption) ?_; (try simp only [zP]))
 (refine zR 2 rfl ?_; (try simp only [zP]))
 (refine zT 3 (v := ?_) rfl (Or.inl ⟨by rfl, ?_⟩) ?_; rotate_left; (focus (intro w' hSw; have kc := (hSw.cell n0 6 hs1 hnS).trans q6; go_simp; try with_reducible rfl)); (try simp only [zP]))
 (refine zR 4 rfl ?_; (try simp only [zP]))
 (refine zT 5 (v := ?_) rfl (Or.inl ⟨by rfl, ?_⟩) ?_; rotate_left; (focus (intro w' hSw; have kc := (hSw.cell n0 8 hs1 hnS).trans q8; go_simp; try with_reducible rfl)); (try simp only [zP]))
 (refine zR 6 rfl ?_; (try simp only [zP]))
 (refine zT 7 (v := ?_) rfl (Or.inl ⟨by rfl, ?_⟩) ?_; rotate_left; (focus (intro w' hSw; have kc := (hSw.cell n0 9 hs1 hnS).trans q9; go_simp; try with_reducible rfl)); (try simp only [zP]))
 refine wpAnyH_ready (rs := [8]) (by kernel_rfl) (by simp) ?_
 refine AllReadyH.cons rfl (fun K hK => ?_) AllReadyH.nil
 go_simp
 refine (HCL.out _ ED).mono ?_
 rintro e w2 ⟨A2, c2, rfl, O2, E2⟩
 (try dsimp only)
 refine hK.out _ _ (Mod.of_ext (ED.trans E2)) (fun hHeld => ?_)
 clear hK K
 (try simp only [zP])
 (refine wpAnyH_take (i := 9) (v := .agg #[.int .i64 5, .int .u32 0, .int .u32 0, .string m.nm, .bool true, .slice A2 DL c2]) rfl (by kernel_rfl) (by kernel_rfl) (by kernel_rfl) (fun _ _ _ h => h) (yieldsIf_build (by rfl) 207 _ rfl (by simp [go_sem]; exact (by kernel_rfl))) (by assumption) ?_; (try simp only [zP]))
 have HD2 := Lib.hid ((O2.rd (A := fun k => n0 ≤ k) (fun k hk => by have := ED.size; omega) (fun k h => h.1.elim)).lt)
 have E12 := ED.trans E2
 have hs2 := E12.size
 have HB2 := Lib.hid (HB.out.ext E12)
 have HC2 := Lib.hid (HC.out.ext E12)
 refine wpAnyH_ready (rs := [10]) (by kernel_rfl) (by simp) ?_
 refine AllReadyH.cons rfl (fun K hK => ?_) AllReadyH.nil
 go_simp
 refine (HCA.out (.slice A2 DL c2) w2 HB2.out HC2.out HD2.out (by omega)).mono ?_
 rintro e w3 ⟨rfl, A3, c3, B9, O8, O9, M9⟩
 (try dsimp only)
 have M13 := (Mod.of_ext E12).trans M9
 refine hK.out _ _ M13 (fun hHeld => ?_)
 clear hK K
 (try simp only [zP])
 refine wpAnyH_done (by kernel_rfl) ?_ _
 go_wp2
 go_end0
 have hs0 := HN0.out
 exact ⟨rfl, A3, c3, B9, O8, (O9.lower (by omega)).mono (fun k _ hk => hk.1), (Mod.of_ext E1).trans M13⟩
end Go.Proofs.YtmmhcllibpmfnaaGreatDoor
namespace Go.Proofs.YtmmhcllibpmfnaaGreatDoor
open Go.RowKit Go.Kb
/-- a world in which one block is another map -/
def putMap (w : World) (r : Nat) (es : Array MapEntry) (c : Nat) : World := { w with heap := w.heap.setIfInBounds r (.map es c) }
theorem putMap_get {w : World} {r : Nat} {o : Obj} {es : Array MapEntry} {c : Nat} (h : w.heap[r]? = some o) : (putMap w r es c).heap[r]? = some (.map es c) := (MapKept.heap_set h).1
theorem putMap_ext {a w : World} {r : Nat} {es : Array MapEntry} {c : Nat} (h : Ext a w) (hr : a.heap.size ≤ r) : Ext a (putMap w r es c) :=
 ⟨h.os, h.tape, h.output, by simpa [putMap] using h.size, fun k hk => (by
   show (w.heap.setIfInBounds r _)[k]? = _
   rw [Array.getElem?_setIfInBounds_ne (by omega)]; exact h.block k hk)⟩
def mkV1 : Value := .func (.func 207) #[] #[]
def mkV80 : Value := .func (.func 208) #[] #[]
def mkV90 : Value := .func (.func 209) #[] #[]
def mkV93 : Value := .func (.func 210) #[] #[]
def mkV94 : Value := .func (.func 211) #[] #[]
def mkV95 : Value := .func (.func 211) #[] #[]
def mkV96 : Value := .func (.func 212) #[] #[]
def mkV97 : Value := .func (.func 213) #[] #[]
def mkV98 : Value := .func (.func 214) #[] #[]
def mkE : Array MapEntry := #[{ key := .int .i64 1, val := mkV1, born := 0 }, { key := .int .i64 80, val := mkV80, born := 1 }, { key := .int .i64 90, val := mkV90, born := 2 }, { key := .int .i64 93, val := mkV93, born := 3 }, { key := .int .i64 94, val := mkV94, born := 4 }, { key := .int .i64 95, val := mkV95, born := 5 }, { key := .int .i64 96, val := mkV96, born := 6 }, { key := .int .i64 97, val := mkV97, born := 7 }, { key := .int .i64 98, val := mkV98, born := 8 }]
def mkAt (w : World) (r : Nat) : Prop := w.heap[r]? = some (.map mkE 9)
theorem mk_look {w : World} {r : Nat} {x : Int} {a : Option (Nat × Value)} (h : mkAt w r) (hf : Instr.findNow (.int .i64) (.int .i64 x) mkE.toList 0 = some a) :
   (Instr.lookup 270 (.map (some r)) (.int .i64 x) true).run Tryz.prog w = .ok (match a with | some (_, v) => .tuple #[v, .bool true] | none => .tuple #[.nilFunc, .bool false]) w := by
 have hc : (Instr.checkKey mkE.isEmpty 10000 3 (.int .i64 x)).run Tryz.prog w = .ok () w := MapKept.run_checkKey (k := .int .i64 x) Tryz.underlying3 rfl _ 9999
 have hz := Tryz.zeroValue268 w
 cases a with
 | none => simp [Instr.lookup, run_underlying Tryz.underlying270, MapKept.run_getObj_map h, hc, MapKept.run_findKey Tryz.underlying3 hf, hz, Result.andThen]
 | some v => simp [Instr.lookup, run_underlying Tryz.underlying270, MapKept.run_getObj_map h, hc, MapKept.run_findKey Tryz.underlying3 hf, Result.andThen]
theorem mk_insert {r clock : Nat} {k : Int} {val : Value} {es : Array MapEntry} (w : World) (hb : w.heap[r]? = some (.map es clock)) (hf : Instr.findNow (.int .i64) (.int .i64 k) es.toList 0 = some none) :
   (Instr.mapUpdate 270 (.map (some r)) (.int .i64 k) val).run Tryz.prog w = .ok () (putMap w r (es.push { key := .int .i64 k, val := val, born := clock }) (clock + 1)) := by
 have hc : (Instr.checkKey false 10000 3 (.int .i64 k)).run Tryz.prog w = .ok () w := MapKept.run_checkKey (k := .int .i64 k) Tryz.underlying3 rfl false 9999
 simp [Instr.mapUpdate, run_underlying Tryz.underlying270, MapKept.run_getObj_map hb, hc, MapKept.run_findKey Tryz.underlying3 hf, MapKept.run_setObj_map _ hb, Result.andThen, putMap]
set_option maxRecDepth 100000 in
set_option maxHeartbeats 4000000 in
theorem mk_any (w : World) : Calls Tryz.prog 146 #[] w fun e w' => e = .returned (.map (some w.heap.size)) ∧ mkAt w' w.heap.size ∧ Ext w w' := by
 have hmm := @run_makeMap Tryz.prog
 obtain ⟨W1, hW1⟩ : ∃ W1, W1 = w.alloc (.map #[] 0) := ⟨_, rfl⟩
 have h1 : W1.heap[w.heap.size]? = some (.map #[] 0) := by rw [hW1]; exact heap_alloc_new w _
 have E1 : Ext w W1 := by rw [hW1]; exact (Ext.refl w).alloc _
 obtain ⟨M, hM⟩ : ∃ M, w.heap.size = M := ⟨_, rfl⟩
 rw [hM] at h1 ⊢
 have i1 := mk_insert (k := 1) (val := mkV1) W1 h1 rfl
 have h2 := putMap_get (es := #[{ key := .int .i64 1, val := mkV1, born := 0 }]) (c := 1) h1
 have E2 := putMap_ext (r := M) (es := #[{ key := .int .i64 1, val := mkV1, born := 0 }]) (c := 1) E1 (by omega)
 have e2 : putMap W1 M (#[].push { key := .int .i64 1, val := mkV1, born := 0 }) (0 + 1) = putMap W1 M #[{ key := .int .i64 1, val := mkV1, born := 0 }] 1 := rfl
 rw [e2] at i1
 generalize putMap W1 M #[{ key := .int .i64 1, val := mkV1, born := 0 }] 1 = W2 at *
 have i2 := mk_insert (k := 80) (val := mkV80) W2 h2 rfl
 have h3 := putMap_get (es := #[{ key := .int .i64 1, val := mkV1, born := 0 }, { key := .int .i64 80, val := mkV80, born := 1 }]) (c := 2) h2
 have E3 := putMap_ext (r := M) (es := #[{ key := .int .i64 1, val := mkV1, born := 0 }, { key := .int .i64 80, val := mkV80, born := 1 }]) (c := 2) E2 (by omega)
 have e3 : putMap W2 M (#[{ key := .int .i64 1, val := mkV1, born := 0 }].push { key := .int .i64 80, val := mkV80, born := 1 }) (1 + 1) = putMap W2 M #[{ key := .int .i64 1, val := mkV1, born := 0 }, { key := .int .i64 80, val := mkV80, born := 1 }] 2 := rfl
 rw [e3] at i2
 generalize putMap W2 M #[{ key := .int .i64 1, val := mkV1, born := 0 }, { key := .int .i64 80, val := mkV80, born := 1 }] 2 = W3 at *
 have i3 := mk_insert (k := 90) (val := mkV90) W3 h3 rfl
 have h4 := putMap_get (es := #[{ key := .int .i64 1, val := mkV1, born := 0 }, { key := .int .i64 80, val := mkV80, born := 1 }, { key := .int .i64 90, val := mkV90, born := 2 }]) (c := 3) h3
 have E4 := putMap_ext (r := M) (es := #[{ key := .int .i64 1, val := mkV1, born := 0 }, { key := .int .i64 80, val := mkV80, born := 1 }, { key := .int .i64 90, val := mkV90, born := 2 }]) (c := 3) E3 (by omega)
 have e4 : putMap W3 M (#[{ key := .int .i64 1, val := mkV1, born := 0 }, { key := .int .i64 80, val := mkV80, born := 1 }].push { key := .int .i64 90, val := mkV90, born := 2 }) (2 + 1) = putMap W3 M #[{ key := .int .i64 1, val := mkV1, born := 0 }, { key := .int .i64 80, val := mkV80, born := 1 }, { key := .int .i64 90, val := mkV90, born := 2 }] 3 := rfl
 rw [e4] at i3
 generalize putMap W3 M #[{ key := .int .i64 1, val := mkV1, born := 0 }, { key := .int .i64 80, val := mkV80, born := 1 }, { key := .int .i64 90, val := mkV90, born := 2 }] 3 = W4 at *
 have i4 := mk_insert (k := 93) (val := mkV93) W4 h4 rfl
 have h5 := putMap_get (es := #[{ key := .int .i64 1, val := mkV1, born := 0 }, { key := .int .i64 80, val := mkV80, born := 1 }, { key := .int .i64 90, val := mkV90, born := 2 }, { key := .int .i64 93, val := mkV93, born := 3 }]) (c := 4) h4
 have E5 := putMap_ext (r := M) (es := #[{ key := .int .i64 1, val := mkV1, born := 0 }, { key := .int .i64 80, val := mkV80, born := 1 }, { key := .int .i64 90, val := mkV90, born := 2 }, { key := .int .i64 93, val := mkV93, born := 3 }]) (c := 4) E4 (by omega)
 have e5 : putMap W4 M (#[{ key := .int .i64 1, val := mkV1, born := 0 }, { key := .int .i64 80, val := mkV80, born := 1 }, { key := .int .i64 90, val := mkV90, born := 2 }].push { key := .int .i64 93, val := mkV93, born := 3 }) (3 + 1) = putMap W4 M #[{ key := .int .i64 1, val := mkV1, born := 0 }, { key := .int .i64 80, val := mkV80, born := 1 }, { key := .int .i64 90, val := mkV90, born := 2 }, { key := .int .i64 93, val := mkV93, born := 3 }] 4 := rfl
 rw [e5] at i4
 generalize putMap W4 M #[{ key := .int .i64 1, val := mkV1, born := 0 }, { key := .int .i64 80, val := mkV80, born := 1 }, { key := .int .i64 90, val := mkV90, born := 2 }, { key := .int .i64 93, val := mkV93, born := 3 }] 4 = W5 at *
 have i5 := mk_insert (k := 94) (val := mkV94) W5 h5 rfl
 have h6 := putMap_get (es := #[{ key := .int .i64 1, val := mkV1, born := 0 }, { key := .int .i64 80, val := mkV80, born := 1 }, { key := .int .i64 90, val := mkV90, born := 2 }, { key := .int .i64 93, val := mkV93, born := 3 }, { key := .int .i64 94, val := mkV94, born := 4 }]) (c := 5) h5
 have E6 := putMap_ext (r := M) (es := #[{ key := .int .i64 1, val := mkV1, born := 0 }, { key := .int .i64 80, val := mkV80, born := 1 }, { key := .int .i64 90, val := mkV90, born := 2 }, { key := .int .i64 93, val := mkV93, born := 3 }, { key := .int .i64 94, val := mkV94, born := 4 }]) (c := 5) E5 (by omega)
 have e6 : putMap W5 M (#[{ key := .int .i64 1, val := mkV1, born := 0 }, { key := .int .i64 80, val := mkV80, born := 1 }, { key := .int .i64 90, val := mkV90, born := 2 }, { key := .int .i64 93, val := mkV93, born := 3 }].push { key := .int .i64 94, val := mkV94, born := 4 }) (4 + 1) = putMap W5 M #[{ key := .int .i64 1, val := mkV1, born := 0 }, { key := .int .i64 80, val := mkV80, born := 1 }, { key := .int .i64 90, val := mkV90, born := 2 }, { key := .int .i64 93, val := mkV93, born := 3 }, { key := .int .i64 94, val := mkV94, born := 4 }] 5 := rfl
 rw [e6] at i5
 generalize putMap W5 M #[{ key := .int .i64 1, val := mkV1, born := 0 }, { key := .int .i64 80, val := mkV80, born := 1 }, { key := .int .i64 90, val := mkV90, born := 2 }, { key := .int .i64 93, val := mkV93, born := 3 }, { key := .int .i64 94, val := mkV94, born := 4 }] 5 = W6 at *
 have i6 := mk_insert (k := 95) (val := mkV95) W6 h6 rfl
 have h7 := putMap_get (es := #[{ key := .int .i64 1, val := mkV1, born := 0 }, { key := .int .i64 80, val := mkV80, born := 1 }, { key := .int .i64 90, val := mkV90, born := 2 }, { key := .int .i64 93, val := mkV93, born := 3 }, { key := .int .i64 94, val := mkV94, born := 4 }, { key := .int .i64 95, val := mkV95, born := 5 }]) (c := 6) h6
 have E7 := putMap_ext (r := M) (es := #[{ key := .int .i64 1, val := mkV1, born := 0 }, { key := .int .i64 80, val := mkV80, born := 1 }, { key := .int .i64 90, val := mkV90, born := 2 }, { key := .int .i64 93, val := mkV93, born := 3 }, { key := .int .i64 94, val := mkV94, born := 4 }, { key := .int .i64 95, val := mkV95, born := 5 }]) (c := 6) E6 (by omega)
 have e7 : putMap W6 M (#[{ key := .int .i64 1, val := mkV1, born := 0 }, { key := .int .i64 80, val := mkV80, born := 1 }, { key := .int .i64 90, val := mkV90, born := 2 }, { key := .int .i64 93, val := mkV93, born := 3 }, { key := .int .i64 94, val := mkV94, born := 4 }].push { key := .int .i64 95, val := mkV95, born := 5 }) (5 + 1) = putMap W6 M #[{ key := .int .i64 1, val := mkV1, born := 0 }, { key := .int .i64 80, val := mkV80, born := 1 }, { key := .int .i64 90, val := mkV90, born := 2 }, { key := .int .i64 93, val := mkV93, born := 3 }, { key := .int .i64 94, val := mkV94, born := 4 }, { key := .int .i64 95, val := mkV95, born := 5 }] 6 := rfl
 rw [e7] at i6
 generalize putMap W6 M #[{ key := .int .i64 1, val := mkV1, born := 0 }, { key := .int .i64 80, val := mkV80, born := 1 }, { key := .int .i64 90, val := mkV90, born := 2 }, { key := .int .i64 93, val := mkV93, born := 3 }, { key := .int .i64 94, val := mkV94, born := 4 }, { key := .int .i64 95, val := mkV95, born := 5 }] 6 = W7 at *
 have i7 := mk_insert (k := 96) (val := mkV96) W7 h7 rfl
 have h8 := putMap_get (es := #[{ key := .int .i64 1, val := mkV1, born := 0 }, { key := .int .i64 80, val := mkV80, born := 1 }, { key := .int .i64 90, val := mkV90, born := 2 }, { key := .int .i64 93, val := mkV93, born := 3 }, { key := .int .i64 94, val := mkV94, born := 4 }, { key := .int .i64 95, val := mkV95, born := 5 }, { key := .int .i64 96, val := mkV96, born := 6 }]) (c := 7) h7
 have E8 := putMap_ext (r := M) (es := #[{ key := .int .i64 1, val := mkV1, born := 0 }, { key := .int .i64 80, val := mkV80, born := 1 }, { key := .int .i64 90, val := mkV90, born := 2 }, { key := .int .i64 93, val := mkV93, born := 3 }, { key := .int .i64 94, val := mkV94, born := 4 }, { key := .int .i64 95, val := mkV95, born := 5 }, { key := .int .i64 96, val := mkV96, born := 6 }]) (c := 7) E7 (by omega)
 have e8 : putMap W7 M (#[{ key := .int .i64 1, val := mkV1, born := 0 }, { key := .int .i64 80, val := mkV80, born := 1 }, { key := .int .i64 90, val := mkV90, born := 2 }, { key := .int .i64 93, val := mkV93, born := 3 }, { key := .int .i64 94, val := mkV94, born := 4 }, { key := .int .i64 95, val := mkV95, born := 5 }].push { key := .int .i64 96, val := mkV96, born := 6 }) (6 + 1) = putMap W7 M #[{ key := .int .i64 1, val := mkV1, born := 0 }, { key := .int .i64 80, val := mkV80, born := 1 }, { key := .int .i64 90, val := mkV90, born := 2 }, { key := .int .i64 93, val := mkV93, born := 3 }, { key := .int .i64 94, val := mkV94, born := 4 }, { key := .int .i64 95, val := mkV95, born := 5 }, { key := .int .i64 96, val := mkV96, born := 6 }] 7 := rfl
 rw [e8] at i7
 generalize putMap W7 M #[{ key := .int .i64 1, val := mkV1, born := 0 }, { key := .int .i64 80, val := mkV80, born := 1 }, { key := .int .i64 90, val := mkV90, born := 2 }, { key := .int .i64 93, val := mkV93, born := 3 }, { key := .int .i64 94, val := mkV94, born := 4 }, { key := .int .i64 95, val := mkV95, born := 5 }, { key := .int .i64 96, val := mkV96, born := 6 }] 7 = W8 at *
 have i8 := mk_insert (k := 97) (val := mkV97) W8 h8 rfl
 have h9 := putMap_get (es := #[{ key := .int .i64 1, val := mkV1, born := 0 }, { key := .int .i64 80, val := mkV80, born := 1 }, { key := .int .i64 90, val := mkV90, born := 2 }, { key := .int .i64 93, val := mkV93, born := 3 }, { key := .int .i64 94, val := mkV94, born := 4 }, { key := .int .i64 95, val := mkV95, born := 5 }, { key := .int .i64 96, val := mkV96, born := 6 }, { key := .int .i64 97, val := mkV97, born := 7 }]) (c := 8) h8
 have E9 := putMap_ext (r := M) (es := #[{ key := .int .i64 1, val := mkV1, born := 0 }, { key := .int .i64 80, val := mkV80, born := 1 }, { key := .int .i64 90, val := mkV90, born := 2 }, { key := .int .i64 93, val := mkV93, born := 3 }, { key := .int .i64 94, val := mkV94, born := 4 }, { key := .int .i64 95, val := mkV95, born := 5 }, { key := .int .i64 96, val := mkV96, born := 6 }, { key := .int .i64 97, val := mkV97, born := 7 }]) (c := 8) E8 (by omega)
 have e9 : putMap W8 M (#[{ key := .int .i64 1, val := mkV1, born := 0 }, { key := .int .i64 80, val := mkV80, born := 1 }, { key := .int .i64 90, val := mkV90, born := 2 }, { key := .int .i64 93, val := mkV93, born := 3 }, { key := .int .i64 94, val := mkV94, born := 4 }, { key := .int .i64 95, val := mkV95, born := 5 }, { key := .int .i64 96, val := mkV96, born := 6 }].push { key := .int .i64 97, val := mkV97, born := 7 }) (7 + 1) = putMap W8 M #[{ key := .int .i64 1, val := mkV1, born := 0 }, { key := .int .i64 80, val := mkV80, born := 1 }, { key := .int .i64 90, val := mkV90, born := 2 }, { key := .int .i64 93, val := mkV93, born := 3 }, { key := .int .i64 94, val := mkV94, born := 4 }, { key := .int .i64 95, val := mkV95, born := 5 }, { key := .int .i64 96, val := mkV96, born := 6 }, { key := .int .i64 97, val := mkV97, born := 7 }] 8 := rfl
 rw [e9] at i8
 generalize putMap W8 M #[{ key := .int .i64 1, val := mkV1, born := 0 }, { key := .int .i64 80, val := mkV80, born := 1 }, { key := .int .i64 90, val := mkV90, born := 2 }, { key := .int .i64 93, val := mkV93, born := 3 }, { key := .int .i64 94, val := mkV94, born := 4 }, { key := .int .i64 95, val := mkV95, born := 5 }, { key := .int .i64 96, val := mkV96, born := 6 }, { key := .int .i64 97, val := mkV97, born := 7 }] 8 = W9 at *
 have i9 := mk_insert (k := 98) (val := mkV98) W9 h9 rfl
 have h10 := putMap_get (es := mkE) (c := 9) h9
 have E10 := putMap_ext (r := M) (es := mkE) (c := 9) E9 (by omega)
 have e10 : putMap W9 M (#[{ key := .int .i64 1, val := mkV1, born := 0 }, { key := .int .i64 80, val := mkV80, born := 1 }, { key := .int .i64 90, val := mkV90, born := 2 }, { key := .int .i64 93, val := mkV93, born := 3 }, { key := .int .i64 94, val := mkV94, born := 4 }, { key := .int .i64 95, val := mkV95, born := 5 }, { key := .int .i64 96, val := mkV96, born := 6 }, { key := .int .i64 97, val := mkV97, born := 7 }].push { key := .int .i64 98, val := mkV98, born := 8 }) (8 + 1) = putMap W9 M mkE 9 := rfl
 rw [e10] at i9
 generalize putMap W9 M mkE 9 = W10 at *
 rw [← hM] at i1 i2 i3 i4 i5 i6 i7 i8 i9 h10 ⊢
 rw [hW1] at i1
 have H := Lib.hid h10
 have HE := Lib.hid E10
 unfold mkV1 at i1
 unfold mkV80 at i2
 unfold mkV90 at i3
 unfold mkV93 at i4
 unfold mkV94 at i5
 unfold mkV95 at i6
 unfold mkV96 at i7
 unfold mkV97 at i8
 unfold mkV98 at i9
 clear h1 h2 h3 h4 h5 h6 h7 h8 h9 h10 E1 E2 E3 E4 E5 E6 E7 E8 E9 E10 e2 e3 e4 e5 e6 e7 e8 e9 e10 hW1 hM
 go_enter Tryz.func146, Tryz.ntmps146
 go_wp2
 go_ret
 exact ⟨rfl, H.out, HE.out⟩
end Go.Proofs.YtmmhcllibpmfnaaGreatDoor
namespace Go.Proofs.YtmmhcllibpmfnaaGreatDoor
open Go.RowKit Go.Kb
set_option maxRecDepth 100000
theorem Kb_results_cell_tmp3 {P : Program} {fn : Func} {p q q2 q3 : Tmp} {ty : TypeId} (h : fn.results = #[.cell p ty, .tmp q, .tmp q2, .tmp q3]) (tmps : Array Value) (w : World) (g : Nat) (t : TypeId) (cs : Array Value) (fr : Nat × Nat) (d : TypeDesc)
   (hp : tmps.getD p undef = .pointer (some ⟨g, 0, none⟩)) (v v2 v3 : Value) (hq : tmps.getD q undef = v) (hq2 : tmps.getD q2 undef = v2) (hq3 : tmps.getD q3 undef = v3) (hg : w.heap[g]? = some (.cells cs t fr))
   (hu : P.underlying ty = some d) (hd : (match d with | .struct _ | .array _ _ => true | _ => false) = true) (hi : (P.info? ty).map (·.size) = some cs.size) :
   (results fn tmps).run P w = .ok (.tuple #[.agg cs, v, v2, v3]) w := by
 have hp' : tmps[p]?.getD undef = .pointer (some ⟨g, 0, none⟩) := by simpa using hp
 have hq' : tmps[q]?.getD undef = v := by simpa using hq
 have hq2' : tmps[q2]?.getD undef = v2 := by simpa using hq2
 have hq3' : tmps[q3]?.getD undef = v3 := by simpa using hq3
 simp [results, h, hp', hq', hq2', hq3', asAddr, run_loadVar_row w g t ty cs fr d hg hu hd hi]
def TkEnd (base g : Nat) (cv : Value) (cs2 : List Ch) (dd : Bool) (ms : List Mg) (evs : List Ev) (er : Int) (D : World) (e : Ending) (w' : World) : Prop :=
 e = .returned (.tuple #[]) ∧ ∃ cv2 ov vv, Blk w' g 267 (tkA cv2 (.int .u32 4096) (.bool dd) ov vv (.int .i64 er)) ∧ OwnS ChR 156 base (fun _ => False) w' cv2 cs2 ∧
   OwnS MgR 62 base (fun k => base ≤ k) w' ov ms ∧ OwnS EvR 207 base (fun k => base ≤ k) w' vv evs ∧ Mod (fun k => k = g ∨ cv.ownBlock = some k) D w'
def TkDo (fn : Nat) (m : Mg) (v : Value) (cs cs2 : List Ch) (dd : Bool) (ms : List Mg) (evs : List Ev) (er : Int) (w : World) : Prop :=
 ∀ (base g : Nat) (cv : Value) (D : World), Ext w D → w.heap.size ≤ base → base ≤ D.heap.size → Blk D g 267 (tkA cv (.int .u32 4096) (.bool false) (.slice none 0 0) (.slice none 0 0) (.int .i64 0)) → OwnS ChR 156 base (fun _ => False) D cv cs →
   Calls Tryz.prog fn #[.pointer (some ⟨g, 0, none⟩), .agg (mgA m v)] D (TkEnd base g cv cs2 dd ms evs er D)
def TakeP (cs2 : List Ch) (dd : Bool) (ms : List Mg) (evs : List Ev) (er : Int) (w : World) (e : Ending) (w' : World) : Prop :=
 ∃ cv2 ov vv, e = .returned (.tuple #[.agg (muxA cv2 dd), ov, vv, .int .i64 er]) ∧ OwnS ChR 156 w.heap.size (fun _ => False) w' cv2 cs2 ∧
   OwnS MgR 62 w.heap.size (fun k => w.heap.size ≤ k) w' ov ms ∧ OwnS EvR 207 w.heap.size (fun k => w.heap.size ≤ k) w' vv evs ∧ Ext w w'
set_option maxHeartbeats 6000000 in
theorem take_mux {A : Nat → Prop} (fn i : Nat) (cv : Value) (cs cs2 : List Ch) (dd : Bool) (ms : List Mg) (evs : List Ev) (er : Int) (m : Mg) (v : Value) (w : World)
   (hl : Instr.findNow (.int .i64) (.int .i64 m.k) mkE.toList 0 = some (some (i, .func (.func fn) #[] #[]))) (hen : ∀ args w, (callFunc fn args).run Tryz.prog w = .ok (.enter fn args) w)
   (h : RdY ChR A w cv cs) (hn : cs.length ≤ 1000) (hdo : TkDo fn m v cs cs2 dd ms evs er w) :
   Calls Tryz.prog 72 #[.agg (muxA cv false), .agg (mgA m v)] w (TakeP cs2 dd ms evs er w) := by
 have hiM : (Tryz.prog.info? 62).map (·.size) = some 10 := by kernel_rfl
 have hiX : (Tryz.prog.info? 72).map (·.size) = some 3 := by kernel_rfl
 obtain ⟨Ad, cc, rfl, -, -⟩ := h.shape
 obtain ⟨W1, hW1⟩ : ∃ W1, W1 = ((w.alloc (.cells (muxA (.slice Ad cs.length cc) false) 72)).alloc (.cells (mgA m v) 62)).alloc (.cells #[.slice none 0 0, .int .u32 0, .bool false] 72) := ⟨_, rfl⟩
 have E1 : Ext w W1 := by rw [hW1]; exact (((Ext.refl _).alloc _).alloc _).alloc _
 have B1 := Lib.hid (show Blk W1 w.heap.size 72 (muxA (.slice Ad cs.length cc) false) by rw [hW1]; exact ((Blk.new w _ _).alloc _).alloc _)
 have B2 := Lib.hid (show Blk W1 (w.heap.size + 1) 62 (mgA m v) by rw [hW1]; exact (Blk.at_ _ _ (by simp)).alloc _)
 have B3 := Lib.hid (show Blk W1 (w.heap.size + 2) 72 #[.slice none 0 0, .int .u32 0, .bool false] by rw [hW1]; exact Blk.at_ _ _ (by simp))
 have hw1 : w.heap.size + 2 < W1.heap.size := B3.out.lt
 have HW1 := Lib.hid hW1
 have HT := Lib.hid (twin_mux (.slice Ad cs.length cc) false cs W1 (h.ext E1) hn)
 unfold TwinP at HT
 have HL := Lib.hid hl
 have HDO := Lib.hid hdo
 unfold TakeP
 obtain ⟨L, hL⟩ : ∃ L, cs.length = L := ⟨_, rfl⟩
 rw [hL] at HT B1 HW1 ⊢
 obtain ⟨n0, hn0⟩ : ∃ n0, w.heap.size = n0 := ⟨_, rfl⟩
 have HN0 := Lib.hid hn0
 rw [hn0] at B1 B2 B3 hw1 ⊢
 clear h hW1 hL hn hdo hl hn0
 go_enter Tryz.func72, Tryz.ntmps72
 go_upto_region 1 with fail
 rw [← HW1.out]
 rw [HN0.out]
 clear HW1
 go_wp2_with (first | (refine wpList_load_row rfl 72 _ rfl _ rfl 72 _ _ _ B1.out Tryz.underlying72 rfl hiX ?_) | fail)
 refine (HT.out).mono ?_
 rintro e w2 ⟨A2, c2, rfl, O2, E2⟩
 have B2 := Lib.hid (B2.out.ext E2)
 have B3 := Lib.hid (B3.out.ext E2)
 have E02 := E1.trans E2
 have O2 := Lib.hid O2
 have hs2 := E2.size
 clear B1 HT
 have HG := Lib.hid (Blk.new w2 267 (tkA (.slice A2 L c2) (.int .u32 4096) (.bool false) (.slice none 0 0) (.slice none 0 0) (.int .i64 0)))
 have q2 := HG.out.cell 2
 simp only [List.getElem?_toArray, List.getElem?_cons_zero, List.getElem?_cons_succ] at q2
 go_upto_region 4 with fail
 obtain ⟨W3, hW3⟩ : ∃ W3, W3 = w2.alloc (.cells (tkA (.slice A2 L c2) (.int .u32 4096) (.bool false) (.slice none 0 0) (.slice none 0 0) (.int .i64 0)) 267) := ⟨_, rfl⟩
 have HG := Lib.hid (show Blk W3 w2.heap.size 267 (tkA (.slice A2 L c2) (.int .u32 4096) (.bool false) (.slice none 0 0) (.slice none 0 0) (.int .i64 0)) by rw [hW3]; exact HG.out)
 rw [← hW3]
 have E23 : Ext w2 W3 := by rw [hW3]; exact (Ext.refl _).alloc _
 have O3 := Lib.hid (O2.out.ext E23)
 have B2 := Lib.hid (B2.out.ext E23)
 have B3 := Lib.hid (B3.out.ext E23)
 have E03 := E02.trans E23
 clear hW3 O2 q2 E23 E02
 obtain ⟨g, hg⟩ : ∃ g, w2.heap.size = g := ⟨_, rfl⟩
 rw [hg] at HG hs2 ⊢
 have k0 := (mgC B2.out).k0
 refine wp_region_held_drew (S := fun w' => Ext W3 w') (by kernel_rfl) (Ext.drew (Ext.refl _)) (fun hHeld => ?_)
 obtain ⟨D, hD⟩ : ∃ D, D = W3.drew := ⟨_, rfl⟩
 have ED : Ext W3 D := by rw [hD]; exact (Ext.refl _).drew
 rw [← hD] at hHeld ⊢
 clear hD
 (refine zR 1 rfl ?_; (try simp only [zP]))
 (refine zT 2 (v := ?_) rfl (Or.inl ⟨by rfl, ?_⟩) ?_; rotate_left; (focus (intro w' hSw; have kc := cell_ext hSw k0; go_simp; try with_reducible rfl)); (try simp only [zP]))
 (refine wpAnyH_ready (rs := [0]) (by kernel_rfl) (by simp) ?_; refine AllReadyH.cons rfl (fun K hK => ?_) AllReadyH.nil; go_simp; go_at_call 146; refine (mk_any _).mono ?_; rintro e w4 ⟨rfl, D4, E4⟩; (try dsimp only); refine hK.out _ _ (ED.trans E4) (fun hHeld => ?_); clear hK K; (try simp only [zP]))
 have kl : (Instr.lookup 270 (.map (some D.heap.size)) (.int .i64 m.k) true).run Tryz.prog w4 = .ok (.tuple #[.func (.func fn) #[] #[], .bool true]) w4 := mk_look (x := m.k) (a := some (i, .func (.func fn) #[] #[])) D4 HL.out
 (refine wpAnyH_ready (rs := [3]) (by kernel_rfl) (by simp) ?_; refine AllReadyH.cons rfl (fun K hK => ?_) AllReadyH.nil; go_simp; refine hK.out _ _ (ED.trans E4) (fun hHeld => ?_); clear hK K; (try simp only [zP]))
 (refine zR 4 rfl ?_; (try simp only [zP]))
 (refine zR 5 rfl ?_; (try simp only [zP]))
 (refine zR 6 rfl ?_; (try simp only [zP]))
 (refine zR 7 rfl ?_; (try simp only [zP]))
 (refine zR 8 rfl ?_; (try simp only [zP]))
 refine wpAnyH_done (by kernel_rfl) ?_ _
 have E34 := hHeld
 have HG := Lib.hid (HG.out.ext E34)
 have O3 := Lib.hid (O3.out.ext E34)
 have B2 := Lib.hid (B2.out.ext E34)
 have B3 := Lib.hid (B3.out.ext E34)
 have E04 := E03.trans E34
 have EW4 := Lib.hid (show Ext w w4 from E04)
 have hs34 := E34.size
 have hs03 := E03.size
 have hs01 := E1.size
 have hs04 := E04.size
 have hgW : W1.heap.size ≤ g := by omega
 have hglt := HG.out.lt
 clear kl D4 E4 ED hHeld k0 E34 E03
 have hcal := hen
 go_wp2_with (first | (refine wpList_load_row rfl 62 _ rfl _ rfl 62 _ _ _ B2.out Tryz.underlying62 rfl hiM ?_) | fail)
 refine (HDO.out W1.heap.size g _ w4 EW4.out (by omega) (by omega) HG.out O3.out).mono ?_
 rintro e w5 ⟨rfl, cv2, ov, vv, G5, O5, S5, V5, M5⟩
 obtain ⟨A5, c5, rfl, -, -⟩ := O5.shape
 obtain ⟨N5, hN5⟩ : ∃ N5, cs2.length = N5 := ⟨_, rfl⟩
 rw [hN5] at G5 O5
 have M04 := Lib.hid (show Ext w w5 from Mod.toExt EW4.out M5 (fun k hk he => by
   have hN := HN0.out
   rcases he with rfl | he
   · omega
   · have := (O3.out.row k he).1
     omega))
 have hB3 : ¬ (n0 + 2 = g ∨ (Value.slice A2 L c2).ownBlock = some (n0 + 2)) := fun h9 => h9.elim (fun h8 => by omega) (fun h8 => by have := (O3.out.row _ h8).1; omega)
 have B3 := Lib.hid (B3.out.mod M5 hB3)
 have hn2 : n0 + 2 < w5.heap.size := B3.out.lt
 have hng : ¬ g = n0 + 2 := by omega
 have hg5 := G5.lt
 have q0 := G5.cell 0
 have q1 := G5.cell 1
 have q2 := G5.cell 2
 have q3 := G5.cell 3
 have q4 := G5.cell 4
 have q5 := G5.cell 5
 simp only [List.getElem?_toArray, List.getElem?_cons_zero, List.getElem?_cons_succ] at q0 q1 q2 q3 q4 q5
 have hN := HN0.out
 clear HDO O3 HG M5 B2 E1 E2 HL
 have hLP : ∀ w', Kb.Mod (fun k => k = n0 + 2) w5 w' → ∀ i u, [.slice A5 N5 c5, .int .u32 4096, .bool dd][i]? = some u → w'.cell? ⟨g, 0 + i, none⟩ = some u := by
   intro w' hSw i u hu
   rw [hSw.cell g _ hg5 hng, Nat.zero_add]
   rcases i with _ | _ | _ | i
   · simp at hu; rw [← hu]; exact q0
   · simp at hu; rw [← hu]; exact q1
   · simp at hu; rw [← hu]; exact q2
   · simp at hu
 go_upto_region 8 with fail
 refine wp_region_held_drew (S := fun w' => Kb.Mod (fun k => k = n0 + 2) w5 w') (by kernel_rfl) (Mod.of_ext (Ext.drew (Ext.refl _))) (fun hHeld => ?_)
 (refine zR 0 rfl ?_; (try simp only [zP]))
 (refine zR 1 rfl ?_; (try simp only [zP]))
 (refine zR 2 rfl ?_; (try simp only [zP]))
 (refine wpAnyH_take (i := 3) (v := .agg (muxA (.slice A5 N5 c5) dd)) rfl (by kernel_rfl) (by kernel_rfl) (by kernel_rfl) (fun _ _ _ h => h) (yieldsIf_load_mid (by rfl) 72 _ rfl _ _ rfl [.slice A5 N5 c5, .int .u32 4096, .bool dd] _ (fun w' hSw => (fun i u hu => hLP w' hSw i u hu)) Tryz.underlying72 rfl hiX) (by assumption) ?_; (try simp only [zP]))
 (refine zR 4 rfl ?_; (try simp only [zP]))
 (refine zR 5 rfl ?_; (try simp only [zP]))
 (refine zR 6 rfl ?_; (try simp only [zP]))
 (refine zT 7 (v := ?_) rfl (Or.inl ⟨by rfl, ?_⟩) ?_; rotate_left; (focus (intro w' hSw; have kc := (hSw.cell g 3 hg5 hng).trans q3; go_simp; try with_reducible rfl)); (try simp only [zP]))
 (refine zR 8 rfl ?_; (try simp only [zP]))
 (refine zR 9 rfl ?_; (try simp only [zP]))
 (refine zR 10 rfl ?_; (try simp only [zP]))
 (refine zT 11 (v := ?_) rfl (Or.inl ⟨by rfl, ?_⟩) ?_; rotate_left; (focus (intro w' hSw; have kc := (hSw.cell g 4 hg5 hng).trans q4; go_simp; try with_reducible rfl)); (try simp only [zP]))
 (refine zR 12 rfl ?_; (try simp only [zP]))
 (refine zR 13 rfl ?_; (try simp only [zP]))
 (refine zR 14 rfl ?_; (try simp only [zP]))
 (refine zT 15 (v := ?_) rfl (Or.inl ⟨by rfl, ?_⟩) ?_; rotate_left; (focus (intro w' hSw; have kc := (hSw.cell g 5 hg5 hng).trans q5; go_simp; try with_reducible rfl)); (try simp only [zP]))
 obtain ⟨D, hD⟩ : ∃ D, D = w5.drew := ⟨_, rfl⟩
 have ED : Ext w5 D := by rw [hD]; exact (Ext.refl _).drew
 rw [← hD] at hHeld ⊢
 clear hD
 (refine wpAnyH_ready (rs := [16]) (by kernel_rfl) (by simp) ?_; refine AllReadyH.cons rfl (fun K hK => ?_) AllReadyH.nil; rw [if_pos (by rfl)]; refine wp_store_M 72 _ _ rfl (n0 + 2) _ rfl rfl 72 _ (B3.out.ext ED) hiX (by rfl) (by simp [Value.oneCell']) ?_; intro u3 B6 M6; refine hK.out _ _ ((Mod.of_ext ED).trans M6) (fun hHeld => ?_); clear hK K; (try simp only [zP]))
 (refine zR 17 rfl ?_; (try simp only [zP]))
 (refine zR 18 rfl ?_; (try simp only [zP]))
 (refine zR 19 rfl ?_; (try simp only [zP]))
 refine wpAnyH_done (by kernel_rfl) ?_ _
 go_wp2_with fail
 refine bodyPost_ret_by (Kb_results_cell_tmp3 Tryz.results72 _ _ (n0 + 2) 72 _ _ _ rfl _ _ _ rfl rfl rfl B6 Tryz.underlying72 rfl hiX) rfl ?_
 refine ⟨_, ov, vv, rfl, (O5.mod hHeld (fun k hk he => by have := (O5.row k hk).1; omega) (fun k _ hk => hk.elim)).lower (by omega), ((S5.mod hHeld (fun k hk he => by have := (S5.row k hk).1; omega) (fun k _ hk he => by omega)).lower (by omega)).mono (fun k _ hk => by omega), ((V5.mod hHeld (fun k hk he => by have := (V5.row k hk).1; omega) (fun k _ hk he => by omega)).lower (by omega)).mono (fun k _ hk => by omega), Mod.toExt M04.out hHeld (fun k hk he => by omega)⟩
end Go.Proofs.YtmmhcllibpmfnaaGreatDoor
namespace Go.Proofs.YtmmhcllibpmfnaaGreatDoor
open Go.RowKit Go.Kb
set_option maxRecDepth 100000
theorem enters_open (args : Array Value) (w : World) : (callFunc 209 args).run Tryz.prog w = .ok (.enter 209 args) w := by kernel_rfl
theorem enters_asked (args : Array Value) (w : World) : (callFunc 214 args).run Tryz.prog w = .ok (.enter 214 args) w := by kernel_rfl
theorem mk90 : Instr.findNow (.int .i64) (.int .i64 90) mkE.toList 0 = some (some (2, mkV90)) := by kernel_rfl
theorem mk98 : Instr.findNow (.int .i64) (.int .i64 98) mkE.toList 0 = some (some (8, mkV98)) := by kernel_rfl
theorem take_new {A : Nat → Prop} (cv : Value) (cs : List Ch) (m : Mg) (v : Value) (w : World) (h : RdY ChR A w cv cs) (hn : cs.length < 8) (hlo : LoOk cs) (hk : m.k = 90) (hnm : m.nm = sesB) (hse : ∀ c ∈ cs, c.re ≠ m.se) :
   Calls Tryz.prog 72 #[.agg (muxA cv false), .agg (mgA m v)] w (TakeP (cs ++ [newC cs m]) false [confM cs m] [opEv cs] 0 w) := by
 refine take_mux 209 2 cv cs _ false _ _ 0 m v w (by rw [hk]; exact mk90) enters_open h (by omega) ?_
 intro base g cv2 D E h1 h2 hb hc
 refine (open_new g base cv2 cs m v D hb hc h2 hn hlo hnm hse).mono ?_
 rintro e w' ⟨rfl, A1, c1, A2, c2, A3, c3, B, O1, O2, O3, M⟩
 exact ⟨rfl, _, _, _, B, by simpa using O1, O2.mono (fun k _ h => h.elim), O3.mono (fun k _ h => h.elim), M⟩
theorem take_full {A : Nat → Prop} (cv : Value) (cs : List Ch) (m : Mg) (v : Value) (w : World) (h : RdY ChR A w cv cs) (hn : 8 ≤ cs.length) (hn2 : cs.length ≤ 1000) (hk : m.k = 90) (hnm : m.nm = sesB) :
   Calls Tryz.prog 72 #[.agg (muxA cv false), .agg (mgA m v)] w (TakeP cs false [failM m] [] 0 w) := by
 refine take_mux 209 2 cv cs _ false _ _ 0 m v w (by rw [hk]; exact mk90) enters_open h hn2 ?_
 intro base g cv2 D E h1 h2 hb hc
 refine (open_full g cv2 cs m v D hb hc.rdT.y hn hnm).mono ?_
 rintro e w' ⟨rfl, A2, c2, B, O2, M⟩
 have hg : cv2.ownBlock ≠ some g := by
   obtain ⟨us, ho, _⟩ := hc
   exact own_blk_ne ho hb (by decide)
 exact ⟨rfl, _, _, _, B, hc.mod M (fun k hk he => hg (by rw [hk, he])) (fun k _ hk => hk.elim), (O2.lower h2).mono (fun k _ h => h.elim), OwnS.nil _ _ _ _ _, M.mono (fun k _ h => .inl h)⟩
theorem take_bad {A : Nat → Prop} (cv : Value) (cs : List Ch) (m : Mg) (v : Value) (w : World) (h : RdY ChR A w cv cs) (hn : cs.length < 8) (hk : m.k = 90) (hnm : m.nm = sesB) (hse : ∃ c ∈ cs, c.re = m.se) :
   Calls Tryz.prog 72 #[.agg (muxA cv false), .agg (mgA m v)] w (TakeP cs true [discM] [] 4 w) := by
 refine take_mux 209 2 cv cs _ true _ _ 4 m v w (by rw [hk]; exact mk90) enters_open h (by omega) ?_
 intro base g cv2 D E h1 h2 hb hc
 refine (open_bad g cv2 cs m v D hb hc.rdT.y hn hnm hse).mono ?_
 rintro e w' ⟨rfl, A1, c1, A2, c2, B, O1, O2, M⟩
 exact ⟨rfl, _, _, _, B, O1.lower h2, (O2.lower h2).mono (fun k _ h => by omega), OwnS.nil _ _ _ _ _, M.mono (fun k _ h => .inl h)⟩
theorem take_ask {A B : Nat → Prop} (cv : Value) (cs : List Ch) (j : Nat) (c : Ch) (m : Mg) (v : Value) (w : World) (h : RdY ChR A w cv cs) (hn : cs.length ≤ 1000) (hlo : LoOk cs) (hj : cs[j]? = some c) (hch : m.ch = (j : Int)) (hk : m.k = 98) (hwa : m.wa = true) (how : c.ow = 0)
   (hd : RdS Ub8 B w v m.da) (hdl : m.da.length ≤ 1000000) :
   Calls Tryz.prog 72 #[.agg (muxA cv false), .agg (mgA m v)] w (TakeP (cs.set j (owe c 1)) false [] [askEv j m] 0 w) := by
 refine take_mux 214 8 cv cs _ false _ _ 0 m v w (by rw [hk]; exact mk98) enters_asked h hn ?_
 intro base g cv2 D E h1 h2 hb hc
 refine (asked_mux g base cv2 cs j c m v D hb hc hlo hj hch hk hwa how (hd.ext E) hdl).mono ?_
 rintro e w' ⟨rfl, A3, c3, B, O1, O3, M⟩
 exact ⟨rfl, _, _, _, B, O1, OwnS.nil _ _ _ _ _, (O3.lower h2).mono (fun k _ h => by omega), M⟩
end Go.Proofs.YtmmhcllibpmfnaaGreatDoor
namespace Go.Proofs.YtmmhcllibpmfnaaGreatDoor
open Go.RowKit Go.Kb
set_option maxRecDepth 100000
theorem Kb_results_cell2_tmp {P : Program} {fn : Func} {p p2 q : Tmp} {ty ty2 : TypeId} (h : fn.results = #[.cell p ty, .cell p2 ty2, .tmp q]) (tmps : Array Value) (w : World) (g g2 : Nat) (t t2 : TypeId) (cs cs2 : Array Value) (fr fr2 : Nat × Nat) (d d2 : TypeDesc)
   (hp : tmps.getD p undef = .pointer (some ⟨g, 0, none⟩)) (hp2 : tmps.getD p2 undef = .pointer (some ⟨g2, 0, none⟩)) (v : Value) (hq : tmps.getD q undef = v) (hg : w.heap[g]? = some (.cells cs t fr)) (hg2 : w.heap[g2]? = some (.cells cs2 t2 fr2))
   (hu : P.underlying ty = some d) (hd : (match d with | .struct _ | .array _ _ => true | _ => false) = true) (hi : (P.info? ty).map (·.size) = some cs.size)
   (hu2 : P.underlying ty2 = some d2) (hd2 : (match d2 with | .struct _ | .array _ _ => true | _ => false) = true) (hi2 : (P.info? ty2).map (·.size) = some cs2.size) :
   (results fn tmps).run P w = .ok (.tuple #[.agg cs, .agg cs2, v]) w := by
 have hp' : tmps[p]?.getD undef = .pointer (some ⟨g, 0, none⟩) := by simpa using hp
 have hp2' : tmps[p2]?.getD undef = .pointer (some ⟨g2, 0, none⟩) := by simpa using hp2
 have hq' : tmps[q]?.getD undef = v := by simpa using hq
 simp [results, h, hp', hp2', hq', asAddr, run_loadVar_row w g t ty cs fr d hg hu hd hi, run_loadVar_row w g2 t2 ty2 cs2 fr2 d2 hg2 hu2 hd2 hi2]
/-- what a channel says -/
def ansM (x : Int) (c : Ch) : Mg := ⟨x, c.re, 0, 0, 0, 0, ⟨#[]⟩, ⟨#[]⟩, false, []⟩
abbrev mgZ : Array Value := #[.int .i64 0, .int .u32 0, .int .u32 0, .int .u32 0, .int .u32 0, .int .u32 0, .string ⟨#[]⟩, .string ⟨#[]⟩, .bool false, .slice none 0 0]
set_option maxHeartbeats 800000 in
theorem cmsg_any (c : Ch) (x : Int) (w : World) : Calls Tryz.prog 276 #[.agg (chL c).toArray, .int .i64 x] w fun e w' => e = .returned (.agg (mgA (ansM x c) (.slice none 0 0))) ∧ Ext w w' := by
 have hiM : (Tryz.prog.info? 62).map (·.size) = some 10 := by kernel_rfl
 obtain ⟨W1, hW1⟩ : ∃ W1, W1 = (w.alloc (.cells (chL c).toArray 156)).alloc (.cells mgZ 62) := ⟨_, rfl⟩
 have E1 : Ext w W1 := by rw [hW1]; exact ((Ext.refl _).alloc _).alloc _
 have B1 := Lib.hid (show Blk W1 w.heap.size 156 (chL c).toArray by rw [hW1]; exact (Blk.new w _ _).alloc _)
 have B2 := Lib.hid (show Blk W1 (w.heap.size + 1) 62 mgZ by rw [hW1]; exact Blk.at_ _ _ (by simp))
 have HW1 := Lib.hid hW1
 have k1 := B1.out.cell 1
 simp only [List.getElem?_toArray, List.getElem?_cons_zero, List.getElem?_cons_succ] at k1
 clear hW1
 go_enter Tryz.func276, Tryz.ntmps276
 go_upto_region 1 with fail
 rw [← HW1.out]
 clear HW1
 go_wp2_with (first | (refine wpList_store_M rfl 62 _ _ rfl (w.heap.size + 1) _ rfl rfl 62 _ B2.out hiM rfl (by simp [Value.oneCell']) ?_; intro w4 P4 M4) | fail)
 refine bodyPost_ret_by (results_cell_row Tryz.results276 _ _ (w.heap.size + 1) 62 _ _ _ rfl P4 Tryz.underlying62 rfl hiM) rfl ?_
 exact ⟨rfl, Mod.toExt E1 M4 (fun k hk he => by omega)⟩
def ansK (ok : Bool) : Int := if ok then 99 else 100
set_option maxHeartbeats 3000000 in
theorem reply_any (c : Ch) (ok : Bool) (w : World) (how : c.ow = 1) : Calls Tryz.prog 228 #[.agg (chL c).toArray, .bool ok] w fun e w' =>
   e = .returned (.tuple #[.agg (chL (owe c 0)).toArray, .agg (mgA (ansM (ansK ok) c) (.slice none 0 0)), .int .i64 0]) ∧ Ext w w' := by
 have hiC : (Tryz.prog.info? 156).map (·.size) = some 12 := by kernel_rfl
 have hiM : (Tryz.prog.info? 62).map (·.size) = some 10 := by kernel_rfl
 obtain ⟨W1, hW1⟩ : ∃ W1, W1 = ((w.alloc (.cells (chL c).toArray 156)).alloc (.cells ch0 156)).alloc (.cells mgZ 62) := ⟨_, rfl⟩
 have E1 : Ext w W1 := by rw [hW1]; exact (((Ext.refl _).alloc _).alloc _).alloc _
 have B1 := Lib.hid (show Blk W1 w.heap.size 156 (chL c).toArray by rw [hW1]; exact ((Blk.new w _ _).alloc _).alloc _)
 have B2 := Lib.hid (show Blk W1 (w.heap.size + 1) 156 ch0 by rw [hW1]; exact (Blk.at_ _ _ (by simp)).alloc _)
 have B3 := Lib.hid (show Blk W1 (w.heap.size + 1 + 1) 62 mgZ by rw [hW1]; exact Blk.at_ _ _ (by simp))
 have HW1 := Lib.hid hW1
 have k10 := B1.out.cell 10
 have k7 := B1.out.cell 7
 have f10 := B1.out.frozen 10
 simp only [List.getElem?_toArray, List.getElem?_cons_zero, List.getElem?_cons_succ, how] at k10 k7
 have hw1 : w.heap.size + 1 + 1 < W1.heap.size := B3.out.lt
 clear hW1
 go_enter Tryz.func228, Tryz.ntmps228
 go_upto_region 1 with fail
 rw [← HW1.out]
 clear HW1
 have B1 := Lib.hid (show Blk (W1.setCell ⟨w.heap.size, 10, none⟩ (.int .i64 0)) w.heap.size 156 (chL (owe c 0)).toArray by simpa [owe] using B1.out.set_ 10 (.int .i64 0))
 have M1 : Kb.Mod (fun k => k = w.heap.size) W1 (W1.setCell ⟨w.heap.size, 10, none⟩ (.int .i64 0)) := (Mod.refl _ _).set1 _
 have B2 := Lib.hid (B2.out.mod M1 (by omega))
 have B3 := Lib.hid (B3.out.mod M1 (by omega))
 have E1 := Lib.hid (Mod.toExt E1 M1 (fun k hk he => by omega))
 have hs1 : w.heap.size + 1 + 1 < (W1.setCell ⟨w.heap.size, 10, none⟩ (.int .i64 0)).heap.size := B3.out.lt
 clear M1
 obtain ⟨n0, hn0⟩ : ∃ n0, w.heap.size = n0 := ⟨_, rfl⟩
 have HN0 := Lib.hid hn0
 rw [hn0] at E1 B1 B2 B3 hs1 k10 k7 f10 ⊢
 cases ok
 all_goals
   go_upto_region 7 with fail
   generalize W1.setCell ⟨n0, 10, none⟩ (.int .i64 0) = W2 at *
   clear k10 k7 f10 hw1
   refine wp_region_held_drew (S := fun w' => Kb.Mod (fun k => k = n0 + 1 ∨ k = n0 + 1 + 1) W2 w') (by kernel_rfl) (Mod.of_ext (Ext.drew (Ext.refl _))) (fun hHeld => ?_)
   obtain ⟨D, hD⟩ : ∃ D, D = W2.drew := ⟨_, rfl⟩
   have ED : Ext W2 D := by rw [hD]; exact (Ext.refl _).drew
   rw [← hD] at hHeld ⊢
   clear hD
   (refine wpAnyH_take (i := 0) (v := .agg (chL (owe c 0)).toArray) rfl (by kernel_rfl) (by kernel_rfl) (by kernel_rfl) (fun _ _ _ h => h) (yieldsIf_load_row (by rfl) 156 _ rfl _ rfl 156 (chL (owe c 0)).toArray _ _ (fun w' hSw => (B1.out.mod hSw (by omega))) Tryz.underlying156 rfl hiC) (by assumption) ?_; (try simp only [zP]))
   (refine wpAnyH_take (i := 1) (v := .agg (chL (owe c 0)).toArray) rfl (by kernel_rfl) (by kernel_rfl) (by kernel_rfl) (fun _ _ _ h => h) (yieldsIf_load_row (by rfl) 156 _ rfl _ rfl 156 (chL (owe c 0)).toArray _ _ (fun w' hSw => (B1.out.mod hSw (by omega))) Tryz.underlying156 rfl hiC) (by assumption) ?_; (try simp only [zP]))
   (refine zR 2 rfl ?_; (try simp only [zP]))
   refine wpAnyH_ready (rs := [3]) (by kernel_rfl) (by simp) ?_
   refine AllReadyH.cons rfl (fun K hK => ?_) AllReadyH.nil
   go_simp
   refine (cmsg_any _ _ _).mono ?_
   rintro e w3 ⟨rfl, E3⟩
   (try dsimp only)
   refine hK.out _ _ (Mod.of_ext (ED.trans E3)) (fun hHeld => ?_)
   clear hK K
   (try simp only [zP])
   have E23 := ED.trans E3
   (refine wpAnyH_ready (rs := [4]) (by kernel_rfl) (by simp) ?_; refine AllReadyH.cons rfl (fun K hK => ?_) AllReadyH.nil; rw [if_pos (by rfl)]; refine wp_store_M 156 _ _ rfl (n0 + 1) _ rfl rfl 156 _ (B2.out.ext E23) hiC (by rfl) (by simp [Value.oneCell']) ?_; intro u4 B4 M4; refine hK.out _ _ ((Mod.of_ext E23).trans (M4.mono (fun k _ h => .inl h))) (fun hHeld => ?_); clear hK K; (try simp only [zP]))
   have M24 := Lib.hid hHeld
   have B34 := Lib.hid ((B3.out.ext E23).mod M4 (by omega))
   (refine wpAnyH_ready (rs := [5]) (by kernel_rfl) (by simp) ?_; refine AllReadyH.cons rfl (fun K hK => ?_) AllReadyH.nil; rw [if_pos (by rfl)]; refine wp_store_M 62 _ _ rfl (n0 + 1 + 1) _ rfl rfl 62 _ B34.out hiM (by rfl) (by simp [Value.oneCell']) ?_; intro u5 B5 M5; refine hK.out _ _ (M24.out.trans (M5.mono (fun k _ h => .inr h))) (fun hHeld => ?_); clear hK K; (try simp only [zP]))
   have B45 := Lib.hid (B4.mod M5 (by omega))
   (refine zR 6 rfl ?_; (try simp only [zP]))
   refine wpAnyH_done (by kernel_rfl) ?_ _
   go_wp2_with fail
   refine bodyPost_ret_by (Kb_results_cell2_tmp Tryz.results228 _ _ (n0 + 1) (n0 + 1 + 1) 156 62 _ _ _ _ _ _ rfl rfl _ rfl B45.out B5 Tryz.underlying156 rfl hiC Tryz.underlying62 rfl hiM) rfl ?_
   have hN := HN0.out
   exact ⟨rfl, Mod.toExt E1.out hHeld (fun k hk he => by omega)⟩
end Go.Proofs.YtmmhcllibpmfnaaGreatDoor
namespace Go.Proofs.YtmmhcllibpmfnaaGreatDoor
open Go.RowKit Go.Kb
set_option maxRecDepth 100000
theorem encode_good (m : Mg) (v : Value) (w : World) (hd : RdS Ub8 (fun k => k < w.heap.size) w v m.da) (hg : GoodM m) : Calls Tryz.prog 46 #[.agg (mgA m v)] w fun e w' =>
   ∃ u, e = .returned (.tuple #[u, .int .i64 0]) ∧ OwnS Ub8 5 w.heap.size (fun _ => False) w' u (encM m) ∧ Ext w w' := by
 obtain ⟨ps, hp1, hp2, hp3, hp4⟩ := hg.ps
 refine (encode_any m v w hd hg.ok).mono ?_
 rintro e w' ⟨u, q, rfl, E, h0, -, h2⟩
 obtain rfl := h2 ps hp1 hp2 hp3 hp4
 obtain ⟨ps2, hq1, -, -, -, ho⟩ := h0 rfl
 refine ⟨u, rfl, ?_, E⟩
 unfold encM
 rw [hq1]
 exact ho
/-- a message as a packet -/
def pkM (m : Mg) : List Int := Fr.four ((encM m).length : Int) ++ encM m
theorem pkM_len (m : Mg) : (pkM m).length = 4 + (encM m).length := by simp [pkM, Fr.four]; omega
theorem put_good (v : Value) (m : Mg) (w : World) (h : RI .u8 w v (encM m)) (hg : GoodM m) : Calls Tryz.prog 23 #[v] w fun e w' => ∃ u, e = .returned (.tuple #[u, .int .i64 0]) ∧ OwnS Ub8 5 w.heap.size (fun _ => False) w' u (pkM m) ∧ Ext w w' := by
 have hle := encM_len hg
 refine (Fr.put_any v _ w h (by omega)).mono ?_
 rintro e w' ⟨u, rfl, op, E⟩
 rw [Fr.fput_yes hle] at op ⊢
 exact ⟨u, rfl, OwnS.of_ints op, E⟩
set_option maxHeartbeats 800000 in
theorem packet_any (m : Mg) (v : Value) (w : World) (hd : RdS Ub8 (fun k => k < w.heap.size) w v m.da) (hg : GoodM m) : Calls Tryz.prog 19 #[.agg (mgA m v)] w fun e w' =>
   ∃ u, e = .returned u ∧ OwnS Ub8 5 w.heap.size (fun _ => False) w' u (pkM m) ∧ Ext w w' := by
 have hiM : (Tryz.prog.info? 62).map (·.size) = some 10 := by kernel_rfl
 obtain ⟨Av, cv, rfl, -, -⟩ := hd.shape
 obtain ⟨W1, hW1⟩ : ∃ W1, W1 = w.alloc (.cells (mgA m (.slice Av m.da.length cv)) 62) := ⟨_, rfl⟩
 have E1 : Ext w W1 := by rw [hW1]; exact (Ext.refl _).alloc _
 have P1 := Lib.hid (show Blk W1 w.heap.size 62 (mgA m (.slice Av m.da.length cv)) by rw [hW1]; exact Blk.new w _ _)
 have HW1 := Lib.hid hW1
 have HEN := Lib.hid (encode_good m (.slice Av m.da.length cv) W1 ((hd.ext E1).mono (fun k hk _ => hk)) hg)
 have HPU := Lib.hid (fun u w' (h : RI .u8 w' u (encM m)) => put_good u m w' h hg)
 have hs1 := E1.size
 clear hd hW1
 go_enter Tryz.func19, Tryz.ntmps19
 go_upto_region 1 with fail
 rw [← HW1.out]
 clear HW1
 go_wp2_with (first | (refine wpList_load_row rfl 62 _ rfl _ rfl 62 _ _ _ P1.out Tryz.underlying62 rfl hiM ?_) | fail)
 refine (HEN.out).mono ?_
 rintro e w2 ⟨u, rfl, O2, E2⟩
 have HRI := Lib.hid (RdS.ri O2.rdT)
 go_wp2_with fail
 refine (HPU.out _ _ HRI.out).mono ?_
 rintro e w3 ⟨u3, rfl, O3, E3⟩
 have E12 := E1.trans E2
 have hs12 := E12.size
 go_wp2
 go_ret
 exact ⟨_, rfl, O3.lower hs12, E12.trans E3⟩
/-- append onto a row of the call's own; whose block it is then -/
theorem wpList_appX {D : Type} {e : Rep D} {T : TypeId} {base : Nat} {A B : Nat → Prop} {w : World} {ds ds2 : List D} {v : Value} {P : Program} {z : Value} {bytes : Nat} {t : TypeId}
   {ops : Array Oper} {rest : List Oper} {o : Oper} {a : Act} {Q : Exit → Act → World → Prop} (hgd : o.guard = none) (s x : Operand)
   (ho : o.op = .call { callee := .builtin .append, args := #[s, x], argTypes := #[t, t] })
   (ht : P.underlying t = some (.slice T)) (hi : (P.info? T).map (fun i => (i.zero, i.size, i.bytes)) = some (some z, e.size, bytes)) (hz : z.cells.size = e.size)
   (hown : OwnS e T base B w v ds) (hs : a.eval s = v) {y : Value} (hr : RdY e A w y ds2) (hx : a.eval x = y) (hA : ∀ k, k < w.heap.size → A k → B k ∧ v.ownBlock ≠ some k)
   {N : Nat} (hN : ds.length + ds2.length = N) (h63 : N ≤ maxLen) (hbytes : N * bytes ≤ 140737488355328) (hbase : base ≤ w.heap.size)
   (h : ∀ Ad c w', OwnS e T base B w' (.slice Ad N c) (ds ++ ds2) → Mod (fun k => v.ownBlock = some k) w w' → Below base w w' → ((Value.slice Ad N c).ownBlock = v.ownBlock ∨ (Value.slice Ad N c).ownBlock = some w.heap.size) → wpList P ops Q rest (a.put o.dst (.slice Ad N c)) w') : wpList P ops Q (o :: rest) a w := by
 subst hN
 obtain ⟨us, hus, he⟩ := hown
 obtain ⟨news, hn, hne⟩ := hr
 obtain ⟨i0, hi0, hz0, hz1, hz2⟩ := info_parts hi
 refine wpList_append_rd w hgd s x t ho base T i0 z e.size bytes ht hi0 hz0 hz1 hz2 hz e.pos v ds.length us hs hus y ds2.length news hx hn hne.one h63 hbytes hbase fun v' w' h1 h2 h3 => ?_
 obtain ⟨Ad, c, rfl⟩ := own_shape h1
 exact h Ad c w' (OwnS.app he hne hA h1 h2 h3) (grown_mod h2) ((Below.refl _ _).grown h2 hbase fun k hk => (hus.lt k hk).1) h3
abbrev srvA (pv fv bd cv lm dd kp lv lf sv : Value) : Array Value := #[pv, fv, bd, cv, lm, dd, kp, lv, lf, sv]
def SendP (g base : Nat) (pv fv bd cv lm dd kp lv lf sv : Value) (l : List Int) (m : Mg) (w : World) (e : Ending) (w' : World) : Prop :=
 e = .returned (.tuple #[]) ∧ ∃ sv', Blk w' g 143 (srvA pv fv bd cv lm dd kp lv lf sv') ∧ OwnS Ub8 5 base (fun _ => False) w' sv' (l ++ pkM m) ∧ (∀ k, sv'.ownBlock = some k → sv.ownBlock = some k ∨ w.heap.size ≤ k) ∧ Mod (fun k => k = g ∨ sv.ownBlock = some k) w w'
set_option maxHeartbeats 3000000 in
theorem send_any (g base : Nat) (pv fv bd cv lm dd kp lv lf sv : Value) (l : List Int) (m : Mg) (v : Value) (w : World) (h : Blk w g 143 (srvA pv fv bd cv lm dd kp lv lf sv)) (hs : OwnS Ub8 5 base (fun _ => False) w sv l) (hb : base ≤ w.heap.size)
   (hl : l.length ≤ 100000000) (hd : RdS Ub8 (fun k => k < w.heap.size) w v m.da) (hg : GoodM m) :
   Calls Tryz.prog 74 #[.pointer (some ⟨g, 0, none⟩), .agg (mgA m v)] w (SendP g base pv fv bd cv lm dd kp lv lf sv l m w) := by
 have hiM : (Tryz.prog.info? 62).map (·.size) = some 10 := by kernel_rfl
 obtain ⟨Av, cA, rfl, -, -⟩ := hd.shape
 obtain ⟨W1, hW1⟩ : ∃ W1, W1 = w.alloc (.cells (mgA m (.slice Av m.da.length cA)) 62) := ⟨_, rfl⟩
 have E1 : Ext w W1 := by rw [hW1]; exact (Ext.refl _).alloc _
 have P1 := Lib.hid (show Blk W1 w.heap.size 62 (mgA m (.slice Av m.da.length cA)) by rw [hW1]; exact Blk.new w _ _)
 have HW1 := Lib.hid hW1
 have HEN := Lib.hid (encode_good m (.slice Av m.da.length cA) W1 ((hd.ext E1).mono (fun k hk _ => hk)) hg)
 have HPU := Lib.hid (fun u w' (h : RI .u8 w' u (encM m)) => put_good u m w' h hg)
 have hs1 := E1.size
 have hle := encM_len hg
 have hpl := pkM_len m
 obtain ⟨As, cs, rfl, -, -⟩ := hs.shape
 obtain ⟨L, hL⟩ : ∃ L, l.length = L := ⟨_, rfl⟩
 obtain ⟨PL, hPL⟩ : ∃ PL, (pkM m).length = PL := ⟨_, rfl⟩
 have HL := Lib.hid hL
 have HPL := Lib.hid hPL
 rw [hL] at h hs hl ⊢
 rw [hPL] at hpl
 have hpb : PL ≤ 33796 := by omega
 clear hpl
 have HB := Lib.hid (h.ext E1)
 have HS := Lib.hid (hs.ext E1)
 clear hd hW1 h hs hL hPL
 unfold SendP
 go_enter Tryz.func74, Tryz.ntmps74
 go_upto_region 1 with fail
 rw [← HW1.out]
 clear HW1
 go_wp2_with (first | (refine wpList_load_row rfl 62 _ rfl _ rfl 62 _ _ _ P1.out Tryz.underlying62 rfl hiM ?_) | fail)
 refine (HEN.out).mono ?_
 rintro e w2 ⟨u, rfl, O2, E2⟩
 have HRI := Lib.hid (RdS.ri O2.rdT)
 go_wp2_with fail
 refine (HPU.out _ _ HRI.out).mono ?_
 rintro e w3 ⟨u3, rfl, O3, E3⟩
 have E12 := E1.trans E2
 have E13 := E12.trans E3
 have hs13 := E13.size
 obtain ⟨A3, c3, rfl, -, -⟩ := O3.shape
 have HP3 := Lib.hid (O3.rdT.y)
 rw [HPL.out] at HP3 ⊢
 have HB := Lib.hid (HB.out.ext (E2.trans E3))
 have HS := Lib.hid (HS.out.ext (E2.trans E3))
 have hgS : (Value.slice As L cs).ownBlock ≠ some g := by
   obtain ⟨us, ho, _⟩ := HS.out
   exact own_blk_ne ho HB.out (by decide)
 have q9 := HB.out.cell 9
 simp only [List.getElem?_toArray, List.getElem?_cons_zero, List.getElem?_cons_succ] at q9
 have HP3 := Lib.hid (show RdY Ub8 (fun _ => False) w3 (.slice A3 PL c3) (pkM m) from HP3.out)
 clear HEN HPU HRI E2 E3 O2 O3 P1
 go_upto_region 5 with fail
 go_wp2_with (at_builtin; refine wpList_appX (e := Ub8) (base := base) (B := fun _ => False) (A := fun _ => False) rfl (.tmp 26) (.tmp 27) rfl Tryz.underlying43 info_ub8 rfl HS.out rfl HP3.out rfl (fun k _ hk => hk.elim) (N := L + PL) (by rw [HL.out, HPL.out]) (by unfold maxLen; omega) (by omega) (by omega) ?_; intro A4 c4 w4 o4 M4 L4 X4; have HB4 := Lib.hid (HB.out.mod M4 hgS); have f9 := HB4.out.frozen 9; have q94 := HB4.out.cell 9; simp only [List.getElem?_toArray, List.getElem?_cons_zero, List.getElem?_cons_succ] at q94)
 go_end0
 have HB5 := Lib.hid (show Blk (w4.setCell ⟨g, 9, none⟩ (.slice A4 (L + PL) c4)) g 143 (srvA pv fv bd cv lm dd kp lv lf (.slice A4 (L + PL) c4)) by simpa using HB4.out.set_ 9 (.slice A4 (L + PL) c4))
 have M5 : Kb.Mod (fun k => k = g) w4 (w4.setCell ⟨g, 9, none⟩ (.slice A4 (L + PL) c4)) := (Mod.refl _ _).set1 _
 have hg4 : (Value.slice A4 (L + PL) c4).ownBlock ≠ some g := by
   obtain ⟨us, ho, _⟩ := o4
   exact own_blk_ne ho HB4.out (by decide)
 exact ⟨rfl, _, HB5.out, o4.mod M5 (fun k hk he => hg4 (by rw [hk, he])) (fun k _ hk => hk.elim), (fun k hk => X4.elim (fun h9 => .inl (by rw [← h9]; exact hk)) (fun h9 => .inr (by rw [hk] at h9; cases h9; exact hs13))), ((Mod.of_ext E13).trans (M4.mono (fun k _ hk => .inr hk))).trans (M5.mono (fun k _ hk => .inl hk))⟩
end Go.Proofs.YtmmhcllibpmfnaaGreatDoor
namespace Go.Proofs.YtmmhcllibpmfnaaGreatDoor
open Go.RowKit Go.Kb
set_option maxRecDepth 100000
/-- what messages are, as packets -/
def pks (ms : List Mg) : List Int := (ms.map pkM).flatten
theorem pks_succ {ms : List Mg} {j : Nat} {m : Mg} (h : ms[j]? = some m) : pks (ms.take (j + 1)) = pks (ms.take j) ++ pkM m := by
 unfold pks
 rw [List.take_add_one, h]
 simp
theorem pks_len (ms : List Mg) (h : ∀ m ∈ ms, GoodM m) : (pks ms).length ≤ 33796 * ms.length := by
 induction ms with
 | nil => simp [pks]
 | cons m ms ih =>
   have h1 := ih (fun x hx => h x (List.mem_cons_of_mem _ hx))
   have h2 := pkM_len m
   have h3 := encM_len (h m List.mem_cons_self)
   have h4 : pks (m :: ms) = pkM m ++ pks ms := rfl
   rw [h4, List.length_append, List.length_cons]
   omega
def EachP (g base : Nat) (pv fv bd cv lm dd kp lv lf sv : Value) (l : List Int) (ms : List Mg) (w : World) (e : Ending) (w' : World) : Prop :=
 e = .returned (.tuple #[]) ∧ ∃ sv', Blk w' g 143 (srvA pv fv bd cv lm dd kp lv lf sv') ∧ OwnS Ub8 5 base (fun _ => False) w' sv' (l ++ pks ms) ∧ (∀ k, sv'.ownBlock = some k → sv.ownBlock = some k ∨ w.heap.size ≤ k) ∧ Mod (fun k => k = g ∨ sv.ownBlock = some k) w w'
set_option maxHeartbeats 3000000 in
theorem each_any {A : Nat → Prop} (g base : Nat) (pv fv bd cv lm dd kp lv lf sv ov : Value) (l : List Int) (ms : List Mg) (w : World) (h : Blk w g 143 (srvA pv fv bd cv lm dd kp lv lf sv)) (hs : OwnS Ub8 5 base (fun _ => False) w sv l) (hb : base ≤ w.heap.size)
   (hl : l.length ≤ 1000000) (hn : ms.length ≤ 1000) (hd : RdS MgR A w ov ms) (hA : ∀ k, A k → k < w.heap.size ∧ k ≠ g ∧ sv.ownBlock ≠ some k) (hg : ∀ m ∈ ms, GoodM m) :
   Calls Tryz.prog 73 #[ov, .func (.func 74) #[.pointer (some ⟨g, 0, none⟩)] #[]] w (EachP g base pv fv bd cv lm dd kp lv lf sv l ms w) := by
 have hiM : (Tryz.prog.info? 62).map (·.size) = some 10 := by kernel_rfl
 have hiML : ∀ m v, (Tryz.prog.info? 62).map (·.size) = some (mgA m v).toList.length := fun _ _ => hiM
 obtain ⟨Ad, c, rfl, -, -⟩ := hd.shape
 have H := Lib.hid hd
 have HB := Lib.hid h
 have HS := Lib.hid hs
 have HG := Lib.hid hg
 have HA := Lib.hid hA
 obtain ⟨N, hN⟩ : ∃ N, ms.length = N := ⟨_, rfl⟩
 have HN := Lib.hid hN
 rw [hN] at H hn ⊢
 have hgl := h.lt
 clear hd h hs hg hA hN
 unfold EachP
 go_enter Tryz.func73, Tryz.ntmps73
 go_upto_region 1 with fail
 go_wp2
 go_loopw [8] (fun i wr => ∃ (j : Nat) (sv' : Value), j ≤ N ∧ i = .int .i64 j ∧ Hid (Blk wr g 143 (srvA pv fv bd cv lm dd kp lv lf sv')) ∧ Hid (OwnS Ub8 5 base (fun _ => False) wr sv' (l ++ pks (ms.take j))) ∧ Hid (Mod (fun k => k = g ∨ sv.ownBlock = some k) w wr) ∧ Hid (∀ k, sv'.ownBlock = some k → sv.ownBlock = some k ∨ w.heap.size ≤ k)) (fun i _ => N - (intOf i).toNat)
 case atStart => exact ⟨0, sv, Nat.zero_le _, rfl, HB, Lib.hid (by simpa [pks] using HS.out), Lib.hid (Mod.refl _ _), Lib.hid (fun k hk => .inl hk)⟩
 case round =>
   obtain ⟨j, sv', hj, rfl, HBj, HSj, HMj, HOj⟩ := hrel
   by_cases hjn : j < N
   · have hst := Lib.hid (H.out.mod HMj.out (fun k hk ha he => he.elim (fun h9 => (HA.out k ha).2.1 h9) (fun h9 => (HA.out k ha).2.2 h9)))
     obtain ⟨b, off, m, At, ct, rfl, hra, hd, ht⟩ := mg_at hst.out.y hjn
     have HGm := Lib.hid (HG.out m (List.mem_of_getElem? hd.out))
     have hpl := pks_len (ms.take j) (fun x hx => HG.out x (List.mem_of_mem_take hx))
     have htl : (ms.take j).length ≤ 1000 := by rw [List.length_take, HN.out]; omega
     have hsz : (l ++ pks (ms.take j)).length ≤ 100000000 := by rw [List.length_append]; omega
     have HSN := Lib.hid (pks_succ hd.out)
     have hwr := HMj.out.size
     go_upto_region 3 with (refine wpList_load_mid rfl 62 _ rfl b (off + j * 10) rfl (mgA m (.slice At m.da.length ct)).toList _ hra.out Tryz.underlying62 rfl (hiML _ _) ?_)
     obtain ⟨W9, hW9⟩ : ∃ W9, W9 = wr.alloc (.cells (mgA m (.slice At m.da.length ct)) 62) := ⟨_, rfl⟩
     have E9 : Ext wr W9 := by rw [hW9]; exact (Ext.refl _).alloc _
     have P9 := Lib.hid (show Blk W9 wr.heap.size 62 (mgA m (.slice At m.da.length ct)) by rw [hW9]; exact Blk.new wr _ _)
     have HSE := Lib.hid (send_any g base pv fv bd cv lm dd kp lv lf sv' (l ++ pks (ms.take j)) m (.slice At m.da.length ct) W9 (HBj.out.ext E9) (HSj.out.ext E9) (by have := E9.size; omega) hsz ((ht.out.ext E9).mono (fun k hk _ => hk)) HGm.out)
     unfold SendP at HSE
     rw [← hW9]
     clear hW9 hpl htl hsz hra
     generalize Value.agg #[.int .i64 m.k, .int .u32 m.ch, .int .u32 m.se, .int .u32 m.wi, .int .u32 m.pk, .int .u32 m.co, .string m.nm, .string m.la, .bool m.wa, .slice At m.da.length ct] = z11
     obtain ⟨n9, hn9⟩ : ∃ n9, wr.heap.size = n9 := ⟨_, rfl⟩
     rw [hn9] at P9 ⊢
     clear hn9
     go_wp2_with (first | (refine wpList_load_row rfl 62 _ rfl _ rfl 62 _ _ _ P9.out Tryz.underlying62 rfl hiM ?_) | fail)
     refine (HSE.out).mono ?_
     rintro e w10 ⟨rfl, sv2, B10, O10, X10, M10⟩
     have HM10 := Lib.hid (Mod.transN HMj.out ((Mod.of_ext E9).trans M10) (fun k hk he => he.elim .inl (fun h9 => (HOj.out k h9).elim .inr (fun h8 => absurd hk (by omega)))))
     have HO10 := Lib.hid (show ∀ k, sv2.ownBlock = some k → sv.ownBlock = some k ∨ w.heap.size ≤ k from fun k hk => (X10 k hk).elim (fun h9 => HOj.out k h9) (fun h9 => .inr (by have := E9.size; omega)))
     have HB10 := Lib.hid B10
     have HS10 := Lib.hid (show OwnS Ub8 5 base (fun _ => False) w10 sv2 (l ++ pks (ms.take (j + 1))) by rw [HSN.out, ← List.append_assoc]; exact O10)
     clear HSE B10 O10 M10 X10 HBj HSj HMj HOj E9
     go_wp2
     go_roundw
     case rel => exact ⟨j + 1, sv2, by omega, by go_num, HB10, HS10, HM10, HO10⟩
     case measure => simp [intOf]; omega
   · obtain rfl : j = N := by omega
     have HSN := Lib.hid (show OwnS Ub8 5 base (fun _ => False) wr sv' (l ++ pks ms) by have h9 := HSj.out; rw [List.take_of_length_le (Nat.le_of_eq HN.out)] at h9; exact h9)
     go_wp2
     go_end0
     exact ⟨rfl, sv', HBj.out, HSN.out, HOj.out, HMj.out⟩
end Go.Proofs.YtmmhcllibpmfnaaGreatDoor
namespace Go.Proofs.YtmmhcllibpmfnaaGreatDoor
open Go.RowKit Go.Kb
set_option maxRecDepth 100000
abbrev lm4 : Value := .int .u32 4096
def SayP (g base : Nat) (pv fv bd kp lv lf sv : Value) (cs : List Ch) (l : List Int) (m : Mg) (w : World) (e : Ending) (w' : World) : Prop :=
 e = .returned (.tuple #[]) ∧ ∃ cv' sv', Blk w' g 143 (srvA pv fv bd cv' lm4 (.bool false) kp lv lf sv') ∧ OwnS ChR 156 w.heap.size (fun _ => False) w' cv' cs ∧ OwnS Ub8 5 base (fun _ => False) w' sv' (l ++ pkM m) ∧
   (∀ k, sv'.ownBlock = some k → sv.ownBlock = some k ∨ w.heap.size ≤ k) ∧ Mod (fun k => k = g ∨ sv.ownBlock = some k) w w'
set_option maxHeartbeats 4000000 in
theorem say_ok {A : Nat → Prop} (g base : Nat) (pv fv bd cv kp lv lf sv : Value) (cs : List Ch) (l : List Int) (j : Nat) (c : Ch) (m : Mg) (w : World) (h : Blk w g 143 (srvA pv fv bd cv lm4 (.bool false) kp lv lf sv)) (hc : RdY ChR A w cv cs) (hn : cs.length ≤ 1000)
   (hf : fndC cs c.lo = j) (hj : j < cs.length) (hs : OwnS Ub8 5 base (fun _ => False) w sv l) (hb : base ≤ w.heap.size) (hl : l.length ≤ 100000000) (hda : m.da = []) (hg : GoodM m) :
   Calls Tryz.prog 218 #[.pointer (some ⟨g, 0, none⟩), .agg (chL c).toArray, .agg (mgA m (.slice none 0 0)), .int .i64 0] w (SayP g base pv fv bd kp lv lf sv (cs.set j c) l m w) := by
 have hiM : (Tryz.prog.info? 62).map (·.size) = some 10 := by kernel_rfl
 have hiC : (Tryz.prog.info? 156).map (·.size) = some 12 := by kernel_rfl
 have hiX : (Tryz.prog.info? 72).map (·.size) = some 3 := by kernel_rfl
 obtain ⟨Ad, cc, rfl, -, -⟩ := hc.shape
 obtain ⟨W1, hW1⟩ : ∃ W1, W1 = (w.alloc (.cells (chL c).toArray 156)).alloc (.cells (mgA m (.slice none 0 0)) 62) := ⟨_, rfl⟩
 have E1 : Ext w W1 := by rw [hW1]; exact ((Ext.refl _).alloc _).alloc _
 have B1 := Lib.hid (show Blk W1 w.heap.size 156 (chL c).toArray by rw [hW1]; exact (Blk.new w _ _).alloc _)
 have B2 := Lib.hid (show Blk W1 (w.heap.size + 1) 62 (mgA m (.slice none 0 0)) by rw [hW1]; exact Blk.at_ _ _ (by simp))
 have HW1 := Lib.hid hW1
 have HB := Lib.hid (h.ext E1)
 have HS := Lib.hid (hs.ext E1)
 have HSET := Lib.hid (fun w' (E : Ext W1 w') => set_mux (A := A) (.slice Ad cs.length cc) false cs j c w' ((hc.ext E1).ext E) hn hf hj)
 unfold SetCP at HSET
 have hgl := h.lt
 have hgS : sv.ownBlock ≠ some g := by
   obtain ⟨us, ho, _⟩ := hs
   exact own_blk_ne ho h (by decide)
 have hrow := Lib.hid hs.row
 obtain ⟨L, hL⟩ : ∃ L, cs.length = L := ⟨_, rfl⟩
 have hL2 : (cs.set j c).length = L := by rw [List.length_set]; exact hL
 rw [hL] at HB HSET
 obtain ⟨n0, hn0⟩ : ∃ n0, w.heap.size = n0 := ⟨_, rfl⟩
 have HN0 := Lib.hid hn0
 rw [hn0] at B1 B2 hgl hb
 have hw1 : n0 + 1 < W1.heap.size := B2.out.lt
 unfold SayP
 clear h hc hs hW1 hL hf hj hn hn0
 go_enter Tryz.func218, Tryz.ntmps218
 go_upto_region 1 with fail
 rw [← HW1.out]
 rw [HN0.out]
 clear HW1
 go_upto_region 2 with fail
 have q3 := HB.out.cell 3
 have q4 := HB.out.cell 4
 have q5 := HB.out.cell 5
 simp only [List.getElem?_toArray, List.getElem?_cons_zero, List.getElem?_cons_succ] at q3 q4 q5
 refine region_till 9 (fun w' => Ext W1 w') (by kernel_rfl) (Ext.drew (Ext.refl _)) (fun hHeld => ?_)
 obtain ⟨D, hD⟩ : ∃ D, D = W1.drew := ⟨_, rfl⟩
 have ED : Ext W1 D := by rw [hD]; exact (Ext.refl _).drew
 rw [← hD] at hHeld ⊢
 clear hD
 have hLP : ∀ w', Ext W1 w' → ∀ i u, [.slice Ad L cc, .int .u32 4096, .bool false][i]? = some u → w'.cell? ⟨g, 3 + i, none⟩ = some u := by
   intro w' hSw i u hu
   rcases i with _ | _ | _ | i
   · simp at hu; rw [← hu]; exact cell_ext hSw q3
   · simp at hu; rw [← hu]; exact cell_ext hSw q4
   · simp at hu; rw [← hu]; exact cell_ext hSw q5
   · simp at hu
 (refine till_take (i := 0) (v := ?_) rfl (by kernel_rfl) (by kernel_rfl) (by kernel_rfl) (by kernel_rfl) (fun _ _ _ h => h) (Or.inl ⟨by rfl, ?_⟩) (by assumption) ?_; rotate_left; (focus (intro w' hSw; go_simp; try with_reducible rfl)); (try simp only [zP]))
 (refine till_take (i := 1) (v := ?_) rfl (by kernel_rfl) (by kernel_rfl) (by kernel_rfl) (by kernel_rfl) (fun _ _ _ h => h) (Or.inl ⟨by rfl, ?_⟩) (by assumption) ?_; rotate_left; (focus (intro w' hSw; go_simp; try with_reducible rfl)); (try simp only [zP]))
 (refine till_take (i := 2) (v := ?_) rfl (by kernel_rfl) (by kernel_rfl) (by kernel_rfl) (by kernel_rfl) (fun _ _ _ h => h) (Or.inl ⟨by rfl, ?_⟩) (by assumption) ?_; rotate_left; (focus (intro w' hSw; go_simp; try with_reducible rfl)); (try simp only [zP]))
 (refine till_take (i := 3) (v := ?_) rfl (by kernel_rfl) (by kernel_rfl) (by kernel_rfl) (by kernel_rfl) (fun _ _ _ h => h) (Or.inl ⟨by rfl, ?_⟩) (by assumption) ?_; rotate_left; (focus (intro w' hSw; go_simp; try with_reducible rfl)); (try simp only [zP]))
 (refine till_take (i := 4) (v := .agg (muxA (.slice Ad L cc) false)) rfl (by kernel_rfl) (by kernel_rfl) (by kernel_rfl) (by kernel_rfl) (fun _ _ _ h => h) (yieldsIf_load_mid (by rfl) 72 _ rfl _ _ rfl [.slice Ad L cc, .int .u32 4096, .bool false] _ (fun w' hSw => (fun i u hu => hLP w' hSw i u hu)) Tryz.underlying72 rfl hiX) (by assumption) ?_; (try simp only [zP]))
 (refine till_take (i := 5) (v := .agg (chL c).toArray) rfl (by kernel_rfl) (by kernel_rfl) (by kernel_rfl) (by kernel_rfl) (fun _ _ _ h => h) (yieldsIf_load_row (by rfl) 156 _ rfl _ rfl 156 (chL c).toArray _ _ (fun w' hSw => (B1.out.ext hSw)) Tryz.underlying156 rfl hiC) (by assumption) ?_; (try simp only [zP]))
 refine till_ready (rs := [6]) (by kernel_rfl) (by simp) ?_
 refine AllTill.cons rfl (fun K hK => ?_) AllTill.nil
 go_simp
 refine (HSET.out D ED).mono ?_
 rintro e w2 ⟨A2, c2, rfl, O2, E2⟩
 (try dsimp only)
 have E12 := ED.trans E2
 refine hK.out _ _ E12 (fun hHeld => ?_)
 clear hK K
 (try simp only [zP])
 (refine till_ready (rs := [7]) (by kernel_rfl) (by simp) ?_; refine AllTill.cons rfl (fun K hK => ?_) AllTill.nil; go_simp; refine hK.out _ _ E12 (fun hHeld => ?_); clear hK K; (try simp only [zP]))
 (refine till_take (i := 8) (v := ?_) rfl (by kernel_rfl) (by kernel_rfl) (by kernel_rfl) (by kernel_rfl) (fun _ _ _ h => h) (Or.inl ⟨by rfl, ?_⟩) (by assumption) ?_; rotate_left; (focus (intro w' hSw; go_simp; try with_reducible rfl)); (try simp only [zP]))
 have HB2 := Lib.hid (HB.out.ext E12)
 have hth : w2.there g 3 3 := fun t ht => ⟨by
   rcases t with _ | _ | _ | t
   · rw [cell_ext E12 q3]; rfl
   · rw [cell_ext E12 q4]; rfl
   · rw [cell_ext E12 q5]; rfl
   · omega, HB2.out.frozen _⟩
 have B3 := Lib.hid (show Blk (w2.setCells g 3 [.slice A2 L c2, .int .u32 4096, .bool false]) g 143 (srvA pv fv bd (.slice A2 L c2) lm4 (.bool false) kp lv lf sv) from Blk.setCells [.slice A2 L c2, .int .u32 4096, .bool false] 3 w2 _ HB2.out (by simp))
 have M3 := Lib.hid (Mod.setCells [.slice A2 L c2, .int .u32 4096, .bool false] 3 w2 w2 (Mod.refl (fun k => k = g) w2))
 refine till_ready (rs := [9]) (by kernel_rfl) (by simp) ?_
 refine AllTill.last rfl (fun K hK => ?_) AllTill.nil
 rw [if_pos (by rfl)]
 refine wp_store_mid 72 _ _ rfl g 3 (muxA (.slice A2 L c2) false) rfl rfl (by exact hth) hiX (by simp [Value.oneCell']) ?_
 refine hK.out _ _ ?_
 clear hK K
 (try simp only [zP])
 refine till_done (by kernel_rfl) ?_ _
 have hs12 := E12.size
 have hs01 := E1.size
 have hgr : ∀ k, (Value.slice A2 L c2).ownBlock = some k → k ≠ g := fun k hk he => by have := (O2.row k hk).1; have := ED.size; omega
 have O3 := Lib.hid (O2.mod M3.out hgr (fun k _ hk => hk.elim))
 have HS3 := Lib.hid ((HS.out.ext E12).mod M3.out (fun k hk he => hgS (by rw [hk, he])) (fun k _ hk => hk.elim))
 have B23 := Lib.hid ((B2.out.ext E12).mod M3.out (by omega))
 have M03 := Lib.hid (show Kb.Mod (fun k => k = g) w _ from (Mod.of_ext (E1.trans E12)).trans M3.out)
 obtain ⟨w3, hw3⟩ : ∃ w3, w3 = w2.setCells g 3 [.slice A2 L c2, .int .u32 4096, .bool false] := ⟨_, rfl⟩
 rw [← hw3] at B3 O3 HS3 B23 M03
 first | rw [← hw3] | (change Exit.then _ _ _ _ (w2.setCells g 3 [.slice A2 L c2, .int .u32 4096, .bool false]); rw [← hw3])
 have hs03 := M03.out.size
 have HN := HN0.out
 have HSE := Lib.hid (send_any g base pv fv bd (.slice A2 L c2) lm4 (.bool false) kp lv lf sv l m (.slice none 0 0) w3 B3.out HS3.out (by omega) hl (by rw [hda]; exact RdS.nil _ _ _) hg)
 unfold SendP at HSE
 have hbD : w.heap.size ≤ D.heap.size := (E1.trans ED).size
 clear hw3 M3 HB HB2 HS HSET B1 O2 hth hLP q3 q4 q5 hHeld E12 E2 ED E1
 go_wp2_with (first | (refine wpList_load_row rfl 62 _ rfl _ rfl 62 _ _ _ B23.out Tryz.underlying62 rfl hiM ?_) | fail)
 refine (HSE.out).mono ?_
 rintro e w4 ⟨rfl, sv2, B4, O4, X4, M4⟩
 go_wp2
 go_end0
 exact ⟨rfl, _, sv2, B4, (O3.out.mod M4 (fun k hk he => he.elim (fun h9 => hgr k hk h9) (fun h9 => by have := (O3.out.row k hk).1; have := (hrow.out k h9).2; omega)) (fun k _ hk => hk.elim)).lower hbD, O4, (fun k hk => (X4 k hk).elim .inl (fun h9 => .inr (by omega))), (M03.out.mono (fun k _ hk => .inl hk)).trans M4⟩
end Go.Proofs.YtmmhcllibpmfnaaGreatDoor
namespace Go.Proofs.YtmmhcllibpmfnaaGreatDoor
open Go.RowKit Go.Kb
set_option maxRecDepth 100000
theorem info_lp : (Tryz.prog.info? 272).map (fun i => (i.zero, i.size, i.bytes)) = some (some (.pointer none), PtrR.size, 8) := by kernel_rfl
/-- what a channel has: its number, its session's 32 cells, its program's session -/
structure Ln where
 lo : Int
 sc : List Value
 kid : Int
def lnL (x : Ln) : List Value := .int .u32 x.lo :: (x.sc ++ [.int .i64 x.kid, .slice none 0 0, .bool false])
/-- a session that was asked nothing -/
def ses0 : List Value := [.bool false, .string ⟨#[]⟩, .int .u32 0, .int .u32 0, .int .u32 0, .int .u32 0, .int .u8 0, .int .u8 0, .int .u8 0, .int .u8 0, .int .u8 0, .int .u8 0, .int .u8 0, .int .u8 0, .int .u8 0, .int .u8 0, .int .u8 0, .int .u8 0, .int .u8 0, .int .u8 0, .int .u8 0, .int .u8 0, .int .u8 0, .int .u8 0, .int .u8 0, .int .u64 0, .int .u32 0, .int .u32 0, .int .i64 0, .int .i64 0, .slice none 0 0, .bool false]
def newL (x : Ev) : Ln := ⟨x.ch, ses0, 0⟩
def OpenedP (g base : Nat) (pv fv bd cv lm dd kp lv lf sv : Value) (bs : List Nat) (x : Ev) (w : World) (e : Ending) (w' : World) : Prop :=
 e = .returned (.tuple #[]) ∧ ∃ lv' b, w.heap.size ≤ b ∧ Blk w' b 311 (lnL (newL x)).toArray ∧ Blk w' g 143 (srvA pv fv bd cv lm dd kp lv' lf sv) ∧ OwnS PtrR 272 base (fun _ => False) w' lv' (bs ++ [b]) ∧
   (∀ k, lv'.ownBlock = some k → lv.ownBlock = some k ∨ w.heap.size ≤ k) ∧ Mod (fun k => k = g ∨ lv.ownBlock = some k) w w'
set_option maxHeartbeats 4000000 in
theorem opened_any (g base : Nat) (pv fv bd cv lm dd kp lv lf sv v : Value) (bs : List Nat) (x : Ev) (w : World) (h : Blk w g 143 (srvA pv fv bd cv lm dd kp lv lf sv)) (hl : OwnS PtrR 272 base (fun _ => False) w lv bs) (hb : base ≤ w.heap.size) (hn : bs.length ≤ 1000) :
   Calls Tryz.prog 150 #[.pointer (some ⟨g, 0, none⟩), .agg (evA x v)] w (OpenedP g base pv fv bd cv lm dd kp lv lf sv bs x w) := by
 obtain ⟨Al, cl, rfl, -, -⟩ := hl.shape
 obtain ⟨W1, hW1⟩ : ∃ W1, W1 = w.alloc (.cells (evA x v) 207) := ⟨_, rfl⟩
 have E1 : Ext w W1 := by rw [hW1]; exact (Ext.refl _).alloc _
 have B1 := Lib.hid (show Blk W1 w.heap.size 207 (evA x v) by rw [hW1]; exact Blk.new w _ _)
 have HW1 := Lib.hid hW1
 have HB := Lib.hid (h.ext E1)
 have HL := Lib.hid (hl.ext E1)
 have hgl := h.lt
 have hgL : (Value.slice Al bs.length cl).ownBlock ≠ some g := by
   obtain ⟨us, ho, _⟩ := hl
   exact own_blk_ne ho h (by decide)
 obtain ⟨L, hL⟩ : ∃ L, bs.length = L := ⟨_, rfl⟩
 have HLN := Lib.hid hL
 have hrW := Lib.hid (show ∀ k, (Value.slice Al bs.length cl).ownBlock = some k → k < w.heap.size from fun k hk => (hl.row k hk).2)
 rw [hL] at HB HL hgL hn hrW ⊢
 have hn0 : ¬ (Value.slice Al L cl).ownBlock = some w.heap.size := fun h9 => by have := hrW.out _ h9; omega
 have q7 := HB.out.cell 7
 have q1 := B1.out.cell 1
 simp only [List.getElem?_toArray, List.getElem?_cons_zero, List.getElem?_cons_succ] at q7 q1
 have hs01 := E1.size
 unfold OpenedP
 clear h hl hW1 hL
 have hgl1 := HB.out.lt
 have hnl1 := B1.out.lt
 go_enter Tryz.func150, Tryz.ntmps150
 go_upto_region 1 with fail
 rw [← HW1.out]
 clear HW1
 refine region_till 13 (fun w' => Kb.Mod (fun k => (Value.slice Al L cl).ownBlock = some k) W1 w') (by kernel_rfl) (Mod.of_ext (Ext.drew (Ext.refl _))) (fun hHeld => ?_)
 obtain ⟨D, hD⟩ : ∃ D, D = W1.drew := ⟨_, rfl⟩
 have ED : Ext W1 D := by rw [hD]; exact (Ext.refl _).drew
 rw [← hD] at hHeld ⊢
 clear hD
 (refine till_take (i := 0) (v := ?_) rfl (by kernel_rfl) (by kernel_rfl) (by kernel_rfl) (by kernel_rfl) (fun _ _ _ h => h) (Or.inl ⟨by rfl, ?_⟩) (by assumption) ?_; rotate_left; (focus (intro w' hSw; go_simp; try with_reducible rfl)); (try simp only [zP]))
 (refine till_take (i := 1) (v := ?_) rfl (by kernel_rfl) (by kernel_rfl) (by kernel_rfl) (by kernel_rfl) (fun _ _ _ h => h) (Or.inl ⟨by rfl, ?_⟩) (by assumption) ?_; rotate_left; (focus (intro w' hSw; go_simp; try with_reducible rfl)); (try simp only [zP]))
 (refine till_take (i := 2) (v := ?_) rfl (by kernel_rfl) (by kernel_rfl) (by kernel_rfl) (by kernel_rfl) (fun _ _ _ h => h) (Or.inl ⟨by rfl, ?_⟩) (by assumption) ?_; rotate_left; (focus (intro w' hSw; go_simp; try with_reducible rfl)); (try simp only [zP]))
 (refine till_take (i := 3) (v := ?_) rfl (by kernel_rfl) (by kernel_rfl) (by kernel_rfl) (by kernel_rfl) (fun _ _ _ h => h) (Or.inl ⟨by rfl, ?_⟩) (by assumption) ?_; rotate_left; (focus (intro w' hSw; go_simp; try with_reducible rfl)); (try simp only [zP]))
 (refine till_take (i := 4) (v := ?_) rfl (by kernel_rfl) (by kernel_rfl) (by kernel_rfl) (by kernel_rfl) (fun _ _ _ h => h) (Or.inl ⟨by rfl, ?_⟩) (by assumption) ?_; rotate_left; (focus (intro w' hSw; have kc := (hSw.cell g 7 hgl1 hgL).trans q7; go_simp; try with_reducible rfl)); (try simp only [zP]))
 (refine till_take (i := 5) (v := ?_) rfl (by kernel_rfl) (by kernel_rfl) (by kernel_rfl) (by kernel_rfl) (fun _ _ _ h => h) (Or.inl ⟨by rfl, ?_⟩) (by assumption) ?_; rotate_left; (focus (intro w' hSw; go_simp; try with_reducible rfl)); (try simp only [zP]))
 (refine till_take (i := 6) (v := ?_) rfl (by kernel_rfl) (by kernel_rfl) (by kernel_rfl) (by kernel_rfl) (fun _ _ _ h => h) (Or.inl ⟨by rfl, ?_⟩) (by assumption) ?_; rotate_left; (focus (intro w' hSw; have kc := (hSw.cell w.heap.size 1 hnl1 hn0).trans q1; go_simp; try with_reducible rfl)); (try simp only [zP]))
 (refine till_take (i := 7) (v := .agg (lnL (newL x)).toArray) rfl (by kernel_rfl) (by kernel_rfl) (by kernel_rfl) (by kernel_rfl) (fun _ _ _ h => h) (yieldsIf_build (by rfl) 311 _ rfl (by simp [go_sem]; exact (by kernel_rfl))) (by assumption) ?_; (try simp only [zP]))
 refine till_ready (rs := [8]) (by kernel_rfl) (by simp) ?_
 refine AllTill.cons rfl (fun K hK => ?_) AllTill.nil
 go_simp
 have HX := Lib.hid (Blk.new D 311 (lnL (newL x)).toArray)
 have EX : Ext D (D.alloc (.cells (lnL (newL x)).toArray 311)) := (Ext.refl _).alloc _
 refine hK.out _ _ (Mod.of_ext (ED.trans EX)) (fun hHeld => ?_)
 clear hK K
 (try simp only [zP])
 have hds : W1.heap.size ≤ D.heap.size := ED.size
 have HB4 := Lib.hid ((HB.out.ext ED).ext EX)
 have HL4 := Lib.hid ((HL.out.ext ED).ext EX)
 have E4 := ED.trans EX
 have hx4 := HX.out.lt
 generalize D.alloc (.cells (lnL (newL x)).toArray 311) = u4 at *
 obtain ⟨b, hb9⟩ : ∃ b, D.heap.size = b := ⟨_, rfl⟩
 rw [hb9] at HX hds hx4 ⊢
 clear EX ED hb9
 refine till_ready (rs := [9]) (by kernel_rfl) (by simp) ?_
 refine AllTill.cons rfl (fun K hK => ?_) AllTill.nil
 go_simp
 have HY := Lib.hid (Blk.new u4 272 #[.pointer (some ⟨b, 0, none⟩)])
 have EY : Ext u4 (u4.alloc (.cells #[.pointer (some ⟨b, 0, none⟩)] 272)) := (Ext.refl _).alloc _
 refine hK.out _ _ (Mod.of_ext (E4.trans EY)) (fun hHeld => ?_)
 clear hK K
 (try simp only [zP])
 have HB5 := Lib.hid (HB4.out.ext EY)
 have HL5 := Lib.hid (HL4.out.ext EY)
 have HX5 := Lib.hid (HX.out.ext EY)
 have E5 := E4.trans EY
 have hs4 := E4.size
 have hs45 := EY.size
 generalize u4.alloc (.cells #[.pointer (some ⟨b, 0, none⟩)] 272) = u5 at *
 generalize u4.heap.size = nY at *
 clear EY E4 HB4 HL4 HX
 refine till_ready (rs := [10]) (by kernel_rfl) (by simp) ?_
 refine AllTill.cons rfl (fun K hK => ?_) AllTill.nil
 refine step_appX (e := PtrR) (base := base) (B := fun _ => False) (A := fun _ => False) rfl (.tmp 8) (.tmp 13) rfl Tryz.underlying141 info_lp rfl HL5.out rfl (RdY.singleB (e := PtrR) (cs := [.pointer (some ⟨b, 0, none⟩)]) (d := b) rfl HY.out) rfl (fun _ _ h => h.elim) (N := L + 1) (by rw [HLN.out]; rfl) (by unfold maxLen; omega) (by omega) (by omega) ?_
 intro A9 c9 u6 o9 M9 X9
 have M69 := (Mod.of_ext E5).trans M9
 refine hK.out _ _ M69 (fun hHeld => ?_)
 clear hK K
 (try simp only [zP])
 have HB6 := Lib.hid (HB5.out.mod M9 hgL)
 have HX6 := Lib.hid (HX5.out.mod M9 (fun he => by have := hrW.out _ he; omega))
 have o9 := Lib.hid o9
 have hs56 := M9.size
 have hs5 := E5.size
 clear M9 HY HB5 HL5 HX5 E5
 (refine till_ready (rs := [11]) (by kernel_rfl) (by simp) ?_; refine AllTill.cons rfl (fun K hK => ?_) AllTill.nil; go_simp; refine hK.out _ _ M69 (fun hHeld => ?_); clear hK K; (try simp only [zP]))
 (refine till_take (i := 12) (v := ?_) rfl (by kernel_rfl) (by kernel_rfl) (by kernel_rfl) (by kernel_rfl) (fun _ _ _ h => h) (Or.inl ⟨by rfl, ?_⟩) (by assumption) ?_; rotate_left; (focus (intro w' hSw; go_simp; try with_reducible rfl)); (try simp only [zP]))
 have q7 := HB6.out.cell 7
 have f7 := HB6.out.frozen 7
 simp only [List.getElem?_toArray, List.getElem?_cons_succ, List.getElem?_cons_zero] at q7
 (refine till_ready (rs := [13]) (by kernel_rfl) (by simp) ?_; refine AllTill.last rfl (fun K hK => ?_) AllTill.nil; go_simp; refine hK.out _ _ ?_; clear hK K; (try simp only [zP]))
 refine till_done (by kernel_rfl) ?_ _
 go_end0
 have M7 : Kb.Mod (fun k => k = g) u6 (u6.setCell ⟨g, 7, none⟩ (.slice A9 (L + 1) c9)) := (Mod.refl _ _).set1 _
 have hg9 : (Value.slice A9 (L + 1) c9).ownBlock ≠ some g := by
   obtain ⟨us, ho, _⟩ := o9.out
   exact own_blk_ne ho HB6.out (by decide)
 refine ⟨rfl, _, b, by omega, HX6.out.mod M7 (by omega), by simpa using HB6.out.set_ 7 (.slice A9 (L + 1) c9), o9.out.mod M7 (fun k hk he => hg9 (by rw [hk, he])) (fun k _ hk => hk.elim), (fun k hk => X9.elim (fun h9 => .inl (by rw [← h9]; exact hk)) (fun h9 => .inr (by rw [hk] at h9; cases h9; omega))), ?_⟩
 exact ((Mod.of_ext E1).trans (M69.mono (fun k _ hk => .inr hk))).trans (M7.mono (fun k _ hk => .inl hk))
end Go.Proofs.YtmmhcllibpmfnaaGreatDoor
namespace Go.Proofs.YtmmhcllibpmfnaaGreatDoor
open Go.RowKit Go.Kb
set_option maxRecDepth 100000
/-- lines, by the blocks that they lie in; they have the numbers from 0 on -/
structure LnsAt (w : World) (bs : List Nat) (ls : List Ln) : Prop where
 len : bs.length = ls.length
 blk : ∀ (j : Nat) b x, bs[j]? = some b → ls[j]? = some x → Blk w b 311 (lnL x).toArray
 lo : ∀ (j : Nat) x, ls[j]? = some x → x.lo = (j : Int)
 sc : ∀ x ∈ ls, x.sc.length = 32
theorem LnsAt.keep {w w' : World} {bs : List Nat} {ls : List Ln} (h : LnsAt w bs ls) (hk : ∀ b ∈ bs, w'.heap[b]? = w.heap[b]?) : LnsAt w' bs ls :=
 ⟨h.len, fun j b x h1 h2 => by
   have h9 := h.blk j b x h1 h2
   unfold Blk at *
   rw [hk b (List.mem_of_getElem? h1)]
   exact h9, h.lo, h.sc⟩
theorem LnsAt.ext {w w' : World} {bs : List Nat} {ls : List Ln} (h : LnsAt w bs ls) (E : Ext w w') : LnsAt w' bs ls :=
 h.keep (fun b hb => by
   obtain ⟨j, hj, rfl⟩ := List.getElem_of_mem hb
   exact E.block _ (h.blk j _ (ls[j]'(by rw [← h.len]; exact hj)) (List.getElem?_eq_getElem hj) (List.getElem?_eq_getElem _)).lt)
set_option maxHeartbeats 3000000 in
theorem line_any {A : Nat → Prop} (g : Nat) (pv fv bd cv lm dd kp lv lf sv : Value) (bs : List Nat) (ls : List Ln) (j b : Nat) (w : World) (h : Blk w g 143 (srvA pv fv bd cv lm dd kp lv lf sv)) (hr : RdY PtrR A w lv bs) (hl : LnsAt w bs ls) (hn : bs.length ≤ 1000) (hj : bs[j]? = some b) :
   Calls Tryz.prog 217 #[.pointer (some ⟨g, 0, none⟩), .int .u32 j] w fun e w' => e = .returned (.pointer (some ⟨b, 0, none⟩)) ∧ Ext w w' := by
 obtain ⟨Al, cl, rfl, -, -⟩ := hr.shape
 have HB := Lib.hid h
 have HR := Lib.hid hr
 have HL := Lib.hid hl
 have HJ := Lib.hid hj
 obtain ⟨L, hL⟩ : ∃ L, bs.length = L := ⟨_, rfl⟩
 have HLN := Lib.hid hL
 have hjl := (List.getElem?_eq_some_iff.1 hj).1
 rw [hL] at HB HR hn hjl
 have q7 := HB.out.cell 7
 simp only [List.getElem?_toArray, List.getElem?_cons_zero, List.getElem?_cons_succ] at q7
 clear h hr hl hj hL
 go_enter Tryz.func217, Tryz.ntmps217
 go_upto_region 2 with fail
 go_wp2
 go_loopw [12] (fun i wr => ∃ m : Nat, m ≤ j ∧ i = .int .i64 m ∧ Hid (Ext w wr)) (fun i _ => L - (intOf i).toNat)
 case atStart => exact ⟨0, Nat.zero_le _, rfl, Lib.hid (Ext.refl _)⟩
 case round =>
   obtain ⟨m, hm, rfl, hE⟩ := hrel
   have hml : m < L := by omega
   obtain ⟨b0, off, u, d, rfl, hcell, hd, hrel2⟩ := (HR.out.ext hE.out).at1 rfl hml
   obtain rfl : u = .pointer (some ⟨d, 0, none⟩) := by
     have h9 : [u] = [.pointer (some ⟨d, 0, none⟩)] := hrel2.out
     simpa using h9
   have hml2 : m < ls.length := by rw [← HL.out.len, HLN.out]; omega
   have hBd := (HL.out.blk m d _ hd.out (List.getElem?_eq_getElem hml2)).ext hE.out
   have hlo := HL.out.lo m _ (List.getElem?_eq_getElem hml2)
   have k0 := hBd.cell 0
   simp only [List.getElem?_toArray, lnL, List.getElem?_cons_zero, hlo] at k0
   by_cases hmj : m < j
   · have hne : ¬ (m : Int) = (j : Int) := by omega
     clear hd hrel2 hBd hlo
     go_wp2
     go_roundw
     case rel => exact ⟨m + 1, by omega, by go_num, hE⟩
     case measure => simp [intOf]; omega
   · obtain rfl : m = j := by omega
     obtain rfl : b = d := Option.some.inj (HJ.out.symm.trans hd.out)
     clear hd hrel2 hBd hlo
     go_wp2
     go_ret
     exact ⟨rfl, hE.out⟩
end Go.Proofs.YtmmhcllibpmfnaaGreatDoor
namespace Go.Proofs.YtmmhcllibpmfnaaGreatDoor
open Go.RowKit Go.Kb
set_option maxRecDepth 100000
set_option maxHeartbeats 4000000 in
theorem chanOf_any {A : Nat → Prop} (g b : Nat) (pv fv bd cv kp lv lf sv : Value) (cs : List Ch) (x : Ln) (j : Nat) (c : Ch) (w : World) (h : Blk w g 143 (srvA pv fv bd cv lm4 (.bool false) kp lv lf sv)) (hc : RdY ChR A w cv cs)
   (hl : Blk w b 311 (lnL x).toArray) (hx : x.lo = (j : Int)) (hlo : LoOk cs) (hj : cs[j]? = some c) :
   Calls Tryz.prog 220 #[.pointer (some ⟨g, 0, none⟩), .pointer (some ⟨b, 0, none⟩)] w fun e w' => e = .returned (.agg (chL c).toArray) ∧ Ext w w' := by
 have hiC : (Tryz.prog.info? 156).map (·.size) = some 12 := by kernel_rfl
 have hiX : (Tryz.prog.info? 72).map (·.size) = some 3 := by kernel_rfl
 obtain ⟨Ad, cc, rfl, -, -⟩ := hc.shape
 obtain ⟨W1, hW1⟩ : ∃ W1, W1 = w.alloc (.cells ch0 156) := ⟨_, rfl⟩
 have E1 : Ext w W1 := by rw [hW1]; exact (Ext.refl _).alloc _
 have B1 := Lib.hid (show Blk W1 w.heap.size 156 ch0 by rw [hW1]; exact Blk.new w _ _)
 have HW1 := Lib.hid hW1
 have HB := Lib.hid (h.ext E1)
 have HL := Lib.hid (hl.ext E1)
 have HG := Lib.hid (fun w' (E : Ext W1 w') => get_mux (A := A) (.slice Ad cs.length cc) false cs (j : Int) j c w' ((hc.ext E1).ext E) (hlo.fnd hj) hj)
 obtain ⟨L, hL⟩ : ∃ L, cs.length = L := ⟨_, rfl⟩
 rw [hL] at HB HG
 have q3 := HB.out.cell 3
 have q4 := HB.out.cell 4
 have q5 := HB.out.cell 5
 have k0 := HL.out.cell 0
 simp only [List.getElem?_toArray, lnL, List.getElem?_cons_zero, List.getElem?_cons_succ, hx] at q3 q4 q5 k0
 have hw1 : w.heap.size < W1.heap.size := B1.out.lt
 clear h hc hl hW1 hL hj hlo
 go_enter Tryz.func220, Tryz.ntmps220
 go_upto_region 1 with fail
 rw [← HW1.out]
 clear HW1
 obtain ⟨n0, hn0⟩ : ∃ n0, w.heap.size = n0 := ⟨_, rfl⟩
 have HN0 := Lib.hid hn0
 rw [hn0] at B1 hw1 ⊢
 clear hn0
 have hLP : ∀ w', Ext W1 w' → ∀ i u, [.slice Ad L cc, .int .u32 4096, .bool false][i]? = some u → w'.cell? ⟨g, 3 + i, none⟩ = some u := by
   intro w' hSw i u hu
   rcases i with _ | _ | _ | i
   · simp at hu; rw [← hu]; exact cell_ext hSw q3
   · simp at hu; rw [← hu]; exact cell_ext hSw q4
   · simp at hu; rw [← hu]; exact cell_ext hSw q5
   · simp at hu
 go_cut [5] (fun s5 wx => ∃ n5 : Nat, s5 = .pointer (some ⟨n5, 0, none⟩) ∧ W1.heap.size ≤ n5 ∧ Hid (Blk wx n5 156 (chL c).toArray) ∧ Ext W1 wx)
 case first =>
   refine wp_region_held_drew (S := fun w' => Ext W1 w') (by kernel_rfl) (Ext.drew (Ext.refl _)) (fun hHeld => ?_)
   obtain ⟨D, hD⟩ : ∃ D, D = W1.drew := ⟨_, rfl⟩
   have ED : Ext W1 D := by rw [hD]; exact (Ext.refl _).drew
   rw [← hD] at hHeld ⊢
   clear hD
   have hs2 := ED.size
   (refine zR 0 rfl ?_; (try simp only [zP]))
   (refine zR 1 rfl ?_; (try simp only [zP]))
   (refine zR 2 rfl ?_; (try simp only [zP]))
   (refine wpAnyH_take (i := 3) (v := .agg (muxA (.slice Ad L cc) false)) rfl (by kernel_rfl) (by kernel_rfl) (by kernel_rfl) (fun _ _ _ h => h) (yieldsIf_load_mid (by rfl) 72 _ rfl _ _ rfl [.slice Ad L cc, .int .u32 4096, .bool false] _ (fun w' hSw => (fun i u hu => hLP w' hSw i u hu)) Tryz.underlying72 rfl hiX) (by assumption) ?_; (try simp only [zP]))
   (refine zR 4 rfl ?_; (try simp only [zP]))
   (refine zR 5 rfl ?_; (try simp only [zP]))
   (refine zR 6 rfl ?_; (try simp only [zP]))
   (refine zT 7 (v := ?_) rfl (Or.inl ⟨by rfl, ?_⟩) ?_; rotate_left; (focus (intro w' hSw; have kc := cell_ext hSw k0; go_simp; try with_reducible rfl)); (try simp only [zP]))
   refine wpAnyH_ready (rs := [8, 12]) (by kernel_rfl) (by simp) ?_
   refine AllReadyH.cons rfl (fun K hK => ?_) (AllReadyH.cons rfl (fun K hK => ?_) AllReadyH.nil)
   · go_simp
     refine (HG.out D ED).mono ?_
     rintro e u1 ⟨rfl, F1⟩
     (try dsimp only)
     refine hK.out _ _ (ED.trans F1) (fun hHeld => ?_)
     clear hK K
     (try simp only [zP])
     (refine zR 9 rfl ?_; (try simp only [zP]))
     (refine zR 10 rfl ?_; (try simp only [zP]))
     (refine zR 11 rfl ?_; (try simp only [zP]))
     have B5 := Lib.hid (Blk.new u1 156 ch0)
     have EU := (ED.trans F1).alloc (.cells ch0 156)
     have hs3 := (ED.trans F1).size
     (refine wpAnyH_ready (rs := [12]) (by kernel_rfl) (by simp) ?_; refine AllReadyH.cons rfl (fun K hK => ?_) AllReadyH.nil; go_simp; refine hK.out _ _ EU (fun hHeld => ?_); clear hK K; (try simp only [zP]))
     obtain ⟨n5, hn5⟩ : ∃ n5, u1.heap.size = n5 := ⟨_, rfl⟩
     rw [hn5] at B5 hs3 ⊢
     generalize u1.alloc (.cells ch0 156) = u2 at *
     (refine wpAnyH_ready (rs := [13]) (by kernel_rfl) (by simp) ?_; refine AllReadyH.cons rfl (fun K hK => ?_) AllReadyH.nil; rw [if_pos (by rfl)]; refine wp_store_M 156 _ _ rfl (n5) _ rfl rfl 156 _ B5.out hiC (by rfl) (by simp [Value.oneCell']) ?_; intro u3 B6 M6; refine hK.out _ _ (Mod.toExt EU M6 (fun k hk he => by omega)) (fun hHeld => ?_); clear hK K; (try simp only [zP]))
     (refine zR 14 rfl ?_; (try simp only [zP]))
     refine wpAnyH_done (by kernel_rfl) ?_ _
     go_wp2_with fail
     go_meet
     exact ⟨n5, rfl, hs3, Lib.hid B6, hHeld⟩
   · go_simp
     have B5 := Lib.hid (Blk.new D 156 ch0)
     have EU := ED.alloc (.cells ch0 156)
     refine hK.out _ _ EU (fun hHeld => ?_)
     clear hK K
     (try simp only [zP])
     obtain ⟨n5, hn5⟩ : ∃ n5, D.heap.size = n5 := ⟨_, rfl⟩
     rw [hn5] at B5 hs2 ⊢
     generalize D.alloc (.cells ch0 156) = u2 at *
     refine wpAnyH_ready (rs := [8]) (by kernel_rfl) (by simp) ?_
     refine AllReadyH.cons rfl (fun K hK => ?_) AllReadyH.nil
     go_simp
     refine (HG.out u2 EU).mono ?_
     rintro e u1 ⟨rfl, F1⟩
     (try dsimp only)
     refine hK.out _ _ (EU.trans F1) (fun hHeld => ?_)
     clear hK K
     (try simp only [zP])
     (refine zR 9 rfl ?_; (try simp only [zP]))
     (refine zR 10 rfl ?_; (try simp only [zP]))
     (refine zR 11 rfl ?_; (try simp only [zP]))
     (refine wpAnyH_ready (rs := [13]) (by kernel_rfl) (by simp) ?_; refine AllReadyH.cons rfl (fun K hK => ?_) AllReadyH.nil; rw [if_pos (by rfl)]; refine wp_store_M 156 _ _ rfl (n5) _ rfl rfl 156 _ (B5.out.ext F1) hiC (by rfl) (by simp [Value.oneCell']) ?_; intro u3 B6 M6; refine hK.out _ _ (Mod.toExt (EU.trans F1) M6 (fun k hk he => by omega)) (fun hHeld => ?_); clear hK K; (try simp only [zP]))
     (refine zR 14 rfl ?_; (try simp only [zP]))
     refine wpAnyH_done (by kernel_rfl) ?_ _
     go_wp2_with fail
     go_meet
     exact ⟨n5, rfl, hs2, Lib.hid B6, hHeld⟩
 case rest =>
   obtain ⟨n5, rfl, hn5, B5, E25⟩ := hcut
   obtain ⟨W5, hW5⟩ : ∃ W5, W5 = wc := ⟨_, rfl⟩
   subst hW5
   have B15 := Lib.hid (B1.out.ext E25)
   have E05 := E1.trans E25
   have hN := HN0.out
   clear HG hLP HB HL q3 q4 q5 k0 E25 B1
   go_wp2_with (first | (refine wpList_load_row rfl 156 _ rfl _ rfl 156 _ _ _ B5.out Tryz.underlying156 rfl hiC ?_) | (refine wpList_store_M rfl 156 _ _ rfl n0 _ rfl rfl 156 _ B15.out hiC rfl (by simp [Value.oneCell']) ?_; intro w4 P4 M4))
   refine bodyPost_ret_by (results_cell_row Tryz.results220 _ _ n0 156 _ _ _ rfl P4 Tryz.underlying156 rfl hiC) rfl ?_
   exact ⟨rfl, Mod.toExt E05 M4 (fun k hk he => by omega)⟩
end Go.Proofs.YtmmhcllibpmfnaaGreatDoor
