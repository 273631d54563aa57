/- Parts QL28 QM28 Bits SG28 MD28 PA28 PB28 PC28 QO28 TL28 QP28 QQ28 MB28 QR28 PD28 QA28 KX28 QB28 QC28 KY28 QS28 QX28. No condition. -/
import Derived.Test.YtmmhcllibpmfnaaGreatDoorZB01
import Derived.Test.YtmmhcllibpmfnaaGreatDoorZB03
import Derived.Test.YtmmhcllibpmfnaaGreatDoorZB04
import Derived.IntWalk
import Derived.Laws.BitsAllLaws
import Derived.Test.YtmmhcllibpmfnaaGreatDoorChecked
import Derived.DeepKeys
import Derived.Laws.Shifts
import Derived.Laws.ShiftsVarLaws
import Derived.Laws.StructEq
import Derived.Test.YtmmhcllibpmfnaaGreatDoorRows
import Derived.Deep.Cut
import Derived.Deep.DeepCutAuto
import Derived.Test.YtmmhcllibpmfnaaGreatDoorLay28
import Derived.Maps.OwnOps
import Derived.Maps.OwnSet
import Derived.StringKeys
import Derived.ChangeOld
import Derived.Deep.Slices
import Derived.Lib.SmallJoins
import Derived.OpenShut
import Derived.ProofKit
import Derived.ShutString
import Derived.SizedLaws
namespace Go.Proofs.YtmmhcllibpmfnaaGreatDoor
open Go.RowKit Go.Kb Go.Kb.Frame
set_option maxRecDepth 100000
set_option maxHeartbeats 8000000 in
theorem rdec_100 (m : Mg) (vb : Value) (w : World) (hm : MgS m) (hk : m.k = 100) (hg : GoodM m) (h : RI .u8 w vb (encM m)) : Calls Tryz.prog 39 #[vb] w (RDecP ⟨100, m.ch, 0, 0, 0, 0, ⟨#[]⟩, ⟨#[]⟩, false, []⟩ w) := by
 have hiM : (Tryz.prog.info? 62).map (·.size) = some 10 := by kernel_rfl
 have hiF : (Tryz.prog.info? 86).map (·.size) = some 4 := by kernel_rfl
 have hiFL : ∀ a b c d : Value, (Tryz.prog.info? 86).map (·.size) = some [a, b, c, d].length := fun _ _ _ _ => hiF
 have hbs := encM_bs hg
 obtain ⟨fs, hfsd⟩ : ∃ fs : List Fd, fs = [⟨1, 100, []⟩, ⟨3, m.ch, []⟩] := ⟨_, rfl⟩
 have hfs : encM m = encL fs := by
   have hrw : rowL m.k = some [paChan] := by simp [rowL, hk]
   unfold encM
   rw [hrw, hfsd]
   simp [flds, vOf, paChan, hk]
 rw [hfs] at h hbs
 have hca : ∀ f ∈ fs, FdCan f ∧ f.k ≠ 2 := by
   rw [hfsd]
   intro f hf
   simp only [List.mem_cons, List.not_mem_nil, or_false] at hf
   rcases hf with rfl | rfl
   · exact ⟨.inl ⟨rfl, by decide, rfl⟩, by decide⟩
   · exact ⟨.inr (.inr (.inl ⟨rfl, hm.ch, rfl⟩)), by show (3 : Int) ≠ 2; decide⟩
 have hks : fs.map (·.k) = [1, 3] := by rw [hfsd]; rfl
 have hrk : RowOk (fs.map (·.k)) := by
   rw [hks]
   intro i x hi
   rcases i with _ | _ | i
   all_goals simp at hi
   all_goals (subst hi; decide)
 have hN : fs.length = 2 := by rw [hfsd]; rfl
 have hhd : ∃ r, encL fs = 100 :: r := by rw [hfsd]; exact ⟨_, rfl⟩
 have HFSD := Lib.hid hfsd
 have HHD := Lib.hid hm
 clear hfsd hfs hm hk hg
 obtain ⟨A, c, rfl, hc1, hc2⟩ := h.shape
 obtain ⟨L, hL⟩ : ∃ L, (encL fs).length = L := ⟨_, rfl⟩
 obtain ⟨r, hr⟩ := hhd
 have hL0 : 0 < L := by rw [← hL, hr]; simp
 have H := Lib.hid (show RdN w 1 (.slice A L c) (encL fs).length ((encL fs).map (Value.int .u8)) by rw [← hL]; exact h)
 rw [hL] at hc1 ⊢
 obtain ⟨b, off, x, rfl, kx, hx⟩ := RdN.icell (l := encL fs) (k := .u8) H.out hL0
 rw [Nat.add_zero] at kx
 obtain rfl : x = 100 := by
   have h9 := hx.out
   rw [hr] at h9
   simpa using h9.symm
 have HBS := Lib.hid hbs
 have HCA := Lib.hid hca
 have HRK := Lib.hid hrk
 have HKS := Lib.hid hks
 have HFN := Lib.hid hN
 have hLb : ((L : Int) == 0) = false := by simp; omega
 obtain ⟨W1, hW1⟩ : ∃ W1, W1 = (w.alloc (.cells #[.int .i64 0, .int .u32 0, .int .u32 0, .int .u32 0, .int .u32 0, .int .u32 0, .string ⟨#[]⟩, .string ⟨#[]⟩, .bool false, .slice none 0 0] 62)).alloc (.cells #[.int .i64 100, .int .u32 0, .int .u32 0, .int .u32 0, .int .u32 0, .int .u32 0, .string ⟨#[]⟩, .string ⟨#[]⟩, .bool false, .slice none 0 0] 62) := ⟨_, rfl⟩
 have E1 : Ext w W1 := by rw [hW1]; exact ((Ext.refl _).alloc _).alloc _
 have B2 := Lib.hid (show Blk W1 w.heap.size 62 (mgA (mg0 0) (.slice none 0 0)) by rw [hW1]; exact (Blk.new w _ _).alloc _)
 have B4 := Lib.hid (show Blk W1 (w.heap.size + 1) 62 (mgA (mg0 100) (.slice none 0 0)) by rw [hW1]; exact Blk.at_ _ _ (by simp))
 have HW1 := Lib.hid hW1
 have kx1 := cell_ext ((Ext.refl w).alloc (.cells #[.int .i64 0, .int .u32 0, .int .u32 0, .int .u32 0, .int .u32 0, .int .u32 0, .string ⟨#[]⟩, .string ⟨#[]⟩, .bool false, .slice none 0 0] 62)) kx
 clear h hbs hca hrk hks hN hL hr hx kx hW1
 go_enter Tryz.func39, Tryz.ntmps39
 go_upto_region 4 with fail
 rw [← HW1.out]
 clear HW1 kx1
 obtain ⟨n2, hn2⟩ : ∃ n2, w.heap.size = n2 := ⟨_, rfl⟩
 have HN2 := Lib.hid hn2
 rw [hn2] at B2 B4 ⊢
 clear hn2
 go_wp2_with (first | (refine wpList_load_row rfl 62 _ rfl _ rfl 62 _ _ _ B4.out Tryz.underlying62 rfl hiM ?_) | fail)
 refine (rfields_100 _).mono ?_
 rintro e w2 ⟨Af, cf, rfl, hF, E2⟩
 have HF := Lib.hid hF
 have E02 := Lib.hid (E1.trans E2)
 have B2 := Lib.hid (B2.out.ext E2)
 have B4 := Lib.hid (B4.out.ext E2)
 clear hF E1 E2
 simp only [List.length_cons, List.length_nil, Nat.reduceAdd] at HF ⊢
 go_upto_region 8 with fail
 have HO0 := Lib.hid (show OwnS Ib 3 w2.heap.size (fun _ => False) (w2.alloc (.cells #[.int .i64 1] 3)) (.slice (some ⟨w2.heap.size, 0, none⟩) 1 1) (([1, 3] : List Int).take 1) from by
   refine OwnS.litB (A := fun _ => False) (cs := [.int .i64 1]) ?_ (Blk.new _ _ _) (fun k _ h => h.elim) (Nat.le_refl _) rfl (by omega)
   exact RdE.single (e := Ib) (d := 1) rfl)
 have HE0 := Lib.hid ((Ext.refl w2).alloc (.cells #[.int .i64 1] 3))
 go_wp2
 go_loopw [7, 32] (fun u i wr => ∃ j : Nat, j ≤ 1 ∧ i = .int .i64 j ∧ Hid (OwnS Ib 3 w2.heap.size (fun _ => False) wr u (([1, 3] : List Int).take (j + 1))) ∧ Hid (Ext w2 wr)) (fun _ i _ => 1 - (intOf i).toNat)
 case atStart => exact ⟨0, Nat.zero_le _, rfl, HO0, HE0⟩
 case round =>
   clear HO0 HE0
   obtain ⟨j, hj, rfl, HO, hE⟩ := hrel
   by_cases hjk : j < 1
   · obtain ⟨b2, off2, c9, d, cs, hv9, hd9, hrel9, hl9, hcell⟩ := (HF.out.ext hE.out).cells (j := j) (by simpa using hjk)
     simp only [Value.slice.injEq] at hv9
     obtain ⟨rfl, -, -⟩ := hv9
     obtain ⟨a1, a2, a3, rfl, o1, o2, o3⟩ := hrel9.out
     have HC9 := Lib.hid (show wr.rangeAt b2 (off2 + j * 4) [.int .i64 d, a1, a2, a3] from hcell)
     clear hcell hl9 hrel9
     go_upto_region 11 with (first | (refine wpList_load_mid rfl 86 _ rfl b2 (off2 + j * 4) rfl [.int .i64 d, a1, a2, a3] _ HC9.out Tryz.underlying86 rfl (hiFL _ _ _ _) ?_) | (refine wpList_store_M rfl 86 _ _ rfl wr.heap.size _ rfl rfl 86 _ (Blk.new _ _ _) hiF rfl (by simp [Value.oneCell']; exact ⟨o1, o2, o3⟩) ?_; intro w10 P10 M10))
     have E10 : Ext wr w10 := Mod.toExt ((Ext.refl wr).alloc _) M10 (fun k hk he => by omega)
     have kp0 := P10.cell 0
     simp only [List.getElem?_toArray, List.getElem?_cons_zero] at kp0
     have hE10 := Lib.hid (hE.out.trans E10)
     have HO10 := Lib.hid (HO.out.ext E10)
     have hlm : (([1, 3] : List Int).take (j + 1)).length = j + 1 := by rw [List.length_take]; simp; omega
     obtain ⟨Ao, co, rfl, -, -⟩ := HO.out.shape
     rw [hlm] at HO10 ⊢
     have hvf : ([1, 3] : List Int)[j + 1]? = some d := by rw [List.getElem?_cons_succ]; exact hd9.out
     have HVF := Lib.hid hvf
     have HRow := Lib.hid HO10.out.row
     have hb10 := hE10.out.size
     clear HO hE E10 M10 P10 hvf HC9 o1 o2 o3 hd9
     go_wp2_with (at_builtin; refine wpList_app (e := Ib) (base := w2.heap.size) (B := fun _ => False) (A := fun _ => False) rfl (.tmp 36) (.tmp 39) rfl Tryz.underlying109 info_int rfl (HO10.out.alloc _) rfl (RdY.singleB (e := Ib) (cs := [.int .i64 d]) (d := d) rfl (Blk.new _ _ _)) rfl (fun _ _ h => h.elim) (N := j + 1 + 1) (by rw [hlm]; rfl) (by unfold maxLen; omega) (by omega) (by simp; omega) ?_; intro A14 c14 w14 o14 M14 _)
     have M15 : Mod (fun k => (Value.slice Ao (j + 1) co).ownBlock = some k) w10 w14 := (Mod.of_ext ((Ext.refl w10).alloc _)).trans M14
     refine ⟨⟨j + 1, by omega, by go_num, Lib.hid ?_, Lib.hid ?_⟩, by simp [intOf]; omega⟩
     · rw [List.take_add_one, HVF.out]
       exact o14
     · exact Mod.toExt hE10.out M15 (fun k hk he => by have := (HRow.out _ he).1; omega)
   · obtain rfl : j = 1 := by omega
     obtain ⟨wq, rfl⟩ : ∃ wq, wq = wr := ⟨_, rfl⟩
     have hO9 := HO.out
     rw [show ([1, 3] : List Int).take (1 + 1) = fs.map (·.k) from by rw [HKS.out]; rfl] at hO9
     obtain ⟨Ao, co, rfl, -, -⟩ := hO9.shape
     have E0r := E02.out.trans hE.out
     have HRD := Lib.hid (rread_any _ _ fs wq (RdS.ri hO9.rdT) (RdN.ext (show RI .u8 w (.slice (some ⟨b, off, none⟩) L c) (encL fs) from H.out) E0r) (by rw [HFN.out]; decide) HRK.out HCA.out HBS.out)
     have hlk : (fs.map (·.k)).length = 2 := by rw [HKS.out]; rfl
     rw [hlk] at HRD ⊢
     have E0r := Lib.hid E0r
     have B2 := Lib.hid (B2.out.ext hE.out)
     have B4 := Lib.hid (B4.out.ext hE.out)
     clear HO hO9 hE HF hlk
     unfold ReP at HRD
     go_wp2_with fail
     with_reducible refine (HRD.out).mono ?_
     rintro e w3 ⟨vl, rfl, o3, E3⟩
     obtain ⟨Av, cv, rfl, hcv1, -⟩ := o3.shape
     have HL3 := Lib.hid ((o3.rd (A := fun k => wq.heap.size ≤ k) (fun k hk => hk) (fun k hk => hk)).lt)
     obtain ⟨g3, rfl, hg3, -⟩ := OwnS.addr o3 (by rw [HFN.out]; decide)
     rw [HFN.out] at HL3 hcv1 ⊢
     have hcne : ¬ cv = 1 := by omega
     have hg3l : g3 < w3.heap.size := (o3.row g3 rfl).2
     have E03 := Lib.hid (E0r.out.trans E3)
     have hzq := E0r.out.size
     have hb4q := B4.out.lt
     have B2 := Lib.hid (B2.out.ext E3)
     have B4 := Lib.hid (B4.out.ext E3)
     have hgn : ¬ g3 = n2 + 1 := by omega
     clear o3 HRD E3 E0r
     obtain ⟨b0, of0, At0, ct0, f0, hA0, -, d10, d20, -, hd0, ht0⟩ := fd_at HL3.out.y (j := 1) (by decide)
     simp only [Option.some.injEq, Addr.mk.injEq] at hA0
     obtain ⟨rfl, rfl, -⟩ := hA0
     have hf0 : f0 = ⟨3, m.ch, []⟩ := by
       have h9 := hd0.out
       rw [HFSD.out] at h9
       simpa using h9.symm
     subst hf0
     simp only [Nat.zero_add, Nat.reduceMul, Nat.reduceAdd] at d10
     clear d20 ht0 hd0
     have q0 := B4.out.cell 0
     simp only [mg0, List.getElem?_toArray, List.getElem?_cons_zero] at q0
     have q9 := B4.out.cell 1
     have f9 := B4.out.frozen 1
     simp only [mg0, List.getElem?_toArray, List.getElem?_cons_zero, List.getElem?_cons_succ] at q9
     go_upto_region 43 with fail
     have B4 := Lib.hid (show Blk (w3.setCell ⟨n2 + 1, 1, none⟩ (.int .u32 m.ch)) (n2 + 1) 62 #[.int .i64 100, .int .u32 m.ch, .int .u32 0, .int .u32 0, .int .u32 0, .int .u32 0, .string ⟨#[]⟩, .string ⟨#[]⟩, .bool false, .slice none 0 0] by simpa [mg0] using B4.out.set_ 1 (.int .u32 m.ch))
     have MM := Lib.hid (show Mod (fun k => k = n2 + 1) w3 (w3.setCell ⟨n2 + 1, 1, none⟩ (.int .u32 m.ch)) from (Mod.refl _ _).set1 _)
     clear q9 f9
     generalize w3.setCell ⟨n2 + 1, 1, none⟩ (.int .u32 m.ch) = D0 at *
     have hn2 := HN2.out
     have HWD := Lib.hid (fun v w' => rwords_100 (m.ch) 0 0 0 0 v w')
     go_wp2_with (first | (refine wpList_load_row rfl 62 _ rfl _ rfl 62 _ _ _ B4.out Tryz.underlying62 rfl hiM ?_) | fail)
     refine (HWD.out _ _).mono ?_
     rintro e w8 ⟨rfl, E8⟩
     have B4 := Lib.hid (B4.out.ext E8)
     have B2 := Lib.hid ((B2.out.mod MM.out (by omega)).ext E8)
     go_wp2_with (first | (refine wpList_load_row rfl 62 _ rfl _ rfl 62 _ _ _ B4.out Tryz.underlying62 rfl hiM ?_) | (refine wpList_store_M rfl 62 _ _ rfl n2 _ rfl rfl 62 _ B2.out hiM rfl (by simp [Value.oneCell']) ?_; intro w10 P10 M10))
     refine bodyPost_ret_by (Kb.results_cell_tmp Tryz.results39 _ _ n2 62 _ _ _ rfl _ rfl P10 Tryz.underlying62 rfl hiM) rfl ?_
     refine ⟨_, rfl, RdS.nil _ _ _, ?_⟩
     exact Mod.toExt ((Mod.toExt E03.out MM.out (fun k hk he => by omega)).trans E8) M10 (fun k hk he => by omega)
end Go.Proofs.YtmmhcllibpmfnaaGreatDoor
namespace Go.Proofs.YtmmhcllibpmfnaaGreatDoor
open Go.RowKit Go.Kb Go.Kb.Frame
set_option maxRecDepth 100000
/-- a message as the document reads it -/
def rM (m : Mg) : Mg :=
 if m.k = 91 then ⟨91, m.ch, m.se, m.wi, m.pk, 0, ⟨#[]⟩, ⟨#[]⟩, false, m.da⟩ else if m.k = 92 then ⟨92, m.ch, 0, 0, 0, m.co, ⟨#[]⟩, ⟨#[]⟩, false, m.da⟩ else
 if m.k = 1 then ⟨1, 0, 0, 0, 0, m.co, ⟨#[]⟩, ⟨#[]⟩, false, m.da⟩ else if m.k = 99 then ⟨99, m.ch, 0, 0, 0, 0, ⟨#[]⟩, ⟨#[]⟩, false, []⟩ else ⟨100, m.ch, 0, 0, 0, 0, ⟨#[]⟩, ⟨#[]⟩, false, []⟩
/-- a message that a server may send here -/
structure MgV (m : Mg) : Prop where
 s : MgS m
 g : GoodM m
 k : m.k = 91 ∨ m.k = 92 ∨ m.k = 1 ∨ m.k = 99 ∨ m.k = 100
theorem rdec_any (m : Mg) (vb : Value) (w : World) (hm : MgV m) (h : RI .u8 w vb (encM m)) : Calls Tryz.prog 39 #[vb] w (RDecP (rM m) w) := by
 unfold rM
 rcases hm.k with hk | hk | hk | hk | hk
 · rw [if_pos hk]; exact rdec_91 m vb w hm.s hk hm.g h
 · rw [if_neg (by omega), if_pos hk]; exact rdec_92 m vb w hm.s hk hm.g h
 · rw [if_neg (by omega), if_neg (by omega), if_pos hk]; exact rdec_1 m vb w hm.s hk hm.g h
 · rw [if_neg (by omega), if_neg (by omega), if_neg (by omega), if_pos hk]; exact rdec_99 m vb w hm.s hk hm.g h
 · rw [if_neg (by omega), if_neg (by omega), if_neg (by omega), if_neg (by omega)]; exact rdec_100 m vb w hm.s hk hm.g h
theorem feed_pks (ms : List Mg) (h : ∀ m ∈ ms, GoodM m) : feed (pks ms) = (ms.map encM, some []) := by
 induction ms with
 | nil => exact feed_short (by simp [pks])
 | cons m ms ih =>
   have h1 := ih (fun x hx => h x (List.mem_cons_of_mem _ hx))
   have h2 : pks (m :: ms) = Fr.four ((encM m).length : Int) ++ encM m ++ pks ms := rfl
   rw [h2, Fr.feed_put _ _ (encM_len (h m List.mem_cons_self)), h1]
   rfl
theorem feedR_pks (ms : List Mg) (h : ∀ m ∈ ms, GoodM m) : feedR false (pks ms) = (([], false), (ms.map encM, 0)) := feedR_some (feed_pks ms h)
theorem pkM_bs {m : Mg} (h : GoodM m) : Bs (pkM m) := by
 have h1 := encM_len h
 intro x hx
 rcases List.mem_append.1 hx with hx | hx
 · exact fours_bs _ (by omega) (by omega) x hx
 · exact encM_bs h x hx
theorem pks_bs (ms : List Mg) (h : ∀ m ∈ ms, GoodM m) : Bs (pks ms) := by
 induction ms with
 | nil => intro x hx; simp [pks] at hx
 | cons m ms ih =>
   intro x hx
   rcases List.mem_append.1 (show x ∈ pkM m ++ pks ms from hx) with hx | hx
   · exact pkM_bs (h m List.mem_cons_self) x hx
   · exact ih (fun y hy => h y (List.mem_cons_of_mem _ hy)) x hx
def ReadMP (ms : List Mg) (w : World) (e : Ending) (w' : World) : Prop := ∃ u, e = .returned (.tuple #[u, .bool true]) ∧ OwnS MgR 62 w.heap.size (fun k => w.heap.size ≤ k) w' u (ms.map rM) ∧ Ext w w'
set_option maxHeartbeats 4000000 in
theorem read_any (ms : List Mg) (v : Value) (w : World) (h : RI .u8 w v (pks ms)) (hm : ∀ m ∈ ms, MgV m) (hn : ms.length ≤ 1000) : Calls Tryz.prog 15 #[v] w (ReadMP ms w) := by
 have hiM : (Tryz.prog.info? 62).map (·.size) = some 10 := by kernel_rfl
 have hg : ∀ m ∈ ms, GoodM m := fun m hx => (hm m hx).g
 have hpl : (pks ms).length ≤ 40000000 := by
   have h9 := pks_len ms hg
   omega
 have HFD := Lib.hid (Fr.rfeed_any (.slice none 0 0) v false [] (pks ms) w (RdN.nil _ _) h (fun x hx => by simp at hx) (pks_bs ms hg) (by simp) hpl)
 rw [List.nil_append, feedR_pks ms hg] at HFD
 have HM := Lib.hid hm
 obtain ⟨n, hnn⟩ : ∃ n, ms.length = n := ⟨_, rfl⟩
 have HN := Lib.hid hnn
 rw [hnn] at hn
 clear h hm hg hpl hnn
 go_enter Tryz.func15, Tryz.ntmps15
 go_wp2_with fail
 refine (HFD.out).mono ?_
 rintro e w2 ⟨rv, lv, rfl, hL, hR, -, E2⟩
 obtain ⟨Ar, cr, rfl, -, -⟩ := hR.shape
 obtain ⟨vs, hvl, hvr, hve⟩ := hL
 obtain ⟨Al, cl, rfl, -, -⟩ := hvr.shape
 have hnl : (ms.map encM).length = n := by rw [List.length_map]; exact HN.out
 rw [hnl] at hvl hvr ⊢
 simp only [List.length_nil]
 have HVR := Lib.hid hvr
 have HVE := Lib.hid hve
 have E02 := Lib.hid E2
 clear HFD hR hvr hve hnl
 go_upto_region 5 with fail
 obtain ⟨w3, hw3⟩ : ∃ w3, w3 = w2.alloc (.cells #[.slice Ar 0 cr, .bool false] 135) := ⟨_, rfl⟩
 have E3 : Ext w2 w3 := by rw [hw3]; exact (Ext.refl _).alloc _
 rw [← hw3]
 clear hw3
 have hE3 := Lib.hid (E02.out.trans E3)
 go_wp2
 go_loopw [7, 29] (fun s i wr => ∃ j : Nat, j ≤ n ∧ i = .int .i64 j ∧ Hid (OwnS MgR 62 w2.heap.size (fun k => w2.heap.size ≤ k) wr s ((ms.map rM).take j)) ∧ Hid (Ext w2 wr)) (fun _ i _ => n - (intOf i).toNat)
 case atStart => exact ⟨0, Nat.zero_le _, rfl, Lib.hid (OwnS.nil _ _ _ _ _), Lib.hid E3⟩
 case round =>
   obtain ⟨j, hj, rfl, HO, hE⟩ := hrel
   by_cases hjn : j < n
   · obtain ⟨x, hx⟩ : ∃ x, vs[j]? = some x := ⟨_, List.getElem?_eq_getElem (by rw [hvl]; exact hjn)⟩
     obtain ⟨m, hmj⟩ : ∃ m, ms[j]? = some m := ⟨_, List.getElem?_eq_getElem (by rw [HN.out]; exact hjn)⟩
     have hX := RdN.ext (HVE.out j x (encM m) hx (by rw [List.getElem?_map, hmj]; rfl)) hE.out
     have HDE := Lib.hid (rdec_any m x wr (HM.out m (List.mem_of_getElem? hmj)) hX)
     unfold RDecP at HDE
     obtain ⟨b9, off, c9, hv9, -, -, hcl⟩ := (HVR.out.ext hE.out).form (by omega)
     simp only [Value.slice.injEq] at hv9
     obtain ⟨rfl, -, rfl⟩ := hv9
     have kx := hcl j x hx
     have HMJ := Lib.hid (show (ms.map rM)[j]? = some (rM m) by rw [List.getElem?_map, hmj]; rfl)
     obtain ⟨Ao, co, rfl, -, -⟩ := HO.out.shape
     have htk : ((ms.map rM).take j).length = j := by rw [List.length_take, List.length_map, HN.out]; omega
     rw [htk] at HO ⊢
     have hz2 := E02.out.size
     have hzr := hE.out.size
     obtain ⟨rm, hrm⟩ : ∃ rm, rM m = rm := ⟨_, rfl⟩
     rw [hrm] at HDE HMJ
     clear hcl hX hx hmj hrm
     go_wp2_with fail
     refine (HDE.out).mono ?_
     rintro e w8 ⟨vd, rfl, hvd, E8⟩
     obtain ⟨Ad, cd, rfl, -, -⟩ := hvd.shape
     go_upto_region 11 with fail
     obtain ⟨W9, hW9⟩ : ∃ W9, W9 = w8.alloc (.cells (mgA rm (.slice Ad rm.da.length cd)) 62) := ⟨_, rfl⟩
     have E9 : Ext w8 W9 := by rw [hW9]; exact (Ext.refl _).alloc _
     have P9 := Lib.hid (show Blk W9 w8.heap.size 62 (mgA rm (.slice Ad rm.da.length cd)) by rw [hW9]; exact Blk.new w8 _ _)
     rw [← hW9]
     have HO9 := Lib.hid (HO.out.ext (E8.trans E9))
     have hoR := Lib.hid HO.out.row
     have hE9 := Lib.hid ((hE.out.trans E8).trans E9)
     have HD9 := Lib.hid (hvd.ext E9)
     have hz9 := hE9.out.size
     clear hW9 HO hE hvd E8 E9 HDE
     go_wp2_with (first
       | (refine wpList_load_row rfl 62 _ rfl _ rfl 62 _ _ _ P9.out Tryz.underlying62 rfl hiM ?_)
       | (at_builtin; refine wpList_app (e := MgR) (base := w2.heap.size) (B := fun k => w2.heap.size ≤ k) (A := fun k => wr.heap.size ≤ k) rfl (.tmp 40) (.tmp 42) rfl Tryz.underlying57 info_msg rfl (HO9.out.alloc _) rfl (RdY.singleB (e := MgR) (cs := (mgA rm (.slice Ad rm.da.length cd)).toList) (d := rm) ⟨.slice Ad rm.da.length cd, rfl, HD9.out.alloc _⟩ (Blk.new _ _ _)) rfl (fun k _ hk => ⟨by omega, fun he => by have := (hoR.out k he).2; omega⟩) (N := j + 1) (by rw [htk]; rfl) (by unfold maxLen; omega) (by omega) (by simp; omega) ?_; intro A9 c9 w9 o9 M9 _))
     have M99 := (Mod.of_ext (S := fun k => (Value.slice Ao j co).ownBlock = some k) ((Ext.refl W9).alloc (.cells (mgA rm (.slice Ad rm.da.length cd)) 62))).trans M9
     refine ⟨⟨j + 1, by omega, by go_num, Lib.hid ?_, Lib.hid (Mod.toExt hE9.out M99 (fun k hk he => by have := (hoR.out k he).1; omega))⟩, by simp [intOf]; omega⟩
     rw [List.take_add_one, HMJ.out]
     exact o9
   · obtain rfl : j = n := by omega
     rw [List.take_of_length_le (by rw [List.length_map, HN.out]; exact Nat.le_refl _)] at HO
     go_wp2
     go_ret2
     exact ⟨_, rfl, (HO.out.lower E02.out.size).mono (fun k _ h => by have := E02.out.size; omega), E02.out.trans hE.out⟩
end Go.Proofs.YtmmhcllibpmfnaaGreatDoor
namespace Go.Kb.Bits
open Go.RowKit Go.Kb
def pw (op : Int) : Int := 2 ^ op.toNat
theorem pw_bd {op : Int} (h : 0 ≤ op ∧ op ≤ 63) : 1 ≤ pw op ∧ pw op ≤ 9223372036854775808 := by
 unfold pw
 have h1 : 2 ^ op.toNat ≤ 2 ^ 63 := Nat.pow_le_pow_right (by decide) (by omega)
 have h2 : 0 < 2 ^ op.toNat := Nat.two_pow_pos _
 have h3 : (2 : Int) ^ op.toNat = ((2 ^ op.toNat : Nat) : Int) := by simp
 rw [h3]
 omega
theorem or_and_nat : ∀ (n x y : Nat), x < 2 ^ n → (x ||| y) + (x &&& y) = x + y := by
 intro n
 induction n with
 | zero => intro x y h; obtain rfl : x = 0 := by omega
           simp
 | succ n ih =>
   intro x y h
   have h1 := ih (x / 2) (y / 2) (by rw [Nat.pow_succ] at h; omega)
   have h2 := Nat.or_div_two (a := x) (b := y)
   have h3 := Nat.and_div_two (a := x) (b := y)
   have h4 := Nat.or_mod_two_eq_one (a := x) (b := y)
   have h5 := Nat.and_mod_two_eq_one (a := x) (b := y)
   omega
theorem andNot_nat : ∀ (n x y : Nat), x < 2 ^ n → y < 2 ^ n → (x &&& (2 ^ n - 1 - y)) + (x &&& y) = x := by
 intro n
 induction n with
 | zero => intro x y h h2; obtain rfl : x = 0 := by omega
           simp
 | succ n ih =>
   intro x y h hy
   rw [Nat.pow_succ] at *
   have h1 := ih (x / 2) (y / 2) (by omega) (by omega)
   have h0 : (2 ^ n * 2 - 1 - y) / 2 = 2 ^ n - 1 - y / 2 := by omega
   have h2 := Nat.and_div_two (a := x) (b := 2 ^ n * 2 - 1 - y)
   have h3 := Nat.and_div_two (a := x) (b := y)
   have h4 := Nat.and_mod_two_eq_one (a := x) (b := 2 ^ n * 2 - 1 - y)
   have h5 := Nat.and_mod_two_eq_one (a := x) (b := y)
   rw [h0] at h2
   omega
def onL (f op : Int) : Bool := decide (f / pw op % 2 = 1)
theorem pw_nat {op : Int} : pw op = ((2 ^ op.toNat : Nat) : Int) := by simp [pw]
theorem and_pw {f op : Int} (hf : 0 ≤ f ∧ f < 18446744073709551616) (ho : 0 ≤ op ∧ op ≤ 63) : bits .and .u64 f (pw op) = if onL f op then pw op else 0 := by
 have h := pw_bd ho
 rw [u64_and f (pw op) hf.1 hf.2 (by omega) (by omega)]
 obtain ⟨X, rfl⟩ := Int.eq_ofNat_of_zero_le hf.1
 unfold onL
 rw [pw_nat, Int.toNat_natCast, Int.toNat_natCast, nat_bit]
 generalize hP : 2 ^ op.toNat = P
 have e : ((X : Int) / (P : Int) % 2) = ((X / P % 2 : Nat) : Int) := by simp
 rw [e]
 have h2 : X / P % 2 = 0 ∨ X / P % 2 = 1 := by omega
 rcases h2 with h2 | h2 <;> simp [h2]
theorem or_pw {f op : Int} (hf : 0 ≤ f ∧ f < 18446744073709551616) (ho : 0 ≤ op ∧ op ≤ 63) : bits .or .u64 f (pw op) = if onL f op then f else f + pw op := by
 have h := pw_bd ho
 have ha := and_pw hf ho
 rw [u64_and f (pw op) hf.1 hf.2 (by omega) (by omega)] at ha
 rw [u64_or f (pw op) hf.1 hf.2 (by omega) (by omega)]
 have h1 := or_and_nat 64 f.toNat (pw op).toNat (by omega)
 by_cases hx : onL f op = true
 · rw [if_pos hx] at ha ⊢; omega
 · rw [if_neg hx] at ha ⊢; omega
theorem andNot_pw {f op : Int} (hf : 0 ≤ f ∧ f < 18446744073709551616) (ho : 0 ≤ op ∧ op ≤ 63) : bits .andNot .u64 f (pw op) = if onL f op then f - pw op else f := by
 have h := pw_bd ho
 have ha := and_pw hf ho
 rw [u64_and f (pw op) hf.1 hf.2 (by omega) (by omega)] at ha
 rw [u64_andNot f (pw op) hf.1 hf.2 (by omega) (by omega)]
 have h1 := andNot_nat 64 f.toNat (pw op).toNat (by omega) (by omega)
 have h2 : (2 : Nat) ^ 64 - 1 = 18446744073709551615 := by decide
 rw [h2] at h1
 by_cases hx : onL f op = true
 · rw [if_pos hx] at ha ⊢; omega
 · rw [if_neg hx] at ha ⊢; omega
def fset (f op : Int) (on : Bool) : Int := if on then (if onL f op then f else f + pw op) else if onL f op then f - pw op else f
theorem fset_bd {f op : Int} (on : Bool) (hf : 0 ≤ f ∧ f < 18446744073709551616) (ho : 0 ≤ op ∧ op ≤ 63) : 0 ≤ fset f op on ∧ fset f op on < 18446744073709551616 := by
 have h := pw_bd ho
 have h1 := or_pw hf ho
 have h2 := andNot_pw hf ho
 have w1 : 0 ≤ bits .or .u64 f (pw op) ∧ bits .or .u64 f (pw op) < 18446744073709551616 := by
   have : bits .or .u64 f (pw op) = IntKind.u64.wrap (bits .or .u64 f (pw op)) := by
     rw [u64_or f (pw op) hf.1 hf.2 (by omega) (by omega), IntKind.wrap_u64]
     have := Nat.or_lt_two_pow (x := f.toNat) (y := (pw op).toNat) (n := 64) (by omega) (by omega)
     omega
   rw [this, IntKind.wrap_u64]
   omega
 have w2 : 0 ≤ bits .andNot .u64 f (pw op) ∧ bits .andNot .u64 f (pw op) < 18446744073709551616 := by
   rw [u64_andNot f (pw op) hf.1 hf.2 (by omega) (by omega)]
   have := Nat.and_le_left (n := f.toNat) (m := 18446744073709551615 - (pw op).toNat)
   omega
 unfold fset
 cases on
 · rw [← h2] at *
   simpa using w2
 · rw [← h1] at *
   simpa using w1
end Go.Kb.Bits
namespace Go.Proofs.YtmmhcllibpmfnaaGreatDoor.Sg
open Go.RowKit Go.Kb Go.Kb.Bits
def namesB : List ByteArray := [⟨#[]⟩, ⟨#[72, 85, 80]⟩, ⟨#[73, 78, 84]⟩, ⟨#[81, 85, 73, 84]⟩, ⟨#[73, 76, 76]⟩, ⟨#[84, 82, 65, 80]⟩, ⟨#[65, 66, 82, 84]⟩, ⟨#[66, 85, 83]⟩, ⟨#[70, 80, 69]⟩, ⟨#[75, 73, 76, 76]⟩, ⟨#[85, 83, 82, 49]⟩, ⟨#[83, 69, 71, 86]⟩, ⟨#[85, 83, 82, 50]⟩, ⟨#[80, 73, 80, 69]⟩, ⟨#[65, 76, 82, 77]⟩, ⟨#[84, 69, 82, 77]⟩, ⟨#[]⟩, ⟨#[67, 72, 76, 68]⟩, ⟨#[67, 79, 78, 84]⟩, ⟨#[83, 84, 79, 80]⟩, ⟨#[84, 83, 84, 80]⟩, ⟨#[84, 84, 73, 78]⟩, ⟨#[84, 84, 79, 85]⟩, ⟨#[]⟩, ⟨#[]⟩, ⟨#[]⟩, ⟨#[]⟩, ⟨#[]⟩, ⟨#[87, 73, 78, 67, 72]⟩]
def nameB (k : Nat) : ByteArray := namesB.getD k ⟨#[]⟩
def namesA : Array Value := (namesB.map Value.string).toArray
def isL (sig : Int) : Bool := decide ((1 ≤ sig ∧ sig ≤ 15) ∨ (17 ≤ sig ∧ sig ≤ 22) ∨ sig = 28)
theorem isL_bd {sig : Int} (h : isL sig = true) : 1 ≤ sig ∧ sig ≤ 28 := by
 simp [isL] at h; omega
set_option maxRecDepth 100000 in
theorem index_names (k : Nat) (hk : k < 29) : ∀ w, (Instr.index 411 (.agg namesA) (.int .i64 (k : Int))).run Tryz.prog w = .ok (.string (nameB k)) w := by
 rcases k with _ | _ | _ | _ | _ | _ | _ | _ | _ | _ | _ | _ | _ | _ | _ | _ | _ | _ | _ | _ | _ | _ | _ | _ | _ | _ | _ | _ | _ | k
 all_goals first | exact fun w => by kernel_rfl | omega
theorem name_is (k : Nat) (hk : k < 29) : (nameB k).toList.isEmpty = !isL (k : Int) := by
 have : ∀ k : Nat, k < 29 → (nameB k).toList.isEmpty = !isL (k : Int) := by decide +kernel
 exact this k hk
theorem names_info : (Tryz.prog.info? 411).map (·.size) = some namesA.size := by kernel_rfl
theorem names_one : namesA.all (·.oneCell') = true := by kernel_rfl
theorem names_size : namesA.size = 29 := by kernel_rfl
set_option maxHeartbeats 800000 in
theorem names_any (w : World) : Calls Tryz.prog 332 #[] w fun e w' => e = .returned (.agg namesA) ∧ Ext w w' := by
 have hi := names_info
 have h1 := names_one
 have hz := names_size
 go_enter Tryz.func332, Tryz.ntmps332
 go_wp2_with (first
   | (refine wpList_build_eq rfl 411 _ rfl (L := namesA) (by kernel_rfl) ?_)
   | (refine wpList_store_A rfl 411 _ _ rfl w.heap.size _ rfl rfl 411 _ (Blk.at_ _ _ rfl) hi (by rw [hz]; rfl) h1 ?_; intro w2 H2 E2; have E2 : Ext w w2 := E2 w.heap.size w zX (Nat.le_refl _)))
 refine bodyPost_ret_by (results_cell_row Tryz.results332 _ _ w.heap.size 411 _ _ _ rfl H2 Tryz.underlying411 rfl hi) rfl ?_
 exact ⟨rfl, E2⟩
set_option maxHeartbeats 800000 in
theorem is_any (sig : Int) (w : World) : Calls Tryz.prog 296 #[.int .i64 sig] w fun e w' => e = .returned (.bool (isL sig)) ∧ Ext w w' := by
 by_cases h0 : 0 < sig
 · by_cases h28 : sig ≤ 28
   · obtain ⟨k, rfl⟩ := Int.eq_ofNat_of_zero_le (show 0 ≤ sig by omega)
     have hix := index_names k (by omega)
     have hnm := name_is k (by omega)
     generalize isL (k : Int) = r at *
     generalize nameB k = b at *
     go_enter Tryz.func296, Tryz.ntmps296
     have hN := fun w' => names_any w'
     generalize namesA = A at *
     go_wp2_with ((go_at_call 332; (with_reducible refine (hN _).mono ?_); rintro e w1 ⟨rfl, E1⟩))
     go_ret
     exact ⟨by simp, E1⟩
   · have hr : isL sig = false := by simp [isL]; omega
     rw [hr]
     go_enter Tryz.func296, Tryz.ntmps296
     go_wp2
     go_ret
     exact ⟨rfl, zX⟩
 · have hr : isL sig = false := by simp [isL]; omega
   rw [hr]
   go_enter Tryz.func296, Tryz.ntmps296
   go_wp2
   go_ret
   exact ⟨rfl, zX⟩
set_option maxHeartbeats 800000 in
theorem name_any (sig : Int) (w : World) : Calls Tryz.prog 295 #[.int .i64 sig] w fun e w' => e = .returned (.tuple #[.string (if isL sig then nameB sig.toNat else ⟨#[]⟩), .bool (isL sig)]) ∧ Ext w w' := by
 have hI := Lib.hid fun w' => is_any sig w'
 cases hs : isL sig
 · rw [hs] at hI
   go_enter Tryz.func295, Tryz.ntmps295
   go_wp2_with ((go_at_call 296; (with_reducible refine (hI.out _).mono ?_); rintro e w1 ⟨rfl, E1⟩))
   go_ret2
   exact ⟨rfl, E1⟩
 · rw [hs] at hI
   have hb := isL_bd hs
   obtain ⟨k, rfl⟩ := Int.eq_ofNat_of_zero_le (show 0 ≤ sig by omega)
   have hix := index_names k (by omega)
   simp only [Int.toNat_natCast]
   generalize nameB k = b at *
   have hN := fun w' => names_any w'
   generalize namesA = A at *
   go_enter Tryz.func295, Tryz.ntmps295
   go_wp2_with (first | ((go_at_call 296; (with_reducible refine (hI.out _).mono ?_); rintro e w1 ⟨rfl, E1⟩)) | ((go_at_call 332; (with_reducible refine (hN _).mono ?_); rintro e w2 ⟨rfl, E2⟩)))
   go_ret2
   exact ⟨rfl, zX⟩
end Go.Proofs.YtmmhcllibpmfnaaGreatDoor.Sg
namespace Go.Proofs.YtmmhcllibpmfnaaGreatDoor.Sg
open Go.RowKit Go.Kb Go.Kb.Bits
set_option maxHeartbeats 800000 in
theorem sure_any (sig : Int) (w : World) : Calls Tryz.prog 297 #[.int .i64 sig] w fun e w' => e = .returned (.bool (sig == 9 || sig == 19)) ∧ Ext w w' := by
 have hs : (sig == 9 || sig == 19) = (decide (sig = 9) || decide (sig = 19)) := by rw [Bool.eq_iff_iff]; simp
 rw [hs]
 by_cases h9 : sig = 9
 · subst h9
   go_enter Tryz.func297, Tryz.ntmps297
   go_wp2
   go_ret
   exact ⟨rfl, zX⟩
 · by_cases h19 : sig = 19
   · subst h19
     go_enter Tryz.func297, Tryz.ntmps297
     go_wp2
     go_ret
     exact ⟨rfl, zX⟩
   · rw [decide_eq_false h9, decide_eq_false h19]
     have b9 : (sig == 9) = false := by simpa using h9
     have b19 : (sig == 19) = false := by simpa using h19
     clear h9 h19 hs
     go_enter Tryz.func297, Tryz.ntmps297
     go_wp2
     go_ret
     exact ⟨rfl, zX⟩
end Go.Proofs.YtmmhcllibpmfnaaGreatDoor.Sg
namespace Go.Proofs.YtmmhcllibpmfnaaGreatDoor.Sg
open Go.RowKit Go.Kb Go.Kb.Bits
def arrV (a : List Int) : Array Value := (a.map (Value.int .i64)).toArray
def zero32 : List Int := List.replicate 32 0
def badAct (sig how : Int) : Bool := !isL sig || (sig == 9 || sig == 19) || decide (how < 0) || decide (2 < how)
def actL (a : List Int) (sig how : Int) : List Int × Int := if badAct sig how then (zero32, 2) else (a.set sig.toNat how, 0)
theorem arrV_size {a : List Int} (h : a.length = 32) : (arrV a).size = 32 := by simp [arrV, h]
theorem arrV_one (a : List Int) : (arrV a).all (·.oneCell') = true := by
 simp only [arrV, List.all_toArray, List.all_map, List.all_eq_true]
 intro x _
 rfl
theorem arrV_set (a : List Int) (k : Nat) (x : Int) : (arrV a).setIfInBounds k (.int .i64 x) = arrV (a.set k x) := by
 apply Array.ext'
 simp [arrV, List.map_set]
theorem arr_info : (Tryz.prog.info? 232).map (·.size) = some 32 := by kernel_rfl
set_option maxRecDepth 100000 in
set_option maxHeartbeats 800000 in
theorem act_any (a : List Int) (sig how : Int) (w : World) (ha : a.length = 32) : Calls Tryz.prog 258 #[.agg (arrV a), .int .i64 sig, .int .i64 how] w fun e w' => e = .returned (.tuple #[.agg (arrV (actL a sig how).1), .int .i64 (actL a sig how).2]) ∧ Ext w w' := by
 have hz := arrV_size ha
 have h1 := Lib.hid (arrV_one a)
 have HI := Lib.hid fun w' => is_any sig w'
 have HS := Lib.hid fun w' => sure_any sig w'
 have hact : actL a sig how = if badAct sig how then (zero32, 2) else (a.set sig.toNat how, 0) := rfl
 have hbad : badAct sig how = (!isL sig || (sig == 9 || sig == 19) || decide (how < 0) || decide (2 < how)) := rfl
 have hset := arrV_set a sig.toNat how
 have h1s := Lib.hid (arrV_one (a.set sig.toNat how))
 have hzs := arrV_size (a := a.set sig.toNat how) (by rw [List.length_set]; exact ha)
 have hbz : Tryz.prog.built 232 [] = some (arrV zero32) := by kernel_rfl
 have h1z := Lib.hid (arrV_one zero32)
 have hzz := arrV_size (a := zero32) rfl
 generalize actL a sig how = al at *
 generalize badAct sig how = bad at *
 generalize (sig == 9 || sig == 19) = su at *
 have hbd : isL sig = true → 1 ≤ sig ∧ sig ≤ 28 := isL_bd
 generalize isL sig = il at *
 generalize hcz : arrV zero32 = cz at *
 generalize hcs2 : arrV (a.set sig.toNat how) = cs2 at *
 generalize arrV a = cs at *
 have HCZ := Lib.hid hcz
 have HC2 := Lib.hid hcs2
 have HST := Lib.hid hset
 have hi : (Tryz.prog.info? 232).map (·.size) = some cs.size := by rw [hz]; exact arr_info
 have hiz : (Tryz.prog.info? 232).map (·.size) = some cz.size := by rw [hzz]; exact arr_info
 have hi2 : (Tryz.prog.info? 232).map (·.size) = some cs2.size := by rw [hzs]; exact arr_info
 have hT := Lib.hid ((Blk.new w 232 cs).alloc (.cells #[.int .i64 0, .int .i64 0, .int .i64 0, .int .i64 0, .int .i64 0, .int .i64 0, .int .i64 0, .int .i64 0, .int .i64 0, .int .i64 0, .int .i64 0, .int .i64 0, .int .i64 0, .int .i64 0, .int .i64 0, .int .i64 0, .int .i64 0, .int .i64 0, .int .i64 0, .int .i64 0, .int .i64 0, .int .i64 0, .int .i64 0, .int .i64 0, .int .i64 0, .int .i64 0, .int .i64 0, .int .i64 0, .int .i64 0, .int .i64 0, .int .i64 0, .int .i64 0] 232))
 have hR := Lib.hid (show Blk ((w.alloc (.cells cs 232)).alloc (.cells #[.int .i64 0, .int .i64 0, .int .i64 0, .int .i64 0, .int .i64 0, .int .i64 0, .int .i64 0, .int .i64 0, .int .i64 0, .int .i64 0, .int .i64 0, .int .i64 0, .int .i64 0, .int .i64 0, .int .i64 0, .int .i64 0, .int .i64 0, .int .i64 0, .int .i64 0, .int .i64 0, .int .i64 0, .int .i64 0, .int .i64 0, .int .i64 0, .int .i64 0, .int .i64 0, .int .i64 0, .int .i64 0, .int .i64 0, .int .i64 0, .int .i64 0, .int .i64 0] 232)) (w.heap.size + 1) 232 #[.int .i64 0, .int .i64 0, .int .i64 0, .int .i64 0, .int .i64 0, .int .i64 0, .int .i64 0, .int .i64 0, .int .i64 0, .int .i64 0, .int .i64 0, .int .i64 0, .int .i64 0, .int .i64 0, .int .i64 0, .int .i64 0, .int .i64 0, .int .i64 0, .int .i64 0, .int .i64 0, .int .i64 0, .int .i64 0, .int .i64 0, .int .i64 0, .int .i64 0, .int .i64 0, .int .i64 0, .int .i64 0, .int .i64 0, .int .i64 0, .int .i64 0, .int .i64 0] from Blk.at_ _ _ (by simp))
 have hz32 : (#[.int .i64 0, .int .i64 0, .int .i64 0, .int .i64 0, .int .i64 0, .int .i64 0, .int .i64 0, .int .i64 0, .int .i64 0, .int .i64 0, .int .i64 0, .int .i64 0, .int .i64 0, .int .i64 0, .int .i64 0, .int .i64 0, .int .i64 0, .int .i64 0, .int .i64 0, .int .i64 0, .int .i64 0, .int .i64 0, .int .i64 0, .int .i64 0, .int .i64 0, .int .i64 0, .int .i64 0, .int .i64 0, .int .i64 0, .int .i64 0, .int .i64 0, .int .i64 0] : Array Value).size = cz.size := by rw [hzz]; rfl
 have hz322 : (#[.int .i64 0, .int .i64 0, .int .i64 0, .int .i64 0, .int .i64 0, .int .i64 0, .int .i64 0, .int .i64 0, .int .i64 0, .int .i64 0, .int .i64 0, .int .i64 0, .int .i64 0, .int .i64 0, .int .i64 0, .int .i64 0, .int .i64 0, .int .i64 0, .int .i64 0, .int .i64 0, .int .i64 0, .int .i64 0, .int .i64 0, .int .i64 0, .int .i64 0, .int .i64 0, .int .i64 0, .int .i64 0, .int .i64 0, .int .i64 0, .int .i64 0, .int .i64 0] : Array Value).size = cs2.size := by rw [hzs]; rfl
 have HZ := Lib.hid hz32
 have HZ2 := Lib.hid hz322
 clear hcz hcs2 hz32 hz322 hset ha
 cases il
 · have hb : bad = true := by rw [hbad]; rfl
   rw [hb, if_pos rfl] at hact
   have HAL := Lib.hid hact
   clear hact hbad hb hbd
   go_enter Tryz.func258, Tryz.ntmps258
   go_wp2_with (first
     | ((go_at_call 296; (with_reducible refine (HI.out _).mono ?_); rintro e w1 ⟨rfl, E1⟩); have hT := Lib.hid (Blk.ext hT.out E1); have hR := Lib.hid (Blk.ext hR.out E1); have Ew : Ext w w1 := zX; have wz : ∃ wz, wz = w1 := ⟨_, rfl⟩)
     | ((go_at_call 297; (with_reducible refine (HS.out _).mono ?_); rintro e w2 ⟨rfl, E2⟩); have hT := Lib.hid (Blk.ext hT.out E2); have hR := Lib.hid (Blk.ext hR.out E2); have Ew : Ext w w2 := zX)
     | (refine wpList_build_eq rfl 232 _ rfl (L := cz) (by simp [go_sem]; exact hbz) ?_)
     | (refine wpList_store_A rfl 232 _ _ rfl (w.heap.size + 1) _ rfl rfl 232 _ hR.out hiz HZ.out h1z.out ?_; intro w4 H4 E4; have E4 : Ext w w4 := E4 w.heap.size w Ew (by omega)))
   refine bodyPost_ret_by (Go.Kb.results_cell_tmp Tryz.results258 _ _ (w.heap.size + 1) 232 _ _ _ rfl _ rfl H4 Tryz.underlying232 rfl hiz) rfl ?_
   exact ⟨by rw [HAL.out, HCZ.out]; rfl, E4⟩
 · obtain ⟨hs1, hs2⟩ := hbd rfl
   cases su
   · by_cases h0 : how < 0
     · have hb : bad = true := by rw [hbad]; simp [h0]
       rw [hb, if_pos rfl] at hact
       have HAL := Lib.hid hact
       clear hact hbad hb hbd
       go_enter Tryz.func258, Tryz.ntmps258
       go_wp2_with (first
         | ((go_at_call 296; (with_reducible refine (HI.out _).mono ?_); rintro e w1 ⟨rfl, E1⟩); have hT := Lib.hid (Blk.ext hT.out E1); have hR := Lib.hid (Blk.ext hR.out E1); have Ew : Ext w w1 := zX; have wz : ∃ wz, wz = w1 := ⟨_, rfl⟩)
         | ((go_at_call 297; (with_reducible refine (HS.out _).mono ?_); rintro e w2 ⟨rfl, E2⟩); have hT := Lib.hid (Blk.ext hT.out E2); have hR := Lib.hid (Blk.ext hR.out E2); have Ew : Ext w w2 := zX)
         | (refine wpList_build_eq rfl 232 _ rfl (L := cz) (by simp [go_sem]; exact hbz) ?_)
         | (refine wpList_store_A rfl 232 _ _ rfl (w.heap.size + 1) _ rfl rfl 232 _ hR.out hiz HZ.out h1z.out ?_; intro w4 H4 E4; have E4 : Ext w w4 := E4 w.heap.size w Ew (by omega)))
       refine bodyPost_ret_by (Go.Kb.results_cell_tmp Tryz.results258 _ _ (w.heap.size + 1) 232 _ _ _ rfl _ rfl H4 Tryz.underlying232 rfl hiz) rfl ?_
       exact ⟨by rw [HAL.out, HCZ.out]; rfl, E4⟩
     · by_cases h2 : 2 < how
       · have hb : bad = true := by rw [hbad]; simp [h2]
         rw [hb, if_pos rfl] at hact
         have HAL := Lib.hid hact
         clear hact hbad hb hbd
         go_enter Tryz.func258, Tryz.ntmps258
         go_wp2_with (first
           | ((go_at_call 296; (with_reducible refine (HI.out _).mono ?_); rintro e w1 ⟨rfl, E1⟩); have hT := Lib.hid (Blk.ext hT.out E1); have hR := Lib.hid (Blk.ext hR.out E1); have Ew : Ext w w1 := zX; have wz : ∃ wz, wz = w1 := ⟨_, rfl⟩)
           | ((go_at_call 297; (with_reducible refine (HS.out _).mono ?_); rintro e w2 ⟨rfl, E2⟩); have hT := Lib.hid (Blk.ext hT.out E2); have hR := Lib.hid (Blk.ext hR.out E2); have Ew : Ext w w2 := zX)
           | (refine wpList_build_eq rfl 232 _ rfl (L := cz) (by simp [go_sem]; exact hbz) ?_)
           | (refine wpList_store_A rfl 232 _ _ rfl (w.heap.size + 1) _ rfl rfl 232 _ hR.out hiz HZ.out h1z.out ?_; intro w4 H4 E4; have E4 : Ext w w4 := E4 w.heap.size w Ew (by omega)))
         refine bodyPost_ret_by (Go.Kb.results_cell_tmp Tryz.results258 _ _ (w.heap.size + 1) 232 _ _ _ rfl _ rfl H4 Tryz.underlying232 rfl hiz) rfl ?_
         exact ⟨by rw [HAL.out, HCZ.out]; rfl, E4⟩
       · have hb : bad = false := by rw [hbad]; simp [h0]; omega
         rw [hb, if_neg (by decide)] at hact
         obtain ⟨k, rfl⟩ := Int.eq_ofNat_of_zero_le (show 0 ≤ sig by omega)
         simp only [Int.toNat_natCast] at HST HC2 hact
         have hks : k < cs.size := by omega
         have k1 : (k : Int) < 32 := by omega
         have k2 : (0 : Int) ≤ (k : Int) := by omega
         have HAL := Lib.hid hact
         clear hact hbad hb hbd
         go_enter Tryz.func258, Tryz.ntmps258
         go_wp2_with fail
         (with_reducible refine (HI.out _).mono ?_); rintro e w1 ⟨rfl, E1⟩
         go_wp2_with fail
         (with_reducible refine (HS.out _).mono ?_); rintro e w2 ⟨rfl, E2⟩
         have hT := Lib.hid (Blk.ext hT.out (show Ext _ w2 from Ext.trans E1 E2))
         have hR := Lib.hid (Blk.ext hR.out (show Ext _ w2 from Ext.trans E1 E2))
         have Ew2 : Ext w w2 := zX
         clear E1 E2
         go_wp2_with (first
           | (refine wpList_store_B rfl 3 _ _ rfl w.heap.size k rfl _ rfl rfl rfl 232 _ hT.out hks (by kernel_rfl) ?_; intro w3 H3 F3 E3; have H3 := Lib.hid (show Blk w3 w.heap.size 232 cs2 from by have h := H3; rw [← HST.out]; exact h); have hR3 := Lib.hid (F3 _ _ _ (by omega) hR.out); have E3 : Ext w w3 := E3 w.heap.size w Ew2 (Nat.le_refl _); clear F3)
           | (refine wpList_load_row rfl 232 _ rfl _ rfl 232 _ _ _ H3.out Tryz.underlying232 rfl hi2 ?_)
           | (refine wpList_store_A rfl 232 _ _ rfl (w.heap.size + 1) _ rfl rfl 232 _ hR3.out hi2 HZ2.out h1s.out ?_; intro w4 H4 E4; have E4 : Ext w w4 := E4 w.heap.size w E3 (by omega)))
         refine bodyPost_ret_by (Go.Kb.results_cell_tmp Tryz.results258 _ _ (w.heap.size + 1) 232 _ _ _ rfl _ rfl H4 Tryz.underlying232 rfl hi2) rfl ?_
         exact ⟨by rw [HAL.out, HC2.out]; rfl, E4⟩
   · have hb : bad = true := by rw [hbad]; simp
     rw [hb, if_pos rfl] at hact
     have HAL := Lib.hid hact
     clear hact hbad hb hbd
     go_enter Tryz.func258, Tryz.ntmps258
     go_wp2_with (first
       | ((go_at_call 296; (with_reducible refine (HI.out _).mono ?_); rintro e w1 ⟨rfl, E1⟩); have hT := Lib.hid (Blk.ext hT.out E1); have hR := Lib.hid (Blk.ext hR.out E1); have Ew : Ext w w1 := zX; have wz : ∃ wz, wz = w1 := ⟨_, rfl⟩)
       | ((go_at_call 297; (with_reducible refine (HS.out _).mono ?_); rintro e w2 ⟨rfl, E2⟩); have hT := Lib.hid (Blk.ext hT.out E2); have hR := Lib.hid (Blk.ext hR.out E2); have Ew : Ext w w2 := zX)
       | (refine wpList_build_eq rfl 232 _ rfl (L := cz) (by simp [go_sem]; exact hbz) ?_)
       | (refine wpList_store_A rfl 232 _ _ rfl (w.heap.size + 1) _ rfl rfl 232 _ hR.out hiz HZ.out h1z.out ?_; intro w4 H4 E4; have E4 : Ext w w4 := E4 w.heap.size w Ew (by omega)))
     refine bodyPost_ret_by (Go.Kb.results_cell_tmp Tryz.results258 _ _ (w.heap.size + 1) 232 _ _ _ rfl _ rfl H4 Tryz.underlying232 rfl hiz) rfl ?_
     exact ⟨by rw [HAL.out, HCZ.out]; rfl, E4⟩
end Go.Proofs.YtmmhcllibpmfnaaGreatDoor.Sg
namespace Go.Proofs.YtmmhcllibpmfnaaGreatDoor.Md
open Go.RowKit Go.Kb
set_option maxRecDepth 100000
/-- a setting: characters, flags, speeds, two numbers -/
structure Tm where
 c : List Int
 f : Int
 i : Int
 o : Int
 m : Int
 t : Int
deriving DecidableEq
def Tm.cells (t : Tm) : List Value := t.c.map (.int .u8) ++ [.int .u64 t.f, .int .u32 t.i, .int .u32 t.o, .int .i64 t.m, .int .i64 t.t]
def Tm.arr (t : Tm) : Array Value := t.cells.toArray
structure Tm.Ok (t : Tm) : Prop where
 c : t.c.length = 19
 b : ∀ x ∈ t.c, 0 ≤ x ∧ x ≤ 255
 f : 0 ≤ t.f ∧ t.f < 18446744073709551616
 i : 0 ≤ t.i ∧ t.i < 4294967296
 o : 0 ≤ t.o ∧ t.o < 4294967296
 m : -9223372036854775808 ≤ t.m ∧ t.m ≤ 9223372036854775807
 t : -9223372036854775808 ≤ t.t ∧ t.t ≤ 9223372036854775807
theorem Tm.len {t : Tm} (h : t.Ok) : t.cells.length = 24 := by simp [Tm.cells, h.c]
theorem Tm.size {t : Tm} (h : t.Ok) : t.arr.size = 24 := by simp [Tm.arr, Tm.len h]
theorem Tm.at_ {t : Tm} (h : t.Ok) {k : Nat} (hk : k < 19) : t.arr[k]? = some (.int .u8 (t.c.getD k 0)) := by
 have hc := h.c
 have h1 : t.c[k]? = some (t.c.getD k 0) := by rw [List.getD_eq_getElem?_getD, List.getElem?_eq_getElem (by omega)]; simp
 simp only [Tm.arr, Tm.cells, List.getElem?_toArray]
 rw [List.getElem?_append_left (by simp; omega), List.getElem?_map, h1]
 rfl
theorem Tm.at19 {t : Tm} (h : t.Ok) : t.arr[19]? = some (.int .u64 t.f) := by
 have hc := h.c
 simp only [Tm.arr, Tm.cells, List.getElem?_toArray]
 rw [List.getElem?_append_right (by simp; omega)]
 simp [hc]
def flagL (op : Int) : Bool := decide (30 ≤ op ∧ op ≤ 42 ∨ 50 ≤ op ∧ op ≤ 62 ∨ 70 ≤ op ∧ op ≤ 75 ∨ 90 ≤ op ∧ op ≤ 93)
def pw (op : Int) : Int := 2 ^ (op - 30).toNat
theorem pw_bd {op : Int} (h : 30 ≤ op ∧ op ≤ 93) : 1 ≤ pw op ∧ pw op ≤ 9223372036854775808 := by
 unfold pw
 have h1 : 2 ^ (op - 30).toNat ≤ 2 ^ 63 := Nat.pow_le_pow_right (by decide) (by omega)
 have h2 : 0 < 2 ^ (op - 30).toNat := Nat.two_pow_pos _
 have h3 : (2 : Int) ^ (op - 30).toNat = ((2 ^ (op - 30).toNat : Nat) : Int) := by simp
 rw [h3]
 omega
set_option maxHeartbeats 400000 in
theorem groups_any (w : World) : Calls Tryz.prog 370 #[] w fun e w' => e = .returned (.agg #[.int .i64 30, .int .i64 42, .int .i64 50, .int .i64 62, .int .i64 70, .int .i64 75, .int .i64 90, .int .i64 93]) ∧ Ext w w' := by
 go_enter Tryz.func370, Tryz.ntmps370
 go_wp2
 refine bodyPost_ret (v := .agg #[.int .i64 30, .int .i64 42, .int .i64 50, .int .i64 62, .int .i64 70, .int .i64 75, .int .i64 90, .int .i64 93]) (by simp [results, Tryz.results370, go_sem]) rfl ?_
 exact ⟨rfl, zX⟩
theorem bit_any (op : Int) (w : World) (h : 30 ≤ op ∧ op ≤ 93) : Calls Tryz.prog 334 #[.int .i64 op] w fun e w' => e = .returned (.int .u64 (pw op)) ∧ Ext w w' := by
 obtain ⟨h1, h2⟩ := h
 have h3 : IntKind.i64.wrap (op - 30) = op - 30 := IntWalk.i64_in _ (by omega)
 have h4 : min (op - 30).toNat 64 = (op - 30).toNat := by omega
 have h5 : IntKind.u64.wrap (2 ^ (op - 30).toNat) = pw op := by
   have := pw_bd ⟨h1, h2⟩
   unfold pw at *
   simp only [IntKind.wrap, IntKind.bits, IntKind.signed]
   simp
   omega
 go_enter Tryz.func334, Tryz.ntmps334
 go_wp2
 go_ret
 exact ⟨by simp, zX⟩
theorem isFlag_any (op : Int) (w : World) : Calls Tryz.prog 333 #[.int .i64 op] w fun e w' => e = .returned (.bool (flagL op)) ∧ Ext w w' := by
 have i0 : ∀ w, (Instr.index 445 (.agg #[.int .i64 30, .int .i64 42, .int .i64 50, .int .i64 62, .int .i64 70, .int .i64 75, .int .i64 90, .int .i64 93]) (.int .i64 0)).run Tryz.prog w = .ok (.agg #[.int .i64 30, .int .i64 42]) w := fun _ => by kernel_rfl
 have i1 : ∀ w, (Instr.index 445 (.agg #[.int .i64 30, .int .i64 42, .int .i64 50, .int .i64 62, .int .i64 70, .int .i64 75, .int .i64 90, .int .i64 93]) (.int .i64 1)).run Tryz.prog w = .ok (.agg #[.int .i64 50, .int .i64 62]) w := fun _ => by kernel_rfl
 have i2 : ∀ w, (Instr.index 445 (.agg #[.int .i64 30, .int .i64 42, .int .i64 50, .int .i64 62, .int .i64 70, .int .i64 75, .int .i64 90, .int .i64 93]) (.int .i64 2)).run Tryz.prog w = .ok (.agg #[.int .i64 70, .int .i64 75]) w := fun _ => by kernel_rfl
 have i3 : ∀ w, (Instr.index 445 (.agg #[.int .i64 30, .int .i64 42, .int .i64 50, .int .i64 62, .int .i64 70, .int .i64 75, .int .i64 90, .int .i64 93]) (.int .i64 3)).run Tryz.prog w = .ok (.agg #[.int .i64 90, .int .i64 93]) w := fun _ => by kernel_rfl
 go_enter Tryz.func333, Tryz.ntmps333
 go_wp2_with ((go_at_call 370; refine (groups_any _).mono ?_; rintro e w1 ⟨rfl, E1⟩))
 go_loopw [4, 6] (fun _ i wr => ∃ k : Int, 0 ≤ k ∧ k ≤ 4 ∧ i = .int .i64 k ∧ (0 < k → ¬ (30 ≤ op ∧ op ≤ 42)) ∧ (1 < k → ¬ (50 ≤ op ∧ op ≤ 62)) ∧ (2 < k → ¬ (70 ≤ op ∧ op ≤ 75)) ∧ (3 < k → ¬ (90 ≤ op ∧ op ≤ 93)) ∧ Ext w wr) (fun _ i _ => (4 - intOf i).toNat)
 case atStart => exact ⟨0, by omega, by omega, rfl, by omega, by omega, by omega, by omega, E1⟩
 case round =>
   obtain ⟨k, hk0, hk, rfl, g0, g1, g2, g3, hE⟩ := hrel
   have hk' : k = 0 ∨ k = 1 ∨ k = 2 ∨ k = 3 ∨ k = 4 := by omega
   rcases hk' with rfl | rfl | rfl | rfl | rfl
   all_goals go_wp2
   all_goals first
     | (go_ret
        refine ⟨?_, zX⟩
        show Ending.returned (Value.bool _) = _
        congr 2
        rw [Bool.eq_iff_iff]
        simp [flagL]
        omega)
     | (go_roundw
        case rel => exact ⟨_, by omega, by omega, rfl, by omega, by omega, by omega, by omega, zX⟩
        case measure => simp [intOf])
end Go.Proofs.YtmmhcllibpmfnaaGreatDoor.Md
namespace Go.Proofs.YtmmhcllibpmfnaaGreatDoor.Md
open Go.RowKit Go.Kb
theorem or_and_nat : ∀ (n x y : Nat), x < 2 ^ n → (x ||| y) + (x &&& y) = x + y := by
 intro n
 induction n with
 | zero => intro x y h; obtain rfl : x = 0 := by omega
           simp
 | succ n ih =>
   intro x y h
   have h1 := ih (x / 2) (y / 2) (by rw [Nat.pow_succ] at h; omega)
   have h2 := Nat.or_div_two (a := x) (b := y)
   have h3 := Nat.and_div_two (a := x) (b := y)
   have h4 := Nat.or_mod_two_eq_one (a := x) (b := y)
   have h5 := Nat.and_mod_two_eq_one (a := x) (b := y)
   omega
theorem andNot_nat : ∀ (n x y : Nat), x < 2 ^ n → y < 2 ^ n → (x &&& (2 ^ n - 1 - y)) + (x &&& y) = x := by
 intro n
 induction n with
 | zero => intro x y h h2; obtain rfl : x = 0 := by omega
           simp
 | succ n ih =>
   intro x y h hy
   rw [Nat.pow_succ] at *
   have h1 := ih (x / 2) (y / 2) (by omega) (by omega)
   have h0 : (2 ^ n * 2 - 1 - y) / 2 = 2 ^ n - 1 - y / 2 := by omega
   have h2 := Nat.and_div_two (a := x) (b := 2 ^ n * 2 - 1 - y)
   have h3 := Nat.and_div_two (a := x) (b := y)
   have h4 := Nat.and_mod_two_eq_one (a := x) (b := 2 ^ n * 2 - 1 - y)
   have h5 := Nat.and_mod_two_eq_one (a := x) (b := y)
   rw [h0] at h2
   omega
/-- is a flag's bit set? -/
def onL (f op : Int) : Bool := decide (f / pw op % 2 = 1)
theorem pw_nat {op : Int} : pw op = ((2 ^ (op - 30).toNat : Nat) : Int) := by simp [pw]
theorem and_pw {f op : Int} (hf : 0 ≤ f ∧ f < 18446744073709551616) (ho : 30 ≤ op ∧ op ≤ 93) : bits .and .u64 f (pw op) = if onL f op then pw op else 0 := by
 have h := pw_bd ho
 rw [u64_and f (pw op) hf.1 hf.2 (by omega) (by omega)]
 obtain ⟨X, rfl⟩ := Int.eq_ofNat_of_zero_le hf.1
 unfold onL
 rw [pw_nat, Int.toNat_natCast, Int.toNat_natCast, nat_bit]
 generalize hP : 2 ^ (op - 30).toNat = P
 have e : ((X : Int) / (P : Int) % 2) = ((X / P % 2 : Nat) : Int) := by simp
 rw [e]
 have h2 : X / P % 2 = 0 ∨ X / P % 2 = 1 := by omega
 rcases h2 with h2 | h2 <;> simp [h2]
theorem or_pw {f op : Int} (hf : 0 ≤ f ∧ f < 18446744073709551616) (ho : 30 ≤ op ∧ op ≤ 93) : bits .or .u64 f (pw op) = if onL f op then f else f + pw op := by
 have h := pw_bd ho
 have ha := and_pw hf ho
 rw [u64_and f (pw op) hf.1 hf.2 (by omega) (by omega)] at ha
 rw [u64_or f (pw op) hf.1 hf.2 (by omega) (by omega)]
 have h1 := or_and_nat 64 f.toNat (pw op).toNat (by omega)
 by_cases hx : onL f op = true
 · rw [if_pos hx] at ha ⊢; omega
 · rw [if_neg hx] at ha ⊢; omega
theorem andNot_pw {f op : Int} (hf : 0 ≤ f ∧ f < 18446744073709551616) (ho : 30 ≤ op ∧ op ≤ 93) : bits .andNot .u64 f (pw op) = if onL f op then f - pw op else f := by
 have h := pw_bd ho
 have ha := and_pw hf ho
 rw [u64_and f (pw op) hf.1 hf.2 (by omega) (by omega)] at ha
 rw [u64_andNot f (pw op) hf.1 hf.2 (by omega) (by omega)]
 have h1 := andNot_nat 64 f.toNat (pw op).toNat (by omega) (by omega)
 have h2 : (2 : Nat) ^ 64 - 1 = 18446744073709551615 := by decide
 rw [h2] at h1
 by_cases hx : onL f op = true
 · rw [if_pos hx] at ha ⊢; omega
 · rw [if_neg hx] at ha ⊢; omega
theorem flag_bd {op : Int} (h : flagL op = true) : 30 ≤ op ∧ op ≤ 93 := by
 simp [flagL] at h; omega
end Go.Proofs.YtmmhcllibpmfnaaGreatDoor.Md
namespace Go.Proofs.YtmmhcllibpmfnaaGreatDoor.Md
open Go.RowKit Go.Kb
theorem below_setRow {B g : Nat} {a w : World} (h : Below B a w) (hp : B ≤ g) (cs : Array Value) : Below B a (w.setRow g cs) :=
 h.trans ⟨rfl, rfl, rfl, by simp, fun k hk => setRow_other w g k cs (by omega)⟩
theorem Blk.setRow {w : World} {g : Nat} {t : TypeId} {cs : Array Value} (h : Blk w g t cs) (cs' : Array Value) : Blk (w.setRow g cs') g t cs' := setRow_heap w g cs cs' t (0, 0) h
theorem Tm.one (t : Tm) : t.arr.all (·.oneCell') = true := by
 simp only [Tm.arr, Tm.cells, List.all_toArray, List.all_append, List.all_map, Bool.and_eq_true]
 refine ⟨?_, rfl⟩
 rw [List.all_eq_true]
 intro x _
 rfl
def fset (f op : Int) (on : Bool) : Int := if on then (if onL f op then f else f + pw op) else if onL f op then f - pw op else f
def setL (t : Tm) (op : Int) (on : Bool) : Tm := if flagL op then { t with f := fset t.f op on } else t
theorem Tm.set19 {t : Tm} (h : t.Ok) (f : Int) : t.arr.setIfInBounds 19 (.int .u64 f) = ({ t with f := f } : Tm).arr := by
 obtain ⟨c, f0, i, o, m, tt⟩ := t
 have hc : c.length = 19 := h.c
 simp only [Tm.arr, Tm.cells]
 apply Array.ext'
 simp [hc]
theorem fset_bd {f op : Int} (on : Bool) (hf : 0 ≤ f ∧ f < 18446744073709551616) (ho : 30 ≤ op ∧ op ≤ 93) : 0 ≤ fset f op on ∧ fset f op on < 18446744073709551616 := by
 have h := pw_bd ho
 have h1 := or_pw hf ho
 have h2 := andNot_pw hf ho
 have w1 : 0 ≤ bits .or .u64 f (pw op) ∧ bits .or .u64 f (pw op) < 18446744073709551616 := by
   have : bits .or .u64 f (pw op) = IntKind.u64.wrap (bits .or .u64 f (pw op)) := by
     rw [u64_or f (pw op) hf.1 hf.2 (by omega) (by omega), IntKind.wrap_u64]
     have := Nat.or_lt_two_pow (x := f.toNat) (y := (pw op).toNat) (n := 64) (by omega) (by omega)
     omega
   rw [this, IntKind.wrap_u64]
   omega
 have w2 : 0 ≤ bits .andNot .u64 f (pw op) ∧ bits .andNot .u64 f (pw op) < 18446744073709551616 := by
   rw [u64_andNot f (pw op) hf.1 hf.2 (by omega) (by omega)]
   have := Nat.and_le_left (n := f.toNat) (m := 18446744073709551615 - (pw op).toNat)
   omega
 unfold fset
 cases on
 · rw [← h2] at *
   simpa using w2
 · rw [← h1] at *
   simpa using w1
theorem setL_ok {t : Tm} (h : t.Ok) (op : Int) (on : Bool) : (setL t op on).Ok := by
 unfold setL
 by_cases hf : flagL op = true
 · rw [if_pos hf]
   exact ⟨h.c, h.b, fset_bd on h.f (flag_bd hf), h.i, h.o, h.m, h.t⟩
 · rw [if_neg hf]; exact h
set_option maxHeartbeats 800000 in
theorem set_any (t : Tm) (op : Int) (on : Bool) (w : World) (h : t.Ok) : Calls Tryz.prog 298 #[.agg t.arr, .int .i64 op, .bool on] w fun e w' => e = .returned (.agg (setL t op on).arr) ∧ Ext w w' := by
 have hn := t.size h
 have hat := Tm.at19 h
 have hf := h.f
 have h1 := t.one
 have hset : ∀ f, t.arr.setIfInBounds 19 (.int .u64 f) = ({ t with f := f } : Tm).arr := Tm.set19 h
 by_cases hg : flagL op = true
 · have hO := flag_bd hg
   have hs : (setL t op on).arr = ({ t with f := fset t.f op on } : Tm).arr := by unfold setL; rw [if_pos hg]
   have h1' := (setL t op on).one
   have hn' := Tm.size (setL_ok h op on)
   have hor := or_pw hf hO
   have han := andNot_pw hf hO
   rw [hs] at h1' hn' ⊢
   have hi : (Tryz.prog.info? 39).map (·.size) = some ({ t with f := fset t.f op on } : Tm).arr.size := by rw [hn']; kernel_rfl
   cases on
   · have hv : bits .andNot .u64 t.f (pw op) = fset t.f op false := by rw [han]; rfl
     have hST : t.arr.setIfInBounds 19 (.int .u64 (bits .andNot .u64 t.f (pw op))) = ({ t with f := fset t.f op false } : Tm).arr := by rw [hset, hv]
     generalize ({ t with f := fset t.f op false } : Tm).arr = ct at *
     generalize t.arr = cs at *
     generalize t.f = f at *
     have hZ := Lib.hid hn'.symm
     clear h hs h1 hor han hv hset
     go_enter Tryz.func298, Tryz.ntmps298
     (go_wp2_with fail; refine (isFlag_any op _).mono ?_; rintro e w1 ⟨rfl, E1⟩)
     rw [hg]
     have hA := ((Blk.new w 39 cs).alloc _).ext E1
     have hB := (Blk.at_ (w := w.alloc (.cells cs 39)) (B := w.heap.size + 1) 39 _ (by simp)).ext E1
     have hc0 : ∀ w', Ext w1 w' → w'.cell? ⟨w.heap.size, 19, none⟩ = some (.int .u64 f) ∧ w'.frozen? ⟨w.heap.size, 19, none⟩ = false := fun w' hE => ⟨by rw [(hA.ext hE).cell, hat], (hA.ext hE).frozen _⟩
     have hl1 := hc0 w1.drew zX
     obtain ⟨hl1, hl1f⟩ := hl1
     have Ew : Ext w w1 := zX
     go_wp2_with fail
     go_region_law (go_simp; first
       | ((go_at_call 334; (with_reducible refine (bit_any op _ hO).mono ?_); rintro e w2 ⟨rfl, E2⟩); have E12 : Ext w1 w2 := zX; obtain ⟨hl2, hl2f⟩ := hc0 w2 E12))
     all_goals have Ew2 := Ew.trans E12
     all_goals clear hl1 hl1f hl2 hl2f hc0
     all_goals have hB := (hB.ext E12).far (p := ⟨w.heap.size, 19, none⟩) (by simp) (.int .u64 (bits .andNot .u64 f (pw op)))
     all_goals have hA := (hA.ext E12).set_ 19 (.int .u64 (bits .andNot .u64 f (pw op)))
     all_goals rw [hST] at hA
     all_goals clear E1 E2
     all_goals
       go_wp2_with (first
         | (refine wpList_load_row rfl 39 _ rfl _ rfl 39 _ _ _ hA Tryz.underlying39 rfl hi ?_)
         | (refine wpList_store_row rfl 39 _ _ rfl _ _ rfl rfl 39 _ hB hi hZ.out h1' ?_))
       refine bodyPost_ret_by (results_cell_row Tryz.results298 _ _ (w.heap.size + 1) 39 _ _ _ rfl (Blk.setRow hB _) Tryz.underlying39 rfl hi) rfl ?_
       exact ⟨rfl, below_setRow (Below.setCell Ew2 (by simp) _) (by omega) _⟩
   · have hv : bits .or .u64 t.f (pw op) = fset t.f op true := by rw [hor]; rfl
     have hST : t.arr.setIfInBounds 19 (.int .u64 (bits .or .u64 t.f (pw op))) = ({ t with f := fset t.f op true } : Tm).arr := by rw [hset, hv]
     generalize ({ t with f := fset t.f op true } : Tm).arr = ct at *
     generalize t.arr = cs at *
     generalize t.f = f at *
     have hZ := Lib.hid hn'.symm
     clear h hs h1 hor han hv hset
     go_enter Tryz.func298, Tryz.ntmps298
     (go_wp2_with fail; refine (isFlag_any op _).mono ?_; rintro e w1 ⟨rfl, E1⟩)
     rw [hg]
     have hA := ((Blk.new w 39 cs).alloc _).ext E1
     have hB := (Blk.at_ (w := w.alloc (.cells cs 39)) (B := w.heap.size + 1) 39 _ (by simp)).ext E1
     have hc0 : ∀ w', Ext w1 w' → w'.cell? ⟨w.heap.size, 19, none⟩ = some (.int .u64 f) ∧ w'.frozen? ⟨w.heap.size, 19, none⟩ = false := fun w' hE => ⟨by rw [(hA.ext hE).cell, hat], (hA.ext hE).frozen _⟩
     have hl1 := hc0 w1.drew zX
     obtain ⟨hl1, hl1f⟩ := hl1
     have Ew : Ext w w1 := zX
     go_wp2_with fail
     go_region_law (go_simp; first
       | ((go_at_call 334; (with_reducible refine (bit_any op _ hO).mono ?_); rintro e w2 ⟨rfl, E2⟩); have E12 : Ext w1 w2 := zX; obtain ⟨hl2, hl2f⟩ := hc0 w2 E12))
     all_goals have Ew2 := Ew.trans E12
     all_goals clear hl1 hl1f hl2 hl2f hc0
     all_goals have hB := (hB.ext E12).far (p := ⟨w.heap.size, 19, none⟩) (by simp) (.int .u64 (bits .or .u64 f (pw op)))
     all_goals have hA := (hA.ext E12).set_ 19 (.int .u64 (bits .or .u64 f (pw op)))
     all_goals rw [hST] at hA
     all_goals clear E1 E2
     all_goals
       go_wp2_with (first
         | (refine wpList_load_row rfl 39 _ rfl _ rfl 39 _ _ _ hA Tryz.underlying39 rfl hi ?_)
         | (refine wpList_store_row rfl 39 _ _ rfl _ _ rfl rfl 39 _ hB hi hZ.out h1' ?_))
       refine bodyPost_ret_by (results_cell_row Tryz.results298 _ _ (w.heap.size + 1) 39 _ _ _ rfl (Blk.setRow hB _) Tryz.underlying39 rfl hi) rfl ?_
       exact ⟨rfl, below_setRow (Below.setCell Ew2 (by simp) _) (by omega) _⟩
 · have hg' : flagL op = false := by simpa using hg
   have hs : (setL t op on).arr = t.arr := by unfold setL; rw [if_neg hg]
   rw [hs]
   generalize t.arr = cs at *
   have hi : (Tryz.prog.info? 39).map (·.size) = some cs.size := by rw [hn]; kernel_rfl
   clear h hat hset hs
   go_enter Tryz.func298, Tryz.ntmps298
   (go_wp2_with fail; refine (isFlag_any op _).mono ?_; rintro e w1 ⟨rfl, E1⟩)
   rw [hg']
   have hA := ((Blk.new w 39 cs).alloc _).ext E1
   have hB := (Blk.at_ (w := w.alloc (.cells cs 39)) (B := w.heap.size + 1) 39 _ (by simp)).ext E1
   go_wp2_with (first
     | (refine wpList_load_row rfl 39 _ rfl _ rfl 39 _ _ _ hA Tryz.underlying39 rfl hi ?_)
     | (refine wpList_store_row rfl 39 _ _ rfl _ _ rfl rfl 39 _ hB hi (by rw [hn]; rfl) h1 ?_))
   refine bodyPost_ret_by (results_cell_row Tryz.results298 _ _ (w.heap.size + 1) 39 _ _ _ rfl (Blk.setRow hB _) Tryz.underlying39 rfl hi) rfl ?_
   exact ⟨rfl, below_setRow zX (by omega) _⟩
end Go.Proofs.YtmmhcllibpmfnaaGreatDoor.Md
namespace Go.Proofs.YtmmhcllibpmfnaaGreatDoor.Md
open Go.RowKit Go.Kb
set_option linter.unusedSimpArgs false
theorem tm_guard : Tryz.prog.eqGuardType Tryz.prog.depth 39 = false := by kernel_rfl
def Tm.lits (t : Tm) : List Lit := t.c.map (Lit.int .u8) ++ [Lit.int .u64 t.f, Lit.int .u32 t.i, Lit.int .u32 t.o, Lit.int .i64 t.m, Lit.int .i64 t.t]
theorem lit_u8 {x : Int} (h : 0 ≤ x ∧ x ≤ 255) (d : Nat) : Tryz.prog.keyLits (d + 1) 5 [.int .u8 x] = some [Lit.int .u8 x] := by
 have hw : (Lit.int .u8 x).wf = true := by simpa [Lit.wf, IntKind.min, IntKind.max, IntKind.signed, IntKind.bits] using h
 simp [Program.keyLits, Tryz.underlying5, hw]
set_option maxRecDepth 1000000 in
theorem lits_chars {c : List Int} (hl : c.length = 19) (hb : ∀ x ∈ c, 0 ≤ x ∧ x ≤ 255) (d : Nat) : Tryz.prog.keyLits (d + 2) 36 (c.map (.int .u8)) = some (c.map (Lit.int .u8)) := by
 have c1 : Tryz.prog.cellsOf 5 = 1 := by kernel_rfl
 have c19 : Tryz.prog.cellsOf 36 = 19 := by kernel_rfl
 obtain ⟨x0, x1, x2, x3, x4, x5, x6, x7, x8, x9, x10, x11, x12, x13, x14, x15, x16, x17, x18, rfl⟩ : ∃ x0 x1 x2 x3 x4 x5 x6 x7 x8 x9 x10 x11 x12 x13 x14 x15 x16 x17 x18, c = [x0, x1, x2, x3, x4, x5, x6, x7, x8, x9, x10, x11, x12, x13, x14, x15, x16, x17, x18] := by
   match c, hl with
   | [x0, x1, x2, x3, x4, x5, x6, x7, x8, x9, x10, x11, x12, x13, x14, x15, x16, x17, x18], _ => exact ⟨x0, x1, x2, x3, x4, x5, x6, x7, x8, x9, x10, x11, x12, x13, x14, x15, x16, x17, x18, rfl⟩
 simp only [List.mem_cons, List.not_mem_nil, or_false, forall_eq_or_imp, forall_eq] at hb
 obtain ⟨h0, h1, h2, h3, h4, h5, h6, h7, h8, h9, h10, h11, h12, h13, h14, h15, h16, h17, h18⟩ := hb
 unfold Program.keyLits
 simp [Tryz.underlying36, c1, c19, List.range, List.range.loop, lit_u8 h0, lit_u8 h1, lit_u8 h2, lit_u8 h3, lit_u8 h4, lit_u8 h5, lit_u8 h6, lit_u8 h7, lit_u8 h8, lit_u8 h9, lit_u8 h10, lit_u8 h11, lit_u8 h12, lit_u8 h13, lit_u8 h14, lit_u8 h15, lit_u8 h16, lit_u8 h17, lit_u8 h18]
set_option maxRecDepth 1000000 in
theorem tm_lits {t : Tm} (h : t.Ok) (d : Nat) : Tryz.prog.keyLits (d + 3) 39 t.cells = some t.lits := by
 have hc := lits_chars h.c h.b d
 have hl := h.c
 have cT : Tryz.prog.cellsOf 39 = 24 := by kernel_rfl
 have cA : Tryz.prog.cellsOf 36 = 19 := by kernel_rfl
 have c1 : Tryz.prog.cellsOf 37 = 1 := by kernel_rfl
 have c2 : Tryz.prog.cellsOf 33 = 1 := by kernel_rfl
 have c3 : Tryz.prog.cellsOf 3 = 1 := by kernel_rfl
 have w1 : (Lit.int .u64 t.f).wf = true := by have := h.f; simp [Lit.wf, IntKind.min, IntKind.max, IntKind.signed, IntKind.bits]; omega
 have w2 : (Lit.int .u32 t.i).wf = true := by have := h.i; simp [Lit.wf, IntKind.min, IntKind.max, IntKind.signed, IntKind.bits]; omega
 have w3 : (Lit.int .u32 t.o).wf = true := by have := h.o; simp [Lit.wf, IntKind.min, IntKind.max, IntKind.signed, IntKind.bits]; omega
 have w4 : (Lit.int .i64 t.m).wf = true := by have := h.m; simp [Lit.wf, IntKind.min, IntKind.max, IntKind.signed, IntKind.bits]; omega
 have w5 : (Lit.int .i64 t.t).wf = true := by have := h.t; simp [Lit.wf, IntKind.min, IntKind.max, IntKind.signed, IntKind.bits]; omega
 have l1 : Tryz.prog.keyLits (d + 2) 37 [.int .u64 t.f] = some [Lit.int .u64 t.f] := by simp [Program.keyLits, Tryz.underlying37, w1]
 have l2 : Tryz.prog.keyLits (d + 2) 33 [.int .u32 t.i] = some [Lit.int .u32 t.i] := by simp [Program.keyLits, Tryz.underlying33, w2]
 have l3 : Tryz.prog.keyLits (d + 2) 33 [.int .u32 t.o] = some [Lit.int .u32 t.o] := by simp [Program.keyLits, Tryz.underlying33, w3]
 have l4 : Tryz.prog.keyLits (d + 2) 3 [.int .i64 t.m] = some [Lit.int .i64 t.m] := by simp [Program.keyLits, Tryz.underlying3, w4]
 have l5 : Tryz.prog.keyLits (d + 2) 3 [.int .i64 t.t] = some [Lit.int .i64 t.t] := by simp [Program.keyLits, Tryz.underlying3, w5]
 have hlen : t.cells.length = 24 := Tm.len h
 have e0 : t.cells.take 19 = t.c.map (.int .u8) := by unfold Tm.cells; rw [List.take_left' (by simp [hl])]
 have e1 : ∀ k, t.cells.drop (19 + k) = [Value.int .u64 t.f, .int .u32 t.i, .int .u32 t.o, .int .i64 t.m, .int .i64 t.t].drop k := fun k => by
   unfold Tm.cells
   rw [← List.drop_drop, List.drop_left' (by simp [hl])]
 have f0 := e1 0
 have f1 := e1 1
 have f2 := e1 2
 have f3 := e1 3
 have f4 := e1 4
 simp only [Nat.reduceAdd, List.drop_zero, List.drop_succ_cons, List.drop] at f0 f1 f2 f3 f4
 unfold Program.keyLits
 simp [Tryz.underlying39, cT, cA, c1, c2, c3, hlen, e0, f0, f1, f2, f3, f4, hc, l1, l2, l3, l4, l5, Tm.lits]
theorem Tm.lits_inj {t u : Tm} (h : t.Ok) (hu : u.Ok) : t.lits = u.lits ↔ t = u := by
 constructor
 · intro e
   have h1 := h.c
   have h2 := hu.c
   unfold Tm.lits at e
   obtain ⟨ea, eb⟩ := List.append_inj e (by simp [h1, h2])
   have ec : t.c = u.c := (List.map_inj_right (fun a b hab => by cases hab; rfl)).1 ea
   simp only [List.cons.injEq, Lit.int.injEq, true_and, and_true] at eb
   obtain ⟨e1, e2, e3, e4, e5⟩ := eb
   cases t
   cases u
   simp_all
 · rintro rfl; rfl
set_option maxRecDepth 1000000 in
theorem tm_eql {t u : Tm} (h : t.Ok) (hu : u.Ok) (w : World) : (Op.equalIn 10000 39 (.agg t.arr) (.agg u.arr)).run Tryz.prog w = .ok (decide (t = u)) w := by
 have hk : Tryz.prog.keyTypeAt 3 39 = true := by kernel_rfl
 have c24 : Tryz.prog.cellsOf 39 = 24 := by kernel_rfl
 have hf : ∀ {t : Tm}, t.Ok → (Value.agg t.arr).formed Tryz.prog 39 = true := fun {t} h => by
   simp [Value.formed, Tryz.underlying39, Tm.size h, c24]
 obtain ⟨r, hr, hiff⟩ := run_equalIn_deep (P := Tryz.prog) 9997 3 39 hk w 3 3 (.agg t.arr) (.agg u.arr) t.lits u.lits (hf h) (hf hu) (tm_lits h 0) (tm_lits hu 0)
 rw [Tm.lits_inj h hu] at hiff
 rw [hr]
 congr 1
 rw [Bool.eq_iff_iff, decide_eq_true_eq]
 exact hiff
end Go.Proofs.YtmmhcllibpmfnaaGreatDoor.Md
namespace Go.Proofs.YtmmhcllibpmfnaaGreatDoor.Md
open Go.RowKit Go.Kb
set_option linter.unusedSimpArgs false
theorem yieldsIf_neq_struct {P : Program} {ops : Array Oper} {S : World → Prop} {op : Oper} {a : Act} (hw : Region.wanted op (yielded ops a.tmps) = true) (t : TypeId) (x y : Operand) (ho : op.op = .binOp .neq t x y t)
   (cx cy : Array Value) (hx : a.eval x = .agg cx) (hy : a.eval y = .agg cy) (r b : Bool) (hb : b = !r) (hm : P.eqGuardType P.depth t = false)
   (hr : ∀ w, (Op.equalIn 10000 t (.agg cx) (.agg cy)).run P w = .ok r w) : YieldsIf P ops S op (.bool b) a :=
 .inl ⟨hw, fun w _ => by
   subst hb
   unfold execOp
   simp only [ho, hx, hy, Sem.run_bind, Sem.run_pure, Result.andThen_ok, run_eqGuard_agg w .neq t x y cx cy hm, run_neq_struct, hr w]⟩
end Go.Proofs.YtmmhcllibpmfnaaGreatDoor.Md
namespace Go.Proofs.YtmmhcllibpmfnaaGreatDoor
open Go.RowKit Go.Kb
set_option maxRecDepth 100000
/-- an operation -/
structure Po where
 (k a b : Int)
 tx : ByteArray
abbrev opA (o : Po) : Array Value := #[.int .i64 o.k, .int .i64 o.a, .int .i64 o.b, .string o.tx]
abbrev plA (a n : Int) : Array Value := #[.int .i64 a, .int .i64 n]
def AnyB (w : World) (e : Ending) (w' : World) : Prop := ∃ q : Bool, e = .returned (.bool q) ∧ Ext w w'
set_option maxHeartbeats 800000 in
theorem pwithin_any (n lo hi : Int) (w : World) : Calls Tryz.prog 26 #[.int .i64 n, .int .i64 lo, .int .i64 hi] w (AnyB w) := by
 by_cases h1 : lo ≤ n <;> by_cases h2 : n ≤ hi <;> (go_enter Tryz.func26, Tryz.ntmps26; go_wp2; go_ret; exact ⟨_, rfl, zX⟩)
set_option maxHeartbeats 800000 in
theorem pwithin_is (n lo hi : Int) (w : World) : Calls Tryz.prog 26 #[.int .i64 n, .int .i64 lo, .int .i64 hi] w fun e w' => e = .returned (.bool (decide (lo ≤ n ∧ n ≤ hi))) ∧ Ext w w' := by
 by_cases h1 : lo ≤ n <;> by_cases h2 : n ≤ hi <;> (go_enter Tryz.func26, Tryz.ntmps26; go_wp2; go_ret; exact ⟨by simp [h1, h2], zX⟩)
set_option maxHeartbeats 800000 in
theorem pcode (a n : Int) (o : Po) (w : World) : Calls Tryz.prog 187 #[.agg (plA a n), .agg (opA o)] w (AnyB w) := by
 go_enter Tryz.func187, Tryz.ntmps187
 go_wp2_with fail
 refine (pwithin_any _ _ _ _).mono ?_
 rintro e w1 ⟨q, rfl, E1⟩
 go_wp2
 go_ret
 exact ⟨_, rfl, zX⟩
set_option maxHeartbeats 800000 in
theorem pcount (a n : Int) (o : Po) (w : World) : Calls Tryz.prog 189 #[.agg (plA a n), .agg (opA o)] w (AnyB w) := by
 go_enter Tryz.func189, Tryz.ntmps189
 go_wp2_with fail
 refine (pwithin_any _ _ _ _).mono ?_
 rintro e w1 ⟨q, rfl, E1⟩
 go_wp2
 go_ret
 exact ⟨_, rfl, zX⟩
set_option maxHeartbeats 800000 in
theorem pflags (a n : Int) (o : Po) (w : World) : Calls Tryz.prog 191 #[.agg (plA a n), .agg (opA o)] w (AnyB w) := by
 go_enter Tryz.func191, Tryz.ntmps191
 go_wp2_with fail
 refine (pwithin_any _ _ _ _).mono ?_
 rintro e w1 ⟨q, rfl, E1⟩
 go_wp2
 go_ret
 exact ⟨_, rfl, zX⟩
set_option maxHeartbeats 800000 in
theorem pwhose (a n : Int) (o : Po) (w : World) : Calls Tryz.prog 193 #[.agg (plA a n), .agg (opA o)] w (AnyB w) := by
 go_enter Tryz.func193, Tryz.ntmps193
 go_wp2_with fail
 refine (pwithin_any _ _ _ _).mono ?_
 rintro e w1 ⟨q, rfl, E1⟩
 go_wp2
 go_ret
 exact ⟨_, rfl, zX⟩
set_option maxHeartbeats 800000 in
theorem peither (a n : Int) (o : Po) (w : World) : Calls Tryz.prog 195 #[.agg (plA a n), .agg (opA o)] w (AnyB w) := by
 go_enter Tryz.func195, Tryz.ntmps195
 go_wp2_with fail
 refine (pwithin_any _ _ _ _).mono ?_
 rintro e w1 ⟨q, rfl, E1⟩
 go_wp2
 go_ret
 exact ⟨_, rfl, zX⟩
set_option maxHeartbeats 800000 in
theorem ptime (a n : Int) (o : Po) (w : World) : Calls Tryz.prog 198 #[.agg (plA a n), .agg (opA o)] w (AnyB w) := by
 go_enter Tryz.func198, Tryz.ntmps198
 go_wp2_with fail
 refine (pwithin_any _ _ _ _).mono ?_
 rintro e w1 ⟨q, rfl, E1⟩
 go_wp2
 go_ret
 exact ⟨_, rfl, zX⟩
set_option maxHeartbeats 800000 in
theorem pshort (a n : Int) (o : Po) (w : World) : Calls Tryz.prog 188 #[.agg (plA a n), .agg (opA o)] w (AnyB w) := by
 go_enter Tryz.func188, Tryz.ntmps188
 go_wp2
 go_ret
 exact ⟨_, rfl, zX⟩
set_option maxHeartbeats 800000 in
theorem pany (a n : Int) (o : Po) (w : World) : Calls Tryz.prog 194 #[.agg (plA a n), .agg (opA o)] w (AnyB w) := by
 go_enter Tryz.func194, Tryz.ntmps194
 go_wp2
 go_ret
 exact ⟨_, rfl, zX⟩
set_option maxHeartbeats 800000 in
theorem plater (a n : Int) (o : Po) (w : World) : Calls Tryz.prog 190 #[.agg (plA a n), .agg (opA o)] w (AnyB w) := by
 by_cases h1 : a < o.a <;> by_cases h2 : o.a < n <;> (go_enter Tryz.func190, Tryz.ntmps190; go_wp2; go_ret; exact ⟨_, rfl, zX⟩)
set_option maxHeartbeats 800000 in
theorem pissig (n : Int) (w : World) : Calls Tryz.prog 257 #[.int .i64 n] w (AnyB w) := by
 go_enter Tryz.func257, Tryz.ntmps257
 go_wp2_with fail
 refine (Sg.name_any _ _).mono ?_
 rintro e w1 ⟨rfl, E1⟩
 generalize Sg.isL n = q
 generalize (if q = true then Sg.nameB n.toNat else ⟨#[]⟩) = nm
 go_wp2
 go_ret
 exact ⟨_, rfl, E1⟩
set_option maxHeartbeats 800000 in
theorem ptarget (a n : Int) (o : Po) (w : World) : Calls Tryz.prog 192 #[.agg (plA a n), .agg (opA o)] w (AnyB w) := by
 obtain ⟨W1, hW1⟩ : ∃ W1, W1 = (w.alloc (.cells (plA a n) 104)).alloc (.cells (opA o) 108) := ⟨_, rfl⟩
 have E1 : Ext w W1 := by rw [hW1]; exact ((Ext.refl _).alloc _).alloc _
 have B1 := Lib.hid (show Blk W1 (w.heap.size + 1) 108 (opA o) by rw [hW1]; exact Blk.at_ _ _ (by simp))
 have HW1 := Lib.hid hW1
 have k1 := B1.out.cell 1
 have k2 := B1.out.cell 2
 simp only [List.getElem?_toArray, List.getElem?_cons_zero, List.getElem?_cons_succ] at k1 k2
 clear hW1
 go_enter Tryz.func192, Tryz.ntmps192
 go_upto_region 1 with fail
 rw [← HW1.out]
 clear HW1
 go_wp2_with fail
 refine (pwithin_any _ _ _ _).mono ?_
 rintro e w2 ⟨q, rfl, E2⟩
 have k2 := cell_ext E2 k2
 cases q with
 | false =>
   go_wp2
   go_ret
   exact ⟨_, rfl, E1.trans E2⟩
 | true =>
   go_wp2_with fail
   refine (pissig _ _).mono ?_
   rintro e w3 ⟨q, rfl, E3⟩
   go_wp2
   go_ret
   exact ⟨_, rfl, (E1.trans E2).trans E3⟩
set_option maxHeartbeats 800000 in
theorem pmask (a n : Int) (o : Po) (w : World) : Calls Tryz.prog 197 #[.agg (plA a n), .agg (opA o)] w (AnyB w) := by
 obtain ⟨W1, hW1⟩ : ∃ W1, W1 = (w.alloc (.cells (plA a n) 104)).alloc (.cells (opA o) 108) := ⟨_, rfl⟩
 have E1 : Ext w W1 := by rw [hW1]; exact ((Ext.refl _).alloc _).alloc _
 have B1 := Lib.hid (show Blk W1 (w.heap.size + 1) 108 (opA o) by rw [hW1]; exact Blk.at_ _ _ (by simp))
 have HW1 := Lib.hid hW1
 have k1 := B1.out.cell 1
 have k2 := B1.out.cell 2
 simp only [List.getElem?_toArray, List.getElem?_cons_zero, List.getElem?_cons_succ] at k1 k2
 clear hW1
 go_enter Tryz.func197, Tryz.ntmps197
 go_upto_region 1 with fail
 rw [← HW1.out]
 clear HW1
 go_wp2_with fail
 refine (pissig _ _).mono ?_
 rintro e w2 ⟨q, rfl, E2⟩
 have k2 := cell_ext E2 k2
 cases q with
 | false =>
   go_wp2
   go_ret
   exact ⟨_, rfl, E1.trans E2⟩
 | true =>
   go_wp2_with fail
   refine (pwithin_any _ _ _ _).mono ?_
   rintro e w3 ⟨q, rfl, E3⟩
   go_wp2
   go_ret
   exact ⟨_, rfl, (E1.trans E2).trans E3⟩
def t0 : Md.Tm := ⟨List.replicate 19 0, 0, 0, 0, 0, 0⟩
theorem t0_ok : t0.Ok := ⟨rfl, by decide, ⟨by decide, by decide⟩, ⟨by decide, by decide⟩, ⟨by decide, by decide⟩, ⟨by decide, by decide⟩, ⟨by decide, by decide⟩⟩
theorem t0_arr : t0.arr = #[.int .u8 0, .int .u8 0, .int .u8 0, .int .u8 0, .int .u8 0, .int .u8 0, .int .u8 0, .int .u8 0, .int .u8 0, .int .u8 0, .int .u8 0, .int .u8 0, .int .u8 0, .int .u8 0, .int .u8 0, .int .u8 0, .int .u8 0, .int .u8 0, .int .u8 0, .int .u64 0, .int .u32 0, .int .u32 0, .int .i64 0, .int .i64 0] := rfl
set_option maxHeartbeats 800000 in
theorem pisflag (n : Int) (w : World) : Calls Tryz.prog 259 #[.int .i64 n] w (AnyB w) := by
 have hi : (Tryz.prog.info? 39).map (·.size) = some t0.arr.size := by kernel_rfl
 have HSET := Lib.hid (fun w' => Md.set_any t0 n true w' t0_ok)
 have HEQ := Lib.hid (fun w' => Md.tm_eql (Md.setL_ok t0_ok n true) t0_ok w')
 obtain ⟨q, hq⟩ : ∃ q, decide (Md.setL t0 n true = t0) = q := ⟨_, rfl⟩
 rw [hq] at HEQ
 clear hq
 obtain ⟨cu, hcu⟩ : ∃ cu, (Md.setL t0 n true).arr = cu := ⟨_, rfl⟩
 rw [hcu] at HSET HEQ
 clear hcu
 obtain ⟨W1, hW1⟩ : ∃ W1, W1 = w.alloc (.cells #[.int .u8 0, .int .u8 0, .int .u8 0, .int .u8 0, .int .u8 0, .int .u8 0, .int .u8 0, .int .u8 0, .int .u8 0, .int .u8 0, .int .u8 0, .int .u8 0, .int .u8 0, .int .u8 0, .int .u8 0, .int .u8 0, .int .u8 0, .int .u8 0, .int .u8 0, .int .u64 0, .int .u32 0, .int .u32 0, .int .i64 0, .int .i64 0] 39) := ⟨_, rfl⟩
 have E1 : Ext w W1 := by rw [hW1]; exact (Ext.refl _).alloc _
 have B1 := Lib.hid (show Blk W1 w.heap.size 39 t0.arr by rw [hW1, t0_arr]; exact Blk.new w _ _)
 have HW1 := Lib.hid hW1
 generalize t0.arr = c0 at *
 clear hW1
 go_enter Tryz.func259, Tryz.ntmps259
 go_upto_region 2 with fail
 rw [← HW1.out]
 clear HW1
 refine wp_region_held_drew (S := fun w' => Ext W1 w') (by kernel_rfl) zX (fun hHeld => ?_)
 (refine wpAnyH_take (i := 0) (v := .agg c0) rfl (by kernel_rfl) (by kernel_rfl) (by kernel_rfl) (fun _ _ _ h => h) (yieldsIf_load_row (by rfl) 39 _ rfl _ rfl 39 c0 _ _ (fun w' hSw => (B1.out.ext hSw)) Tryz.underlying39 rfl hi) (by assumption) ?_; (try simp only [zP]))
 (refine zR 1 rfl ?_; (try simp only [zP]))
 (refine wpAnyH_take (i := 3) (v := .agg c0) rfl (by kernel_rfl) (by kernel_rfl) (by kernel_rfl) (fun _ _ _ h => h) (yieldsIf_load_row (by rfl) 39 _ rfl _ rfl 39 c0 _ _ (fun w' hSw => (B1.out.ext hSw)) Tryz.underlying39 rfl hi) (by assumption) ?_; (try simp only [zP]))
 (refine wpAnyH_ready (rs := [2]) (by kernel_rfl) (by simp) ?_; refine AllReadyH.cons rfl (fun K hK => ?_) AllReadyH.nil; go_simp; go_at_call 298; refine (HSET.out _).mono ?_; rintro e w2 ⟨rfl, E2⟩; (try dsimp only); refine hK.out _ _ zX (fun hHeld => ?_); clear hK K; (try simp only [zP]))
 (refine wpAnyH_take (i := 4) (v := .bool (!q)) rfl (by kernel_rfl) (by kernel_rfl) (by kernel_rfl) (fun _ _ _ h => h) (Md.yieldsIf_neq_struct (by rfl) 39 _ _ rfl cu c0 rfl rfl q (!q) rfl Md.tm_guard HEQ.out) (by assumption) ?_; (try simp only [zP]))
 (refine zR 5 rfl ?_; (try simp only [zP]))
 refine wpAnyH_done (by kernel_rfl) ?_ _
 go_wp2
 go_ret
 exact ⟨_, rfl, zX⟩
set_option maxHeartbeats 800000 in
theorem pmode (a n : Int) (o : Po) (w : World) : Calls Tryz.prog 199 #[.agg (plA a n), .agg (opA o)] w (AnyB w) := by
 obtain ⟨W1, hW1⟩ : ∃ W1, W1 = (w.alloc (.cells (plA a n) 104)).alloc (.cells (opA o) 108) := ⟨_, rfl⟩
 have E1 : Ext w W1 := by rw [hW1]; exact ((Ext.refl _).alloc _).alloc _
 have B1 := Lib.hid (show Blk W1 (w.heap.size + 1) 108 (opA o) by rw [hW1]; exact Blk.at_ _ _ (by simp))
 have HW1 := Lib.hid hW1
 have k1 := B1.out.cell 1
 have k2 := B1.out.cell 2
 simp only [List.getElem?_toArray, List.getElem?_cons_zero, List.getElem?_cons_succ] at k1 k2
 clear hW1
 go_enter Tryz.func199, Tryz.ntmps199
 go_upto_region 1 with fail
 rw [← HW1.out]
 clear HW1
 go_wp2_with fail
 refine (pisflag _ _).mono ?_
 rintro e w2 ⟨q, rfl, E2⟩
 have k2 := cell_ext E2 k2
 cases q with
 | false =>
   go_wp2
   go_ret
   exact ⟨_, rfl, E1.trans E2⟩
 | true =>
   go_wp2_with fail
   refine (pwithin_any _ _ _ _).mono ?_
   rintro e w3 ⟨q, rfl, E3⟩
   go_wp2
   go_ret
   exact ⟨_, rfl, (E1.trans E2).trans E3⟩
theorem ac_built : Tryz.prog.built 232 [] = some (Sg.arrV Sg.zero32) := by kernel_rfl
set_option maxHeartbeats 800000 in
theorem pact (a n : Int) (o : Po) (w : World) : Calls Tryz.prog 196 #[.agg (plA a n), .agg (opA o)] w (AnyB w) := by
 obtain ⟨W1, hW1⟩ : ∃ W1, W1 = (w.alloc (.cells (plA a n) 104)).alloc (.cells (opA o) 108) := ⟨_, rfl⟩
 have E1 : Ext w W1 := by rw [hW1]; exact ((Ext.refl _).alloc _).alloc _
 have B1 := Lib.hid (show Blk W1 (w.heap.size + 1) 108 (opA o) by rw [hW1]; exact Blk.at_ _ _ (by simp))
 have HW1 := Lib.hid hW1
 have k1 := B1.out.cell 1
 have k2 := B1.out.cell 2
 simp only [List.getElem?_toArray, List.getElem?_cons_zero, List.getElem?_cons_succ] at k1 k2
 clear hW1
 have HA := Lib.hid (fun w' => Sg.act_any Sg.zero32 o.a o.b w' rfl)
 obtain ⟨cu, hcu⟩ : ∃ cu, Sg.arrV (Sg.actL Sg.zero32 o.a o.b).1 = cu := ⟨_, rfl⟩
 obtain ⟨x, hx⟩ : ∃ x, (Sg.actL Sg.zero32 o.a o.b).2 = x := ⟨_, rfl⟩
 rw [hcu, hx] at HA
 have hz : Hid (cu.size = 32) := Lib.hid (by
   rw [← hcu]
   refine Sg.arrV_size ?_
   unfold Sg.actL
   split <;> simp [Sg.zero32])
 have hi : (Tryz.prog.info? 232).map (·.size) = some cu.size := by rw [hz.out]; exact Sg.arr_info
 have h1 : cu.all (·.oneCell') = true := by rw [← hcu]; exact Sg.arrV_one _
 have hb := ac_built
 generalize Sg.arrV Sg.zero32 = cz at *
 clear hcu hx
 go_enter Tryz.func196, Tryz.ntmps196
 go_upto_region 1 with fail
 rw [← HW1.out]
 clear HW1
 go_wp2_with (first
   | (refine wpList_build_eq rfl 232 _ rfl (L := cz) (by simp [go_sem]; exact hb) ?_)
   | (go_at_call 258; refine (HA.out _).mono ?_; rintro e w2 ⟨rfl, E2⟩)
   | (refine wpList_store_A rfl 232 _ _ rfl w2.heap.size cu rfl rfl 232 _ (Blk.at_ _ _ rfl) hi (by rw [hz.out]; rfl) h1 ?_; intro w3 H3 E3; have E3 : Ext w2 w3 := E3 w2.heap.size w2 ((Ext.refl _).alloc _) (Nat.le_refl _)))
 go_ret
 exact ⟨_, rfl, (E1.trans E2).trans E3⟩
end Go.Proofs.YtmmhcllibpmfnaaGreatDoor
namespace Go.Proofs.YtmmhcllibpmfnaaGreatDoor
open Go.RowKit Go.Kb
set_option maxRecDepth 100000
abbrev srt (word : ByteArray) (sh : Int) (f : Nat) : List Value := [.string word, .int .i64 sh, .func (.func f) #[] #[]]
def prSorts : Array Value := ([Value.string ⟨#[]⟩, .int .i64 0, Value.nilFunc] ++ srt ⟨#[101, 120, 105, 116]⟩ 1 187 ++
 srt ⟨#[111, 117, 116]⟩ 3 188 ++
 srt ⟨#[101, 114, 114]⟩ 3 188 ++
 srt ⟨#[105, 110]⟩ 1 189 ++
 srt ⟨#[102, 111, 114, 107]⟩ 1 190 ++
 srt ⟨#[101, 120, 101, 99]⟩ 1 190 ++
 srt ⟨#[119, 97, 105, 116]⟩ 1 191 ++
 srt ⟨#[107, 105, 108, 108]⟩ 2 192 ++
 srt ⟨#[103, 114, 111, 117, 112]⟩ 1 193 ++
 srt ⟨#[115, 101, 115, 115, 105, 111, 110]⟩ 0 194 ++
 srt ⟨#[102, 114, 111, 110, 116]⟩ 1 195 ++
 srt ⟨#[97, 99, 116]⟩ 2 196 ++
 srt ⟨#[109, 97, 115, 107]⟩ 2 197 ++
 srt ⟨#[115, 108, 101, 101, 112]⟩ 1 198 ++
 srt ⟨#[109, 111, 100, 101]⟩ 2 199 ++
 srt ⟨#[99, 111, 112, 121]⟩ 0 194).toArray
set_option maxHeartbeats 800000 in
theorem psorts_any (w : World) : Calls Tryz.prog 105 #[] w fun e w' => e = .returned (.agg prSorts) ∧ Ext w w' := by
 have hi : (Tryz.prog.info? 246).map (·.size) = some 51 := by kernel_rfl
 go_enter Tryz.func105, Tryz.ntmps105
 go_wp2_with (refine wpList_store_A rfl 246 _ _ rfl w.heap.size _ rfl rfl 246 _ (show Blk _ _ _ _ from Blk.at_ _ _ (by simp)) hi rfl (by simp [Value.oneCell']) ?_; intro w2 HB E2; have E2 := E2 w.heap.size w zX (Nat.le_refl _))
 refine bodyPost_ret_by (results_cell_row Tryz.results105 _ _ w.heap.size 246 _ _ _ rfl HB Tryz.underlying246 rfl hi) rfl ?_
 exact ⟨rfl, E2⟩
/-- a kind of operations -/
structure SortOk (x : ByteArray) (sh : Int) (f : Nat) : Prop where
 bd : sh = 0 ∨ sh = 1 ∨ sh = 2 ∨ sh = 3
 enters : ∀ args w, (callFunc f args).run Tryz.prog w = .ok (.enter f args) w
 calls : ∀ (a n : Int) (o : Po) (w : World), Calls Tryz.prog f #[.agg (plA a n), .agg (opA o)] w (AnyB w)
theorem en_pact (args : Array Value) (w : World) : (callFunc 196 args).run Tryz.prog w = .ok (.enter 196 args) w := by kernel_rfl
theorem en_pany (args : Array Value) (w : World) : (callFunc 194 args).run Tryz.prog w = .ok (.enter 194 args) w := by kernel_rfl
theorem en_pcode (args : Array Value) (w : World) : (callFunc 187 args).run Tryz.prog w = .ok (.enter 187 args) w := by kernel_rfl
theorem en_pcount (args : Array Value) (w : World) : (callFunc 189 args).run Tryz.prog w = .ok (.enter 189 args) w := by kernel_rfl
theorem en_peither (args : Array Value) (w : World) : (callFunc 195 args).run Tryz.prog w = .ok (.enter 195 args) w := by kernel_rfl
theorem en_pflags (args : Array Value) (w : World) : (callFunc 191 args).run Tryz.prog w = .ok (.enter 191 args) w := by kernel_rfl
theorem en_plater (args : Array Value) (w : World) : (callFunc 190 args).run Tryz.prog w = .ok (.enter 190 args) w := by kernel_rfl
theorem en_pmask (args : Array Value) (w : World) : (callFunc 197 args).run Tryz.prog w = .ok (.enter 197 args) w := by kernel_rfl
theorem en_pmode (args : Array Value) (w : World) : (callFunc 199 args).run Tryz.prog w = .ok (.enter 199 args) w := by kernel_rfl
theorem en_pshort (args : Array Value) (w : World) : (callFunc 188 args).run Tryz.prog w = .ok (.enter 188 args) w := by kernel_rfl
theorem en_ptarget (args : Array Value) (w : World) : (callFunc 192 args).run Tryz.prog w = .ok (.enter 192 args) w := by kernel_rfl
theorem en_ptime (args : Array Value) (w : World) : (callFunc 198 args).run Tryz.prog w = .ok (.enter 198 args) w := by kernel_rfl
theorem en_pwhose (args : Array Value) (w : World) : (callFunc 193 args).run Tryz.prog w = .ok (.enter 193 args) w := by kernel_rfl
theorem srt_1 (w : World) : (Instr.index 246 (.agg prSorts) (.int .i64 1)).run Tryz.prog w = .ok (.agg (srt ⟨#[101, 120, 105, 116]⟩ 1 187).toArray) w := by kernel_rfl
theorem srt_2 (w : World) : (Instr.index 246 (.agg prSorts) (.int .i64 2)).run Tryz.prog w = .ok (.agg (srt ⟨#[111, 117, 116]⟩ 3 188).toArray) w := by kernel_rfl
theorem srt_3 (w : World) : (Instr.index 246 (.agg prSorts) (.int .i64 3)).run Tryz.prog w = .ok (.agg (srt ⟨#[101, 114, 114]⟩ 3 188).toArray) w := by kernel_rfl
theorem srt_4 (w : World) : (Instr.index 246 (.agg prSorts) (.int .i64 4)).run Tryz.prog w = .ok (.agg (srt ⟨#[105, 110]⟩ 1 189).toArray) w := by kernel_rfl
theorem srt_5 (w : World) : (Instr.index 246 (.agg prSorts) (.int .i64 5)).run Tryz.prog w = .ok (.agg (srt ⟨#[102, 111, 114, 107]⟩ 1 190).toArray) w := by kernel_rfl
theorem srt_6 (w : World) : (Instr.index 246 (.agg prSorts) (.int .i64 6)).run Tryz.prog w = .ok (.agg (srt ⟨#[101, 120, 101, 99]⟩ 1 190).toArray) w := by kernel_rfl
theorem srt_7 (w : World) : (Instr.index 246 (.agg prSorts) (.int .i64 7)).run Tryz.prog w = .ok (.agg (srt ⟨#[119, 97, 105, 116]⟩ 1 191).toArray) w := by kernel_rfl
theorem srt_8 (w : World) : (Instr.index 246 (.agg prSorts) (.int .i64 8)).run Tryz.prog w = .ok (.agg (srt ⟨#[107, 105, 108, 108]⟩ 2 192).toArray) w := by kernel_rfl
theorem srt_9 (w : World) : (Instr.index 246 (.agg prSorts) (.int .i64 9)).run Tryz.prog w = .ok (.agg (srt ⟨#[103, 114, 111, 117, 112]⟩ 1 193).toArray) w := by kernel_rfl
theorem srt_10 (w : World) : (Instr.index 246 (.agg prSorts) (.int .i64 10)).run Tryz.prog w = .ok (.agg (srt ⟨#[115, 101, 115, 115, 105, 111, 110]⟩ 0 194).toArray) w := by kernel_rfl
theorem srt_11 (w : World) : (Instr.index 246 (.agg prSorts) (.int .i64 11)).run Tryz.prog w = .ok (.agg (srt ⟨#[102, 114, 111, 110, 116]⟩ 1 195).toArray) w := by kernel_rfl
theorem srt_12 (w : World) : (Instr.index 246 (.agg prSorts) (.int .i64 12)).run Tryz.prog w = .ok (.agg (srt ⟨#[97, 99, 116]⟩ 2 196).toArray) w := by kernel_rfl
theorem srt_13 (w : World) : (Instr.index 246 (.agg prSorts) (.int .i64 13)).run Tryz.prog w = .ok (.agg (srt ⟨#[109, 97, 115, 107]⟩ 2 197).toArray) w := by kernel_rfl
theorem srt_14 (w : World) : (Instr.index 246 (.agg prSorts) (.int .i64 14)).run Tryz.prog w = .ok (.agg (srt ⟨#[115, 108, 101, 101, 112]⟩ 1 198).toArray) w := by kernel_rfl
theorem srt_15 (w : World) : (Instr.index 246 (.agg prSorts) (.int .i64 15)).run Tryz.prog w = .ok (.agg (srt ⟨#[109, 111, 100, 101]⟩ 2 199).toArray) w := by kernel_rfl
theorem srt_16 (w : World) : (Instr.index 246 (.agg prSorts) (.int .i64 16)).run Tryz.prog w = .ok (.agg (srt ⟨#[99, 111, 112, 121]⟩ 0 194).toArray) w := by kernel_rfl
theorem sort_at {k : Int} (h : 1 ≤ k ∧ k ≤ 16) : ∃ x sh f, SortOk x sh f ∧ ∀ w, (Instr.index 246 (.agg prSorts) (.int .i64 k)).run Tryz.prog w = .ok (.agg (srt x sh f).toArray) w := by
 obtain ⟨n, rfl⟩ := Int.eq_ofNat_of_zero_le (show 0 ≤ k by omega)
 obtain ⟨h1, h2⟩ := h
 have hn : n = 1 ∨ n = 2 ∨ n = 3 ∨ n = 4 ∨ n = 5 ∨ n = 6 ∨ n = 7 ∨ n = 8 ∨ n = 9 ∨ n = 10 ∨ n = 11 ∨ n = 12 ∨ n = 13 ∨ n = 14 ∨ n = 15 ∨ n = 16 := by omega
 rcases hn with rfl | rfl | rfl | rfl | rfl | rfl | rfl | rfl | rfl | rfl | rfl | rfl | rfl | rfl | rfl | rfl
 · exact ⟨_, _, _, ⟨by decide, en_pcode, pcode⟩, srt_1⟩
 · exact ⟨_, _, _, ⟨by decide, en_pshort, pshort⟩, srt_2⟩
 · exact ⟨_, _, _, ⟨by decide, en_pshort, pshort⟩, srt_3⟩
 · exact ⟨_, _, _, ⟨by decide, en_pcount, pcount⟩, srt_4⟩
 · exact ⟨_, _, _, ⟨by decide, en_plater, plater⟩, srt_5⟩
 · exact ⟨_, _, _, ⟨by decide, en_plater, plater⟩, srt_6⟩
 · exact ⟨_, _, _, ⟨by decide, en_pflags, pflags⟩, srt_7⟩
 · exact ⟨_, _, _, ⟨by decide, en_ptarget, ptarget⟩, srt_8⟩
 · exact ⟨_, _, _, ⟨by decide, en_pwhose, pwhose⟩, srt_9⟩
 · exact ⟨_, _, _, ⟨by decide, en_pany, pany⟩, srt_10⟩
 · exact ⟨_, _, _, ⟨by decide, en_peither, peither⟩, srt_11⟩
 · exact ⟨_, _, _, ⟨by decide, en_pact, pact⟩, srt_12⟩
 · exact ⟨_, _, _, ⟨by decide, en_pmask, pmask⟩, srt_13⟩
 · exact ⟨_, _, _, ⟨by decide, en_ptime, ptime⟩, srt_14⟩
 · exact ⟨_, _, _, ⟨by decide, en_pmode, pmode⟩, srt_15⟩
 · exact ⟨_, _, _, ⟨by decide, en_pany, pany⟩, srt_16⟩
set_option maxHeartbeats 4000000 in
theorem right_op (o : Po) (a n : Int) (w : World) : Calls Tryz.prog 59 #[.agg (opA o), .int .i64 a, .int .i64 n] w (AnyB w) := by
 obtain ⟨W1, hW1⟩ : ∃ W1, W1 = w.alloc (.cells (opA o) 108) := ⟨_, rfl⟩
 have E1 : Ext w W1 := by rw [hW1]; exact (Ext.refl _).alloc _
 have B1 := Lib.hid (show Blk W1 w.heap.size 108 (opA o) by rw [hW1]; exact Blk.new _ _ _)
 have HW1 := Lib.hid hW1
 have hiO : (Tryz.prog.info? 108).map (·.size) = some 4 := by kernel_rfl
 clear hW1
 by_cases hk : 1 ≤ o.k ∧ o.k ≤ 16
 · have HWI := Lib.hid (show ∀ w', Calls Tryz.prog 26 #[.int .i64 o.k, .int .i64 1, .int .i64 16] w' fun e w'' => e = .returned (.bool true) ∧ Ext w' w'' from fun w' => by
     have h9 := pwithin_is o.k 1 16 w'
     rw [decide_eq_true hk] at h9
     exact h9)
   obtain ⟨x, sh, f, hok, hix⟩ := sort_at hk
   have HIX := hix
   have HOK := Lib.hid hok
   clear hok hix hk
   go_enter Tryz.func59, Tryz.ntmps59
   go_upto_region 1 with fail
   rw [← HW1.out]
   clear HW1
   have k0 := B1.out.cell 0
   simp only [List.getElem?_toArray, List.getElem?_cons_zero] at k0
   go_wp2_with fail
   refine (HWI.out _).mono ?_
   rintro e w2 ⟨rfl, E2⟩
   have B1 := Lib.hid (B1.out.ext E2)
   have k0 := B1.out.cell 0
   simp only [List.getElem?_toArray, List.getElem?_cons_zero] at k0
   go_upto_region 3 with fail
   have hiS : (Tryz.prog.info? 245).map (·.size) = some 3 := by kernel_rfl
   have hone : (srt x sh f).toArray.all (·.oneCell') = true := by simp [Value.oneCell']

   go_cut [7] (fun s7 wx => ∃ n7 : Nat, s7 = .pointer (some ⟨n7, 0, none⟩) ∧ w2.heap.size ≤ n7 ∧ Hid (Blk wx n7 245 (srt x sh f).toArray) ∧ Ext w2 wx)
   case first =>
     refine wp_region_held_drew (S := fun w' => Ext w2 w') (by kernel_rfl) (Ext.drew (Ext.refl _)) (fun hHeld => ?_)
     have EH : Ext w2 w2.drew := Ext.drew (Ext.refl _)
     generalize w2.drew = D at *
     (refine zR 1 rfl ?_; (try simp only [zP]))
     (refine zT 2 (v := ?_) rfl (Or.inl ⟨by rfl, ?_⟩) ?_; rotate_left; (focus (intro w' hSw; have kc := cell_ext hSw k0; go_simp; try with_reducible rfl)); (try simp only [zP]))
     clear hHeld
     refine wpAnyH_ready (rs := [0, 4]) (by kernel_rfl) (by simp) ?_
     refine (AllReadyH.cons rfl (fun K hK => ?_) (AllReadyH.cons rfl (fun K hK => ?_) AllReadyH.nil))
     ·
       go_simp
       go_at_call 105
       refine (psorts_any D).mono ?_
       rintro e w20 ⟨rfl, E3⟩
       (try dsimp only)
       refine hK.out _ _ (EH.trans E3) (fun hHeld => ?_)
       clear hK K hHeld
       (try simp only [zP])
       have EH := EH.trans E3
       clear E3
       have hHeld : Ext w2 w20 := EH
       (refine zT 3 (v := ?_) rfl (Or.inl ⟨by rfl, ?_⟩) ?_; rotate_left; (focus (intro w' hSw; have kc := HIX w'; go_simp; try with_reducible rfl)); (try simp only [zP]))
       clear hHeld
       refine wpAnyH_ready (rs := [4]) (by kernel_rfl) (by simp) ?_
       refine (AllReadyH.cons rfl (fun K hK => ?_) AllReadyH.nil)
       go_simp
       refine hK.out _ _ (EH.alloc _) (fun hHeld => ?_)
       clear hK K hHeld
       (try simp only [zP])
       have B7 := Lib.hid (Blk.new w20 245 #[.string ⟨#[]⟩, .int .i64 0, Value.nilFunc])
       obtain ⟨n7, hn7⟩ : ∃ n7, w20.heap.size = n7 := ⟨_, rfl⟩
       have hn7W : w2.heap.size ≤ n7 := by rw [← hn7]; exact EH.size
       have EH := EH.alloc (.cells #[.string ⟨#[]⟩, .int .i64 0, Value.nilFunc] 245)
       rw [hn7] at B7 ⊢
       clear hn7
       generalize w20.alloc _ = w21 at *
       have LB7 := B7.out.lt
       have hHeld : Ext w2 w21 := EH
       (refine wpAnyH_ready (rs := [5]) (by kernel_rfl) (by simp) ?_; refine AllReadyH.cons rfl (fun K hK => ?_) AllReadyH.nil; rw [if_pos (by rfl)]; refine wp_store_M 245 _ _ rfl (n7) _ rfl rfl 245 _ B7.out hiS (by rfl) hone ?_; intro u4 B8 M8; refine hK.out _ _ (Mod.toExt hHeld M8 (fun k hk he => by omega)) (fun hHeld => ?_); clear hK K; (try simp only [zP]))
       refine wpAnyH_done (by kernel_rfl) ?_ _
       go_wp2_with fail
       go_meet
       exact ⟨n7, rfl, hn7W, Lib.hid B8, hHeld⟩
     ·
       go_simp
       refine hK.out _ _ (EH.alloc _) (fun hHeld => ?_)
       clear hK K hHeld
       (try simp only [zP])
       have B7 := Lib.hid (Blk.new D 245 #[.string ⟨#[]⟩, .int .i64 0, Value.nilFunc])
       obtain ⟨n7, hn7⟩ : ∃ n7, D.heap.size = n7 := ⟨_, rfl⟩
       have hn7W : w2.heap.size ≤ n7 := by rw [← hn7]; exact EH.size
       have EH := EH.alloc (.cells #[.string ⟨#[]⟩, .int .i64 0, Value.nilFunc] 245)
       rw [hn7] at B7 ⊢
       clear hn7
       generalize D.alloc _ = w20 at *
       have LB7 := B7.out.lt
       refine wpAnyH_ready (rs := [0]) (by kernel_rfl) (by simp) ?_
       refine (AllReadyH.cons rfl (fun K hK => ?_) AllReadyH.nil)
       go_simp
       go_at_call 105
       refine (psorts_any w20).mono ?_
       rintro e w21 ⟨rfl, E3⟩
       (try dsimp only)
       refine hK.out _ _ (EH.trans E3) (fun hHeld => ?_)
       clear hK K hHeld
       (try simp only [zP])
       have B7 := Lib.hid (B7.out.ext E3)
       have EH := EH.trans E3
       have LB7 := B7.out.lt
       clear E3
       have hHeld : Ext w2 w21 := EH
       (refine zT 3 (v := ?_) rfl (Or.inl ⟨by rfl, ?_⟩) ?_; rotate_left; (focus (intro w' hSw; have kc := HIX w'; go_simp; try with_reducible rfl)); (try simp only [zP]))
       clear hHeld
       have hHeld : Ext w2 w21 := EH
       (refine wpAnyH_ready (rs := [5]) (by kernel_rfl) (by simp) ?_; refine AllReadyH.cons rfl (fun K hK => ?_) AllReadyH.nil; rw [if_pos (by rfl)]; refine wp_store_M 245 _ _ rfl (n7) _ rfl rfl 245 _ B7.out hiS (by rfl) hone ?_; intro u4 B8 M8; refine hK.out _ _ (Mod.toExt hHeld M8 (fun k hk he => by omega)) (fun hHeld => ?_); clear hK K; (try simp only [zP]))
       refine wpAnyH_done (by kernel_rfl) ?_ _
       go_wp2_with fail
       go_meet
       exact ⟨n7, rfl, hn7W, Lib.hid B8, hHeld⟩
   case rest =>
     obtain ⟨n7, rfl, h7, B7, E27⟩ := hcut
     obtain ⟨w5, hw5⟩ : ∃ w5, w5 = wc := ⟨_, rfl⟩
     subst hw5
     have B5 := Lib.hid (B1.out.ext E27)
     have c1 := B7.out.cell 1
     have c2 := B7.out.cell 2
     have o1 := B5.out.cell 1
     have o2 := B5.out.cell 2
     have o3 := B5.out.cell 3
     simp only [List.getElem?_toArray, List.getElem?_cons_zero, List.getElem?_cons_succ] at c1 c2 o1 o2 o3
     have EE := (E1.trans E2).trans E27
     have hen := HOK.out.enters
     clear HIX HWI k0
     rcases HOK.out.bd with rfl | rfl | rfl | rfl
     ·
       cases ht : o.tx.toList.isEmpty
       ·
         go_wp2
         go_ret
         exact ⟨_, rfl, EE⟩
       ·
         by_cases hb : o.b = 0
         ·
           by_cases ha : o.a = 0
           ·
             go_wp2_with (refine wpList_load_row rfl 108 _ rfl _ rfl 108 _ _ _ B5.out Tryz.underlying108 rfl hiO ?_)
             refine (HOK.out.calls _ _ _ _).mono ?_
             rintro e w6 ⟨q, rfl, E6⟩
             go_wp2
             go_ret
             exact ⟨_, rfl, EE.trans E6⟩
           ·
             go_wp2
             go_ret
             exact ⟨_, rfl, EE⟩
         ·
           go_wp2
           go_ret
           exact ⟨_, rfl, EE⟩
     ·
       cases ht : o.tx.toList.isEmpty
       ·
         go_wp2
         go_ret
         exact ⟨_, rfl, EE⟩
       ·
         by_cases hb : o.b = 0
         ·
           go_wp2_with (refine wpList_load_row rfl 108 _ rfl _ rfl 108 _ _ _ B5.out Tryz.underlying108 rfl hiO ?_)
           refine (HOK.out.calls _ _ _ _).mono ?_
           rintro e w6 ⟨q, rfl, E6⟩
           go_wp2
           go_ret
           exact ⟨_, rfl, EE.trans E6⟩
         ·
           go_wp2
           go_ret
           exact ⟨_, rfl, EE⟩
     ·
       cases ht : o.tx.toList.isEmpty
       ·
         go_wp2
         go_ret
         exact ⟨_, rfl, EE⟩
       ·
         go_wp2_with (refine wpList_load_row rfl 108 _ rfl _ rfl 108 _ _ _ B5.out Tryz.underlying108 rfl hiO ?_)
         refine (HOK.out.calls _ _ _ _).mono ?_
         rintro e w6 ⟨q, rfl, E6⟩
         go_wp2
         go_ret
         exact ⟨_, rfl, EE.trans E6⟩
     ·
       by_cases hb : o.b = 0
       ·
         by_cases ha : o.a = 0
         ·
           go_wp2_with (refine wpList_load_row rfl 108 _ rfl _ rfl 108 _ _ _ B5.out Tryz.underlying108 rfl hiO ?_)
           refine (HOK.out.calls _ _ _ _).mono ?_
           rintro e w6 ⟨q, rfl, E6⟩
           go_wp2
           go_ret
           exact ⟨_, rfl, EE.trans E6⟩
         ·
           go_wp2
           go_ret
           exact ⟨_, rfl, EE⟩
       ·
         go_wp2
         go_ret
         exact ⟨_, rfl, EE⟩
 · have HWI := Lib.hid (show ∀ w', Calls Tryz.prog 26 #[.int .i64 o.k, .int .i64 1, .int .i64 16] w' fun e w'' => e = .returned (.bool false) ∧ Ext w' w'' from fun w' => by
     have h9 := pwithin_is o.k 1 16 w'
     rw [decide_eq_false hk] at h9
     exact h9)
   have k0 := B1.out.cell 0
   simp only [List.getElem?_toArray, List.getElem?_cons_zero] at k0
   clear hk
   go_enter Tryz.func59, Tryz.ntmps59
   go_upto_region 1 with fail
   rw [← HW1.out]
   clear HW1
   go_wp2_with fail
   refine (HWI.out _).mono ?_
   rintro e w2 ⟨rfl, E2⟩
   go_wp2
   go_ret
   exact ⟨_, rfl, E1.trans E2⟩
end Go.Proofs.YtmmhcllibpmfnaaGreatDoor
namespace Go.Proofs.YtmmhcllibpmfnaaGreatDoor
open Go.RowKit Go.Kb
set_option maxRecDepth 100000
/-- operations -/
def OpR : Rep Po where
 size := 4
 pos := by decide
 rel := fun _ _ cs d => cs = (opA d).toList
 len := fun h => by rw [h]; rfl
 one := fun h u hu => by
   rw [h] at hu
   simp at hu
   rcases hu with rfl | rfl | rfl | rfl <;> rfl
 keep := fun h _ => h
abbrev azB : ByteArray := ⟨#[97, 98, 99, 100, 101, 102, 103, 104, 105, 106, 107, 108, 109, 110, 111, 112, 113, 114, 115, 116, 117, 118, 119, 120, 121, 122, 48, 49, 50, 51, 52, 53, 54, 55, 56, 57]⟩
structure NameOk (s : ByteArray) : Prop where
 ne : 1 ≤ s.size
 le : s.size ≤ 64
 ch : ∀ b ∈ s.data.toList, b ∈ azB.data.toList
theorem dw_nil {p : UInt8 → Bool} : ∀ {l : List UInt8}, l.dropWhile p = [] → ∀ x ∈ l, p x = true
 | [], _, x, hx => by cases hx
 | y :: l, h, x, hx => by
   rw [List.dropWhile_cons] at h
   cases hy : p y with
   | false => rw [hy] at h; simp at h
   | true =>
     rw [hy] at h
     simp only [if_true] at h
     rcases List.mem_cons.1 hx with rfl | hx
     · exact hy
     · exact dw_nil h x hx
theorem trim_all {l cs : List UInt8} (h : Go.Lib.trimS l cs = []) : ∀ b ∈ l, b ∈ cs := by
 unfold Go.Lib.trimS Go.Lib.trimLeftS Go.Lib.trimRightS at h
 have h1 : ∀ x ∈ (l.reverse.dropWhile (cs.contains ·)).reverse, cs.contains x = true := dw_nil h
 have h2 : l.reverse.dropWhile (cs.contains ·) = [] := by
   by_cases hne : l.reverse.dropWhile (cs.contains ·) = []
   · exact hne
   · have h3 := List.head_dropWhile_not (cs.contains ·) hne
     have h4 := h1 ((l.reverse.dropWhile (cs.contains ·)).head hne) (by rw [List.mem_reverse]; exact List.head_mem hne)
     rw [h4] at h3
     cases h3
 have h5 : ∀ x ∈ l.reverse, cs.contains x = true := dw_nil h2
 intro b hb
 have h6 := h5 b (List.mem_reverse.2 hb)
 simpa using h6
def NamedP (s : ByteArray) (w : World) (e : Ending) (w' : World) : Prop := ∃ q : Bool, e = .returned (.bool q) ∧ (q = true → NameOk s) ∧ Ext w w'
set_option maxHeartbeats 800000 in
theorem named_any (s : ByteArray) (w : World) (hs : s.size ≤ 9223372036854775807) : Calls Tryz.prog 56 #[.string s] w (NamedP s w) := by
 have HT := Lib.hid (fun w' => show Calls Tryz.prog 103 #[.string s, .string azB] w' (fun e w'' => e = .returned (.string ⟨(Go.Lib.trimS s.data.toList azB.data.toList).toArray⟩) ∧ Ext w' w'') from Go.Proofs.Any.strings_Trim_laid Tryz.lays160 (by kernel_rfl) s azB w' hs (by decide) (Go.Proofs.ascii_of_all (by decide)))
 have HOK := Lib.hid (show 1 ≤ s.size → s.size ≤ 64 → (⟨(Go.Lib.trimS s.data.toList azB.data.toList).toArray⟩ : ByteArray).toList.isEmpty = true → NameOk s from fun h1 h2 h3 => ⟨h1, h2, by
   rw [Go.Lib.toList_data] at h3
   exact trim_all (by simpa using h3)⟩)
 generalize (⟨(Go.Lib.trimS s.data.toList azB.data.toList).toArray⟩ : ByteArray) = r at *
 cases h0 : s.toList.isEmpty with
 | true =>
   go_enter Tryz.func56, Tryz.ntmps56
   go_wp2
   go_ret
   exact ⟨_, rfl, (fun h => by cases h), zX⟩
 | false =>
   have H1 := Lib.hid (show 1 ≤ s.size from by
     rcases Nat.eq_zero_or_pos s.size with h | h
     · rw [Go.Lib.toList_data] at h0
       have h9 : s.data.toList = [] := List.eq_nil_of_length_eq_zero (show s.data.toList.length = 0 from h)
       rw [h9] at h0
       cases h0
     · exact h)
   by_cases h64 : (s.size : Int) ≤ 64
   · go_enter Tryz.func56, Tryz.ntmps56
     go_wp2_with (go_at_call 103; refine (HT.out _).mono ?_; rintro e w1 ⟨rfl, E1⟩)
     go_ret
     exact ⟨_, rfl, (fun h => HOK.out H1.out (by omega) (by simpa using h)), zX⟩
   · go_enter Tryz.func56, Tryz.ntmps56
     go_wp2
     go_ret
     exact ⟨_, rfl, (fun h => by simp at h), zX⟩
theorem en_wrong1 (args : Array Value) (w : World) : (callFunc 58 args).run Tryz.prog w = .ok (.enter 58 args) w := by kernel_rfl
/-- a function value that asks something of an operation -/
def AskO (k : Nat) (bs fs : Array Value) (w : World) : Prop :=
 (∀ args w', (callFunc k args).run Tryz.prog w' = .ok (.enter k args) w') ∧ ∀ (o : Po) (w' : World), Ext w w' → Calls Tryz.prog k (bs.push (.agg (opA o)) ++ fs) w' (AnyB w')
set_option maxHeartbeats 800000 in
theorem wrong1_any (pb : Nat) (a n : Int) (o : Po) (w : World) (h : Blk w pb 104 (plA a n)) : Calls Tryz.prog 58 #[.agg (opA o), .pointer (some ⟨pb, 0, none⟩)] w (AnyB w) := by
 have hiO : (Tryz.prog.info? 108).map (·.size) = some 4 := by kernel_rfl
 obtain ⟨W1, hW1⟩ : ∃ W1, W1 = w.alloc (.cells (opA o) 108) := ⟨_, rfl⟩
 have E1 : Ext w W1 := by rw [hW1]; exact (Ext.refl _).alloc _
 have B1 := Lib.hid (show Blk W1 w.heap.size 108 (opA o) by rw [hW1]; exact Blk.new _ _ _)
 have HW1 := Lib.hid hW1
 have k0 := (h.ext E1).cell 0
 have k1 := (h.ext E1).cell 1
 simp only [List.getElem?_toArray, List.getElem?_cons_zero, List.getElem?_cons_succ] at k0 k1
 clear hW1
 go_enter Tryz.func58, Tryz.ntmps58
 go_upto_region 1 with fail
 rw [← HW1.out]
 clear HW1
 go_wp2_with (first | (refine wpList_load_row rfl 108 _ rfl _ rfl 108 _ _ _ B1.out Tryz.underlying108 rfl hiO ?_) | fail)
 refine (right_op _ _ _ _).mono ?_
 rintro e w2 ⟨q, rfl, E2⟩
 go_wp2
 go_ret
 exact ⟨_, rfl, E1.trans E2⟩
theorem asks_wrong {pb : Nat} {a n : Int} {w : World} (h : Blk w pb 104 (plA a n)) : AskO 58 #[] #[.pointer (some ⟨pb, 0, none⟩)] w := ⟨en_wrong1, fun o w' hE => wrong1_any pb a n o w' (h.ext hE)⟩
def AnyI (w : World) (e : Ending) (w' : World) : Prop := ∃ i : Int, e = .returned (.int .i64 i) ∧ Ext w w'
set_option maxHeartbeats 1600000 in
theorem index_op {A : Nat → Prop} (k : Nat) (bs fs : Array Value) (v : Value) (l : List Po) (w : World) (h : RdY OpR A w v l) (hf : AskO k bs fs w) :
   Calls Tryz.prog 104 #[v, .func (.func k) bs fs] w (AnyI w) := by
 have hiO : ∀ cs : List Value, cs.length = 4 → (Tryz.prog.info? 108).map (·.size) = some cs.length := fun cs h => by rw [h]; kernel_rfl
 obtain ⟨Ad, c, rfl, hc1, hc2⟩ := h.shape
 have H := Lib.hid (h.mono (B := fun _ => True) fun _ _ _ => trivial)
 have HF := Lib.hid hf
 obtain ⟨n, hn⟩ : ∃ n, l.length = n := ⟨_, rfl⟩
 rw [hn] at H hc1 ⊢
 have HN := Lib.hid hn
 clear h hf hn
 go_enter Tryz.func104, Tryz.ntmps104
 go_wp2
 go_loopw [8] (fun i wr => ∃ m : Nat, m ≤ n ∧ i = .int .i64 m ∧ Ext w wr) (fun i _ => n - (intOf i).toNat)
 case atStart => exact ⟨0, Nat.zero_le _, rfl, zX⟩
 case round =>
   obtain ⟨m, hm, rfl, hE⟩ := hrel
   by_cases hlt : m < n
   · obtain ⟨b, off, c2, d, cs, hv, hd, hrel2, hlen, hcell⟩ := (H.out.ext hE).cells (j := m) (by rw [HN.out]; exact hlt)
     simp only [Value.slice.injEq] at hv
     obtain ⟨rfl, -, rfl⟩ := hv
     obtain rfl : cs = (opA d).toList := hrel2.out
     have HCELL := Lib.hid (show wr.rangeAt b (off + m * 4) (opA d).toList from hcell)
     have HA := Lib.hid (HF.out.2 d wr hE)
     have hen := HF.out.1
     clear hlen hcell hrel2
     go_wp2_with (refine wpList_load_mid rfl 108 _ rfl b (off + m * 4) rfl (opA d).toList _ HCELL.out Tryz.underlying108 rfl (hiO _ rfl) ?_)
     refine HA.out.mono ?_
     rintro e w2 ⟨q, rfl, E2⟩
     cases q with
     | false =>
       go_wp2
       go_roundw
       case rel => exact ⟨m + 1, by omega, by go_num, zX⟩
       case measure => simp [intOf]; omega
     | true =>
       go_wp2
       go_ret
       exact ⟨_, rfl, zX⟩
   · go_wp2
     go_ret
     exact ⟨_, rfl, zX⟩
set_option maxHeartbeats 800000 in
theorem contains_op {A : Nat → Prop} (k : Nat) (bs fs : Array Value) (v : Value) (l : List Po) (w : World) (h : RdY OpR A w v l) (hf : AskO k bs fs w) :
   Calls Tryz.prog 57 #[v, .func (.func k) bs fs] w (AnyB w) := by
 have HI := Lib.hid (index_op k bs fs v l w h hf)
 clear h hf
 go_enter Tryz.func57, Tryz.ntmps57
 go_wp2_with fail
 refine (HI.out).mono ?_
 rintro e w1 ⟨i, rfl, E1⟩
 go_wp2
 go_ret
 exact ⟨_, rfl, E1⟩
/-- what is wrong: where nothing is, the name may be one -/
def PWrongP (nm : ByteArray) (k : Nat) (w : World) (e : Ending) (w' : World) : Prop := ∃ x : Int, e = .returned (.int .i64 x) ∧ (x = 0 → NameOk nm ∧ k ≤ 64) ∧ Ext w w'
set_option maxHeartbeats 1600000 in
theorem pwrong_any {A : Nat → Prop} (nm : ByteArray) (v : Value) (l : List Po) (a n : Int) (w : World) (h : RdY OpR A w v l) (hs : nm.size ≤ 9223372036854775807) : Calls Tryz.prog 27 #[.agg #[.string nm, v], .agg (plA a n)] w (PWrongP nm l.length w) := by
 obtain ⟨Ad, c, rfl, hc1, hc2⟩ := h.shape
 obtain ⟨W1, hW1⟩ : ∃ W1, W1 = (w.alloc (.cells #[.string nm, .slice Ad l.length c] 101)).alloc (.cells (plA a n) 104) := ⟨_, rfl⟩
 have E1 : Ext w W1 := by rw [hW1]; exact ((Ext.refl _).alloc _).alloc _
 have B1 := Lib.hid (show Blk W1 w.heap.size 101 #[.string nm, .slice Ad l.length c] by rw [hW1]; exact (Blk.new _ _ _).alloc _)
 have B2 := Lib.hid (show Blk W1 (w.heap.size + 1) 104 (plA a n) by rw [hW1]; exact Blk.at_ _ _ (by simp))
 have HW1 := Lib.hid hW1
 have HNM := Lib.hid (fun w' => named_any nm w' hs)
 have HCO := Lib.hid (fun w' (E : Ext W1 w') => contains_op 58 #[] #[.pointer (some ⟨w.heap.size + 1, 0, none⟩)] _ l w' ((h.ext E1).ext E) (asks_wrong (B2.out.ext E)))
 obtain ⟨L, hL⟩ : ∃ L, l.length = L := ⟨_, rfl⟩
 rw [hL] at B1 HCO hc1 HW1 ⊢
 have k0 := B1.out.cell 0
 simp only [List.getElem?_toArray, List.getElem?_cons_zero] at k0
 clear hW1 h hL
 go_enter Tryz.func27, Tryz.ntmps27
 go_upto_region 1 with fail
 rw [← HW1.out]
 clear HW1
 go_wp2_with fail
 refine (HNM.out _).mono ?_
 rintro e w2 ⟨q, rfl, hq, E2⟩
 cases q with
 | false =>
   clear hq
   go_wp2
   go_ret
   exact ⟨_, rfl, (fun h => by cases h), E1.trans E2⟩
 | true =>
   have HQ := Lib.hid (hq rfl)
   clear hq
   have k1 := (B1.out.ext E2).cell 1
   simp only [List.getElem?_toArray, List.getElem?_cons_zero, List.getElem?_cons_succ] at k1
   by_cases h64 : (64 : Int) < L
   · go_wp2
     go_ret
     exact ⟨_, rfl, (fun h => by cases h), E1.trans E2⟩
   · go_wp2_with fail
     refine (HCO.out _ E2).mono ?_
     rintro e w3 ⟨q, rfl, E3⟩
     cases q with
     | true =>
       go_wp2
       go_ret
       exact ⟨_, rfl, (fun h => by cases h), (E1.trans E2).trans E3⟩
     | false =>
       go_wp2
       go_ret
       exact ⟨_, rfl, fun _ => ⟨HQ.out, by omega⟩, (E1.trans E2).trans E3⟩
end Go.Proofs.YtmmhcllibpmfnaaGreatDoor
namespace Go.Proofs.YtmmhcllibpmfnaaGreatDoor
open Go.RowKit Go.Kb
set_option maxRecDepth 100000
theorem ixb_none {l : List UInt8} {c : UInt8} (h : c ∉ l) : Go.Lib.indexByte l c = -1 := by
 induction l with
 | nil => rfl
 | cons b l ih =>
   have h1 : ¬ b = c := fun he => h (by rw [he]; exact List.mem_cons_self)
   have h2 := ih (fun hm => h (List.mem_cons_of_mem _ hm))
   unfold Go.Lib.indexByte
   rw [h2]
   simp [h1]
theorem NameOk.cut {s : ByteArray} (h : NameOk s) : cutS s = s := by
 unfold cutS
 rw [if_pos (ixb_none (fun hm => absurd (h.ch _ hm) (by decide)))]
theorem NameOk.ok {s : ByteArray} (h : NameOk s) : (rqE s).Ok := by
 have h1 := h.le
 exact ⟨by show s.size ≤ 10000; omega, by show (⟨#[]⟩ : ByteArray).size ≤ _; decide, by show (⟨#[]⟩ : ByteArray).size ≤ _; decide, by simp [rqE], fun x hx => by simp [rqE] at hx, ⟨by simp [rqE], by simp [rqE]⟩, ⟨by simp [rqE], by simp [rqE]⟩, ⟨by simp [rqE], by simp [rqE]⟩, ⟨by simp [rqE], by simp [rqE]⟩, ⟨by simp [rqE], by simp [rqE]⟩⟩
theorem NameOk.ask {s : ByteArray} (h : NameOk s) : askQ (rqE s) = 0 := by
 have h1 := h.le
 have h2 : ¬ (1024 : Int) < (s.size : Int) := by omega
 simp [askQ, rqE, longE, h2]
/-- a request to begin a program, on channel j -/
abbrev exM (s : ByteArray) (j : Nat) : Mg := mgQ (rqE s) 4 j true
theorem exM_good {s : ByteArray} (h : NameOk s) {j : Nat} (hj : j ≤ 1000) : MgQG (exM s j) := mgQ_good h.ok 4 rfl (by decide) (by decide) h.ask j true ⟨by omega, by omega⟩
theorem MgQG.good {m : Mg} (h : MgQG m) : GoodM m := ⟨h.ok, psQ, h.row, h.fit, h.flt, h.len⟩
set_option maxHeartbeats 800000 in
theorem pask_any (s : ByteArray) (j : Nat) (w : World) (h : NameOk s) (hj : j ≤ 1000) : Calls Tryz.prog 14 #[.int .u32 j, .agg (rqA (rqE s) (.slice none 0 0)), .bool true] w fun e w' => ∃ u, e = .returned u ∧ OwnS Ub8 5 w.heap.size (fun _ => False) w' u (pkM (exM s j)) ∧ Ext w w' := by
 have hiQ : (Tryz.prog.info? 46).map (·.size) = some 11 := by kernel_rfl
 obtain ⟨W1, hW1⟩ : ∃ W1, W1 = w.alloc (.cells (rqA (rqE s) (.slice none 0 0)) 46) := ⟨_, rfl⟩
 have E1 : Ext w W1 := by rw [hW1]; exact (Ext.refl _).alloc _
 have P1 := Lib.hid (show Blk W1 w.heap.size 46 (rqA (rqE s) (.slice none 0 0)) by rw [hW1]; exact Blk.new w _ _)
 have HW1 := Lib.hid hW1
 have HEN := Lib.hid (fun w' => qencode_any (rqE s) (.slice none 0 0) w' (RdS.nil _ _ _) h.ok)
 have HA := Lib.hid h.ask
 have HG := Lib.hid (exM_good h hj)
 have hz := E1.size
 clear hW1
 go_enter Tryz.func14, Tryz.ntmps14
 go_upto_region 1 with fail
 rw [← HW1.out]
 clear HW1
 go_wp2_with (first | (refine wpList_load_row rfl 46 _ rfl _ rfl 46 _ _ _ P1.out Tryz.underlying46 rfl hiQ ?_) | fail)
 refine (HEN.out _).mono ?_
 rintro e w2 ⟨nm, u, q, rfl, E2, h0, -, h2⟩
 obtain rfl := h2 4 rfl (by decide) (by decide) HA.out
 obtain ⟨k, hk, h1, h10, rfl, -, ho⟩ := h0 rfl
 obtain rfl : k = 4 := by
   have h9 : (4 : Int) = (k : Int) := hk
   omega
 have HO := Lib.hid ho
 have HPK := Lib.hid (packet_any (exM s j) u w2 ((ho.rd (A := fun i => i < w2.heap.size ∨ W1.heap.size ≤ i) (fun i hi => .inr hi) (fun _ hi => hi.elim)).lt.mono (fun i _ hi => hi.2)) HG.out.good)
 obtain ⟨Au, cu, rfl, -, -⟩ := ho.shape
 clear h0 h2 ho hk
 go_wp2_with fail
 refine (HPK.out).mono ?_
 rintro e w3 ⟨u3, rfl, O3, E3⟩
 have hz2 := E2.size
 go_wp2
 go_ret
 exact ⟨_, rfl, O3.lower (by omega), (E1.trans E2).trans E3⟩
end Go.Proofs.YtmmhcllibpmfnaaGreatDoor
namespace Go.Proofs.YtmmhcllibpmfnaaGreatDoor
open Go.RowKit Go.Kb
set_option maxRecDepth 100000
/-- channels of these senders, with windows and packets of 9 -/
def chsOf (ds : List Int) : List Ch := ds.mapIdx (fun j d => ⟨j, d, 9, 9, 4096, 0⟩)
theorem chsOf_len (ds : List Int) : (chsOf ds).length = ds.length := by simp [chsOf]
theorem chsOf_at {ds : List Int} {j : Nat} {d : Int} (h : ds[j]? = some d) : (chsOf ds)[j]? = some ⟨j, d, 9, 9, 4096, 0⟩ := by simp [chsOf, h]
theorem chsOf_snoc (ds : List Int) (d : Int) : chsOf (ds ++ [d]) = chsOf ds ++ [⟨ds.length, d, 9, 9, 4096, 0⟩] := by simp [chsOf, List.mapIdx_append]
theorem chsOf_lo (ds : List Int) : LoOk (chsOf ds) := by
 intro j c h
 unfold chsOf at h
 rw [List.getElem?_mapIdx, Option.map_eq_some_iff] at h
 obtain ⟨d, -, rfl⟩ := h
 rfl
theorem chsOf_re {ds : List Int} {n : Int} : (∀ c ∈ chsOf ds, c.re ≠ n) ↔ n ∉ ds := by
 constructor
 · intro h hn
   obtain ⟨j, hj, rfl⟩ := List.getElem_of_mem hn
   exact h _ (List.mem_of_getElem? (chsOf_at (List.getElem?_eq_getElem hj))) rfl
 · intro h c hc
   obtain ⟨j, hj, rfl⟩ := List.getElem_of_mem hc
   have h2 : (chsOf ds)[j]? = some (chsOf ds)[j] := List.getElem?_eq_getElem hj
   rw [chsOf_len] at hj
   rw [chsOf_at (List.getElem?_eq_getElem hj)] at h2
   obtain h3 := Option.some.inj h2
   rw [← h3]
   exact fun h4 => h (by rw [← h4]; exact List.getElem_mem hj)
theorem chsOf_bad {ds : List Int} {n : Int} (h : n ∈ ds) : ∃ c ∈ chsOf ds, c.re = n := by
 obtain ⟨j, hj, rfl⟩ := List.getElem_of_mem h
 exact ⟨_, List.mem_of_getElem? (chsOf_at (List.getElem?_eq_getElem hj)), rfl⟩
/-- lines of k channels, of which the first n have begun a program -/
def lnsOf (k n : Nat) : List Ln := (List.range k).map (fun (j : Nat) => if j < n then ⟨j, sesT true, j + 1⟩ else ⟨j, sesT false, 0⟩)
theorem lnsOf_len (k n : Nat) : (lnsOf k n).length = k := by simp [lnsOf]
theorem lnsOf_at {k n j : Nat} (h : j < k) : (lnsOf k n)[j]? = some (if j < n then ⟨j, sesT true, j + 1⟩ else ⟨j, sesT false, 0⟩) := by simp [lnsOf, h]
theorem lnsOf_snoc (k : Nat) : lnsOf (k + 1) 0 = lnsOf k 0 ++ [⟨k, sesT false, 0⟩] := by simp [lnsOf, List.range_succ]
theorem lnsOf_step {k n : Nat} (h : n < k) : (lnsOf k n).set n ⟨n, sesT true, (n : Int) + 1⟩ = lnsOf k (n + 1) := by
 refine List.ext_getElem? fun j => ?_
 by_cases hj : j < k
 · rw [lnsOf_at hj]
   by_cases hjn : j = n
   · subst hjn
     rw [List.getElem?_set_self (by rw [lnsOf_len]; exact h), if_pos (by omega)]
   · rw [List.getElem?_set_ne (by omega), lnsOf_at hj]
     by_cases h2 : j < n
     · rw [if_pos h2, if_pos (by omega)]
     · rw [if_neg h2, if_neg (by omega)]
 · rw [List.getElem?_eq_none (by rw [List.length_set, lnsOf_len]; omega), List.getElem?_eq_none (by rw [lnsOf_len]; omega)]
theorem lnsOf_kid {k : Nat} : ∀ x ∈ lnsOf k 0, x.kid = 0 := by
 intro x hx
 simp only [lnsOf, List.mem_map, List.mem_range] at hx
 obtain ⟨j, -, rfl⟩ := hx
 simp
/-- processes that began -/
def prsOf : Nat → List Tb.Pr
 | 0 => []
 | n + 1 => prsOf n ++ [newP ((n : Int) + 1) 0]
theorem prsOf_len (n : Nat) : (prsOf n).length = n := by
 induction n with
 | zero => rfl
 | succ n ih => simp [prsOf, ih]
def tsOf (n : Nat) : List (Int × Int) := (List.range n).map (fun (i : Nat) => ((i : Int) + 1, (i : Int) + 1))
theorem tsOf_len (n : Nat) : (tsOf n).length = n := by simp [tsOf]
theorem tsOf_snoc (n : Nat) : tsOf (n + 1) = tsOf n ++ [((n : Int) + 1, (n : Int) + 1)] := by simp [tsOf, List.range_succ]
theorem prs_right : ∀ n : Nat, n < 8 → Tb.rightL (prsOf n) ((n : Int) + 1) = true := by decide +kernel
theorem prs_live : ∀ n : Nat, n < 8 → ∀ x ∈ tsOf n ++ [((n : Int) + 1, (n : Int) + 1)], Tb.liveL (prsOf n ++ [newP ((n : Int) + 1) 0]) ((n : Int) + 1 + 1) x.1 = true := by decide +kernel
/-- the server behind k channels opened and n programs begun -/
def opS (ds : List Int) (n : Nat) : SvT := ⟨chsOf ds, lnsOf ds.length n, [], prsOf n, (n : Int) + 1, (n : Int) + 1, tsOf n, false⟩
end Go.Proofs.YtmmhcllibpmfnaaGreatDoor
namespace Go.Proofs.YtmmhcllibpmfnaaGreatDoor
open Go.RowKit Go.Kb Go.Kb.Frame
set_option maxRecDepth 100000
/-- what Feed answers -/
def FdO (g kb base : Nat) (ns : List ByteArray) (S2 : SvT) (out : List Int) (sb : Option Nat) (w : World) (e : Ending) (w' : World) : Prop :=
 ∃ ov, e = .returned ov ∧ OwnS Ub8 5 base (fun _ => False) w' ov out ∧ SvAt g kb base ns S2 none w' ∧ SvM base sb w w'
theorem feed1 (g kb base : Nat) (ns : List ByteArray) (S S2 : SvT) (sb : Option Nat) (m : Mg) (vb : Value) (w : World) (hS : SvAt g kb base ns S sb w) (hd : S.dead = false) (hg : GoodM m) (hvb : RI .u8 w vb (pkM m))
   (hst : ∀ v sb' w', SvAt g kb base ns S sb' w' → RI .u8 w' v (encM m) → Calls Tryz.prog 40 #[.pointer (some ⟨g, 0, none⟩), v] w' fun e w'' => e = .returned (.tuple #[]) ∧ SvTo g kb base ns S2 sb' w' w'') :
   Calls Tryz.prog 16 #[.pointer (some ⟨g, 0, none⟩), vb] w (FdO g kb base ns { S2 with said := [] } S2.said sb w) := by
 have hl := pkM_len m
 have hl2 := encM_len hg
 have hf : feedR false (pkM m) = (([], false), ([encM m], 0)) := by
   have h9 := feedR_pks [m] (fun x hx => by simp at hx; rw [hx]; exact hg)
   have h8 : pks [m] = pkM m := by simp [pks]
   rw [h8] at h9
   exact h9
 have h9 := sfeed_any g kb base ns (fun j => if j = 0 then S else S2) sb [encM m] (pkM m) vb w hS hvb (pkM_bs hg) (by omega) hf (by simp) (fun j hj => by
   have : j = 0 := by simpa using hj
   subst this
   exact hd) hd (fun j p hp v sb' w' h1 h2 => by
   rcases j with _ | j
   · obtain rfl : encM m = p := by simpa using hp
     exact hst v sb' w' h1 h2
   · simp at hp)
 exact h9
theorem pks_one (m : Mg) : pks [m] = pkM m := by simp [pks]
theorem chs_conf (ds : List Int) (n : Int) : chsOf ds ++ [newC (chsOf ds) (opM n)] = chsOf (ds ++ [n]) := by
 rw [chsOf_snoc]
 unfold newC
 rw [chsOf_len]
 rfl
theorem fopen_new (g kb base : Nat) (ns : List ByteArray) (ds : List Int) (n : Int) (sb : Option Nat) (vb : Value) (w : World) (hS : SvAt g kb base ns (opS ds 0) sb w) (hvb : RI .u8 w vb (pkM (opM n))) (hn : 0 ≤ n ∧ n ≤ 4294967295) (h8 : ds.length < 8) (hd : n ∉ ds) :
   Calls Tryz.prog 16 #[.pointer (some ⟨g, 0, none⟩), vb] w (FdO g kb base ns (opS (ds ++ [n]) 0) (pkM (confM (chsOf ds) (opM n))) sb w) := by
 have hcl := chsOf_len ds
 have h9 := feed1 g kb base ns (opS ds 0) { takeS (opS ds 0) (chsOf ds ++ [newC (chsOf ds) (opM n)]) false [confM (chsOf ds) (opM n)] with ls := lnsOf ds.length 0 ++ [newL (opEv (chsOf ds))] } sb (opM n) vb w hS rfl (good_open hn) hvb (fun v sb' w' h1 h2 =>
   stake_any g kb base ns (opS ds 0) _ sb' (opM n) (chsOf ds ++ [newC (chsOf ds) (opM n)]) false [confM (chsOf ds) (opM n)] [opEv (chsOf ds)] 0 v w' h1 rfl h2 (good_open hn) (own_open n)
     (fun v2 w2 cv hv hc => take_new cv (chsOf ds) (opM n) v2 w2 hc (by omega) (chsOf_lo ds) rfl rfl (chsOf_re.2 hd))
     (fun x hx => by simp at hx; rw [hx]; exact good_confM hn (by omega)) (by simp) (by simp [opS]) (by show (lnsOf ds.length 0).length ≤ 100; rw [lnsOf_len]; omega)
     (.inr (.inr ⟨rfl, opEv (chsOf ds), 150, rfl, fun w => co_1 w, enters_sopened, fun v3 sb3 w3 h3 _ => sopened_any g kb base v3 ns _ sb3 (opEv (chsOf ds)) w3 h3 (by show (lnsOf ds.length 0).length ≤ 100; rw [lnsOf_len]; omega) (by show ((chsOf ds).length : Int) = ((lnsOf ds.length 0).length : Int); rw [lnsOf_len, hcl])⟩)))
 have e1 : ({ takeS (opS ds 0) (chsOf ds ++ [newC (chsOf ds) (opM n)]) false [confM (chsOf ds) (opM n)] with ls := lnsOf ds.length 0 ++ [newL (opEv (chsOf ds))], said := [] } : SvT) = opS (ds ++ [n]) 0 := by
   have e2 : lnsOf ds.length 0 ++ [newL (opEv (chsOf ds))] = lnsOf (ds ++ [n]).length 0 := by
     rw [List.length_append, List.length_singleton, lnsOf_snoc]
     unfold newL opEv
     rw [hcl]
     rfl
   rw [chs_conf, e2]
   rfl
 have e3 : ({ takeS (opS ds 0) (chsOf ds ++ [newC (chsOf ds) (opM n)]) false [confM (chsOf ds) (opM n)] with ls := lnsOf ds.length 0 ++ [newL (opEv (chsOf ds))] } : SvT).said = pkM (confM (chsOf ds) (opM n)) := by
   show [] ++ pks [confM (chsOf ds) (opM n)] = _
   rw [pks_one, List.nil_append]
 rw [e3] at h9
 rw [show ({ ({ takeS (opS ds 0) (chsOf ds ++ [newC (chsOf ds) (opM n)]) false [confM (chsOf ds) (opM n)] with ls := lnsOf ds.length 0 ++ [newL (opEv (chsOf ds))] } : SvT) with said := [] } : SvT) = opS (ds ++ [n]) 0 from e1] at h9
 exact h9
theorem fopen_full (g kb base : Nat) (ns : List ByteArray) (ds : List Int) (n : Int) (sb : Option Nat) (vb : Value) (w : World) (hS : SvAt g kb base ns (opS ds 0) sb w) (hvb : RI .u8 w vb (pkM (opM n))) (hn : 0 ≤ n ∧ n ≤ 4294967295) (h8 : ds.length = 8) :
   Calls Tryz.prog 16 #[.pointer (some ⟨g, 0, none⟩), vb] w (FdO g kb base ns (opS ds 0) (pkM (failM (opM n))) sb w) := by
 have hcl := chsOf_len ds
 have h9 := feed1 g kb base ns (opS ds 0) (takeS (opS ds 0) (chsOf ds) false [failM (opM n)]) sb (opM n) vb w hS rfl (good_open hn) hvb (fun v sb' w' h1 h2 =>
   stake_any g kb base ns (opS ds 0) _ sb' (opM n) (chsOf ds) false [failM (opM n)] [] 0 v w' h1 rfl h2 (good_open hn) (own_open n)
     (fun v2 w2 cv hv hc => take_full cv (chsOf ds) (opM n) v2 w2 hc (by omega) (by omega) rfl rfl)
     (fun x hx => by simp at hx; rw [hx]; exact good_failM hn) (by simp) (by simp [opS]) (by show (lnsOf ds.length 0).length ≤ 100; rw [lnsOf_len]; omega)
     (.inr (.inl ⟨rfl, rfl, rfl⟩)))
 have e3 : (takeS (opS ds 0) (chsOf ds) false [failM (opM n)]).said = pkM (failM (opM n)) := by
   show [] ++ pks [failM (opM n)] = _
   rw [pks_one, List.nil_append]
 rw [e3] at h9
 exact h9
/-- the server behind a channel that was opened twice -/
def deadS (ds : List Int) : SvT := { opS ds 0 with ls := [], dead := true }
theorem fopen_bad (g kb base : Nat) (ns : List ByteArray) (ds : List Int) (n : Int) (sb : Option Nat) (vb : Value) (w : World) (hS : SvAt g kb base ns (opS ds 0) sb w) (hvb : RI .u8 w vb (pkM (opM n))) (hn : 0 ≤ n ∧ n ≤ 4294967295) (h8 : ds.length < 8) (hd : n ∈ ds) :
   Calls Tryz.prog 16 #[.pointer (some ⟨g, 0, none⟩), vb] w (FdO g kb base ns (deadS ds) (pkM discM) sb w) := by
 have hcl := chsOf_len ds
 have h9 := feed1 g kb base ns (opS ds 0) { takeS (opS ds 0) (chsOf ds) true [discM] with ls := [] } sb (opM n) vb w hS rfl (good_open hn) hvb (fun v sb' w' h1 h2 =>
   stake_any g kb base ns (opS ds 0) _ sb' (opM n) (chsOf ds) true [discM] [] 4 v w' h1 rfl h2 (good_open hn) (own_open n)
     (fun v2 w2 cv hv hc => take_bad cv (chsOf ds) (opM n) v2 w2 hc (by omega) rfl rfl (chsOf_bad hd))
     (fun x hx => by simp at hx; rw [hx]; exact good_discM) (by simp) (by simp [opS]) (by show (lnsOf ds.length 0).length ≤ 100; rw [lnsOf_len]; omega)
     (.inl ⟨by decide, lnsOf_kid, rfl⟩))
 have e3 : ({ takeS (opS ds 0) (chsOf ds) true [discM] with ls := [] } : SvT).said = pkM discM := by
   show [] ++ pks [discM] = _
   rw [pks_one, List.nil_append]
 rw [e3] at h9
 exact h9
end Go.Proofs.YtmmhcllibpmfnaaGreatDoor
namespace Go.Proofs.YtmmhcllibpmfnaaGreatDoor
open Go.RowKit Go.Kb Go.Kb.Frame
set_option maxRecDepth 100000
theorem set_same {D : Type} {l : List D} {j : Nat} {c : D} (h : l[j]? = some c) : l.set j c = l := by
 refine List.ext_getElem? fun i => ?_
 by_cases hij : i = j
 · subst hij
   rw [List.getElem?_set_self (List.getElem?_eq_some_iff.1 h).1, h]
 · rw [List.getElem?_set_ne (by omega)]
abbrev chO (j : Nat) (d : Int) : Ch := ⟨j, d, 9, 9, 4096, 0⟩
theorem lo_set {cs : List Ch} {j : Nat} {c : Ch} (h : LoOk cs) (hc : c.lo = (j : Int)) : LoOk (cs.set j c) := by
 intro i x hx
 by_cases hij : i = j
 · subst hij
   by_cases hlt : i < cs.length
   · rw [List.getElem?_set_self hlt] at hx
     rw [← Option.some.inj hx]
     exact hc
   · rw [List.getElem?_eq_none (by rw [List.length_set]; omega)] at hx
     cases hx
 · rw [List.getElem?_set_ne (by omega)] at hx
   exact h i x hx
theorem fask_any (g kb base : Nat) (ns : List ByteArray) (S S3 : SvT) (sb : Option Nat) (j : Nat) (d : Int) (tx : ByteArray) (x : Ln) (st : Bool) (ok : Bool) (vb : Value) (w : World) (hS : SvAt g kb base ns S sb w) (hdd : S.dead = false) (hsaid : S.said = [])
   (hvb : RI .u8 w vb (pkM (exM tx j))) (htx : NameOk tx) (hj : j < 8) (hc : S.cs[j]? = some (chO j d)) (hlo : LoOk S.cs) (hcn : S.cs.length ≤ 8) (hd : 0 ≤ d ∧ d ≤ 4294967295) (hx : S.ls[j]? = some x) (hxs : x.sc = sesT st) (hln : S.ls.length ≤ 8)
   (hnx : 1 ≤ S.nx ∧ S.nx ≤ 1000) (hkn : 1 ≤ S.kn ∧ S.kn ≤ 1000) (hrt : Tb.rightL S.pr S.nx = true) (hpl : S.pr.length < 32) (hts : st = false → S.ts.length < 8) (hlv : st = false → ∀ i : Nat, (i : Int) = fndP ns tx → ∀ y ∈ S.ts ++ [(S.nx, S.kn)], Tb.liveL (S.pr ++ [newP S.nx i]) (S.nx + 1) y.1 = true)
   (hS3 : { askS (takeS S (S.cs.set j (owe (chO j d) 1)) false []) j (owe (chO j d) 1) x st (fndP ns tx) with said := [] } = S3) (hout : (askS (takeS S (S.cs.set j (owe (chO j d) 1)) false []) j (owe (chO j d) 1) x st (fndP ns tx)).said = pkM (ansM (ansK ok) (chO j d))) :
   Calls Tryz.prog 16 #[.pointer (some ⟨g, 0, none⟩), vb] w (FdO g kb base ns S3 (pkM (ansM (ansK ok) (chO j d))) sb w) := by
 have hgq := exM_good htx (j := j) (by omega)
 have hcut := htx.cut
 have hdl : (exM tx j).da.length ≤ 1000000 := Nat.le_trans hgq.ok.da (by decide)
 have h9 := feed1 g kb base ns S (askS (takeS S (S.cs.set j (owe (chO j d) 1)) false []) j (owe (chO j d) 1) x st (fndP ns tx)) sb (exM tx j) vb w hS hdd hgq.good hvb (fun v sb' w' h1 h2 =>
   stake_any g kb base ns S _ sb' (exM tx j) (S.cs.set j (owe (chO j d) 1)) false [] [askEv j (exM tx j)] 0 v w' h1 hdd h2 hgq.good hgq.own
     (fun v2 w2 cv hv hc2 => take_ask cv S.cs j (chO j d) (exM tx j) v2 w2 hc2 (by omega) hlo hc rfl rfl rfl rfl hv hdl)
     (fun x hx => by simp at hx) (by simp) (by rw [hsaid]; simp) (by omega)
     (.inr (.inr ⟨rfl, askEv j (exM tx j), 154, rfl, fun w => co_5 w, enters_sasked, fun v3 sb3 w3 h3 hd3 => by
       have h8 := sasked_any g kb base j v3 ns (takeS S (S.cs.set j (owe (chO j d) 1)) false []) sb3 (owe (chO j d) 1) x st tx (exM tx j) w3 h3 rfl (List.getElem?_set_self (List.getElem?_eq_some_iff.1 hc).1) hx hxs (lo_set hlo rfl) rfl (by show (S.cs.set j _).length ≤ 100; rw [List.length_set]; omega) (by show S.ls.length ≤ 100; omega) (by show (S.said ++ pks []).length ≤ _; rw [hsaid]; simp [pks]) hd hd3 rfl htx.ask htx.ok hnx hkn hrt hpl
         hts (by rw [hcut]; exact hlv)
       rw [hcut] at h8
       exact h8⟩)))
 rw [hout, hS3] at h9
 exact h9
end Go.Proofs.YtmmhcllibpmfnaaGreatDoor
namespace Go.Proofs.YtmmhcllibpmfnaaGreatDoor
open Go.RowKit Go.Kb Go.Maps
set_option maxRecDepth 100000
instance decBytes : DecidableEq ByteArray := fun a b =>
 if h : a.data = b.data then isTrue (by cases a; cases b; simp only at h; rw [h]) else isFalse (fun he => h (by rw [he]))
/-- a kind of keys -/
structure KeyT (kt mt : TypeId) (α : Type) where
 val : α → Value
 lit : α → Lit
 ok : α → Prop
 keyed : Keyed Tryz.prog kt
 und : Tryz.prog.underlying mt = some (.map kt 4)
 key : ∀ x, ok x → keyOf Tryz.prog kt (val x) = some (lit x)
 isk : ∀ x, WideAt.IsKeyLit (lit x)
 inj : ∀ x y, lit x = lit y → x = y
section
variable {kt mt : TypeId} {α : Type} [DecidableEq α]
/-- block M is the set of these keys -/
def MapK (K : KeyT kt mt α) (M : Nat) (w : World) (S : List α) : Prop :=
 ∃ D : DataW Unit, w.ownsMap Tryz.prog kt (plainElem Tryz.prog 4) M S.length D ∧ (∀ x, D.atKey (K.lit x) (.lit (.bool false)) = .lit (.bool (decide (x ∈ S)))) ∧ (∀ x, Maps.has D (K.lit x) = decide (x ∈ S)) ∧ Maps.size D = S.length
theorem ownK_eq {R : Value → Option (DataW Unit × List MemPlace)} {w w' : World} {k : TypeId} {M n : Nat} {D : DataW Unit} (h : w.ownsMap Tryz.prog k R M n D) (he : w'.heap[M]? = w.heap[M]?) : w'.ownsMap Tryz.prog k R M n D := by
 obtain ⟨es, cl, h1, h2, h3, h4⟩ := h
 exact ⟨es, cl, he.trans h1, h2, h3, h4⟩
theorem ownK_size {R : Value → Option (DataW Unit × List MemPlace)} {w : World} {k : TypeId} {M n : Nat} {D : DataW Unit} (h : w.ownsMap Tryz.prog k R M n D) : w.ownsMap Tryz.prog k R M (Maps.size D) D := by
 obtain ⟨es, cl, h1, h2, h3, rfl⟩ := h
 refine ⟨es, cl, h1, h2, ?_, rfl⟩
 rw [Maps.size_eq, length_sorted]
 simp
theorem MapK.lt {K : KeyT kt mt α} {M : Nat} {w : World} {S : List α} (h : MapK K M w S) : M < w.heap.size := h.choose_spec.1.lt
theorem MapK.ext {K : KeyT kt mt α} {M : Nat} {w w' : World} {S : List α} (h : MapK K M w S) (E : Ext w w') : MapK K M w' S := by
 obtain ⟨D, h1, h2⟩ := h
 exact ⟨D, ownK_eq h1 (E.block M h1.lt), h2⟩
theorem MapK.mod {K : KeyT kt mt α} {M : Nat} {B : Nat → Prop} {w w' : World} {S : List α} (h : MapK K M w S) (m : Mod B w w') (hS : ¬ B M) : MapK K M w' S := by
 obtain ⟨D, h1, h2⟩ := h
 exact ⟨D, ownK_eq h1 (m.block M h1.lt hS), h2⟩
theorem MapK.made (K : KeyT kt mt α) (w : World) : MapK K w.heap.size (w.alloc (.map #[] 0)) [] :=
 ⟨.map [], World.ownsMap_made w Tryz.prog kt (plainElem Tryz.prog 4), fun _ => rfl, fun _ => rfl, rfl⟩
/-- a map is none of the blocks of cells -/
theorem MapK.cells {K : KeyT kt mt α} {M : Nat} {w : World} {S : List α} (h : MapK K M w S) {cs : Array Value} {t : TypeId} {fr : Nat × Nat} : w.heap[M]? ≠ some (.cells cs t fr) := by
 obtain ⟨D, ⟨es, cl, h1, -⟩, -⟩ := h
 rw [h1]
 intro h9
 cases h9
variable {ops : Array Oper} {rest : List Oper} {o : Oper} {a : Act} {Q : Exit → Act → World → Prop} {w : World} {M : Nat} {S : List α}
theorem zeroK_b (w : World) : (zeroValue 4).run Tryz.prog w = .ok (.bool false) w := by kernel_rfl
theorem plainK_bool {v : Value} {x : Bool} {ps : List MemPlace} (h : plainElem (H := Unit) Tryz.prog 4 v = some (.lit (.bool x), ps)) : v = .bool x := by
 unfold plainElem at h
 rw [Tryz.underlying4] at h
 cases v <;> simp at h
 rw [h.1]
theorem wpList_kseen (K : KeyT kt mt α) (hg : o.guard = none) (m x : Operand) (hop : o.op = Op.lookup mt m x false) (hm : a.eval m = .map (some M)) (h : MapK K M w S) (id : α) (hx : a.eval x = K.val id) (hw : K.ok id) (b : Bool) (hb : id ∈ S ↔ b = true)
   (hK : wpList Tryz.prog ops Q rest (a.put o.dst (.bool b)) w) : wpList Tryz.prog ops Q (o :: rest) a w := by
 obtain ⟨D, h1, h2, h3, h4⟩ := h
 refine wpList_plain hg fun K' hK' => ?_
 obtain ⟨v, ps, hrun, hv⟩ := h1.lookup K.keyed K.und (zeroK_b w) (zd := .lit (.bool false)) (zp := []) (plainElem_bool Tryz.underlying4 false) (K.key id hw)
 rw [h2, show decide (id ∈ S) = b from by rw [Bool.eq_iff_iff, decide_eq_true_eq]; exact hb] at hv
 have hv := plainK_bool hv
 subst hv
 unfold Oper.wp
 simp [execOp, hop, hm, hx, hrun, Result.andThen]
 exact hK' _ _ hK
theorem wpList_ksee (K : KeyT kt mt α) (hg : o.guard = none) (m x v : Operand) (hop : o.op = Op.mapUpdate mt m x v) (hm : a.eval m = .map (some M)) (h : MapK K M w S) (id : α) (hid : id ∉ S) (hx : a.eval x = K.val id) (hv : a.eval v = .bool true) (hw : K.ok id) (hl : S.length ≤ 1000)
   (hK : ∀ w', MapK K M w' (S ++ [id]) → Mod (fun k => k = M) w w' → wpList Tryz.prog ops Q rest (a.put o.dst undef) w') : wpList Tryz.prog ops Q (o :: rest) a w := by
 obtain ⟨D, h1, h2, h3, h4⟩ := h
 refine wpList_mapUpdate_own w hg m x v _ hop kt 4 K.keyed K.und (plainElem Tryz.prog 4) M _ D hm h1 (by unfold maxLen; omega) _ _ _ hx hv (K.key id hw) _ [] (plainElem_bool Tryz.underlying4 true) fun w' h5 h6 => ?_
 have ht := h1.tidy K.keyed
 have hs : Maps.size (D.put (K.lit id) (.lit (.bool true))) = (S ++ [id]).length := by
   rw [size_put ht, h3, h4]
   simp [hid]
 refine hK w' ⟨_, by rw [← hs]; exact ownK_size h5, fun k => ?_, fun k => ?_, hs⟩ ((Mod.refl _ w).grown h6 fun k hk => .inr (by cases hk; rfl))
 · by_cases hk : k = id
   · subst hk
     rw [atKey_put_same ht.isMap (K.isk _)]
     simp
   · rw [atKey_put_other (fun he => hk (K.inj _ _ he)), h2 k]
     simp [hk]
 · by_cases hk : k = id
   · subst hk
     rw [has_put_same ht.isMap (K.isk _)]
     simp
   · rw [has_put_other (fun he => hk (K.inj _ _ he)), h3 k]
     simp [hk]
theorem wpList_klen (K : KeyT kt mt α) (hg : o.guard = none) (m : Operand) (hop : o.op = Op.call { callee := Callee.builtin Builtin.len, args := #[m], argTypes := #[mt] }) (hm : a.eval m = .map (some M)) (h : MapK K M w S)
   (hK : wpList Tryz.prog ops Q rest (a.put o.dst (.int .i64 S.length)) w) : wpList Tryz.prog ops Q (o :: rest) a w := by
 obtain ⟨D, h1, h2, h3, h4⟩ := h
 refine wpList_len_own w hg m _ hop kt 4 K.und (plainElem Tryz.prog 4) M _ D hm h1 ?_
 rw [h4]
 exact hK
end
/-- texts -/
def kStr : KeyT 9 105 ByteArray where
 val := Value.string
 lit := fun s => .string s.data.toList
 ok := fun s => s.size ≤ maxLen
 keyed := string_keyed Tryz.underlying9
 und := Tryz.underlying105
 key := fun _ h => WideMaps.keyOf_string_mk Tryz.underlying9 h
 isk := fun _ => trivial
 inj := fun x y h => by
   simp only [Lit.string.injEq] at h
   cases x
   cases y
   simp only [ByteArray.mk.injEq]
   exact Array.ext' h
/-- numbers of 32 bits -/
def kU32 : KeyT 33 68 Int where
 val := Value.int .u32
 lit := Lit.int .u32
 ok := fun n => (Lit.int .u32 n).wf = true
 keyed := int_keyed Tryz.underlying33
 und := Tryz.underlying68
 key := fun _ h => keyOf_int_mk Tryz.underlying33 h
 isk := fun _ => trivial
 inj := fun x y h => by
   simp only [Lit.int.injEq, true_and] at h
   exact h
end Go.Proofs.YtmmhcllibpmfnaaGreatDoor
namespace Go.Proofs.YtmmhcllibpmfnaaGreatDoor
open Go.RowKit Go.Kb Go.Kb.Frame
set_option maxRecDepth 100000
theorem owe_back (j : Nat) (d : Int) : owe (owe (chO j d) 1) 0 = chO j d := rfl
theorem set_back (l : List Ch) (j : Nat) (d : Int) (h : l[j]? = some (chO j d)) : (l.set j (owe (chO j d) 1)).set j (owe (owe (chO j d) 1) 0) = l := by
 rw [owe_back, List.set_set, set_same h]
theorem askS_one (ds : List Int) (j : Nat) (d : Int) (hd : ds[j]? = some d) :
   askS (takeS (opS ds j) ((opS ds j).cs.set j (owe (chO j d) 1)) false []) j (owe (chO j d) 1) ⟨j, sesT false, 0⟩ false 0 = { opS ds (j + 1) with said := pkM (ansM 99 (chO j d)) } := by
 have hj := (List.getElem?_eq_some_iff.1 hd).1
 rw [askS, if_pos ⟨rfl, by decide⟩]
 have e1 := set_back (chsOf ds) j d (chsOf_at hd)
 have e2 := lnsOf_step hj
 have e3 := tsOf_snoc j
 have e4 : prsOf (j + 1) = prsOf j ++ [newP ((j : Int) + 1) 0] := rfl
 show (⟨((chsOf ds).set j (owe (chO j d) 1)).set j (owe (owe (chO j d) 1) 0), (lnsOf ds.length j).set j ⟨j, sesT true, (j : Int) + 1⟩, [] ++ pks [] ++ pkM (ansM 99 (owe (chO j d) 1)), prsOf j ++ [newP ((j : Int) + 1) 0], (j : Int) + 1 + 1, (j : Int) + 1 + 1, tsOf j ++ [((j : Int) + 1, (j : Int) + 1)], false⟩ : SvT) = _
 rw [e1, e2, ← e3, ← e4]
 unfold opS
 simp [pks]
 rfl
theorem askS_two (ds : List Int) (j : Nat) (d : Int) (hd : ds[j]? = some d) (i : Int) :
   askS (takeS (opS ds (j + 1)) ((opS ds (j + 1)).cs.set j (owe (chO j d) 1)) false []) j (owe (chO j d) 1) ⟨j, sesT true, (j : Int) + 1⟩ true i = { opS ds (j + 1) with said := pkM (ansM 100 (chO j d)) } := by
 have hj := (List.getElem?_eq_some_iff.1 hd).1
 rw [askS, if_neg (fun h => by cases h.1)]
 have e1 := set_back (chsOf ds) j d (chsOf_at hd)
 show (⟨((chsOf ds).set j (owe (chO j d) 1)).set j (owe (owe (chO j d) 1) 0), lnsOf ds.length (j + 1), [] ++ pks [] ++ pkM (ansM 100 (owe (chO j d) 1)), prsOf (j + 1), ((j + 1 : Nat) : Int) + 1, ((j + 1 : Nat) : Int) + 1, tsOf (j + 1), false⟩ : SvT) = _
 rw [e1]
 unfold opS
 simp [pks]
 rfl
theorem fask_one (g kb base : Nat) (ns : List ByteArray) (ds : List Int) (sb : Option Nat) (j : Nat) (d : Int) (tx : ByteArray) (vb : Value) (w : World) (hS : SvAt g kb base ns (opS ds j) sb w) (hvb : RI .u8 w vb (pkM (exM tx j))) (htx : NameOk tx) (hd : ds[j]? = some d)
   (h8 : ds.length ≤ 8) (hdb : 0 ≤ d ∧ d ≤ 4294967295) (hf : fndP ns tx = 0) : Calls Tryz.prog 16 #[.pointer (some ⟨g, 0, none⟩), vb] w (FdO g kb base ns (opS ds (j + 1)) (pkM (ansM 99 (chO j d))) sb w) := by
 have hj := (List.getElem?_eq_some_iff.1 hd).1
 have hx : (opS ds j).ls[j]? = some ⟨j, sesT false, 0⟩ := by
   show (lnsOf ds.length j)[j]? = _
   rw [lnsOf_at hj, if_neg (by omega)]
 have e1 := askS_one ds j d hd
 exact fask_any g kb base ns (opS ds j) (opS ds (j + 1)) sb j d tx ⟨j, sesT false, 0⟩ false true vb w hS rfl rfl hvb htx (by omega) (chsOf_at hd) (chsOf_lo ds) (by show (chsOf ds).length ≤ 8; rw [chsOf_len]; exact h8) hdb hx rfl (by show (lnsOf ds.length j).length ≤ 8; rw [lnsOf_len]; exact h8)
   (by show (1 : Int) ≤ (j : Int) + 1 ∧ (j : Int) + 1 ≤ 1000; omega) (by show (1 : Int) ≤ (j : Int) + 1 ∧ (j : Int) + 1 ≤ 1000; omega) (prs_right j (by omega)) (by show (prsOf j).length < 32; rw [prsOf_len]; omega) (fun _ => by show (tsOf j).length < 8; rw [tsOf_len]; omega)
   (fun _ i hi y hy => by
     rw [hf] at hi
     obtain rfl : i = 0 := by omega
     exact prs_live j (by omega) y hy)
   (by rw [hf, e1]; rfl) (by rw [hf, e1]; rfl)
theorem fask_two (g kb base : Nat) (ns : List ByteArray) (ds : List Int) (sb : Option Nat) (j : Nat) (d : Int) (tx : ByteArray) (vb : Value) (w : World) (hS : SvAt g kb base ns (opS ds (j + 1)) sb w) (hvb : RI .u8 w vb (pkM (exM tx j))) (htx : NameOk tx) (hd : ds[j]? = some d)
   (h8 : ds.length ≤ 8) (hdb : 0 ≤ d ∧ d ≤ 4294967295) : Calls Tryz.prog 16 #[.pointer (some ⟨g, 0, none⟩), vb] w (FdO g kb base ns (opS ds (j + 1)) (pkM (ansM 100 (chO j d))) sb w) := by
 have hj := (List.getElem?_eq_some_iff.1 hd).1
 have hx : (opS ds (j + 1)).ls[j]? = some ⟨j, sesT true, (j : Int) + 1⟩ := by
   show (lnsOf ds.length (j + 1))[j]? = _
   rw [lnsOf_at hj, if_pos (by omega)]
 have e1 := askS_two ds j d hd (fndP ns tx)
 have hr : ∀ n : Nat, n ≤ 8 → Tb.rightL (prsOf n) ((n : Int) + 1) = true := by decide +kernel
 exact fask_any g kb base ns (opS ds (j + 1)) (opS ds (j + 1)) sb j d tx ⟨j, sesT true, (j : Int) + 1⟩ true false vb w hS rfl rfl hvb htx (by omega) (chsOf_at hd) (chsOf_lo ds) (by show (chsOf ds).length ≤ 8; rw [chsOf_len]; exact h8) hdb hx rfl (by show (lnsOf ds.length (j + 1)).length ≤ 8; rw [lnsOf_len]; exact h8)
   (by show (1 : Int) ≤ ((j + 1 : Nat) : Int) + 1 ∧ ((j + 1 : Nat) : Int) + 1 ≤ 1000; omega) (by show (1 : Int) ≤ ((j + 1 : Nat) : Int) + 1 ∧ ((j + 1 : Nat) : Int) + 1 ≤ 1000; omega) (hr (j + 1) (by omega)) (by show (prsOf (j + 1)).length < 32; rw [prsOf_len]; omega) (fun h => by cases h)
   (fun h => by cases h)
   (by rw [e1]; rfl) (by rw [e1]; rfl)
/-- block M holds no cells -/
def NoC (M : Nat) (w : World) : Prop := ∀ cs t fr, w.heap[M]? ≠ some (.cells cs t fr)
theorem MapK.noc {kt mt : TypeId} {α : Type} [DecidableEq α] {K : KeyT kt mt α} {M : Nat} {w : World} {S : List α} (h : MapK K M w S) : NoC M w := fun _ _ _ => h.cells
theorem NoC.ty {M : Nat} {w : World} (h : NoC M w) {ts : List TypeId} {base : Nat} : ¬ TySet ts base w M := by
 rintro ⟨-, cs, t, fr, h2, -⟩
 exact h cs t fr h2
theorem NoC.blk {M k : Nat} {w : World} (h : NoC M w) {t : TypeId} {cs : Array Value} (hb : Blk w k t cs) : k ≠ M := fun he => by
 subst he
 exact h _ _ _ hb
theorem NoC.own {M : Nat} {w : World} (h : NoC M w) {D : Type} {e : Rep D} {T : TypeId} {base : Nat} {B : Nat → Prop} {v : Value} {l : List D} (ho : OwnS e T base B w v l) : ∀ k, v.ownBlock = some k → k ≠ M := fun k hk he => by
 subst he
 obtain ⟨-, cs, fr, h2⟩ := ho.blkE hk
 exact h _ _ _ h2
theorem NoC.keep {M : Nat} {w w' : World} (h : NoC M w) {D : Type} {e : Rep D} {T : TypeId} {base : Nat} {v : Value} {l : List D} (ho : OwnS e T base (fun _ => False) w v l) (m : Mod (fun k => k = M) w w') : OwnS e T base (fun _ => False) w' v l :=
 ho.mod m (h.own ho) (fun _ _ hk => hk.elim)
theorem SvAt.map {g kb base : Nat} {ns : List ByteArray} {S : SvT} {sb : Option Nat} {w w' : World} {M : Nat} (h : SvAt g kb base ns S sb w) (hn : NoC M w) (m : Mod (fun k => k = M) w w') : SvAt g kb base ns S sb w' := by
 obtain ⟨pv, fv, cv, lv, sv, bs, Ap, cp, tbs, sbs, h⟩ := h
 obtain ⟨hkb, At, ct, tk, ss, HB, HP, HT, HTA, HS, HSA⟩ := h.kr
 exact ⟨pv, fv, cv, lv, sv, bs, Ap, cp, tbs, sbs, Nat.le_trans h.hb m.size, h.hbg, h.blk.mod m (hn.blk h.blk), h.em, hn.keep h.pg m, hn.keep h.ch m, hn.keep h.ln m, h.la.mod m (fun b hb => by obtain ⟨x, _, h9⟩ := h.la.blkOf hb; exact hn.blk h9), h.nd, h.bb, hn.keep h.sd m, h.sb,
   ⟨hkb, At, ct, tk, ss, HB.mod m (hn.blk HB), hn.keep HP m, hn.keep HT m, HTA.mod m (fun b hb => by obtain ⟨x, _, h9⟩ := HTA.mem hb; exact hn.blk h9), hn.keep HS m, fun b hb => (HSA b hb).mod m (by obtain ⟨id, ld, i, o, r, hb9⟩ := (HSA b hb).blk; exact hn.blk hb9)⟩, h.kl⟩
/-- what a server turned is none of what was there before it -/
theorem SvM.fresh {base : Nat} {w0 w w' : World} (h : SvM base none w w') (E : Ext w0 w) (hb : w0.heap.size ≤ base) : Ext w0 w' :=
 Mod.toExt E h (fun k hk he => he.elim (fun h9 => by have := h9.1; omega) (fun h9 => by cases h9))
theorem MapK.sv {kt mt : TypeId} {α : Type} [DecidableEq α] {K : KeyT kt mt α} {M base : Nat} {w w' : World} {S : List α} (h : MapK K M w S) (m : SvM base none w w') : MapK K M w' S :=
 h.mod m (fun h9 => h9.elim (fun h8 => h.noc.ty h8) (fun h8 => by cases h8))
/-- what the laws see of a server: its channels and its table -/
theorem SvAt.chans {g kb base : Nat} {ns : List ByteArray} {S : SvT} {sb : Option Nat} {w : World} (h : SvAt g kb base ns S sb w) (hn : S.cs.length ≤ 1000) : Calls Tryz.prog 20 #[.pointer (some ⟨g, 0, none⟩)] w fun e w' => ∃ Ad c, e = .returned (.agg (muxA (.slice Ad S.cs.length c) S.dead)) ∧ Ext w w' := by
 obtain ⟨pv, fv, cv, lv, sv, bs, Ap, cp, tbs, sbs, h⟩ := h
 exact chans_any (A := fun _ => True) g pv fv _ cv _ lv _ sv S.dead S.cs w h.blk h.ch.rdT.y hn
theorem SvAt.table {g kb base : Nat} {ns : List ByteArray} {S : SvT} {sb : Option Nat} {w : World} (h : SvAt g kb base ns S sb w) (hn : S.pr.length ≤ 1000) : Calls Tryz.prog 21 #[.pointer (some ⟨g, 0, none⟩)] w fun e w' => ∃ A' c', e = .returned (.agg #[.slice A' S.pr.length c', .int .i64 S.nx]) ∧ Ext w w' := by
 obtain ⟨pv, fv, cv, lv, sv, bs, Ap, cp, tbs, sbs, h⟩ := h
 exact stable_any g kb base pv fv _ cv _ _ lv _ sv _ S.pr S.nx S.kn tbs sbs S.ts w h.blk h.kr hn
end Go.Proofs.YtmmhcllibpmfnaaGreatDoor
namespace Go.Proofs.YtmmhcllibpmfnaaGreatDoor
open Go.RowKit Go.Kb Go.Maps
set_option maxRecDepth 100000
/-- programs with their operations -/
def PqR : Rep (ByteArray × List Po) where
 size := 2
 pos := by decide
 rel := fun A w cs d => ∃ v, cs = [.string d.1, v] ∧ RdS OpR A w v d.2
 len := fun ⟨v, h, _⟩ => by rw [h]; rfl
 one := fun ⟨v, h, h2⟩ u hu => by
   obtain ⟨Ad, c, rfl, _⟩ := h2.shape
   rw [h] at hu
   simp at hu
   rcases hu with rfl | rfl <;> rfl
 keep := fun ⟨v, h, h2⟩ hk => ⟨v, h, h2.keep hk⟩
structure PgOk (l : List (ByteArray × List Po)) : Prop where
 ne : 1 ≤ l.length
 le : l.length ≤ 32
 nm : ∀ d ∈ l, NameOk d.1 ∧ d.2.length ≤ 64
def CheckP (l : List (ByteArray × List Po)) (w : World) (e : Ending) (w' : World) : Prop := ∃ x : Int, e = .returned (.int .i64 x) ∧ (x = 0 → PgOk l) ∧ Ext w w'
set_option maxHeartbeats 4000000 in
theorem check_any {A : Nat → Prop} (v : Value) (l : List (ByteArray × List Po)) (w : World) (h : RdY PqR A w v l) (hs : ∀ d ∈ l, d.1.size ≤ 9223372036854775807) : Calls Tryz.prog 7 #[v] w (CheckP l w) := by
 have hiP : ∀ a b : Value, (Tryz.prog.info? 101).map (·.size) = some [a, b].length := fun _ _ => by kernel_rfl
 have hiP2 : (Tryz.prog.info? 101).map (·.size) = some 2 := by kernel_rfl
 obtain ⟨Ad, c, rfl, hc1, hc2⟩ := h.shape
 have H := Lib.hid (h.mono (B := fun _ => True) fun _ _ _ => trivial)
 have HS := Lib.hid hs
 obtain ⟨n, hn⟩ : ∃ n, l.length = n := ⟨_, rfl⟩
 rw [hn] at H hc1 ⊢
 have HN := Lib.hid hn
 clear h hn hs
 have HWI := Lib.hid (fun w' => pwithin_is n 1 32 w')
 obtain ⟨q, hq⟩ : ∃ q, decide ((1 : Int) ≤ n ∧ (n : Int) ≤ 32) = q := ⟨_, rfl⟩
 rw [hq] at HWI
 cases q with
 | false =>
   clear hq
   go_enter Tryz.func7, Tryz.ntmps7
   go_wp2_with fail
   refine (HWI.out _).mono ?_
   rintro e w1 ⟨rfl, E1⟩
   go_wp2
   go_ret
   exact ⟨_, rfl, (fun h => by cases h), E1⟩
 | true =>
   have hn32 := of_decide_eq_true hq
   have HB := Lib.hid hn32
   clear hq hn32
   go_enter Tryz.func7, Tryz.ntmps7
   go_wp2_with fail
   refine (HWI.out _).mono ?_
   rintro e w1 ⟨rfl, E1⟩
   have E1 := Lib.hid E1
   go_wp2
   go_loopw [15] (fun i wr => ∃ m : Nat, m ≤ n ∧ i = .int .i64 m ∧ Hid (∀ d ∈ l.take m, NameOk d.1 ∧ d.2.length ≤ 64) ∧ Hid (Ext w wr)) (fun i _ => n - (intOf i).toNat)
   case atStart => exact ⟨0, Nat.zero_le _, rfl, Lib.hid (by simp), E1⟩
   case round =>
     obtain ⟨m, hm, rfl, HD, hE⟩ := hrel
     by_cases hlt : m < n
     · obtain ⟨b, off, c2, d, cs, hv, hd, hrel2, hlen, hcell⟩ := (H.out.ext hE.out).cells (j := m) (by rw [HN.out]; exact hlt)
       simp only [Value.slice.injEq] at hv
       obtain ⟨rfl, -, rfl⟩ := hv
       obtain ⟨v2, rfl, hr2⟩ := hrel2.out
       obtain ⟨nm, ops⟩ := d
       dsimp only at hr2 hcell
       have HCELL := Lib.hid (show wr.rangeAt b (off + m * 2) [.string nm, v2] from hcell)
       have HR2 := Lib.hid hr2
       have hsz := HS.out (nm, ops) (List.mem_of_getElem? hd.out)
       obtain ⟨A2, c2, rfl, -, -⟩ := hr2.shape
       clear hlen hcell hrel2 hr2
       go_upto_region 6 with (refine wpList_load_mid rfl 101 _ rfl b (off + m * 2) rfl [.string nm, .slice A2 ops.length c2] _ HCELL.out Tryz.underlying101 rfl (hiP _ _) ?_)
       obtain ⟨W9, hW9⟩ : ∃ W9, W9 = wr.alloc (.cells #[.string nm, .slice A2 ops.length c2] 101) := ⟨_, rfl⟩
       have E9 : Ext wr W9 := by rw [hW9]; exact (Ext.refl _).alloc _
       have P9 := Lib.hid (show Blk W9 wr.heap.size 101 #[.string nm, .slice A2 ops.length c2] by rw [hW9]; exact Blk.new wr _ _)
       rw [← hW9]
       clear hW9
       go_wp2_with (first | (refine wpList_load_row rfl 101 _ rfl _ rfl 101 _ _ _ P9.out Tryz.underlying101 rfl hiP2 ?_) | fail)
       refine (pwrong_any nm (.slice A2 ops.length c2) ops _ _ _ ((HR2.out.ext E9).y) hsz).mono ?_
       rintro e w2 ⟨x, rfl, hx, E2⟩
       have E92 := Lib.hid ((hE.out.trans E9).trans E2)
       by_cases hx0 : x = 0
       · have HX := Lib.hid (hx hx0)
         subst hx0
         clear hx HR2 HCELL P9 E9 E2
         go_wp2
         refine ⟨⟨m + 1, by omega, by go_num, Lib.hid ?_, E92⟩, by simp [intOf]; omega⟩
         rw [List.take_add_one, hd.out]
         intro q hq
         rcases List.mem_append.1 hq with h | h
         · exact HD.out q h
         · simp at h; rw [h]; exact HX.out
       · have HX0 := Lib.hid hx0
         clear hx HR2 HCELL P9 E9 E2
         go_wp2
         go_ret
         exact ⟨x, rfl, (fun h => absurd h HX0.out), E92.out⟩
     · obtain rfl : m = n := by omega
       obtain ⟨wq, rfl⟩ : ∃ wq, wq = wr := ⟨_, rfl⟩
       have HPG := Lib.hid (show PgOk l from ⟨by rw [HN.out]; have := HB.out; omega, by rw [HN.out]; have := HB.out; omega, by
         have h9 := HD.out
         rw [List.take_of_length_le (by rw [HN.out]; exact Nat.le_refl _)] at h9
         exact h9⟩)
       have hmm := @run_makeMap Tryz.prog
       obtain ⟨W3, hW3⟩ : ∃ W3, W3 = wq.alloc (.map #[] 0) := ⟨_, rfl⟩
       obtain ⟨M, hM⟩ : ∃ M, wq.heap.size = M := ⟨_, rfl⟩
       have HM0 := Lib.hid (show MapK kStr M W3 [] by rw [hW3, ← hM]; exact MapK.made kStr wq)
       have E3 := Lib.hid (show Ext w W3 by rw [hW3]; exact hE.out.alloc _)
       have HMW := Lib.hid (show w.heap.size ≤ M by rw [← hM]; exact hE.out.size)
       have HW3 := Lib.hid hW3
       have HMN := Lib.hid hM
       clear hM hW3 HD hE
       go_wp2
       rw [HMN.out, ← HW3.out]
       clear HW3 HMN hmm
       go_loopw [33] (fun i wr => ∃ (k : Nat) (S : List ByteArray), k ≤ m ∧ i = .int .i64 k ∧ S.length ≤ k ∧ Hid (MapK kStr M wr S) ∧ Hid (Ext w wr)) (fun i _ => m - (intOf i).toNat)
       case atStart => exact ⟨0, [], Nat.zero_le _, rfl, Nat.le_refl _, HM0, E3⟩
       case round =>
         clear HM0 E3
         obtain ⟨k, S, hk, rfl, hSl, HM, hE⟩ := hrel
         by_cases hlt : k < m
         · obtain ⟨b, off, c2, d, cs, hv, hd, hrel2, hlen, hcell⟩ := (H.out.ext hE.out).cells (j := k) (by rw [HN.out]; exact hlt)
           simp only [Value.slice.injEq] at hv
           obtain ⟨rfl, -, rfl⟩ := hv
           obtain ⟨v2, rfl, hr2⟩ := hrel2.out
           obtain ⟨nm, ops⟩ := d
           dsimp only at hr2 hcell
           have HCELL := Lib.hid (show wr.rangeAt b (off + k * 2) [.string nm, v2] from hcell)
           have hsz := Lib.hid (show kStr.ok nm from HS.out (nm, ops) (List.mem_of_getElem? hd.out))
           obtain ⟨A2, c2, rfl, -, -⟩ := hr2.shape
           have hmb := HB.out
           clear hlen hcell hrel2 hr2
           go_upto_region 14 with (refine wpList_load_mid rfl 101 _ rfl b (off + k * 2) rfl [.string nm, .slice A2 ops.length c2] _ HCELL.out Tryz.underlying101 rfl (hiP _ _) ?_)
           obtain ⟨W9, hW9⟩ : ∃ W9, W9 = wr.alloc (.cells #[.string nm, .slice A2 ops.length c2] 101) := ⟨_, rfl⟩
           have E9 : Ext wr W9 := by rw [hW9]; exact (Ext.refl _).alloc _
           have P9 := Lib.hid (show Blk W9 wr.heap.size 101 #[.string nm, .slice A2 ops.length c2] by rw [hW9]; exact Blk.new wr _ _)
           rw [← hW9]
           have hE9 := Lib.hid (hE.out.trans E9)
           have HM9 := Lib.hid (HM.out.ext E9)
           have k0 := P9.out.cell 0
           simp only [List.getElem?_toArray, List.getElem?_cons_zero] at k0
           clear hW9 HM hE E9
           by_cases hin : nm ∈ S
           · have HIN := Lib.hid (show nm ∈ S ↔ true = true from ⟨fun _ => rfl, fun _ => hin⟩)
             clear hin
             go_wp2_with (refine wpList_kseen kStr rfl _ _ rfl rfl HM9.out nm rfl hsz.out true HIN.out ?_)
             go_ret
             exact ⟨_, rfl, (fun h => by cases h), hE9.out⟩
           · have HIN := Lib.hid (show nm ∈ S ↔ false = true from ⟨fun h => absurd h hin, fun h => by cases h⟩)
             have HNI := Lib.hid hin
             clear hin
             go_wp2_with (first
               | (refine wpList_kseen kStr rfl _ _ rfl rfl HM9.out nm rfl hsz.out false HIN.out ?_)
               | (at_mapUpdate; refine wpList_ksee kStr rfl _ _ _ rfl rfl HM9.out nm HNI.out rfl rfl hsz.out (by omega) ?_; intro w4 m4 M4; have HM4 := Lib.hid m4; have E4 := Lib.hid (Mod.toExt hE9.out M4 (fun k hk he => by have := HMW.out; omega))))
             exact ⟨⟨k + 1, S ++ [nm], by omega, by go_num, by simp; omega, HM4, E4⟩, by simp [intOf]; omega⟩
         · go_wp2
           go_ret
           exact ⟨_, rfl, fun _ => HPG.out, hE.out⟩
end Go.Proofs.YtmmhcllibpmfnaaGreatDoor
namespace Go.Proofs.YtmmhcllibpmfnaaGreatDoor
open Go.RowKit Go.Kb
set_option maxRecDepth 100000
theorem pq_at {A : Nat → Prop} {w : World} {Ad : Option Addr} {n c j : Nat} {l : List (ByteArray × List Po)} (h : RdY PqR A w (.slice Ad n c) l) (hj : j < n) :
   ∃ b off nm ops A2 c2, Ad = some ⟨b, off, none⟩ ∧ Hid (w.rangeAt b (off + j * 2) [.string nm, .slice A2 ops.length c2]) ∧ Hid (l[j]? = some (nm, ops)) ∧ Hid (RdS OpR A w (.slice A2 ops.length c2) ops) := by
 obtain ⟨Ad', c', hv, _⟩ := h.shape
 simp only [Value.slice.injEq] at hv
 obtain ⟨rfl, rfl, rfl⟩ := hv
 obtain ⟨b, off, c, d, cs, hv, hd, hr, hl, hc⟩ := h.cells hj
 simp only [Value.slice.injEq] at hv
 obtain ⟨v, rfl, hr2⟩ := hr.out
 obtain ⟨nm, ops⟩ := d
 dsimp only at hr2 hc
 obtain ⟨A2, c2, rfl, -, -⟩ := hr2.shape
 exact ⟨b, off, nm, ops, A2, c2, hv.1, Lib.hid hc, hd, Lib.hid hr2⟩
theorem op_at {A : Nat → Prop} {w : World} {Ad : Option Addr} {n c j : Nat} {l : List Po} (h : RdY OpR A w (.slice Ad n c) l) (hj : j < n) :
   ∃ b off d, Ad = some ⟨b, off, none⟩ ∧ Hid (w.rangeAt b (off + j * 4) (opA d).toList) ∧ Hid (l[j]? = some d) := by
 obtain ⟨Ad', c', hv, _⟩ := h.shape
 simp only [Value.slice.injEq] at hv
 obtain ⟨rfl, rfl, rfl⟩ := hv
 obtain ⟨b, off, c, d, cs, hv, hd, hr, hl, hc⟩ := h.cells hj
 simp only [Value.slice.injEq] at hv
 obtain rfl : cs = (opA d).toList := hr.out
 exact ⟨b, off, d, hv.1, Lib.hid hc, hd⟩
set_option maxHeartbeats 4000000 in
theorem great_pq {A : Nat → Prop} (v : Value) (l : List (ByteArray × List Po)) (w : World) (h : RdY PqR A w v l) : Calls Tryz.prog 17 #[v] w (AnyB w) := by
 have hiP : ∀ a b : Value, (Tryz.prog.info? 134).map (·.size) = some [a, b].length := fun _ _ => by kernel_rfl
 have hiO : ∀ d : Po, (Tryz.prog.info? 107).map (·.size) = some (opA d).toList.length := fun _ => by kernel_rfl
 obtain ⟨Ad, c, rfl, hc1, hc2⟩ := h.shape
 have H := Lib.hid (h.mono (B := fun _ => True) fun _ _ _ => trivial)
 obtain ⟨n, hn⟩ : ∃ n, l.length = n := ⟨_, rfl⟩
 rw [hn] at H hc1 ⊢
 clear h hn
 go_enter Tryz.func17, Tryz.ntmps17
 go_wp2
 go_loopw [3, 10] (fun s i wr => ∃ (m : Nat) (z : Int), m ≤ n ∧ i = .int .i64 m ∧ s = .int .i64 z ∧ Hid (Ext w wr)) (fun _ i _ => n - (intOf i).toNat)
 case atStart => exact ⟨0, 0, Nat.zero_le _, rfl, rfl, Lib.hid (Ext.refl _)⟩
 case round =>
   obtain ⟨m, z, hm, rfl, rfl, hE⟩ := hrel
   by_cases hlt : m < n
   · obtain ⟨b, off, nm, ops, A2, c2, rfl, HCELL, -, HR2⟩ := pq_at (H.out.ext hE.out) hlt
     go_upto_region 5 with (refine wpList_load_mid rfl 134 _ rfl b (off + m * 2) rfl [.string nm, .slice A2 ops.length c2] _ HCELL.out Tryz.underlying134 rfl (hiP _ _) ?_)
     obtain ⟨W9, hW9⟩ : ∃ W9, W9 = wr.alloc (.cells #[.string nm, .slice A2 ops.length c2] 134) := ⟨_, rfl⟩
     have E9 : Ext wr W9 := by rw [hW9]; exact (Ext.refl _).alloc _
     have P9 := Lib.hid (show Blk W9 wr.heap.size 134 #[.string nm, .slice A2 ops.length c2] by rw [hW9]; exact Blk.new wr _ _)
     rw [← hW9]
     have hE9 := Lib.hid (hE.out.trans E9)
     have HR9 := Lib.hid (HR2.out.ext E9)
     have k0 := P9.out.cell 0
     have k1 := P9.out.cell 1
     simp only [List.getElem?_toArray, List.getElem?_cons_zero, List.getElem?_cons_succ] at k0 k1
     obtain ⟨L2, hL2⟩ : ∃ L2, ops.length = L2 := ⟨_, rfl⟩
     rw [hL2] at HR9 k1 ⊢
     clear hW9 hE HCELL HR2 E9 P9 hL2
     go_cut [3] (fun s3 wx => ∃ z2, s3 = .int .i64 z2 ∧ wx = W9)
     case first =>
       go_wp2
       go_meet
       exact ⟨_, rfl, rfl⟩
     case rest =>
       obtain ⟨z2, rfl, rfl⟩ := hcut
       clear k0
       go_wp2
       go_loopw [3, 30] (fun s i wr => ∃ (j : Nat) (z : Int), j ≤ L2 ∧ i = .int .i64 j ∧ s = .int .i64 z ∧ Hid (Ext wc wr)) (fun _ i _ => L2 - (intOf i).toNat)
       case atStart => exact ⟨0, z2, Nat.zero_le _, rfl, rfl, Lib.hid (Ext.refl _)⟩
       case round =>
         obtain ⟨j, z3, hj, rfl, rfl, hF⟩ := hrel
         by_cases hjl : j < L2
         · obtain ⟨b2, off2, d, rfl, HC2, -⟩ := op_at (HR9.out.ext hF.out).y hjl
           go_upto_region 9 with (refine wpList_load_mid rfl 107 _ rfl b2 (off2 + j * 4) rfl (opA d).toList _ HC2.out Tryz.underlying107 rfl (hiO _) ?_)
           obtain ⟨W8, hW8⟩ : ∃ W8, W8 = wr.alloc (.cells (opA d) 107) := ⟨_, rfl⟩
           have E8 : Ext wr W8 := by rw [hW8]; exact (Ext.refl _).alloc _
           have P8 := Lib.hid (show Blk W8 wr.heap.size 107 (opA d) by rw [hW8]; exact Blk.new wr _ _)
           rw [← hW8]
           have hF8 := Lib.hid (hF.out.trans E8)
           have k3 := P8.out.cell 3
           simp only [List.getElem?_toArray, List.getElem?_cons_zero, List.getElem?_cons_succ] at k3
           clear hW8 hF E8 P8 HC2
           go_cut [3] (fun s3 wx => ∃ z2, s3 = .int .i64 z2 ∧ wx = W8)
           case first =>
             go_wp2
             go_meet
             exact ⟨_, rfl, rfl⟩
           case rest =>
             obtain ⟨z4, rfl, rfl⟩ := hcut
             clear k3
             by_cases h100 : (100 : Int) < j
             · go_wp2
               go_ret
               exact ⟨_, rfl, hE9.out.trans hF8.out⟩
             · by_cases h5 : (5000 : Int) < z4
               · go_wp2
                 go_ret
                 exact ⟨_, rfl, hE9.out.trans hF8.out⟩
               · go_wp2
                 exact ⟨⟨j + 1, z4, by omega, by go_num, rfl, hF8⟩, by simp [intOf]; omega⟩
         · have hE0 := Lib.hid (hE9.out.trans hF.out)
           clear hE9 hF HR9
           by_cases h60 : (60 : Int) < m
           · go_wp2
             go_ret
             exact ⟨_, rfl, hE0.out⟩
           · by_cases h5 : (5000 : Int) < z3
             · go_wp2
               go_ret
               exact ⟨_, rfl, hE0.out⟩
             · go_wp2
               exact ⟨⟨m + 1, z3, by omega, by go_num, rfl, hE0⟩, by simp [intOf]; omega⟩
   · go_wp2
     go_ret
     exact ⟨_, rfl, hE.out⟩
end Go.Proofs.YtmmhcllibpmfnaaGreatDoor
namespace Go.Proofs.YtmmhcllibpmfnaaGreatDoor
open Go.RowKit Go.Kb
set_option maxRecDepth 100000
theorem info_pg : (Tryz.prog.info? 101).map (fun i => (i.zero, i.size, i.bytes)) = some (some (.agg #[.string ⟨#[]⟩, .slice none 0 0]), PgR.size, 40) := by kernel_rfl
/- slices.Clone at one slice type: slices.Clone[[]parlour/program.Op,parlour/program.Op] (op), slice type []program.Op, element program.Op, rep OpR -/
theorem info_op : (Tryz.prog.info? 108).map (fun i => (i.zero, i.size, i.bytes)) = some (some (.agg #[.int .i64 0, .int .i64 0, .int .i64 0, .string ⟨#[]⟩]), (OpR).size, 40) := by kernel_rfl
set_option maxHeartbeats 400000 in
theorem clone_op {A : Nat → Prop} (v : Value) (ds : List _) (w : World) (h : RdY OpR A w v ds) (hn : ds.length * 40 ≤ 140737488355328) :
   Calls Tryz.prog 45 #[v] w fun e w' => ∃ Ad c, e = .returned (.slice Ad ds.length c) ∧ OwnS OpR 108 w.heap.size (fun k => A k ∧ k < w.heap.size) w' (.slice Ad ds.length c) ds ∧ Ext w w' := by
 obtain ⟨us, ⟨hl, Ad, c, rfl, hnc, hcm, hA⟩, he⟩ := id h
 have H := Lib.hid h
 have HL := Lib.hid hl
 clear h hl he
 have heq := fun u => Lib.run_eql_slice_nil (P := Tryz.prog) u 99 _ Ad ds.length c 0 0 Tryz.underlying99
 rcases Ad with _ | ad
 · have h0 : ds.length = 0 ∧ c = 0 := by
     rcases hA with rfl | ⟨b, off, h0, _⟩
     · omega
     · cases h0
   obtain ⟨h1, rfl⟩ := h0
   obtain rfl : ds = [] := List.eq_nil_of_length_eq_zero h1
   clear hA HL h1
   simp only [List.length_nil] at heq ⊢
   go_enter Tryz.func45, Tryz.ntmps45
   go_wp2
   go_ret
   exact ⟨_, _, rfl, OwnS.nil _ _ _ _ _, zX⟩
 · clear hA
   go_enter Tryz.func45, Tryz.ntmps45
   go_wp2_with ((at_builtin; refine wpList_app (e := OpR) (base := w.heap.size) (B := fun k => A k ∧ k < w.heap.size) (A := fun k => A k ∧ k < w.heap.size) rfl _ _ rfl Tryz.underlying99 info_op rfl (OwnS.empty _ _ _ rfl (Nat.le_refl _)) rfl (RdY.alloc (RdY.lt H.out) _) rfl (fun k _ hk => ⟨hk, fun h => by have := hk.2; simp [Value.ownBlock] at h; omega⟩) (N := ds.length) (by simp) (by simp [maxLen]; omega) (by omega) (by simp) ?_; intro A1 c1 w1 hown hM hB; simp only [List.nil_append] at hown))
   go_ret
   exact ⟨_, _, rfl, hown, zX⟩
/-- append within a drawn region: taken from XN28 -/
abbrev ker0 (v : Value) : Array Value := kerA v (.slice none 0 0) (.int .i64 1) (.slice none 0 0) (.slice none 0 0) (.int .i64 1)
abbrev srv0 (kb : Nat) (v : Value) : Array Value := srvA v (.slice none 0 0) (.bool false) (.slice none 0 0) lm4 (.bool false) (.pointer (some ⟨kb, 0, none⟩)) (.slice none 0 0) (.slice none 0 0) (.slice none 0 0)
def KNewP (l : List (ByteArray × List Po)) (w : World) (e : Ending) (w' : World) : Prop :=
 (∃ x : Int, e = .returned (.tuple #[.pointer none, .int .i64 x]) ∧ x ≠ 0 ∧ Ext w w') ∨
 (PgOk l ∧ ∃ kb Ap cp, e = .returned (.tuple #[.pointer (some ⟨kb, 0, none⟩), .int .i64 0]) ∧ w.heap.size ≤ kb ∧ Blk w' kb 218 (ker0 (.slice Ap l.length cp)) ∧ Ext w w')
set_option maxHeartbeats 6000000 in
theorem knew_any {A : Nat → Prop} (v : Value) (l : List (ByteArray × List Po)) (w : World) (h : RdY PqR A w v l) (hs : ∀ d ∈ l, d.1.size ≤ 9223372036854775807) : Calls Tryz.prog 44 #[v] w (KNewP l w) := by
 have hiP : ∀ a b : Value, (Tryz.prog.info? 101).map (·.size) = some [a, b].length := fun _ _ => by kernel_rfl
 have HCH := Lib.hid (check_any v l w h hs)
 unfold CheckP at HCH
 obtain ⟨Ad, c, rfl, hc1, hc2⟩ := h.shape
 have H := Lib.hid (h.mono (B := fun _ => True) fun _ _ _ => trivial)
 obtain ⟨n, hn⟩ : ∃ n, l.length = n := ⟨_, rfl⟩
 rw [hn] at H hc1 HCH ⊢
 have HN := Lib.hid hn
 clear h hn hs
 go_enter Tryz.func44, Tryz.ntmps44
 go_wp2_with fail
 refine (HCH.out).mono ?_
 rintro e w1 ⟨x, rfl, hx, E1⟩
 by_cases hx0 : x = 0
 · have HPG := Lib.hid (hx hx0)
   subst hx0
   have hn32 : n ≤ 32 := by rw [← HN.out]; exact HPG.out.le
   clear hx HCH
   go_upto_region 5 with fail
   obtain ⟨w2, hw2⟩ : ∃ w2, w2 = w1.alloc (.cells (ker0 (.slice none 0 0)) 218) := ⟨_, rfl⟩
   have E2 : Ext w1 w2 := by rw [hw2]; exact (Ext.refl _).alloc _
   have P2 := Lib.hid (show Blk w2 w1.heap.size 218 (ker0 (.slice none 0 0)) by rw [hw2]; exact Blk.new w1 _ _)
   rw [← hw2]
   clear hw2
   obtain ⟨kb, hkb⟩ : ∃ kb, w1.heap.size = kb := ⟨_, rfl⟩
   have HKB := Lib.hid (show w.heap.size ≤ kb by rw [← hkb]; exact E1.size)
   rw [hkb] at P2 ⊢
   have E02 := Lib.hid (E1.trans E2)
   obtain ⟨base, hbase⟩ : ∃ base, w.heap.size = base := ⟨_, rfl⟩
   rw [hbase] at HKB
   have HBS := Lib.hid hbase
   clear hkb E1 E2 hbase
   go_wp2
   go_loopw [18] (fun i wr => ∃ (m : Nat) (Av : Option Addr) (cv : Nat), m ≤ n ∧ i = .int .i64 m ∧ Hid (Blk wr kb 218 (ker0 (.slice Av m cv))) ∧ Hid (OwnS PgR 101 base (fun _ => False) wr (.slice Av m cv) ((l.take m).map (·.1))) ∧ Hid (Ext w wr)) (fun i _ => n - (intOf i).toNat)
   case atStart => exact ⟨0, none, 0, Nat.zero_le _, rfl, P2, Lib.hid (OwnS.nil _ _ _ _ _), E02⟩
   case round =>
     clear P2 E02
     obtain ⟨m, Av, cv, hm, rfl, HB, HO, hE⟩ := hrel
     by_cases hlt : m < n
     · obtain ⟨b, off, c2, d, cs, hv, hd, hrel2, hlen, hcell⟩ := (H.out.ext hE.out).cells (j := m) (by rw [HN.out]; exact hlt)
       simp only [Value.slice.injEq] at hv
       obtain ⟨rfl, -, rfl⟩ := hv
       obtain ⟨v2, rfl, hr2⟩ := hrel2.out
       obtain ⟨nm, ops⟩ := d
       dsimp only at hr2 hcell
       have HCELL := Lib.hid (show wr.rangeAt b (off + m * 2) [.string nm, v2] from hcell)
       have HR2 := Lib.hid hr2
       have h64 : ops.length ≤ 64 := (HPG.out.nm (nm, ops) (List.mem_of_getElem? hd.out)).2
       obtain ⟨A2, c2, rfl, -, -⟩ := hr2.shape
       clear hlen hcell hrel2 hr2
       go_upto_region 8 with (refine wpList_load_mid rfl 101 _ rfl b (off + m * 2) rfl [.string nm, .slice A2 ops.length c2] _ HCELL.out Tryz.underlying101 rfl (hiP _ _) ?_)
       obtain ⟨W9, hW9⟩ : ∃ W9, W9 = wr.alloc (.cells #[.string nm, .slice A2 ops.length c2] 101) := ⟨_, rfl⟩
       have E9 : Ext wr W9 := by rw [hW9]; exact (Ext.refl _).alloc _
       have P9 := Lib.hid (show Blk W9 wr.heap.size 101 #[.string nm, .slice A2 ops.length c2] by rw [hW9]; exact Blk.new wr _ _)
       rw [← hW9]
       have hE9 := Lib.hid (hE.out.trans E9)
       have HB9 := Lib.hid (HB.out.ext E9)
       have HO9 := Lib.hid (HO.out.ext E9)
       have HCL := Lib.hid (fun w' (E : Ext W9 w') => clone_op (A := fun _ => True) (.slice A2 ops.length c2) ops w' (((HR2.out.ext E9).ext E).y) (by omega))
       obtain ⟨L2, hL2⟩ : ∃ L2, ops.length = L2 := ⟨_, rfl⟩
       rw [hL2] at P9 HCL ⊢
       obtain ⟨n9, hn9⟩ : ∃ n9, wr.heap.size = n9 := ⟨_, rfl⟩
       have hn0 : ¬ (Value.slice Av m cv).ownBlock = some n9 := fun h9 => by have := (HO.out.row n9 h9).2; omega
       rw [hn9] at P9 ⊢
       have hgL : ¬ (Value.slice Av m cv).ownBlock = some kb := own_ne HO.out HB.out (by decide)
       have hkl := HB9.out.lt
       have hnl := P9.out.lt
       have q0 := HB9.out.cell 0
       have k0 := P9.out.cell 0
       have k1 := P9.out.cell 1
       simp only [List.getElem?_toArray, List.getElem?_cons_zero, List.getElem?_cons_succ] at q0 k0 k1
       have htk : (l.take m).length = m := by rw [List.length_take, HN.out]; omega
       have hbW : base ≤ W9.heap.size := by have := hE9.out.size; have := HBS.out; omega
       have hkbb : base ≤ kb := HKB.out
       clear hW9 HCELL HR2 HB HO hE E9 hL2 hn9 h64
       refine region_till 15 (fun w' => Kb.Mod (fun k => (Value.slice Av m cv).ownBlock = some k) W9 w') (by kernel_rfl) (Mod.of_ext (Ext.drew (Ext.refl _))) (fun hHeld => ?_)
       obtain ⟨D, hD⟩ : ∃ D, D = W9.drew := ⟨_, rfl⟩
       have ED : Ext W9 D := by rw [hD]; exact (Ext.refl _).drew
       rw [← hD] at hHeld ⊢
       clear hD
       (refine till_take (i := 0) (v := ?_) rfl (by kernel_rfl) (by kernel_rfl) (by kernel_rfl) (by kernel_rfl) (fun _ _ _ h => h) (Or.inl ⟨by rfl, ?_⟩) (by assumption) ?_; rotate_left; (focus (intro w' hSw; go_simp; try with_reducible rfl)); (try simp only [zP]))
       (refine till_take (i := 1) (v := ?_) rfl (by kernel_rfl) (by kernel_rfl) (by kernel_rfl) (by kernel_rfl) (fun _ _ _ h => h) (Or.inl ⟨by rfl, ?_⟩) (by assumption) ?_; rotate_left; (focus (intro w' hSw; go_simp; try with_reducible rfl)); (try simp only [zP]))
       (refine till_take (i := 2) (v := ?_) rfl (by kernel_rfl) (by kernel_rfl) (by kernel_rfl) (by kernel_rfl) (fun _ _ _ h => h) (Or.inl ⟨by rfl, ?_⟩) (by assumption) ?_; rotate_left; (focus (intro w' hSw; go_simp; try with_reducible rfl)); (try simp only [zP]))
       (refine till_take (i := 3) (v := ?_) rfl (by kernel_rfl) (by kernel_rfl) (by kernel_rfl) (by kernel_rfl) (fun _ _ _ h => h) (Or.inl ⟨by rfl, ?_⟩) (by assumption) ?_; rotate_left; (focus (intro w' hSw; go_simp; try with_reducible rfl)); (try simp only [zP]))
       (refine till_take (i := 4) (v := ?_) rfl (by kernel_rfl) (by kernel_rfl) (by kernel_rfl) (by kernel_rfl) (fun _ _ _ h => h) (Or.inl ⟨by rfl, ?_⟩) (by assumption) ?_; rotate_left; (focus (intro w' hSw; have kc := (hSw.cell kb 0 hkl hgL).trans q0; go_simp; try with_reducible rfl)); (try simp only [zP]))
       (refine till_take (i := 5) (v := ?_) rfl (by kernel_rfl) (by kernel_rfl) (by kernel_rfl) (by kernel_rfl) (fun _ _ _ h => h) (Or.inl ⟨by rfl, ?_⟩) (by assumption) ?_; rotate_left; (focus (intro w' hSw; go_simp; try with_reducible rfl)); (try simp only [zP]))
       (refine till_take (i := 6) (v := ?_) rfl (by kernel_rfl) (by kernel_rfl) (by kernel_rfl) (by kernel_rfl) (fun _ _ _ h => h) (Or.inl ⟨by rfl, ?_⟩) (by assumption) ?_; rotate_left; (focus (intro w' hSw; have kc := (hSw.cell n9 0 hnl hn0).trans k0; go_simp; try with_reducible rfl)); (try simp only [zP]))
       (refine till_take (i := 7) (v := ?_) rfl (by kernel_rfl) (by kernel_rfl) (by kernel_rfl) (by kernel_rfl) (fun _ _ _ h => h) (Or.inl ⟨by rfl, ?_⟩) (by assumption) ?_; rotate_left; (focus (intro w' hSw; go_simp; try with_reducible rfl)); (try simp only [zP]))
       (refine till_take (i := 8) (v := ?_) rfl (by kernel_rfl) (by kernel_rfl) (by kernel_rfl) (by kernel_rfl) (fun _ _ _ h => h) (Or.inl ⟨by rfl, ?_⟩) (by assumption) ?_; rotate_left; (focus (intro w' hSw; have kc := (hSw.cell n9 1 hnl hn0).trans k1; go_simp; try with_reducible rfl)); (try simp only [zP]))
       (refine till_ready (rs := [9]) (by kernel_rfl) (by simp) ?_; refine AllTill.cons rfl (fun K hK => ?_) AllTill.nil; go_simp; go_at_call 45; refine (HCL.out D ED).mono ?_; rintro e u3 ⟨A3, c3, rfl, -, E3⟩; (try dsimp only); refine hK.out _ _ (Mod.of_ext (ED.trans E3)) (fun hHeld => ?_); clear hK K; (try simp only [zP]))
       (refine till_take (i := 10) (v := ?_) rfl (by kernel_rfl) (by kernel_rfl) (by kernel_rfl) (by kernel_rfl) (fun _ _ _ h => h) (Or.inl ⟨by rfl, ?_⟩) (by assumption) ?_; rotate_left; (focus (intro w' hSw; go_simp; try with_reducible rfl)); (try simp only [zP]))
       have EU3 := Lib.hid (ED.trans E3)
       clear ED E3
       refine till_ready (rs := [11]) (by kernel_rfl) (by simp) ?_
       refine AllTill.cons rfl (fun K hK => ?_) AllTill.nil
       go_simp
       have HY := Lib.hid (Blk.new u3 101 #[.string nm, .slice A3 L2 c3])
       have EY := Lib.hid (EU3.out.trans ((Ext.refl u3).alloc (.cells #[.string nm, .slice A3 L2 c3] 101)))
       refine hK.out _ _ (Mod.of_ext EY.out) (fun hHeld => ?_)
       clear hK K
       (try simp only [zP])
       have HL5 := Lib.hid (HO9.out.ext EY.out)
       have HB5 := Lib.hid (HB9.out.ext EY.out)
       have hs5 := EY.out.size
       generalize u3.alloc (.cells #[.string nm, .slice A3 L2 c3] 101) = u5 at *
       generalize u3.heap.size = nY at *
       clear EU3
       refine till_ready (rs := [12]) (by kernel_rfl) (by simp) ?_
       refine AllTill.cons rfl (fun K hK => ?_) AllTill.nil
       refine step_appX (e := PgR) (base := base) (B := fun _ => False) (A := fun _ => False) rfl (.tmp 26) (.tmp 33) rfl Tryz.underlying28 info_pg rfl HL5.out rfl (RdY.singleB (e := PgR) (cs := [.string nm, .slice A3 L2 c3]) (d := nm) ⟨_, rfl, rfl⟩ HY.out) rfl (fun _ _ h => h.elim) (N := m + 1) (by rw [List.length_map, htk]; rfl) (by unfold maxLen; omega) (by omega) (by omega) ?_
       intro A9 c9 u6 o9 M9 X9
       have M69 := (Mod.of_ext EY.out).trans M9
       refine hK.out _ _ M69 (fun hHeld => ?_)
       clear hK K
       (try simp only [zP])
       have HB6 := Lib.hid (HB5.out.mod M9 hgL)
       have o9 := Lib.hid o9
       have M69 := Lib.hid M69
       clear M9 HY HB5 HL5 EY X9
       (refine till_ready (rs := [13]) (by kernel_rfl) (by simp) ?_; refine AllTill.cons rfl (fun K hK => ?_) AllTill.nil; go_simp; refine hK.out _ _ M69.out (fun hHeld => ?_); clear hK K; (try simp only [zP]))
       (refine till_take (i := 14) (v := ?_) rfl (by kernel_rfl) (by kernel_rfl) (by kernel_rfl) (by kernel_rfl) (fun _ _ _ h => h) (Or.inl ⟨by rfl, ?_⟩) (by assumption) ?_; rotate_left; (focus (intro w' hSw; go_simp; try with_reducible rfl)); (try simp only [zP]))
       have q0 := HB6.out.cell 0
       have f0 := HB6.out.frozen 0
       simp only [List.getElem?_toArray, List.getElem?_cons_zero] at q0
       (refine till_ready (rs := [15]) (by kernel_rfl) (by simp) ?_; refine AllTill.last rfl (fun K hK => ?_) AllTill.nil; go_simp; refine hK.out _ _ ?_; clear hK K; (try simp only [zP]))
       refine till_done (by kernel_rfl) ?_ _
       have M7 : Kb.Mod (fun k => k = kb) u6 (u6.setCell ⟨kb, 0, none⟩ (.slice A9 (m + 1) c9)) := (Mod.refl _ _).set1 _
       have hg9 : (Value.slice A9 (m + 1) c9).ownBlock ≠ some kb := own_ne o9.out HB6.out (by decide)
       have HB7 := Lib.hid (show Blk (u6.setCell ⟨kb, 0, none⟩ (.slice A9 (m + 1) c9)) kb 218 (ker0 (.slice A9 (m + 1) c9)) by simpa using HB6.out.set_ 0 (.slice A9 (m + 1) c9))
       have HO7 := Lib.hid (o9.out.mod M7 (fun k hk he => hg9 (by rw [hk, he])) (fun k _ hk => hk.elim))
       have hE7 := Lib.hid (Mod.toExt (Mod.toExt hE9.out M69.out (fun k hk he => by have := (HO9.out.row k he).1; have := HBS.out; omega)) M7 (fun k hk he => by have := HBS.out; omega))
       clear M7 hg9 HB6 o9 M69
       generalize u6.setCell ⟨kb, 0, none⟩ (.slice A9 (m + 1) c9) = u7 at *
       go_wp2
       exact ⟨⟨m + 1, A9, c9, by omega, by go_num, HB7, by rw [List.take_add_one, hd.out]; simpa using HO7, hE7⟩, by simp [intOf]; omega⟩
     · obtain rfl : m = n := by omega
       go_wp2
       go_ret2
       exact .inr ⟨HPG.out, kb, Av, cv, rfl, by rw [HBS.out]; exact HKB.out, by rw [HN.out]; exact HB.out, hE.out⟩
 · have HX0 := Lib.hid hx0
   clear hx HCH
   go_wp2
   go_ret2
   exact .inl ⟨x, rfl, HX0.out, E1⟩
end Go.Proofs.YtmmhcllibpmfnaaGreatDoor
namespace Go.Proofs.YtmmhcllibpmfnaaGreatDoor
open Go.RowKit Go.Kb
set_option maxRecDepth 100000
theorem info_rp : (Tryz.prog.info? 134).map (fun i => (i.zero, i.size, i.bytes)) = some (some (.agg #[.string ⟨#[]⟩, .slice none 0 0]), PqR.size, 40) := by kernel_rfl
theorem info_tp9 : (Tryz.prog.info? 101).map (fun i => (i.zero, i.size, i.bytes)) = some (some (.agg #[.string ⟨#[]⟩, .slice none 0 0]), PqR.size, 40) := by kernel_rfl
theorem info_ro : (Tryz.prog.info? 107).map (fun i => (i.zero, i.size, i.bytes)) = some (some (.agg #[.int .i64 0, .int .i64 0, .int .i64 0, .string ⟨#[]⟩]), OpR.size, 40) := by kernel_rfl
theorem info_to9 : (Tryz.prog.info? 108).map (fun i => (i.zero, i.size, i.bytes)) = some (some (.agg #[.int .i64 0, .int .i64 0, .int .i64 0, .string ⟨#[]⟩]), OpR.size, 40) := by kernel_rfl
theorem rdy_op {A B : Nat → Prop} {w : World} {v : Value} {l : List Po} (h : RdY OpR A w v l) : RdY OpR B w v l := by
 obtain ⟨us, hr, he, h2⟩ := h
 exact ⟨us, hr, he, h2⟩
def PqFit (l : List (ByteArray × List Po)) : Prop := l.length * 40 ≤ 140737488351232 ∧ ∀ d ∈ l, d.2.length * 40 ≤ 140737488351232
set_option maxHeartbeats 4000000 in
theorem ref_pq (v : Value) (l : List (ByteArray × List Po)) (w : World) (h : RdY PqR (fun _ => True) w v l) (hf : PqFit l) : Calls Tryz.prog 13 #[v] w fun e w' => ∃ u, e = .returned u ∧ RdY PqR (fun _ => True) w' u l ∧ Ext w w' := by
 have hiP : ∀ a b : Value, (Tryz.prog.info? 76).map (·.size) = some [a, b].length := fun _ _ => by kernel_rfl
 obtain ⟨Ad, c, rfl, hc1, hc2⟩ := h.shape
 have H := Lib.hid h
 have HF := Lib.hid hf
 obtain ⟨n, hn⟩ : ∃ n, l.length = n := ⟨_, rfl⟩
 rw [hn] at H hc1 ⊢
 have HN := Lib.hid hn
 have hn40 : n * 40 ≤ 140737488351232 := by rw [← hn]; exact hf.1
 clear h hn hf
 go_enter Tryz.func13, Tryz.ntmps13
 go_wp2
 go_loopw [3, 8] (fun s i wr => ∃ (m : Nat), m ≤ n ∧ i = .int .i64 m ∧ Hid (OwnS PqR 134 w.heap.size (fun k => w.heap.size ≤ k) wr s (l.take m)) ∧ Hid (Ext w wr)) (fun _ i _ => n - (intOf i).toNat)
 case atStart => exact ⟨0, Nat.zero_le _, rfl, Lib.hid (OwnS.nil _ _ _ _ _), Lib.hid (Ext.refl _)⟩
 case round =>
   obtain ⟨m, hm, rfl, HO, hE⟩ := hrel
   by_cases hlt : m < n
   · obtain ⟨b, off, nm, ops, A2, c2, rfl, HCELL, hd, HR2⟩ := pq_at (H.out.ext hE.out) hlt
     have h40 := HF.out.2 (nm, ops) (List.mem_of_getElem? hd.out)
     dsimp only at h40
     have htk : (l.take m).length = m := by rw [List.length_take, HN.out]; omega
     obtain ⟨Au, cu, rfl, -, -⟩ := HO.out.shape
     rw [htk] at HO ⊢
     go_upto_region 5 with (refine wpList_load_mid rfl 76 _ rfl b (off + m * 2) rfl [.string nm, .slice A2 ops.length c2] _ HCELL.out Tryz.underlying76 rfl (hiP _ _) ?_)
     obtain ⟨W9, hW9⟩ : ∃ W9, W9 = wr.alloc (.cells #[.string nm, .slice A2 ops.length c2] 76) := ⟨_, rfl⟩
     have E9 : Ext wr W9 := by rw [hW9]; exact (Ext.refl _).alloc _
     have P9 := Lib.hid (show Blk W9 wr.heap.size 76 #[.string nm, .slice A2 ops.length c2] by rw [hW9]; exact Blk.new wr _ _)
     rw [← hW9]
     have hE9 := Lib.hid (hE.out.trans E9)
     have HR9 := Lib.hid (HR2.out.ext E9)
     have HO9 := Lib.hid (HO.out.ext E9)
     have k0 := P9.out.cell 0
     have k1 := P9.out.cell 1
     simp only [List.getElem?_toArray, List.getElem?_cons_zero, List.getElem?_cons_succ] at k0 k1
     obtain ⟨L2, hL2⟩ : ∃ L2, ops.length = L2 := ⟨_, rfl⟩
     have HL2 := Lib.hid hL2
     rw [hL2] at HR9 k1 h40 P9 ⊢
     have hz0 := hE.out.size
     have hz9 := hE9.out.size
     have hoR := Lib.hid HO9.out.row
     clear hW9 hE HCELL HR2 E9 hL2 HO
     obtain ⟨n9, hn9⟩ : ∃ n9, wr.heap.size = n9 := ⟨_, rfl⟩
     have hn0 : ¬ (Value.slice Au m cu).ownBlock = some n9 := fun h9 => by have := (hoR.out n9 h9).2; have := own_ne HO9.out P9.out (by decide); rw [hn9] at this; exact this h9
     rw [hn9] at P9 ⊢
     rw [hn9] at k0 k1
     have hnl := P9.out.lt
     clear hn9
     refine wp_region_held_drew (S := fun w' => Kb.Mod (fun k => (Value.slice Au m cu).ownBlock = some k) W9 w') (by kernel_rfl) (Mod.of_ext (Ext.drew (Ext.refl _))) (fun hHeld => ?_)
     obtain ⟨D, hD⟩ : ∃ D, D = W9.drew := ⟨_, rfl⟩
     have ED : Ext W9 D := by rw [hD]; exact (Ext.refl _).drew
     rw [← hD] at hHeld ⊢
     clear hD
     (refine zR 0 rfl ?_; (try simp only [zP]))
     (refine zR 1 rfl ?_; (try simp only [zP]))
     (refine zT 2 (v := ?_) rfl (Or.inl ⟨by rfl, ?_⟩) ?_; rotate_left; (focus (intro w' hSw; have kc := (hSw.cell n9 0 hnl hn0).trans k0; go_simp; try with_reducible rfl)); (try simp only [zP]))
     (refine zR 4 rfl ?_; (try simp only [zP]))
     (refine zT 5 (v := ?_) rfl (Or.inl ⟨by rfl, ?_⟩) ?_; rotate_left; (focus (intro w' hSw; have kc := (hSw.cell n9 1 hnl hn0).trans k1; go_simp; try with_reducible rfl)); (try simp only [zP]))
     refine wpAnyH_ready (rs := [3]) (by kernel_rfl) (by simp) ?_
     refine AllReadyH.cons rfl (fun K hK => ?_) AllReadyH.nil
     go_simp
     have BL := Lib.hid (Blk.new D 107 #[])
     have EL := Lib.hid (ED.trans ((Ext.refl D).alloc (.cells #[] 107)))
     refine hK.out _ _ (Mod.of_ext EL.out) (fun hHeld => ?_)
     clear hK K
     (try simp only [zP])
     have hzL : W9.heap.size ≤ D.heap.size := ED.size
     generalize D.alloc (.cells #[] 107) = u4 at *
     generalize D.heap.size = nL at *
     have hnL := BL.out.lt
     clear ED
     refine wpAnyH_ready (rs := [6]) (by kernel_rfl) (by simp) ?_
     refine AllReadyH.cons rfl (fun K hK => ?_) AllReadyH.nil
     refine step_app (e := OpR) (base := nL) (B := fun _ => False) (A := fun _ => False) rfl (.tmp 15) (.tmp 17) rfl Tryz.underlying74 info_ro rfl (OwnS.emptyB OpR _ BL.out (Nat.le_refl _)) rfl (rdy_op (HR9.out.ext EL.out).y) rfl (fun _ _ h => h.elim) (N := L2) (by rw [HL2.out]; simp) (by unfold maxLen; omega) (by omega) (by omega) ?_
     intro A3 c3 u5 o5 M5 _
     rw [List.nil_append] at o5
     have E5 := Lib.hid (Mod.toExt EL.out M5 (fun k hk he => by have h9 : some nL = some k := he; have := Option.some.inj h9; omega))
     have O5 := Lib.hid o5
     refine hK.out _ _ (Mod.of_ext E5.out) (fun hHeld => ?_)
     clear hK K o5 M5 BL EL
     (try simp only [zP])
     (refine zR 7 rfl ?_; (try simp only [zP]))
     refine wpAnyH_ready (rs := [8]) (by kernel_rfl) (by simp) ?_
     refine AllReadyH.cons rfl (fun K hK => ?_) AllReadyH.nil
     go_simp
     have BY := Lib.hid (Blk.new u5 134 #[.string nm, .slice A3 L2 c3])
     have EY := Lib.hid (E5.out.trans ((Ext.refl u5).alloc (.cells #[.string nm, .slice A3 L2 c3] 134)))
     have O6 := Lib.hid (O5.out.alloc (.cells #[.string nm, .slice A3 L2 c3] 134))
     refine hK.out _ _ (Mod.of_ext EY.out) (fun hHeld => ?_)
     clear hK K
     (try simp only [zP])
     generalize u5.alloc (.cells #[.string nm, .slice A3 L2 c3] 134) = u6 at *
     generalize u5.heap.size = nY at *
     have hz6 := EY.out.size
     have HOY := Lib.hid (HO9.out.ext EY.out)
     refine wpAnyH_ready (rs := [9]) (by kernel_rfl) (by simp) ?_
     refine AllReadyH.cons rfl (fun K hK => ?_) AllReadyH.nil
     refine step_app (e := PqR) (base := w.heap.size) (B := fun k => w.heap.size ≤ k) (A := fun k => nL ≤ k) rfl (.tmp 12) (.tmp 20) rfl Tryz.underlying54 info_rp rfl HOY.out rfl (RdY.singleB (e := PqR) (cs := [.string nm, .slice A3 L2 c3]) (d := (nm, ops)) ⟨_, rfl, O6.out.rd (A := fun k => nL ≤ k) (fun k hk => hk) (fun _ hk => hk.elim)⟩ BY.out) rfl (fun k _ hk => ⟨by omega, fun he => by have := (hoR.out k he).2; omega⟩) (N := m + 1) (by rw [htk]; rfl) (by unfold maxLen; omega) (by omega) (by omega) ?_
     intro A9 c9 u9 o9 M9 _
     have M69 := (Mod.of_ext (S := fun k => (Value.slice Au m cu).ownBlock = some k) EY.out).trans M9
     refine hK.out _ _ M69 (fun hHeld => ?_)
     clear hK K
     (try simp only [zP])
     have O9 := Lib.hid o9
     have E99 := Lib.hid (Mod.toExt hE9.out M69 (fun k hk he => by have := (hoR.out k he).1; omega))
     clear M69 M9 o9
     (refine zR 10 rfl ?_; (try simp only [zP]))
     refine wpAnyH_done (by kernel_rfl) ?_ _
     clear hHeld
     go_wp2
     exact ⟨⟨m + 1, by omega, by go_num, by rw [List.take_add_one, hd.out]; simpa using O9, E99⟩, by simp [intOf]; omega⟩
   · obtain rfl : m = n := by omega
     rw [List.take_of_length_le (by rw [HN.out]; exact Nat.le_refl _)] at HO
     go_wp2
     go_ret
     exact ⟨_, rfl, HO.out.rdT.y, hE.out⟩
end Go.Proofs.YtmmhcllibpmfnaaGreatDoor
namespace Go.Proofs.YtmmhcllibpmfnaaGreatDoor
open Go.RowKit Go.Kb
set_option maxRecDepth 100000
set_option maxHeartbeats 6000000 in
theorem to_pq (v : Value) (l : List (ByteArray × List Po)) (w : World) (h : RdY PqR (fun _ => True) w v l) (hf : PqFit l) : Calls Tryz.prog 8 #[v] w fun e w' => ∃ u, e = .returned u ∧ RdY PqR (fun _ => True) w' u l ∧ Ext w w' := by
 have hiP : ∀ a b : Value, (Tryz.prog.info? 76).map (·.size) = some [a, b].length := fun _ _ => by kernel_rfl
 have hiX : (Tryz.prog.info? 101).map (·.size) = some 2 := by kernel_rfl
 have hiO : ∀ d : Po, (Tryz.prog.info? 107).map (·.size) = some (opA d).toList.length := fun _ => by kernel_rfl
 have hiO2 : (Tryz.prog.info? 107).map (·.size) = some 4 := by kernel_rfl
 obtain ⟨Ad, c, rfl, hc1, hc2⟩ := h.shape
 have H := Lib.hid h
 have HF := Lib.hid hf
 obtain ⟨n, hn⟩ : ∃ n, l.length = n := ⟨_, rfl⟩
 rw [hn] at H hc1 ⊢
 have HN := Lib.hid hn
 have hn40 : n * 40 ≤ 140737488351232 := by rw [← hn]; exact hf.1
 clear h hn hf
 go_enter Tryz.func8, Tryz.ntmps8
 go_wp2
 go_loopw [3, 11] (fun s i wr => ∃ (m : Nat), m ≤ n ∧ i = .int .i64 m ∧ Hid (OwnS PqR 101 w.heap.size (fun k => w.heap.size ≤ k) wr s (l.take m)) ∧ Hid (Ext w wr)) (fun _ i _ => n - (intOf i).toNat)
 case atStart => exact ⟨0, Nat.zero_le _, rfl, Lib.hid (OwnS.nil _ _ _ _ _), Lib.hid (Ext.refl _)⟩
 case round =>
   obtain ⟨m, hm, rfl, HO, hE⟩ := hrel
   by_cases hlt : m < n
   · obtain ⟨b, off, nm, ops, A2, c2, rfl, HCELL, hd, HR2⟩ := pq_at (H.out.ext hE.out) hlt
     have h40 := HF.out.2 (nm, ops) (List.mem_of_getElem? hd.out)
     dsimp only at h40
     have htk : (l.take m).length = m := by rw [List.length_take, HN.out]; omega
     obtain ⟨Au, cu, rfl, -, -⟩ := HO.out.shape
     rw [htk] at HO ⊢
     obtain ⟨wq, hwq⟩ : ∃ wq, wq = wr := ⟨_, rfl⟩
     go_upto_region 5 with (refine wpList_load_mid rfl 76 _ rfl b (off + m * 2) rfl [.string nm, .slice A2 ops.length c2] _ HCELL.out Tryz.underlying76 rfl (hiP _ _) ?_)
     obtain ⟨W9, hW9⟩ : ∃ W9, W9 = wr.alloc (.cells #[.string nm, .slice A2 ops.length c2] 76) := ⟨_, rfl⟩
     have E9 : Ext wr W9 := by rw [hW9]; exact (Ext.refl _).alloc _
     have P9 := Lib.hid (show Blk W9 wr.heap.size 76 #[.string nm, .slice A2 ops.length c2] by rw [hW9]; exact Blk.new wr _ _)
     rw [← hW9]
     obtain ⟨n9, hn9⟩ : ∃ n9, wr.heap.size = n9 := ⟨_, rfl⟩
     rw [hn9] at P9 ⊢
     have k0 := P9.out.cell 0
     simp only [List.getElem?_toArray, List.getElem?_cons_zero] at k0
     clear hW9
     go_upto_region 6 with fail
     obtain ⟨WX, hWX⟩ : ∃ WX, WX = W9.alloc (.cells #[.string nm, .slice none 0 0] 101) := ⟨_, rfl⟩
     have EX : Ext W9 WX := by rw [hWX]; exact (Ext.refl _).alloc _
     have PX := Lib.hid (show Blk WX W9.heap.size 101 #[.string nm, .slice none 0 0] by rw [hWX]; exact Blk.new W9 _ _)
     rw [← hWX]
     obtain ⟨xb, hxb⟩ : ∃ xb, W9.heap.size = xb := ⟨_, rfl⟩
     rw [hxb] at PX ⊢
     have hz9 := E9.size
     have hzx : n9 < xb := by have := P9.out.lt; omega
     have k1 := (P9.out.ext EX).cell 1
     simp only [List.getElem?_toArray, List.getElem?_cons_zero, List.getElem?_cons_succ] at k1
     have hEX := Lib.hid ((hE.out.trans E9).trans EX)
     have HRX := Lib.hid (((HR2.out.lt.mono (B := fun k => k < n9) (fun k _ hk => by have := hk.2; omega)).ext E9).ext EX)
     have HOX := Lib.hid (((HO.out.mono (B := fun k => w.heap.size ≤ k ∧ k < n9) (fun k hk h9 => ⟨h9, by omega⟩)).ext E9).ext EX)
     have hoR := Lib.hid (show ∀ k, (Value.slice Au m cu).ownBlock = some k → w.heap.size ≤ k ∧ k < n9 from fun k hk => by have := HO.out.row k hk; omega)
     have hzw : w.heap.size ≤ n9 := by have := hE.out.size; omega
     obtain ⟨L2, hL2⟩ : ∃ L2, ops.length = L2 := ⟨_, rfl⟩
     have HL2 := Lib.hid hL2
     rw [hL2] at HRX k1 h40 ⊢
     have hxl := PX.out.lt
     obtain ⟨nX, hnX⟩ : ∃ nX, WX.heap.size = nX := ⟨_, rfl⟩
     rw [hnX] at hxl
     have HNX := Lib.hid hnX
     clear hWX hE HCELL HR2 E9 hL2 HO EX P9 k0 hn9 hxb hwq hnX
     go_wp2
     go_loopw [21] (fun i wr => ∃ (j : Nat) (Av : Option Addr) (cv : Nat), j ≤ L2 ∧ i = .int .i64 j ∧ Hid (Blk wr xb 101 #[.string nm, .slice Av j cv]) ∧ Hid (OwnS OpR 108 nX (fun _ => False) wr (.slice Av j cv) (ops.take j)) ∧ Hid (Mod (fun k => k = xb) WX wr)) (fun i _ => L2 - (intOf i).toNat)
     case atStart => exact ⟨0, none, 0, Nat.zero_le _, rfl, PX, Lib.hid (OwnS.nil _ _ _ _ _), Lib.hid (Mod.refl _ _)⟩
     case round =>
       clear PX
       obtain ⟨j, Av, cv, hj, rfl, HX, HP, HM⟩ := hrel
       by_cases hjl : j < L2
       · have HRr := HRX.out.mod HM.out (fun k _ hk he => by omega)
         obtain ⟨b2, off2, d, rfl, HC2, hd2⟩ := op_at HRr.y hjl
         go_upto_region 9 with (refine wpList_load_mid rfl 107 _ rfl b2 (off2 + j * 4) rfl (opA d).toList _ HC2.out Tryz.underlying107 rfl (hiO _) ?_)
         obtain ⟨W8, hW8⟩ : ∃ W8, W8 = wr.alloc (.cells (opA d) 107) := ⟨_, rfl⟩
         have E8 : Ext wr W8 := by rw [hW8]; exact (Ext.refl _).alloc _
         have P8 := Lib.hid (show Blk W8 wr.heap.size 107 (opA d) by rw [hW8]; exact Blk.new wr _ _)
         rw [← hW8]
         have HX8 := Lib.hid (HX.out.ext E8)
         have HP8 := Lib.hid (HP.out.ext E8)
         have HM8 := Lib.hid (HM.out.ext E8)
         have htj : (ops.take j).length = j := by rw [List.length_take, HL2.out]; omega
         have q1 := HX8.out.cell 1
         simp only [List.getElem?_toArray, List.getElem?_cons_zero, List.getElem?_cons_succ] at q1
         have hxo : ¬ (Value.slice Av j cv).ownBlock = some xb := own_ne HP8.out HX8.out (by decide)
         have hz8 := HM8.out.size
         have hnX := HNX.out
         clear hW8 HX HP HM HC2 HRr E8
         go_wp2_with (first
           | (refine wpList_load_row rfl 107 _ rfl _ rfl 107 _ _ _ P8.out Tryz.underlying107 rfl hiO2 ?_)
           | (at_builtin; refine wpList_app (e := OpR) (base := nX) (B := fun _ => False) (A := fun _ => False) rfl (.tmp 26) (.tmp 28) rfl Tryz.underlying99 info_to9 rfl (HP8.out.alloc _) rfl (RdY.singleB (e := OpR) (cs := (opA d).toList) (d := d) rfl (Blk.new _ _ _)) rfl (fun _ _ h => h.elim) (N := j + 1) (by rw [htj]; rfl) (by unfold maxLen; omega) (by omega) (by simp; omega) ?_; intro A9 c9 w9 o9 M9 _; have HX9 := Lib.hid ((HX8.out.alloc (.cells (opA d) 108)).mod M9 hxo); have q9 := HX9.out.cell 1; have f9 := HX9.out.frozen 1; simp only [List.getElem?_toArray, List.getElem?_cons_zero, List.getElem?_cons_succ] at q9))
         have M7 : Kb.Mod (fun k => k = xb) w9 (w9.setCell ⟨xb, 1, none⟩ (.slice A9 (j + 1) c9)) := (Mod.refl _ _).set1 _
         have hx9 : ¬ (Value.slice A9 (j + 1) c9).ownBlock = some xb := own_ne o9 HX9.out (by decide)
         have HM9 := Lib.hid (Mod.transN (HM8.out.alloc (.cells (opA d) 108)) M9 (fun i hi hT => by have := (HP8.out.row i hT).1; omega))
         refine ⟨⟨j + 1, A9, c9, by omega, by go_num, Lib.hid (by simpa using HX9.out.set_ 1 (.slice A9 (j + 1) c9)), Lib.hid ?_, Lib.hid (HM9.out.trans M7)⟩, by simp [intOf]; omega⟩
         rw [List.take_add_one, hd2.out]
         exact o9.mod M7 (fun k hk he => hx9 (by rw [hk, he])) (fun k _ hk => hk.elim)
       · obtain rfl : j = L2 := by omega
         rw [List.take_of_length_le (by rw [HL2.out]; exact Nat.le_refl _)] at HP
         have HO1 := Lib.hid ((HOX.out.mod HM.out (fun k hk he => by have := hoR.out k hk; omega) (fun k _ hk he => by omega)).mono (B := fun k => w.heap.size ≤ k) (fun k _ hk => hk.1))
         have E1 := Lib.hid (Mod.toExt hEX.out HM.out (fun k hk he => by omega))
         have hnX := HNX.out
         have hzr := HM.out.size
         have HPR := Lib.hid (HP.out.rd (A := fun k => nX ≤ k) (fun k hk => hk) (fun _ hk => hk.elim))
         clear HM HRX HOX hEX HP
         go_wp2_with (first
           | (refine wpList_load_row rfl 101 _ rfl _ rfl 101 _ _ _ HX.out Tryz.underlying101 rfl hiX ?_)
           | (at_builtin; refine wpList_app (e := PqR) (base := w.heap.size) (B := fun k => w.heap.size ≤ k) (A := fun k => nX ≤ k) rfl (.tmp 32) (.tmp 34) rfl Tryz.underlying28 info_tp9 rfl (HO1.out.alloc _) rfl (RdY.singleB (e := PqR) (cs := [.string nm, .slice Av j cv]) (d := (nm, ops)) ⟨_, rfl, HPR.out.alloc _⟩ (Blk.new _ _ _)) rfl (fun k _ hk => ⟨by omega, fun he => by have := hoR.out k he; omega⟩) (N := m + 1) (by rw [htk]; rfl) (by unfold maxLen; omega) (by omega) (by simp; omega) ?_; intro A9 c9 w9 o9 M9 _))
         have O9 := Lib.hid o9
         have E9 := Lib.hid (Mod.toExt (E1.out.alloc (.cells #[.string nm, .slice Av j cv] 101)) M9 (fun k hk he => by have := (hoR.out k he).1; omega))
         exact ⟨⟨m + 1, by omega, by go_num, by rw [List.take_add_one, hd.out]; simpa using O9, E9⟩, by simp [intOf]; omega⟩
   · obtain rfl : m = n := by omega
     rw [List.take_of_length_le (by rw [HN.out]; exact Nat.le_refl _)] at HO
     go_wp2
     go_ret
     exact ⟨_, rfl, HO.out.rdT.y, hE.out⟩
end Go.Proofs.YtmmhcllibpmfnaaGreatDoor
namespace Go.Proofs.YtmmhcllibpmfnaaGreatDoor
open Go.RowKit Go.Kb
set_option maxRecDepth 100000
/-- a server to which nothing came -/
def svZ : SvT := ⟨[], [], [], [], 1, 1, [], false⟩
theorem svZ_op : svZ = opS [] 0 := by
 unfold svZ opS
 simp [chsOf, lnsOf, prsOf, tsOf]
def SNewP (l : List (ByteArray × List Po)) (w : World) (e : Ending) (w' : World) : Prop :=
 (∃ x : Int, e = .returned (.tuple #[.pointer none, .int .i64 x]) ∧ x ≠ 0 ∧ Ext w w') ∨
 (PgOk l ∧ ∃ g kb, e = .returned (.tuple #[.pointer (some ⟨g, 0, none⟩), .int .i64 0]) ∧ SvAt g kb w.heap.size (l.map (·.1)) svZ none w' ∧ Ext w w')
set_option maxHeartbeats 6000000 in
theorem snew_any {A : Nat → Prop} (v : Value) (l : List (ByteArray × List Po)) (w : World) (h : RdY PqR A w v l) (hs : ∀ d ∈ l, d.1.size ≤ 9223372036854775807) : Calls Tryz.prog 18 #[v] w (SNewP l w) := by
 have hiP : ∀ a b : Value, (Tryz.prog.info? 101).map (·.size) = some [a, b].length := fun _ _ => by kernel_rfl
 have HKN := Lib.hid (knew_any v l w h hs)
 unfold KNewP at HKN
 obtain ⟨Ad, c, rfl, hc1, hc2⟩ := h.shape
 have H := Lib.hid (h.mono (B := fun _ => True) fun _ _ _ => trivial)
 obtain ⟨n, hn⟩ : ∃ n, l.length = n := ⟨_, rfl⟩
 rw [hn] at H hc1 HKN ⊢
 have HN := Lib.hid hn
 clear h hn hs
 go_enter Tryz.func18, Tryz.ntmps18
 go_wp2_with fail
 refine (HKN.out).mono ?_
 rintro e w1 (⟨x, rfl, hx, E1⟩ | ⟨hpg, kb, Ap, cp, rfl, hkb, hK, E1⟩)
 · have HX0 := Lib.hid hx
   clear HKN
   go_wp2
   go_ret2
   exact .inl ⟨x, rfl, HX0.out, E1⟩
 · have HPG := Lib.hid hpg
   have HK := Lib.hid hK
   have HKW := Lib.hid hkb
   have hn32 : n ≤ 32 := by rw [← HN.out]; exact HPG.out.le
   have E1 := Lib.hid E1
   clear hpg hK HKN hkb
   go_upto_region 5 with fail
   obtain ⟨w2, hw2⟩ : ∃ w2, w2 = w1.alloc (.cells (srv0 kb (.slice none 0 0)) 143) := ⟨_, rfl⟩
   have E2 : Ext w1 w2 := by rw [hw2]; exact (Ext.refl _).alloc _
   have P2 := Lib.hid (show Blk w2 w1.heap.size 143 (srv0 kb (.slice none 0 0)) by rw [hw2]; exact Blk.new w1 _ _)
   rw [← hw2]
   clear hw2
   obtain ⟨g, hg⟩ : ∃ g, w1.heap.size = g := ⟨_, rfl⟩
   rw [hg] at P2 ⊢
   have E02 := Lib.hid E2
   obtain ⟨base, hbase⟩ : ∃ base, w1.heap.size = base := ⟨_, rfl⟩
   have HKB := Lib.hid (show base ≤ g by omega)
   have HBS := Lib.hid hbase
   clear hg E2 hbase
   go_wp2
   go_loopw [23] (fun i wr => ∃ (m : Nat) (Av : Option Addr) (cv : Nat), m ≤ n ∧ i = .int .i64 m ∧ Hid (Blk wr g 143 (srv0 kb (.slice Av m cv))) ∧ Hid (OwnS PgR 101 base (fun _ => False) wr (.slice Av m cv) ((l.take m).map (·.1))) ∧ Hid (Ext w1 wr)) (fun i _ => n - (intOf i).toNat)
   case atStart => exact ⟨0, none, 0, Nat.zero_le _, rfl, P2, Lib.hid (OwnS.nil _ _ _ _ _), E02⟩
   case round =>
     clear P2 E02
     obtain ⟨m, Av, cv, hm, rfl, HB, HO, hE⟩ := hrel
     by_cases hlt : m < n
     · obtain ⟨b, off, c2, d, cs, hv, hd, hrel2, hlen, hcell⟩ := ((H.out.ext E1.out).ext hE.out).cells (j := m) (by rw [HN.out]; exact hlt)
       simp only [Value.slice.injEq] at hv
       obtain ⟨rfl, -, rfl⟩ := hv
       obtain ⟨v2, rfl, hr2⟩ := hrel2.out
       obtain ⟨nm, ops⟩ := d
       dsimp only at hr2 hcell
       have HCELL := Lib.hid (show wr.rangeAt b (off + m * 2) [.string nm, v2] from hcell)
       have HR2 := Lib.hid hr2
       have h64 : ops.length ≤ 64 := (HPG.out.nm (nm, ops) (List.mem_of_getElem? hd.out)).2
       obtain ⟨A2, c2, rfl, -, -⟩ := hr2.shape
       clear hlen hcell hrel2 hr2
       go_upto_region 8 with (refine wpList_load_mid rfl 101 _ rfl b (off + m * 2) rfl [.string nm, .slice A2 ops.length c2] _ HCELL.out Tryz.underlying101 rfl (hiP _ _) ?_)
       obtain ⟨W9, hW9⟩ : ∃ W9, W9 = wr.alloc (.cells #[.string nm, .slice A2 ops.length c2] 101) := ⟨_, rfl⟩
       have E9 : Ext wr W9 := by rw [hW9]; exact (Ext.refl _).alloc _
       have P9 := Lib.hid (show Blk W9 wr.heap.size 101 #[.string nm, .slice A2 ops.length c2] by rw [hW9]; exact Blk.new wr _ _)
       rw [← hW9]
       have hE9 := Lib.hid (hE.out.trans E9)
       have HB9 := Lib.hid (HB.out.ext E9)
       have HO9 := Lib.hid (HO.out.ext E9)
       have HCL := Lib.hid (fun w' (E : Ext W9 w') => clone_op (A := fun _ => True) (.slice A2 ops.length c2) ops w' (((HR2.out.ext E9).ext E).y) (by omega))
       obtain ⟨L2, hL2⟩ : ∃ L2, ops.length = L2 := ⟨_, rfl⟩
       rw [hL2] at P9 HCL ⊢
       obtain ⟨n9, hn9⟩ : ∃ n9, wr.heap.size = n9 := ⟨_, rfl⟩
       have hn0 : ¬ (Value.slice Av m cv).ownBlock = some n9 := fun h9 => by have := (HO.out.row n9 h9).2; omega
       rw [hn9] at P9 ⊢
       have hgL : ¬ (Value.slice Av m cv).ownBlock = some g := own_ne HO.out HB.out (by decide)
       have hkl := HB9.out.lt
       have hnl := P9.out.lt
       have q0 := HB9.out.cell 0
       have k0 := P9.out.cell 0
       have k1 := P9.out.cell 1
       simp only [List.getElem?_toArray, List.getElem?_cons_zero, List.getElem?_cons_succ] at q0 k0 k1
       have htk : (l.take m).length = m := by rw [List.length_take, HN.out]; omega
       have hbW : base ≤ W9.heap.size := by have := hE9.out.size; have := HBS.out; omega
       have hkbb : base ≤ g := HKB.out
       clear hW9 HCELL HR2 HB HO hE E9 hL2 hn9 h64
       refine region_till 15 (fun w' => Kb.Mod (fun k => (Value.slice Av m cv).ownBlock = some k) W9 w') (by kernel_rfl) (Mod.of_ext (Ext.drew (Ext.refl _))) (fun hHeld => ?_)
       obtain ⟨D, hD⟩ : ∃ D, D = W9.drew := ⟨_, rfl⟩
       have ED : Ext W9 D := by rw [hD]; exact (Ext.refl _).drew
       rw [← hD] at hHeld ⊢
       clear hD
       (refine till_take (i := 0) (v := ?_) rfl (by kernel_rfl) (by kernel_rfl) (by kernel_rfl) (by kernel_rfl) (fun _ _ _ h => h) (Or.inl ⟨by rfl, ?_⟩) (by assumption) ?_; rotate_left; (focus (intro w' hSw; go_simp; try with_reducible rfl)); (try simp only [zP]))
       (refine till_take (i := 1) (v := ?_) rfl (by kernel_rfl) (by kernel_rfl) (by kernel_rfl) (by kernel_rfl) (fun _ _ _ h => h) (Or.inl ⟨by rfl, ?_⟩) (by assumption) ?_; rotate_left; (focus (intro w' hSw; go_simp; try with_reducible rfl)); (try simp only [zP]))
       (refine till_take (i := 2) (v := ?_) rfl (by kernel_rfl) (by kernel_rfl) (by kernel_rfl) (by kernel_rfl) (fun _ _ _ h => h) (Or.inl ⟨by rfl, ?_⟩) (by assumption) ?_; rotate_left; (focus (intro w' hSw; go_simp; try with_reducible rfl)); (try simp only [zP]))
       (refine till_take (i := 3) (v := ?_) rfl (by kernel_rfl) (by kernel_rfl) (by kernel_rfl) (by kernel_rfl) (fun _ _ _ h => h) (Or.inl ⟨by rfl, ?_⟩) (by assumption) ?_; rotate_left; (focus (intro w' hSw; go_simp; try with_reducible rfl)); (try simp only [zP]))
       (refine till_take (i := 4) (v := ?_) rfl (by kernel_rfl) (by kernel_rfl) (by kernel_rfl) (by kernel_rfl) (fun _ _ _ h => h) (Or.inl ⟨by rfl, ?_⟩) (by assumption) ?_; rotate_left; (focus (intro w' hSw; have kc := (hSw.cell g 0 hkl hgL).trans q0; go_simp; try with_reducible rfl)); (try simp only [zP]))
       (refine till_take (i := 5) (v := ?_) rfl (by kernel_rfl) (by kernel_rfl) (by kernel_rfl) (by kernel_rfl) (fun _ _ _ h => h) (Or.inl ⟨by rfl, ?_⟩) (by assumption) ?_; rotate_left; (focus (intro w' hSw; go_simp; try with_reducible rfl)); (try simp only [zP]))
       (refine till_take (i := 6) (v := ?_) rfl (by kernel_rfl) (by kernel_rfl) (by kernel_rfl) (by kernel_rfl) (fun _ _ _ h => h) (Or.inl ⟨by rfl, ?_⟩) (by assumption) ?_; rotate_left; (focus (intro w' hSw; have kc := (hSw.cell n9 0 hnl hn0).trans k0; go_simp; try with_reducible rfl)); (try simp only [zP]))
       (refine till_take (i := 7) (v := ?_) rfl (by kernel_rfl) (by kernel_rfl) (by kernel_rfl) (by kernel_rfl) (fun _ _ _ h => h) (Or.inl ⟨by rfl, ?_⟩) (by assumption) ?_; rotate_left; (focus (intro w' hSw; go_simp; try with_reducible rfl)); (try simp only [zP]))
       (refine till_take (i := 8) (v := ?_) rfl (by kernel_rfl) (by kernel_rfl) (by kernel_rfl) (by kernel_rfl) (fun _ _ _ h => h) (Or.inl ⟨by rfl, ?_⟩) (by assumption) ?_; rotate_left; (focus (intro w' hSw; have kc := (hSw.cell n9 1 hnl hn0).trans k1; go_simp; try with_reducible rfl)); (try simp only [zP]))
       (refine till_ready (rs := [9]) (by kernel_rfl) (by simp) ?_; refine AllTill.cons rfl (fun K hK => ?_) AllTill.nil; go_simp; go_at_call 45; refine (HCL.out D ED).mono ?_; rintro e u3 ⟨A3, c3, rfl, -, E3⟩; (try dsimp only); refine hK.out _ _ (Mod.of_ext (ED.trans E3)) (fun hHeld => ?_); clear hK K; (try simp only [zP]))
       (refine till_take (i := 10) (v := ?_) rfl (by kernel_rfl) (by kernel_rfl) (by kernel_rfl) (by kernel_rfl) (fun _ _ _ h => h) (Or.inl ⟨by rfl, ?_⟩) (by assumption) ?_; rotate_left; (focus (intro w' hSw; go_simp; try with_reducible rfl)); (try simp only [zP]))
       have EU3 := Lib.hid (ED.trans E3)
       clear ED E3
       refine till_ready (rs := [11]) (by kernel_rfl) (by simp) ?_
       refine AllTill.cons rfl (fun K hK => ?_) AllTill.nil
       go_simp
       have HY := Lib.hid (Blk.new u3 101 #[.string nm, .slice A3 L2 c3])
       have EY := Lib.hid (EU3.out.trans ((Ext.refl u3).alloc (.cells #[.string nm, .slice A3 L2 c3] 101)))
       refine hK.out _ _ (Mod.of_ext EY.out) (fun hHeld => ?_)
       clear hK K
       (try simp only [zP])
       have HL5 := Lib.hid (HO9.out.ext EY.out)
       have HB5 := Lib.hid (HB9.out.ext EY.out)
       have hs5 := EY.out.size
       generalize u3.alloc (.cells #[.string nm, .slice A3 L2 c3] 101) = u5 at *
       generalize u3.heap.size = nY at *
       clear EU3
       refine till_ready (rs := [12]) (by kernel_rfl) (by simp) ?_
       refine AllTill.cons rfl (fun K hK => ?_) AllTill.nil
       refine step_appX (e := PgR) (base := base) (B := fun _ => False) (A := fun _ => False) rfl (.tmp 31) (.tmp 38) rfl Tryz.underlying28 info_pg rfl HL5.out rfl (RdY.singleB (e := PgR) (cs := [.string nm, .slice A3 L2 c3]) (d := nm) ⟨_, rfl, rfl⟩ HY.out) rfl (fun _ _ h => h.elim) (N := m + 1) (by rw [List.length_map, htk]; rfl) (by unfold maxLen; omega) (by omega) (by omega) ?_
       intro A9 c9 u6 o9 M9 X9
       have M69 := (Mod.of_ext EY.out).trans M9
       refine hK.out _ _ M69 (fun hHeld => ?_)
       clear hK K
       (try simp only [zP])
       have HB6 := Lib.hid (HB5.out.mod M9 hgL)
       have o9 := Lib.hid o9
       have M69 := Lib.hid M69
       clear M9 HY HB5 HL5 EY X9
       (refine till_ready (rs := [13]) (by kernel_rfl) (by simp) ?_; refine AllTill.cons rfl (fun K hK => ?_) AllTill.nil; go_simp; refine hK.out _ _ M69.out (fun hHeld => ?_); clear hK K; (try simp only [zP]))
       (refine till_take (i := 14) (v := ?_) rfl (by kernel_rfl) (by kernel_rfl) (by kernel_rfl) (by kernel_rfl) (fun _ _ _ h => h) (Or.inl ⟨by rfl, ?_⟩) (by assumption) ?_; rotate_left; (focus (intro w' hSw; go_simp; try with_reducible rfl)); (try simp only [zP]))
       have q0 := HB6.out.cell 0
       have f0 := HB6.out.frozen 0
       simp only [List.getElem?_toArray, List.getElem?_cons_zero] at q0
       (refine till_ready (rs := [15]) (by kernel_rfl) (by simp) ?_; refine AllTill.last rfl (fun K hK => ?_) AllTill.nil; go_simp; refine hK.out _ _ ?_; clear hK K; (try simp only [zP]))
       refine till_done (by kernel_rfl) ?_ _
       have M7 : Kb.Mod (fun k => k = g) u6 (u6.setCell ⟨g, 0, none⟩ (.slice A9 (m + 1) c9)) := (Mod.refl _ _).set1 _
       have hg9 : (Value.slice A9 (m + 1) c9).ownBlock ≠ some g := own_ne o9.out HB6.out (by decide)
       have HB7 := Lib.hid (show Blk (u6.setCell ⟨g, 0, none⟩ (.slice A9 (m + 1) c9)) g 143 (srv0 kb (.slice A9 (m + 1) c9)) by simpa using HB6.out.set_ 0 (.slice A9 (m + 1) c9))
       have HO7 := Lib.hid (o9.out.mod M7 (fun k hk he => hg9 (by rw [hk, he])) (fun k _ hk => hk.elim))
       have hE7 := Lib.hid (Mod.toExt (Mod.toExt hE9.out M69.out (fun k hk he => by have := (HO9.out.row k he).1; have := HBS.out; omega)) M7 (fun k hk he => by have := HBS.out; omega))
       clear M7 hg9 HB6 o9 M69
       generalize u6.setCell ⟨g, 0, none⟩ (.slice A9 (m + 1) c9) = u7 at *
       go_wp2
       exact ⟨⟨m + 1, A9, c9, by omega, by go_num, HB7, by rw [List.take_add_one, hd.out]; simpa using HO7, hE7⟩, by simp [intOf]; omega⟩
     · obtain rfl : m = n := by omega
       have hz1 := E1.out.size
       have hz2 := hE.out.size
       have hbs := HBS.out
       have HKr := Lib.hid (HK.out.ext hE.out)
       have hO9 := HO.out
       rw [List.take_of_length_le (by rw [HN.out]; exact Nat.le_refl _)] at hO9
       have HO9 := Lib.hid hO9
       clear hO9 HO HK
       go_wp2
       go_ret2
       refine .inr ⟨HPG.out, g, kb, rfl, ⟨.slice Av m cv, .slice none 0 0, .slice none 0 0, .slice none 0 0, .slice none 0 0, [], Ap, cp, [], [], ?_⟩, E1.out.trans hE.out⟩
       refine ⟨by omega, by have := HKB.out; omega, HB.out, Emp.nil, HO9.out.lower (by omega), OwnS.nil _ _ _ _ _, OwnS.nil _ _ _ _ _, ⟨rfl, fun j b x hb => (by simp at hb), fun j x hx => (by simp [svZ] at hx), fun x hx => (by simp [svZ] at hx)⟩, List.nodup_nil, fun b hb => (by simp at hb), OwnS.nil _ _ _ _ _, rfl, ?_, rfl⟩
       refine ⟨HKW.out, none, 0, .slice none 0 0, .slice none 0 0, ?_, OwnS.nil _ _ _ _ _, OwnS.nil _ _ _ _ _, ⟨rfl, fun j b x hb => (by simp at hb)⟩, OwnS.nil _ _ _ _ _, fun b hb => (by simp at hb)⟩
       have h9 := HKr.out
       rw [List.length_map, HN.out]
       exact h9
end Go.Proofs.YtmmhcllibpmfnaaGreatDoor
namespace Go.Proofs.YtmmhcllibpmfnaaGreatDoor
open Go.RowKit Go.Kb Go.Kb.Frame Go.Maps
set_option maxRecDepth 100000
theorem mgv_conf {cs : List Ch} {m : Mg} (h : 0 ≤ m.se ∧ m.se ≤ 4294967295) (hn : cs.length ≤ 1000) : MgV (confM cs m) :=
 ⟨⟨h, ⟨by simp [confM], by simp [confM]; omega⟩, ⟨by simp [confM], by simp [confM]⟩, ⟨by simp [confM], by simp [confM]⟩, ⟨by simp [confM], by simp [confM]⟩, by show (⟨#[]⟩ : ByteArray).size ≤ _; decide, rfl, by simp [confM], fun x hx => by simp [confM] at hx⟩, good_confM h hn, .inl rfl⟩
theorem mgv_fail {m : Mg} (h : 0 ≤ m.se ∧ m.se ≤ 4294967295) : MgV (failM m) :=
 ⟨⟨h, ⟨by simp [failM], by simp [failM]⟩, ⟨by simp [failM], by simp [failM]⟩, ⟨by simp [failM], by simp [failM]⟩, ⟨by simp [failM], by simp [failM]⟩, by show (⟨#[]⟩ : ByteArray).size ≤ _; decide, rfl, by simp [failM], fun x hx => by simp [failM] at hx⟩, good_failM h, .inr (.inl rfl)⟩
theorem mgv_disc : MgV discM := ⟨⟨⟨by decide, by decide⟩, ⟨by decide, by decide⟩, ⟨by decide, by decide⟩, ⟨by decide, by decide⟩, ⟨by decide, by decide⟩, by decide, rfl, by decide, by
 intro x hx
 simp [discM, peB] at hx
 omega⟩, good_discM, .inr (.inr (.inl rfl))⟩
theorem mgv_ans {b : Bool} {c : Ch} (h : 0 ≤ c.re ∧ c.re ≤ 4294967295) : MgV (ansM (ansK b) c) := ⟨ansM_s h, good_ansM h, by cases b <;> simp [ansM, ansK]⟩
/-- what is read of the one message -/
structure One (k ch se co : Int) (w : World) (v : Value) : Prop where
 sl : ∃ b c, v = .slice (some ⟨b, 0, none⟩) 1 c ∧ w.cell? ⟨b, 0, none⟩ = some (.int .i64 k) ∧ w.cell? ⟨b, 1, none⟩ = some (.int .u32 ch) ∧ w.cell? ⟨b, 2, none⟩ = some (.int .u32 se) ∧ w.cell? ⟨b, 5, none⟩ = some (.int .u32 co)
theorem readOne {k ch se co : Int} (m : Mg) (v : Value) (w : World) {base : Nat} (h : OwnS Ub8 5 base (fun _ => False) w v (pkM m)) (hm : MgV m) (h0 : (rM m).k = k) (h1 : (rM m).ch = ch) (h2 : (rM m).se = se) (h5 : (rM m).co = co) :
   Calls Tryz.prog 15 #[v] w fun e w' => ∃ u, e = .returned (.tuple #[u, .bool true]) ∧ One k ch se co w' u ∧ Ext w w' := by
 subst h0 h1 h2 h5
 refine (read_any [m] v w (by rw [pks_one]; exact RdS.ri h.rdT) (fun x hx => by simp at hx; rw [hx]; exact hm) (by simp)).mono ?_
 rintro e w' ⟨u, rfl, ho, E⟩
 refine ⟨u, rfl, ⟨?_⟩, E⟩
 have hu : OwnS MgR 62 w.heap.size (fun k => w.heap.size ≤ k) w' u [rM m] := ho
 obtain ⟨A, c, rfl, -, -⟩ := hu.shape
 obtain ⟨g, rfl, -, -⟩ := OwnS.addr (n := 1) hu (by omega)
 obtain ⟨b, off, m2, At, ct, hb, hra, hd, -⟩ := mg_at (n := 1) hu.rdT.y (show 0 < 1 by omega)
 simp only [Option.some.injEq, Addr.mk.injEq] at hb
 obtain ⟨rfl, rfl, -⟩ := hb
 obtain rfl : rM m = m2 := by
   have h9 := hd.out
   simpa using h9
 have k0 := hra.out 0 _ rfl
 have k1 := hra.out 1 _ rfl
 have k2 := hra.out 2 _ rfl
 have k5 := hra.out 5 _ rfl
 exact ⟨_, c, rfl, k0, k1, k2, k5⟩
theorem SvAt.chansN {g kb base : Nat} {ns : List ByteArray} {S : SvT} {sb : Option Nat} {w : World} {L : Nat} {dd : Bool} (h : SvAt g kb base ns S sb w) (hL : S.cs.length = L) (hn : L ≤ 1000) (hd : S.dead = dd) : Calls Tryz.prog 20 #[.pointer (some ⟨g, 0, none⟩)] w fun e w' => ∃ Ad c, e = .returned (.agg #[.slice Ad L c, .int .u32 4096, .bool dd]) ∧ Ext w w' := by
 subst hL hd
 exact h.chans hn
theorem SvAt.tableN {g kb base : Nat} {ns : List ByteArray} {S : SvT} {sb : Option Nat} {w : World} {L : Nat} (h : SvAt g kb base ns S sb w) (hL : S.pr.length = L) (hn : L ≤ 1000) : Calls Tryz.prog 21 #[.pointer (some ⟨g, 0, none⟩)] w fun e w' => ∃ A' c' z, e = .returned (.agg #[.slice A' L c', .int .i64 z]) ∧ Ext w w' := by
 subst hL
 exact (h.table hn).mono fun e w' ⟨A, c, h1, h2⟩ => ⟨A, c, _, h1, h2⟩
theorem MapK.lenR {kt mt : TypeId} {α : Type} [DecidableEq α] {K : KeyT kt mt α} {M : Nat} {w : World} {S : List α} (h : MapK K M w S) (ty : TypeId) : (Builtin.len_ #[mt] ty #[.map (some M)]).run Tryz.prog w = .ok (.int .i64 S.length) w := by
 obtain ⟨D, h1, h2, h3, h4⟩ := h
 rw [← h4]
 exact h1.len K.und ty
set_option maxHeartbeats 8000000 in
theorem topLimits_walk (lv sv : Value) (l : List (ByteArray × List Po)) (ss : List Int) (w : World) (hl : RdY PqR (fun _ => True) w lv l) (hf : PqFit l) (hz : ∀ d ∈ l, d.1.size ≤ 9223372036854775807) (hs : RdY (Rep.int .u32) (fun _ => True) w sv ss) (hss : ∀ x ∈ ss, 0 ≤ x ∧ x ≤ 4294967295) :
   Calls Tryz.prog 4 #[lv, sv] w fun e w' => e = .returned (.bool true) ∧ Ext w w' := by
 obtain ⟨Al, cl, rfl, hl1, hl2⟩ := hl.shape
 obtain ⟨nl, hnl⟩ : ∃ nl, l.length = nl := ⟨_, rfl⟩
 have HNL := Lib.hid hnl
 rw [hnl] at hl hl1 ⊢
 have HL := Lib.hid hl
 have HF := Lib.hid hf
 have HZ := Lib.hid hz
 have HSS := Lib.hid hss
 obtain ⟨As, cs, rfl, hc1, hc2⟩ := hs.shape
 have HS := Lib.hid hs
 obtain ⟨n, hn⟩ : ∃ n, ss.length = n := ⟨_, rfl⟩
 rw [hn] at HS hc1 ⊢
 have HN := Lib.hid hn
 clear hl hf hz hss hs hn hnl
 go_enter Tryz.func4, Tryz.ntmps4
 go_wp2_with fail
 refine (shaken_any _).mono ?_
 rintro e w1 ⟨rfl, E1⟩
 have HE1 := Lib.hid E1
 clear E1
 go_wp2_with fail
 refine (ref_pq _ l w1 (HL.out.ext HE1.out) HF.out).mono ?_
 rintro e w2 ⟨u2, rfl, R2, E2⟩
 have HE2 := Lib.hid (HE1.out.trans E2)
 clear E2 HE1
 go_wp2_with fail
 refine (great_pq u2 l w2 R2).mono ?_
 rintro e w3 ⟨q, rfl, E3⟩
 have HE3 := Lib.hid (HE2.out.trans E3)
 clear E3 HE2 R2
 cases q with
 | true =>
   go_wp2
   go_ret
   exact ⟨rfl, HE3.out⟩
 | false =>
 by_cases h40 : (40 : Int) < n
 · go_wp2
   go_ret
   exact ⟨rfl, HE3.out⟩
 go_wp2_with fail
 refine (to_pq _ l w3 (HL.out.ext HE3.out) HF.out).mono ?_
 rintro e w4 ⟨u4, rfl, R4, E4⟩
 have HE4 := Lib.hid (HE3.out.trans E4)
 have HNW := Lib.hid (snew_any u4 l w4 R4 HZ.out)
 unfold SNewP at HNW
 clear E4 HE3 R4
 go_wp2_with fail
 refine (HNW.out).mono ?_
 rintro e w5 (⟨x, rfl, hx, E5⟩ | ⟨hpg, g, kb, rfl, hsv, E5⟩)
 · have HX := Lib.hid hx
   have HE5 := Lib.hid (HE4.out.trans E5)
   have hx0 : ¬ x = 0 := hx
   clear HNW hx E5 HE4
   go_wp2
   go_ret
   exact ⟨rfl, HE5.out⟩
 rw [svZ_op] at hsv
 have HPG := Lib.hid hpg
 have HE5 := Lib.hid (HE4.out.trans E5)
 obtain ⟨base, hbase⟩ : ∃ base, w4.heap.size = base := ⟨_, rfl⟩
 rw [hbase] at hsv
 have HB := Lib.hid (show w.heap.size ≤ base by have := HE4.out.size; omega)
 have HSV := Lib.hid hsv
 obtain ⟨ns, hns⟩ : ∃ ns, l.map (·.1) = ns := ⟨_, rfl⟩
 rw [hns] at HSV
 have HNS := Lib.hid hns
 have hmm := @run_makeMap Tryz.prog
 obtain ⟨W6, hW6⟩ : ∃ W6, W6 = w5.alloc (.map #[] 0) := ⟨_, rfl⟩
 obtain ⟨M, hM⟩ : ∃ M, w5.heap.size = M := ⟨_, rfl⟩
 have HM0 := Lib.hid (show MapK kU32 M W6 [] by rw [hW6, ← hM]; exact MapK.made kU32 w5)
 have HE6 := Lib.hid (show Ext w W6 by rw [hW6]; exact HE5.out.alloc _)
 have HS6 := Lib.hid (HSV.out.ext (show Ext w5 W6 by rw [hW6]; exact (Ext.refl _).alloc _))
 have HW6 := Lib.hid hW6
 have HMN := Lib.hid hM
 have HMB := Lib.hid (show w.heap.size ≤ M by have := HE5.out.size; omega)
 clear hpg E5 hbase hsv hns hM hW6 HE4 HE5 HSV HNW
 go_wp2
 rw [HMN.out, ← HW6.out]
 clear HW6 HMN hmm
 go_loopw [40] (fun i wr => ∃ (m : Nat) (ds : List Int), m ≤ n ∧ i = .int .i64 m ∧ ds.length ≤ 8 ∧ Hid (∀ x ∈ ds, 0 ≤ x ∧ x ≤ 4294967295) ∧ Hid (SvAt g kb base ns (opS ds 0) none wr) ∧ Hid (MapK kU32 M wr ds) ∧ Hid (Ext w wr)) (fun i _ => n - (intOf i).toNat)
 case atStart => exact ⟨0, [], Nat.zero_le _, rfl, Nat.zero_le _, Lib.hid (by simp), HS6, HM0, HE6⟩
 case round =>
   clear HS6 HM0 HE6
   obtain ⟨m, ds, hm, rfl, hd8, HDS, HSV, HMK, hE⟩ := hrel
   by_cases hlt : m < n
   · obtain ⟨b, off, u, x, rfl, hcell, hd, hrel2⟩ := (HS.out.ext hE.out).at1 rfl hlt
     obtain rfl : u = .int .u32 x := by
       have h9 : [u] = [.int .u32 x] := hrel2.out
       simpa using h9
     have hxb := HSS.out x (List.mem_of_getElem? hd.out)
     have HXO := Lib.hid (show kU32.ok x by simp [kU32, Lit.wf, IntKind.min, IntKind.max, IntKind.signed, IntKind.bits]; exact hxb)
     have HXB := Lib.hid hxb
     have HPK := Lib.hid (packet_any (opM x) (.slice none 0 0) wr (RdS.nil _ _ _) (good_open hxb))
     have HFD := Lib.hid (show ∀ vb w', SvAt g kb base ns (opS ds 0) none w' → RI .u8 w' vb (pkM (opM x)) → Calls Tryz.prog 16 #[.pointer (some ⟨g, 0, none⟩), vb] w' (if ds.length = 8 then FdO g kb base ns (opS ds 0) (pkM (failM (opM x))) none w' else if x ∈ ds then FdO g kb base ns (deadS ds) (pkM discM) none w' else FdO g kb base ns (opS (ds ++ [x]) 0) (pkM (confM (chsOf ds) (opM x))) none w') from fun vb w' h1 h2 => by
       split
       · exact fopen_full g kb base ns ds x none vb w' h1 h2 hxb (by omega)
       · split
         · exact fopen_bad g kb base ns ds x none vb w' h1 h2 hxb (by omega) (by assumption)
         · exact fopen_new g kb base ns ds x none vb w' h1 h2 hxb (by omega) (by assumption))
     clear hrel2 hxb
     obtain ⟨fu, hfu⟩ : ∃ fu, decide ((ds.length : Int) = 8) = fu := ⟨_, rfl⟩
     have HFU := Lib.hid hfu
     obtain ⟨D, hD⟩ : ∃ D, ds.length = D := ⟨_, rfl⟩
     have HDL := Lib.hid hD
     rw [hD] at HFD hfu hd8
     have HKL := Lib.hid (fun w' (h : MapK kU32 M w' ds) => show MapK kU32 M w' ds ∧ ds.length = D from ⟨h, hD⟩)
     clear hD
     go_wp2_with (refine wpList_klen kU32 rfl _ rfl rfl HMK.out ?_; rw [HDL.out])
     refine (HPK.out).mono ?_
     rintro e w2 ⟨v2, rfl, O2, E2⟩
     have HO2 := Lib.hid (RdS.ri O2.rdT)
     have HMK2 := Lib.hid (HMK.out.ext E2)
     have hE2 := Lib.hid (hE.out.trans E2)
     have HSV2 := Lib.hid (HSV.out.ext E2)
     clear E2 O2 HPK HMK hE HSV
     go_wp2_with fail
     by_cases h8 : D = 8
     · have HF3 := Lib.hid (HFD.out v2 w2 HSV2.out HO2.out)
       rw [if_pos h8] at HF3
       subst h8
       refine (HF3.out).mono ?_
       rintro e w3 ⟨v3, rfl, O3, S3, V3⟩
       have HRD := Lib.hid (readOne (k := 92) (ch := x) (se := 0) (co := 4) (failM (opM x)) v3 w3 O3 (mgv_fail HXB.out) (by simp [rM, failM]) (by simp [rM, failM, opM]) (by simp [rM, failM]) (by simp [rM, failM]))
       have HMK3 := Lib.hid (HMK2.out.sv V3)
       have hE3 := Lib.hid (V3.fresh hE2.out HB.out)
       have HSV3 := Lib.hid S3
       clear O3 S3 V3 HMK2 hE2 HSV2 HF3 HFD HO2
       go_wp2_with fail
       refine (HRD.out).mono ?_
       rintro e w4 ⟨u4, rfl, HO, E4⟩
       obtain ⟨bo, co, rfl, c0, c1, c2, c5⟩ := HO.sl
       have HMK4 := Lib.hid (HMK3.out.ext E4)
       have hE4 := Lib.hid (hE3.out.trans E4)
       have HSV4 := Lib.hid (HSV3.out.ext E4)
       have HCH := Lib.hid (HSV4.out.chansN (L := 8) (dd := false) (by show (chsOf ds).length = 8; rw [chsOf_len, HDL.out]) (by omega) rfl)
       clear HO E4 HMK3 hE3 HSV3 HRD
       go_wp2_with fail
       refine (HCH.out).mono ?_
       rintro e w5 ⟨A5, c5', rfl, E5⟩
       have HMK5 := Lib.hid (HMK4.out.ext E5)
       have hE5 := Lib.hid (hE4.out.trans E5)
       have HSV5 := Lib.hid (HSV4.out.ext E5)
       clear E5 HMK4 hE4 HSV4 HCH c0 c1 c2 c5
       have hfd : ∀ w, (Instr.field 72 (.agg #[.slice A5 8 c5', .int .u32 4096, .bool false]) 0).run Tryz.prog w = .ok (.slice A5 8 c5') w := fun _ => by kernel_rfl
       go_wp2_with (refine wpList_klen kU32 rfl _ rfl rfl HMK5.out ?_; rw [HDL.out])
       exact ⟨⟨m + 1, ds, by omega, by go_num, by rw [HDL.out]; omega, HDS, HSV5, HMK5, hE5⟩, by simp [intOf]; omega⟩
     · have hq8 : ((D : Int) == 8) = false := by simp; omega
       by_cases hin : x ∈ ds
       · have HF3 := Lib.hid (HFD.out v2 w2 HSV2.out HO2.out)
         rw [if_neg h8, if_pos hin] at HF3
         have HIN := Lib.hid hin
         clear hin
         refine (HF3.out).mono ?_
         rintro e w3 ⟨v3, rfl, O3, S3, V3⟩
         have HRD := Lib.hid (readOne (k := 1) (ch := 0) (se := 0) (co := 2) discM v3 w3 O3 mgv_disc (by simp [rM, discM]) (by simp [rM, discM]) (by simp [rM, discM]) (by simp [rM, discM]))
         have HMK3 := Lib.hid (HMK2.out.sv V3)
         have hE3 := Lib.hid (V3.fresh hE2.out HB.out)
         have HSV3 := Lib.hid S3
         clear O3 S3 V3 HMK2 hE2 HSV2 HF3 HFD HO2
         go_wp2_with fail
         refine (HRD.out).mono ?_
         rintro e w4 ⟨u4, rfl, HO, E4⟩
         obtain ⟨bo, co, rfl, c0, c1, c2, c5⟩ := HO.sl
         have HMK4 := Lib.hid (HMK3.out.ext E4)
         have hE4 := Lib.hid (hE3.out.trans E4)
         have HSV4 := Lib.hid (HSV3.out.ext E4)
         have HCH := Lib.hid (HSV4.out.chansN (L := D) (dd := true) (by show (chsOf ds).length = D; rw [chsOf_len, HDL.out]) (by omega) rfl)
         clear HO E4 HMK3 hE3 HSV3 HRD
         go_wp2_with (refine wpList_kseen kU32 rfl _ _ rfl rfl HMK4.out x rfl HXO.out true ⟨fun _ => rfl, fun _ => HIN.out⟩ ?_)
         refine (HCH.out).mono ?_
         rintro e w5 ⟨A5, c5', rfl, E5⟩
         have hE5 := Lib.hid (hE4.out.trans E5)
         clear E5 HMK4 hE4 HSV4 HCH c0 c1 c2 c5
         have hfd : ∀ w, (Instr.field 72 (.agg #[.slice A5 D c5', .int .u32 4096, .bool true]) 2).run Tryz.prog w = .ok (.bool true) w := fun _ => by kernel_rfl
         go_wp2
         go_ret
         exact ⟨rfl, hE5.out⟩
       · have HF3 := Lib.hid (HFD.out v2 w2 HSV2.out HO2.out)
         rw [if_neg h8, if_neg hin] at HF3
         have HNI := Lib.hid hin
         clear hin
         refine (HF3.out).mono ?_
         rintro e w3 ⟨v3, rfl, O3, S3, V3⟩
         have HRD := Lib.hid (readOne (k := 91) (ch := x) (se := D) (co := 0) (confM (chsOf ds) (opM x)) v3 w3 O3 (mgv_conf HXB.out (by rw [chsOf_len, HDL.out]; omega)) (by simp [rM, confM]) (by simp [rM, confM, opM]) (by simp [rM, confM, chsOf_len, HDL.out]) (by simp [rM, confM]))
         have HMK3 := Lib.hid (HMK2.out.sv V3)
         have hE3 := Lib.hid (V3.fresh hE2.out HB.out)
         have HSV3 := Lib.hid S3
         clear O3 S3 V3 HMK2 hE2 HSV2 HF3 HFD HO2
         go_wp2_with fail
         refine (HRD.out).mono ?_
         rintro e w4 ⟨u4, rfl, HO, E4⟩
         obtain ⟨bo, co, rfl, c0, c1, c2, c5⟩ := HO.sl
         have HMK4 := Lib.hid (HMK3.out.ext E4)
         have hE4 := Lib.hid (hE3.out.trans E4)
         have HSV4 := Lib.hid (HSV3.out.ext E4)
         clear HO E4 HMK3 hE3 HSV3 HRD
         go_upto_region 16 with (refine wpList_kseen kU32 rfl _ _ rfl rfl HMK4.out x rfl HXO.out false ⟨fun h => absurd h HNI.out, fun h => by cases h⟩ ?_)
         refine wp_region_held_drew (S := fun w' => Ext w4 w') (by kernel_rfl) zX (fun hHeld => ?_)
         obtain ⟨DW, hDW⟩ : ∃ DW, DW = w4.drew := ⟨_, rfl⟩
         have ED : Ext w4 DW := by rw [hDW]; exact (Ext.refl _).drew
         rw [← hDW] at hHeld ⊢
         clear hDW
         have HLR := Lib.hid (show ∀ w', Ext w4 w' → ∀ ty, (Builtin.len_ #[68] ty #[.map (some M)]).run Tryz.prog w' = .ok (.int .i64 D) w' from fun w' E ty => by
           rw [← HDL.out]
           exact (HMK4.out.ext E).lenR ty)
         have hw64 : IntKind.i64.wrap (D : Int) = D := by rw [IntKind.wrap_i64]; omega
         have hwf : (Lit.int .i64 (D : Int)).wf = true := by simp [Lit.wf, IntKind.min, IntKind.max, IntKind.signed, IntKind.bits]; omega
         (refine zR 0 rfl ?_; (try simp only [zP]))
         (refine zR 1 rfl ?_; (try simp only [zP]))
         (refine zR 2 rfl ?_; (try simp only [zP]))
         (refine zT 3 (v := ?_) rfl (Or.inl ⟨by rfl, ?_⟩) ?_; rotate_left; (focus (intro w' hSw; have kc := cell_ext hSw c0; go_simp; try with_reducible rfl)); (try simp only [zP]))
         (refine zR 4 rfl ?_; (try simp only [zP]))
         (refine zR 5 rfl ?_; (try simp only [zP]))
         (refine zR 6 rfl ?_; (try simp only [zP]))
         (refine zR 7 rfl ?_; (try simp only [zP]))
         (refine zR 8 rfl ?_; (try simp only [zP]))
         (refine zT 9 (v := ?_) rfl (Or.inl ⟨by rfl, ?_⟩) ?_; rotate_left; (focus (intro w' hSw; have kc := cell_ext hSw c1; go_simp; try with_reducible rfl)); (try simp only [zP]))
         (refine zR 10 rfl ?_; (try simp only [zP]))
         (refine zR 11 rfl ?_; (try simp only [zP]))
         (refine zR 12 rfl ?_; (try simp only [zP]))
         (refine zR 13 rfl ?_; (try simp only [zP]))
         (refine zR 14 rfl ?_; (try simp only [zP]))
         (refine zR 15 rfl ?_; (try simp only [zP]))
         (refine zR 16 rfl ?_; (try simp only [zP]))
         (refine zT 17 (v := ?_) rfl (Or.inl ⟨by rfl, ?_⟩) ?_; rotate_left; (focus (intro w' hSw; have kc := cell_ext hSw c2; go_simp; try with_reducible rfl)); (try simp only [zP]))
         (refine zR 18 rfl ?_; (try simp only [zP]))
         (refine zR 19 rfl ?_; (try simp only [zP]))
         (refine zT 20 (v := ?_) rfl (Or.inl ⟨by rfl, ?_⟩) ?_; rotate_left; (focus (intro w' hSw; have hlr := HLR.out w' hSw; go_simp; try with_reducible rfl)); (try simp only [zP]))
         (refine zR 21 rfl ?_; (try simp only [zP]))
         (refine zR 22 rfl ?_; (try simp only [zP]))
         refine wpAnyH_done (by kernel_rfl) ?_ _
         have HMKD := Lib.hid (HMK4.out.ext ED)
         have hED := Lib.hid (hE4.out.trans ED)
         have HSVD := Lib.hid (HSV4.out.ext ED)
         obtain ⟨D1, hD1⟩ : ∃ D1, D + 1 = D1 := ⟨_, rfl⟩
         have HDL1 := Lib.hid (show (ds ++ [x]).length = D1 by rw [List.length_append, HDL.out]; exact hD1)
         have HD1 := Lib.hid hD1
         have HD9 := Lib.hid (show D1 ≤ 8 by omega)
         clear ED hHeld HMK4 hE4 HSV4 c0 c1 c2 c5 HLR hD1
         go_upto_region 24 with (at_mapUpdate; refine wpList_ksee kU32 rfl _ _ _ rfl rfl HMKD.out x HNI.out rfl rfl HXO.out (by rw [HDL.out]; omega) ?_; intro w6 m6 M6; have HMK6 := Lib.hid m6; have HSV6 := Lib.hid (HSVD.out.map HMKD.out.noc M6); have hE6 := Lib.hid (Mod.toExt hED.out M6 (fun k hk he => by have := HMB.out; omega)))
         have HCH := Lib.hid (HSV6.out.chansN (L := D1) (dd := false) (by show (chsOf (ds ++ [x])).length = D1; rw [chsOf_len, HDL1.out]) (by have := HD9.out; omega) rfl)
         clear HMKD hED HSVD
         go_wp2_with fail
         refine (HCH.out).mono ?_
         rintro e w7 ⟨A7, c7, rfl, E7⟩
         have HMK7 := Lib.hid (HMK6.out.ext E7)
         have hE7 := Lib.hid (hE6.out.trans E7)
         have HSV7 := Lib.hid (HSV6.out.ext E7)
         clear E7 HMK6 hE6 HSV6 HCH
         have hfd : ∀ w, (Instr.field 72 (.agg #[.slice A7 D1 c7, .int .u32 4096, .bool false]) 0).run Tryz.prog w = .ok (.slice A7 D1 c7) w := fun _ => by kernel_rfl
         go_wp2_with (refine wpList_klen kU32 rfl _ rfl rfl HMK7.out ?_; rw [HDL1.out])
         exact ⟨⟨m + 1, ds ++ [x], by omega, by go_num, by rw [HDL1.out]; exact HD9.out, Lib.hid (fun y hy => by
           rcases List.mem_append.1 hy with h9 | h9
           · exact HDS.out y h9
           · simp at h9; rw [h9]; exact HXB.out), HSV7, HMK7, hE7⟩, by simp [intOf]; omega⟩
   · obtain rfl : m = n := by omega
     obtain ⟨D, hD⟩ : ∃ D, ds.length = D := ⟨_, rfl⟩
     have HDL := Lib.hid hD
     rw [hD] at hd8
     clear hD
     go_upto_region 28 with (refine wpList_klen kU32 rfl _ rfl rfl HMK.out ?_; rw [HDL.out])
     clear HMK
     have hnl0 : 0 < nl := by rw [← HNL.out]; exact HPG.out.ne
     have hw32 : IntKind.u32.wrap (D : Int) = D := by rw [IntKind.wrap_u32]; omega
     go_loopw [135] (fun i wx => ∃ j : Nat, j ≤ D ∧ i = .int .u32 j ∧ Hid (SvAt g kb base ns (opS ds j) none wx) ∧ Hid (Ext w wx)) (fun i _ => D - (intOf i).toNat)
     case atStart => exact ⟨0, Nat.zero_le _, rfl, HSV, hE⟩
     case round =>
       clear HSV hE
       obtain ⟨j, hj, rfl, HSV, hE⟩ := hrel
       by_cases hjd : j < D
       · obtain ⟨d, hd⟩ : ∃ d, ds[j]? = some d := ⟨_, List.getElem?_eq_getElem (by rw [HDL.out]; exact hjd)⟩
         have HD := Lib.hid hd
         have HDB := Lib.hid (HDS.out d (List.mem_of_getElem? hd))
         have hwj : IntKind.i64.wrap (j : Int) = j := by rw [IntKind.wrap_i64]; omega
         clear hd
         go_upto_region 31 with fail
         go_loopw [138] (fun i wx => ∃ a : Nat, a ≤ 2 ∧ i = .int .i64 a ∧ Hid (SvAt g kb base ns (opS ds (if a = 0 then j else j + 1)) none wx) ∧ Hid (Ext w wx)) (fun i _ => 2 - (intOf i).toNat)
         case atStart => exact ⟨0, Nat.zero_le _, rfl, HSV, hE⟩
         case round =>
           clear HSV hE
           obtain ⟨a, ha, rfl, HSV, hE⟩ := hrel
           by_cases ha2 : a < 2
           · obtain ⟨b, off, nm, ops, A2, c2', rfl, HCELL, hd0, -⟩ := pq_at (HL.out.ext hE.out) hnl0
             have k0 : wr.cell? ⟨b, off, none⟩ = some (.string nm) := by simpa using HCELL.out 0 _ rfl
             have HNO := Lib.hid (HPG.out.nm (nm, ops) (List.mem_of_getElem? hd0.out)).1
             have HF0 := Lib.hid (show fndP ns nm = 0 from fndP_0 (by rw [← HNS.out, List.getElem?_map, hd0.out]; rfl))
             have HAK := Lib.hid (pask_any nm j wr HNO.out (by omega))
             obtain ⟨J1, hJ1⟩ : ∃ J1, j + 1 = J1 := ⟨_, rfl⟩
             have HJ1 := Lib.hid hJ1
             have hJ9 : J1 ≤ 8 := by omega
             have hw1 : IntKind.i64.wrap ((j : Int) + 1) = J1 := by rw [IntKind.wrap_i64]; omega
             clear hJ1 HCELL
             by_cases ha0 : a = 0
             · subst ha0
               rw [if_pos rfl] at HSV
               go_wp2_with fail
               refine (HAK.out).mono ?_
               rintro e w2 ⟨v2, rfl, O2, E2⟩
               have HO2 := Lib.hid (RdS.ri O2.rdT)
               have hE2 := Lib.hid (hE.out.trans E2)
               have HSV2 := Lib.hid (HSV.out.ext E2)
               have HFD := Lib.hid (fask_one g kb base ns ds none j d nm v2 w2 HSV2.out HO2.out HNO.out HD.out (by rw [HDL.out]; omega) HDB.out HF0.out)
               clear E2 O2 HAK hE HSV k0
               go_wp2_with fail
               refine (HFD.out).mono ?_
               rintro e w3 ⟨v3, rfl, O3, S3, V3⟩
               have HRD := Lib.hid (readOne (k := 99) (ch := d) (se := 0) (co := 0) (ansM 99 (chO j d)) v3 w3 O3 (mgv_ans (b := true) HDB.out) (by simp [rM, ansM]) (by simp [rM, ansM]) (by simp [rM, ansM]) (by simp [rM, ansM]))
               have hE3 := Lib.hid (V3.fresh hE2.out HB.out)
               have HSV3 := Lib.hid S3
               clear O3 S3 V3 hE2 HSV2 HFD HO2
               go_wp2_with fail
               refine (HRD.out).mono ?_
               rintro e w4 ⟨u4, rfl, HO, E4⟩
               obtain ⟨bo, co, rfl, c0, c1, c2, c5⟩ := HO.sl
               have hE4 := Lib.hid (hE3.out.trans E4)
               have HSV4 := Lib.hid (HSV3.out.ext E4)
               have HTB := Lib.hid (HSV4.out.tableN (L := J1) (by show (prsOf (j + 1)).length = J1; rw [prsOf_len, HJ1.out]) (by omega))
               clear HO E4 hE3 HSV3 HRD
               go_wp2_with fail
               refine (HTB.out).mono ?_
               rintro e w5 ⟨A5, c5', z5, rfl, E5⟩
               have hE5 := Lib.hid (hE4.out.trans E5)
               have HSV5 := Lib.hid (HSV4.out.ext E5)
               clear E5 hE4 HSV4 HTB c0 c1 c2 c5
               have hfd : ∀ w, (Instr.field 79 (.agg #[.slice A5 J1 c5', .int .i64 z5]) 0).run Tryz.prog w = .ok (.slice A5 J1 c5') w := fun _ => by kernel_rfl
               go_wp2
               exact ⟨⟨1, by omega, by go_num, by rw [if_neg (by omega)]; exact HSV5, hE5⟩, by simp [intOf]⟩
             · obtain rfl : a = 1 := by omega
               rw [if_neg (by omega)] at HSV
               go_wp2_with fail
               refine (HAK.out).mono ?_
               rintro e w2 ⟨v2, rfl, O2, E2⟩
               have HO2 := Lib.hid (RdS.ri O2.rdT)
               have hE2 := Lib.hid (hE.out.trans E2)
               have HSV2 := Lib.hid (HSV.out.ext E2)
               have HFD := Lib.hid (fask_two g kb base ns ds none j d nm v2 w2 HSV2.out HO2.out HNO.out HD.out (by rw [HDL.out]; omega) HDB.out)
               clear E2 O2 HAK hE HSV k0
               go_wp2_with fail
               refine (HFD.out).mono ?_
               rintro e w3 ⟨v3, rfl, O3, S3, V3⟩
               have HRD := Lib.hid (readOne (k := 100) (ch := d) (se := 0) (co := 0) (ansM 100 (chO j d)) v3 w3 O3 (mgv_ans (b := false) HDB.out) (by simp [rM, ansM]) (by simp [rM, ansM]) (by simp [rM, ansM]) (by simp [rM, ansM]))
               have hE3 := Lib.hid (V3.fresh hE2.out HB.out)
               have HSV3 := Lib.hid S3
               clear O3 S3 V3 hE2 HSV2 HFD HO2
               go_wp2_with fail
               refine (HRD.out).mono ?_
               rintro e w4 ⟨u4, rfl, HO, E4⟩
               obtain ⟨bo, co, rfl, c0, c1, c2, c5⟩ := HO.sl
               have hE4 := Lib.hid (hE3.out.trans E4)
               have HSV4 := Lib.hid (HSV3.out.ext E4)
               have HTB := Lib.hid (HSV4.out.tableN (L := J1) (by show (prsOf (j + 1)).length = J1; rw [prsOf_len, HJ1.out]) (by omega))
               clear HO E4 hE3 HSV3 HRD
               go_wp2_with fail
               refine (HTB.out).mono ?_
               rintro e w5 ⟨A5, c5', z5, rfl, E5⟩
               have hE5 := Lib.hid (hE4.out.trans E5)
               have HSV5 := Lib.hid (HSV4.out.ext E5)
               clear E5 hE4 HSV4 HTB c0 c1 c2 c5
               have hfd : ∀ w, (Instr.field 79 (.agg #[.slice A5 J1 c5', .int .i64 z5]) 0).run Tryz.prog w = .ok (.slice A5 J1 c5') w := fun _ => by kernel_rfl
               go_wp2
               exact ⟨⟨2, by omega, by go_num, by rw [if_neg (by omega)]; exact HSV5, hE5⟩, by simp [intOf]⟩
           · obtain rfl : a = 2 := by omega
             rw [if_neg (by omega)] at HSV
             go_wp2
             exact ⟨⟨j + 1, by omega, by go_num, HSV, hE⟩, by simp [intOf]; omega⟩
       · obtain rfl : j = D := by omega
         go_wp2
         go_ret
         exact ⟨rfl, hE.out⟩
end Go.Proofs.YtmmhcllibpmfnaaGreatDoor
namespace Go.Kb
open Go.RowKit Go.ChangeShapes Go.WideShapes Go.ChangeAt Go.Deep
section
variable {H : Type} {enc : TypeId × Value → H} {P : Program} {W W' : World}
def okTypes (P : Program) (ts : List TypeId) : Bool := ts.all fun t => P.readableRec t && decide (t < P.types.size)
theorem trodAll_stays (hl : laidOutB P = true) : ∀ {ts : List TypeId} {vs : List Value} {ds : List (DataW H)} {ps : List MemPlace}, okTypes P ts = true →
   DataW.TrodAll enc P W 0 (fun _ => true) true ts vs ds ps → Ext W W' → (∀ x ∈ ps, x.block < W.heap.size) → DataW.TrodAll enc P W' 0 (fun b => decide (b < W.heap.size)) true ts vs ds ps
 | [], vs, ds, ps, _, h, _, _ => by
   obtain ⟨rfl, rfl, rfl⟩ := trodAll_nil h
   rfl
 | t :: ts, vs, ds, ps, hr, h, hb, hlt => by
   obtain ⟨v, vs', d, ds', p, q, rfl, rfl, rfl, h1, h2⟩ := trodAll_cons h
   simp only [okTypes, List.all_cons, Bool.and_eq_true, decide_eq_true_eq] at hr
   exact ⟨p, q, Below.trod hl hr.1.1 hr.1.2 h1 hb fun x hx => hlt x (List.mem_append_left _ hx), trodAll_stays hl hr.2 h2 hb fun x hx => hlt x (List.mem_append_right _ hx), rfl⟩
end
end Go.Kb
namespace Go.Kb
open Go.RowKit Go.ChangeShapes Go.WideShapes Go.ChangeAt Go.Deep
section
variable {H : Type} {enc : TypeId × Value → H} {P : Program} {W : World} {D E : Type}
/-- what data of a type opens as -/
def Opens (enc : TypeId × Value → H) (P : Program) (W : World) (t : TypeId) (e : Rep D) (R : D → Prop) : Prop :=
 ∀ (fuel : Nat) (cs : List Value) (x : DataW H × List MemPlace), DataW.trod enc P W 0 (fun _ => true) true fuel t cs = some x → (x.1.weights P t).all (· ≤ reachBytes) = true → ∃ d, e.rel (fun _ => True) W cs d ∧ R d
theorem opens_int {t : TypeId} {k : IntKind} (hu : P.underlying t = some (.int k)) : Opens enc P W t (Rep.int k) (fun n => (Lit.int k n).wf = true) := by
 intro fuel cs x h _
 obtain ⟨n, rfl, _, hw⟩ := DataW.trod_int hu h
 exact ⟨n, rfl, hw⟩
theorem weights_of_all {t : TypeId} : ∀ {l : List (DataW H)} {d : DataW H}, d ∈ l → (DataW.weightsAll P t l).all (· ≤ reachBytes) = true → (d.weights P t).all (· ≤ reachBytes) = true
 | y :: r, d, h, hw => by
   simp only [DataW.weightsAll, List.all_append, Bool.and_eq_true] at hw
   rcases List.mem_cons.1 h with rfl | h
   · exact hw.1
   · exact weights_of_all h hw.2
theorem opens_slice {t te : TypeId} {e : Rep D} {R : D → Prop} (ht : P.underlying t = some (.slice te)) (hc : P.cellsOf te = e.size) (ho : Opens enc P W te e R) :
   Opens enc P W t (Rep.sl e) (fun l => (∀ x ∈ l, R x) ∧ l.length * P.bytesOf te ≤ 140737488351232) := by
 intro fuel cs x h hw
 rcases open_slice ht h with ⟨rfl, _⟩ | ⟨a, len, cap, m, n, Dd, Pl, rfl, _, hl, hm, hmm, rfl, hi⟩
 · exact ⟨[], ⟨_, rfl, RdS.nil _ _ _⟩, by simp, by simp⟩
 · simp only [if_true] at hmm
   subst hmm
   simp only [DataW.weights, ht, List.all_cons, List.all_append, Bool.and_eq_true, List.length_map, List.length_range, reachBytes] at hw
   have hz : a.spot = none ∨ m = 0 := by
     rcases Nat.eq_zero_or_pos m with h0 | h0
     · exact .inr h0
     · obtain ⟨cs', hcs, _⟩ := hi 0 h0
       obtain ⟨_, _, hat⟩ := World.cells?_some hcs
       have hp := e.pos
       have h1 := hat 0 (by omega)
       left
       rcases hs : a.spot with _ | s
       · rfl
       · exfalso
         have hlen : cs'.length = P.cellsOf te := by assumption
         rw [Nat.zero_mul] at h1
         have : cs'[0]? = some (cs'[0]'(by omega)) := List.getElem?_eq_getElem (by omega)
         rw [this] at h1
         simp [Addr.add, World.cell?, hs] at h1
         split at h1 <;> simp at h1
   have key : ∀ k, k ≤ len → ∃ us ds, ds.length = k ∧ RdE e (fun _ => True) W us ds ∧ (∀ x ∈ ds, R x) ∧ ∀ j u, us[j]? = some u → W.cell? (a.add j) = some u := by
     intro k
     induction k with
     | zero => exact fun _ => ⟨[], [], rfl, RdE.nil _ _ _, by simp, by simp⟩
     | succ k ih =>
       intro hk
       obtain ⟨us, ds, hdl, he, hr, hcell⟩ := ih (by omega)
       obtain ⟨cs', hcs, htr⟩ := hi k (by omega)
       have hwk : ((Dd k).weights P te).all (· ≤ reachBytes) = true := weights_of_all (l := (List.range len).map Dd) (List.mem_map.2 ⟨k, List.mem_range.2 (by omega), rfl⟩) hw.2.1
       obtain ⟨d, hrel, hR⟩ := ho _ _ _ htr hwk
       obtain ⟨_, _, hat⟩ := World.cells?_some hcs
       refine ⟨us ++ cs', ds ++ [d], by simp [hdl], he.append (RdE.single hrel), ?_, fun j u hu => ?_⟩
       · intro x hx
         rcases List.mem_append.1 hx with hx | hx
         · exact hr x hx
         · simp at hx; subst hx; exact hR
       · have hul : us.length = k * e.size := by rw [he.1, hdl]
         rcases Nat.lt_or_ge j us.length with hj | hj
         · rw [List.getElem?_append_left hj] at hu
           exact hcell j u hu
         · rw [List.getElem?_append_right hj] at hu
           have hcl : cs'.length = e.size := e.len hrel
           have hjl : j - us.length < cs'.length := (List.getElem?_eq_some_iff.1 hu).1
           have h1 := hat (j - us.length) (by omega)
           rw [hu, hc, Go.Deep.add_add] at h1
           have : k * e.size + (j - us.length) = j := by omega
           rw [this] at h1
           exact h1
   obtain ⟨us, ds, rfl, he, hr, hcell⟩ := key len (Nat.le_refl _)
   refine ⟨ds, ⟨_, rfl, ⟨us, ⟨he.1, some a, m, rfl, hl, hm, ?_⟩, he⟩, fun _ _ _ => trivial⟩, hr, ?_⟩
   · rcases hz with hz | hz
     · obtain ⟨b, off, sp⟩ := a
       simp only at hz
       subst hz
       exact .inr ⟨b, off, rfl, fun j u hu => by have := hcell j u hu; rwa [Addr.add_lit] at this⟩
     · exact .inl hz
   · have h1 := of_decide_eq_true hw.1
     have h2 : ds.length * P.bytesOf te ≤ (ds.length + (m - ds.length)) * P.bytesOf te := Nat.mul_le_mul_right _ (by omega)
     omega
/-- a slice that is an argument -/
theorem Opens.slice {t te : TypeId} {e : Rep D} {R : List D → Prop} {v : Value} {d : DataW H} {p : List MemPlace} {r : Reach} {b0 : Nat} (ho : Opens enc P W t (Rep.sl e) R) (ht : P.underlying t = some (.slice te))
   (hok : Value.okWide P W r b0 t v) (h : DataW.Trod enc P W 0 (fun _ => true) true t v d p) (hw : (d.weights P t).all (· ≤ reachBytes) = true) : ∃ l, RdS e (fun _ => True) W v l ∧ R l := by
 obtain ⟨a, len, cap, rfl⟩ := okWide_slice ht hok
 obtain ⟨fuel, hf⟩ := h
 obtain ⟨l, ⟨v', hv, hr⟩, hR⟩ := ho _ _ _ hf hw
 simp [Value.cells] at hv
 subst hv
 exact ⟨l, hr, hR⟩
end
end Go.Kb
namespace Go.Kb
open Go.RowKit Go.ChangeShapes Go.WideShapes Go.ChangeAt Go.Deep
section
variable {H : Type} {enc : TypeId × Value → H} {P : Program} {W : World}
theorem weightsEach_at : ∀ {ts : List TypeId} {ds : List (DataW H)} {j : Nat} {t : TypeId} {d : DataW H}, (DataW.weightsEach P ts ds).all (· ≤ reachBytes) = true → ts[j]? = some t → ds[j]? = some d → (d.weights P t).all (· ≤ reachBytes) = true
 | [], _, j, _, _, _, ht, _ => by simp at ht
 | _ :: _, [], j, _, _, _, _, hd => by simp at hd
 | a :: ts, x :: ds, 0, t, d, hw, ht, hd => by
   simp at ht hd
   subst ht hd
   simp only [DataW.weightsEach, List.all_append, Bool.and_eq_true] at hw
   exact hw.1
 | a :: ts, x :: ds, j + 1, t, d, hw, ht, hd => by
   simp only [DataW.weightsEach, List.all_append, Bool.and_eq_true] at hw
   exact weightsEach_at hw.2 (by simpa using ht) (by simpa using hd)
/-- what a field of a struct's data opens as -/
def FieldOpens (enc : TypeId × Value → H) (P : Program) (W : World) (cs : List Value) (t : TypeId) (o : Nat) : Prop :=
 ∃ (fuel : Nat) (x : DataW H × List MemPlace), DataW.trod enc P W 0 (fun _ => true) true fuel t ((cs.drop o).take (P.cellsOf t)) = some x ∧ (x.1.weights P t).all (· ≤ reachBytes) = true
theorem FieldOpens.opens {cs : List Value} {t : TypeId} {o n : Nat} {D : Type} {e : Rep D} {R : D → Prop} (h : FieldOpens enc P W cs t o) (ho : Opens enc P W t e R) (hc : P.cellsOf t = n) : ∃ d, e.rel (fun _ => True) W ((cs.drop o).take n) d ∧ R d := by
 obtain ⟨fuel, x, h1, h2⟩ := h
 subst hc
 exact ho _ _ _ h1 h2
theorem cell_of_take {cs : List Value} {o : Nat} {v : Value} (h : (cs.drop o).take 1 = [v]) : cs[o]? = some v := by
 have := congrArg (fun l => l[0]?) h
 simpa [List.getElem?_take, List.getElem?_drop] using this
theorem FieldOpens.int {cs : List Value} {t : TypeId} {o : Nat} {k : IntKind} (h : FieldOpens enc P W cs t o) (hu : P.underlying t = some (.int k)) (hc : P.cellsOf t = 1) : ∃ n, cs[o]? = some (.int k n) ∧ (Lit.int k n).wf = true := by
 obtain ⟨n, h1, h2⟩ := h.opens (opens_int hu) hc
 exact ⟨n, cell_of_take h1, h2⟩
theorem FieldOpens.slice {cs : List Value} {t : TypeId} {o : Nat} {D : Type} {e : Rep D} {R : List D → Prop} (h : FieldOpens enc P W cs t o) (ho : Opens enc P W t (Rep.sl e) R) (hc : P.cellsOf t = 1) : ∃ v l, cs[o]? = some v ∧ RdS e (fun _ => True) W v l ∧ R l := by
 obtain ⟨l, ⟨v, h1, h2⟩, h3⟩ := h.opens ho hc
 exact ⟨v, l, cell_of_take h1, h2, h3⟩
end
end Go.Kb
