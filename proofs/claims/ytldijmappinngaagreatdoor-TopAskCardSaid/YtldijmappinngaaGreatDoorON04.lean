/- message.Encode of any message, by contract: the bytes of its kind's fields, or a fault. Conditions: few bytes. -/
import Derived.Test.YtldijmappinngaaGreatDoorOM04
namespace Go.Proofs.YtldijmappinngaaGreatDoor
open Go.RowKit Go.Kb
set_option maxRecDepth 100000

/-- all parts -/
def allPa : List Pa := [paCode, paWords, paLang, paName, paWant, paRest, paSender, paWindow, paPacket, paChan]
/-- a part of a message as a field -/
def vOf (q : Pa) (m : Mg) : Fd :=
  if q.g = 84 then ⟨q.k, m.co, []⟩ else if q.g = 94 then ⟨q.k, m.se, []⟩ else if q.g = 96 then ⟨q.k, m.wi, []⟩ else if q.g = 98 then ⟨q.k, m.pk, []⟩ else
  if q.g = 100 then ⟨q.k, m.ch, []⟩ else if q.g = 92 then ⟨q.k, if m.wa = true then 1 else 0, []⟩ else if q.g = 90 then ⟨q.k, 0, bsL m.nm⟩ else if q.g = 88 then ⟨q.k, 0, bsL m.la⟩ else ⟨q.k, 0, m.da⟩
theorem vOf_k (q : Pa) (m : Mg) : (vOf q m).k = q.k := by
  unfold vOf
  repeat (split; rfl)
  rfl
theorem en_getCode (args : Array Value) (w : World) : (callFunc 84 args).run Tryz.prog w = .ok (.enter 84 args) w := by kernel_rfl
theorem en_getSender (args : Array Value) (w : World) : (callFunc 94 args).run Tryz.prog w = .ok (.enter 94 args) w := by kernel_rfl
theorem en_getWindow (args : Array Value) (w : World) : (callFunc 96 args).run Tryz.prog w = .ok (.enter 96 args) w := by kernel_rfl
theorem en_getPacket (args : Array Value) (w : World) : (callFunc 98 args).run Tryz.prog w = .ok (.enter 98 args) w := by kernel_rfl
theorem en_getChan (args : Array Value) (w : World) : (callFunc 100 args).run Tryz.prog w = .ok (.enter 100 args) w := by kernel_rfl
theorem en_getWant (args : Array Value) (w : World) : (callFunc 92 args).run Tryz.prog w = .ok (.enter 92 args) w := by kernel_rfl
theorem en_getName (args : Array Value) (w : World) : (callFunc 90 args).run Tryz.prog w = .ok (.enter 90 args) w := by kernel_rfl
theorem en_getLang (args : Array Value) (w : World) : (callFunc 88 args).run Tryz.prog w = .ok (.enter 88 args) w := by kernel_rfl
theorem en_getData (args : Array Value) (w : World) : (callFunc 86 args).run Tryz.prog w = .ok (.enter 86 args) w := by kernel_rfl
/-- what gets a part -/
structure GetsP (q : Pa) (m : Mg) : Prop where
  enters : ∀ args w', (callFunc q.g args).run Tryz.prog w' = .ok (.enter q.g args) w'
  gets : ∀ g v A w, Blk w g 67 (mgA m v) → RdS Ub8 A w v m.da → Calls Tryz.prog q.g #[.pointer (some ⟨g, 0, none⟩)] w (GetP A (vOf q m).n (vOf q m).t w)
theorem gets_all {q : Pa} (hq : q ∈ allPa) (m : Mg) (h1 : m.nm.size ≤ 1000000) (h2 : m.la.size ≤ 1000000) : GetsP q m := by
  simp only [allPa, List.mem_cons, List.not_mem_nil, or_false] at hq
  rcases hq with rfl | rfl | rfl | rfl | rfl | rfl | rfl | rfl | rfl | rfl
  · exact ⟨en_getCode, fun g v A w hb _ => mgetCode g m v A w hb⟩
  · exact ⟨en_getData, fun g v A w hb hv => mgetData g m v A w hb hv⟩
  · exact ⟨en_getLang, fun g v A w hb _ => mgetLang g m v A w hb h2⟩
  · exact ⟨en_getName, fun g v A w hb _ => mgetName g m v A w hb h1⟩
  · exact ⟨en_getWant, fun g v A w hb _ => mgetWant g m v A w hb⟩
  · exact ⟨en_getData, fun g v A w hb hv => mgetData g m v A w hb hv⟩
  · exact ⟨en_getSender, fun g v A w hb _ => mgetSender g m v A w hb⟩
  · exact ⟨en_getWindow, fun g v A w hb _ => mgetWindow g m v A w hb⟩
  · exact ⟨en_getPacket, fun g v A w hb _ => mgetPacket g m v A w hb⟩
  · exact ⟨en_getChan, fun g v A w hb _ => mgetChan g m v A w hb⟩
/-- a kind that there is -/
def KindOk (k : Int) : Prop := k = 1 ∨ k = 80 ∨ k = 81 ∨ k = 82 ∨ k = 90 ∨ k = 91 ∨ k = 92 ∨ k = 93 ∨ k = 94 ∨ k = 95 ∨ k = 96 ∨ k = 97 ∨ k = 98 ∨ k = 99 ∨ k = 100
theorem row_kind {k : Int} {ps : List Pa} (h : rowL k = some ps) : KindOk k := by
  unfold KindOk
  apply Classical.byContradiction
  intro hn
  simp only [not_or] at hn
  obtain ⟨h1, h80, h81, h82, h90, h91, h92, h93, h94, h95, h96, h97, h98, h99, h100⟩ := hn
  rw [show rowL k = none by simp [rowL, h1, h80, h81, h82, h90, h91, h92, h93, h94, h95, h96, h97, h98, h99, h100]] at h
  cases h
theorem rowOk_of {ks : List Int} (h1 : ks.all (fun x => decide (1 ≤ x ∧ x ≤ 6)) = true) (h2 : ks.dropLast.all (fun x => decide (x ≠ 6)) = true) : RowOk ks := by
  intro i x hx
  have hm := List.mem_of_getElem? hx
  refine ⟨of_decide_eq_true (List.all_eq_true.1 h1 x hm), fun h6 => ?_⟩
  have hlt := (List.getElem?_eq_some_iff.1 hx).1
  apply Classical.byContradiction
  intro hn
  have h9 : ks.dropLast[i]? = some x := by rw [List.getElem?_dropLast, if_pos (by omega)]; exact hx
  exact of_decide_eq_true (List.all_eq_true.1 h2 x (List.mem_of_getElem? h9)) h6
theorem row_all {k : Int} {ps : List Pa} (h : rowL k = some ps) : ps.length ≤ 5 ∧ (∀ q ∈ ps, q ∈ allPa) ∧ RowOk (1 :: ps.map (·.k)) := by
  have hk := row_kind h
  unfold KindOk at hk
  rcases hk with rfl | rfl | rfl | rfl | rfl | rfl | rfl | rfl | rfl | rfl | rfl | rfl | rfl | rfl | rfl
  all_goals
    simp [rowL] at h
    subst h
    exact ⟨by decide, by simp [allPa], rowOk_of (by decide) (by decide)⟩
theorem pa_ix {ps : List Pa} {j : Nat} {q : Pa} (h : ps[j]? = some q) (i : Nat) (hi : i < 3) : (ps.flatMap (fun q => (paA q).toList))[j * 3 + i]? = (paA q).toList[i]? := by
  induction ps generalizing j with
  | nil => simp at h
  | cons a l ih =>
    rw [List.flatMap_cons]
    cases j with
    | zero =>
      simp only [List.getElem?_cons_zero, Option.some.injEq] at h
      subst h
      rw [Nat.zero_mul, Nat.zero_add, List.getElem?_append_left (by simpa using hi)]
    | succ j =>
      rw [List.getElem?_append_right (by simp; omega), show (j + 1) * 3 + i - ((paA a).toList).length = j * 3 + i by simp; omega]
      exact ih (by simpa using h)
theorem pa_at {w : World} {g : Nat} {t : TypeId} {ps : List Pa} {j : Nat} {q : Pa} (h : Blk w g t (ps.flatMap (fun q => (paA q).toList)).toArray) (hj : ps[j]? = some q) :
    w.cell? ⟨g, j * 3, none⟩ = some (.int .i64 q.k) ∧ w.cell? ⟨g, j * 3 + 1, none⟩ = some (.func (.func q.g) #[] #[]) ∧ w.cell? ⟨g, j * 3 + 2, none⟩ = some (.func (.func q.p) #[] #[]) := by
  refine ⟨?_, ?_, ?_⟩
  · have h9 := pa_ix hj 0 (by omega)
    rw [h.cell, List.getElem?_toArray]
    simpa using h9
  · have h9 := pa_ix hj 1 (by omega)
    rw [h.cell, List.getElem?_toArray, h9]
    rfl
  · have h9 := pa_ix hj 2 (by omega)
    rw [h.cell, List.getElem?_toArray, h9]
    rfl
/-- a message's fields -/
def flds (m : Mg) (ps : List Pa) : List Fd := ⟨1, m.k, []⟩ :: ps.map (fun q => vOf q m)
theorem flds_k (m : Mg) (ps : List Pa) : (flds m ps).map (·.k) = 1 :: ps.map (·.k) := by
  unfold flds
  rw [List.map_cons, List.map_map]
  congr 1
  exact List.map_congr_left fun q _ => vOf_k q m
/-- numbers that fit, and texts that aren't too long -/
structure Mg.Ok (m : Mg) : Prop where
  ch : 0 ≤ m.ch ∧ m.ch ≤ 4294967295
  se : 0 ≤ m.se ∧ m.se ≤ 4294967295
  wi : 0 ≤ m.wi ∧ m.wi ≤ 4294967295
  pk : 0 ≤ m.pk ∧ m.pk ≤ 4294967295
  co : 0 ≤ m.co ∧ m.co ≤ 4294967295
  nm : m.nm.size ≤ 10000
  la : m.la.size ≤ 10000
  da : m.da.length ≤ 100000
  bs : Bs m.da
theorem vOf_ok {q : Pa} {m : Mg} (hm : m.Ok) (hk : q ∈ allPa) : FdOk (vOf q m) := by
  refine ⟨?_, ?_⟩
  · rw [vOf_k]
    simp only [allPa, List.mem_cons, List.not_mem_nil, or_false] at hk
    rcases hk with rfl | rfl | rfl | rfl | rfl | rfl | rfl | rfl | rfl | rfl <;> simp [paCode, paWords, paLang, paName, paWant, paRest, paSender, paWindow, paPacket, paChan]
  · obtain ⟨h1, h2, h3, h4, h5, -, -, -, -⟩ := hm
    unfold vOf
    repeat' split
    all_goals (dsimp only; first | assumption | omega)
/-- what Encode answers -/
def EncP (m : Mg) (w : World) (e : Ending) (w' : World) : Prop :=
  ∃ (u : Value) (q : Int), e = .returned (.tuple #[u, .int .i64 q]) ∧ Ext w w' ∧ (q = 0 → ∃ ps, rowL m.k = some ps ∧ FitP m ∧ (∀ f ∈ flds m ps, fltF f.k f.n f.t = 0) ∧ (encL (flds m ps)).length ≤ 33792 ∧ OwnS Ub8 5 w.heap.size (fun _ => False) w' u (encL (flds m ps))) ∧ (q ≠ 0 → u = .slice none 0 0) ∧ (∀ ps, rowL m.k = some ps → FitP m → (∀ f ∈ flds m ps, fltF f.k f.n f.t = 0) → (encL (flds m ps)).length ≤ 33792 → q = 0)
set_option maxHeartbeats 3000000 in
theorem encode_any (m : Mg) (v : Value) (w : World) (hd : RdS Ub8 (fun k => k < w.heap.size) w v m.da) (hm : m.Ok) : Calls Tryz.prog 7 #[.agg (mgA m v)] w (EncP m w) := by
  obtain ⟨Av, cv, rfl, -, -⟩ := hd.shape
  have HD := Lib.hid hd
  have hi : (Tryz.prog.info? 59).map (·.size) = some 4 := by kernel_rfl
  have hiM : (Tryz.prog.info? 28).map (·.size) = some 10 := by kernel_rfl
  have hiP : (Tryz.prog.info? 71).map (·.size) = some 3 := by kernel_rfl
  have HOK := Lib.hid hm
  have HRW := Lib.hid (fun w' => mrow_any m.k w')
  have HFT := Lib.hid (fun w' => fitsm_any m (.slice Av m.da.length cv) w' (by have := hm.nm; omega) (by have := hm.la; omega))
  obtain ⟨W1, hW1⟩ : ∃ W1, W1 = w.alloc (.cells (mgA m (.slice Av m.da.length cv)) 28) := ⟨_, rfl⟩
  have E1 : Ext w W1 := by rw [hW1]; exact (Ext.refl _).alloc _
  have P1 := Lib.hid (show Blk W1 w.heap.size 28 (mgA m (.slice Av m.da.length cv)) by rw [hW1]; exact Blk.new w _ _)
  have HW1 := Lib.hid hW1
  clear hd hm hW1
  go_enter Tryz.func7, Tryz.ntmps7
  go_upto_region 1 with fail
  rw [← HW1.out]
  clear HW1
  have k0 := (mgC P1.out).k0
  have hs1 : w.heap.size < W1.heap.size := P1.out.lt
  go_wp2_with fail
  refine (HRW.out _).mono ?_
  rintro e w2 ⟨E2, hrow⟩
  have E02 : Ext w w2 := E1.trans E2
  have P2 := Lib.hid (P1.out.ext E2)
  clear k0 P1 E1 E2
  cases hps : rowL m.k with
  | none =>
    rw [hps] at hrow
    obtain rfl := hrow
    go_wp2
    go_ret2
    exact ⟨_, 8, rfl, E02, fun h => absurd h (by decide), fun _ => rfl, fun ps h => by rw [hps] at h; cases h⟩
  | some ps =>
    rw [hps] at hrow
    obtain ⟨Ap, rfl, hpart⟩ := hrow
    have HPS := Lib.hid hps
    have HPT := Lib.hid hpart
    clear hps hpart
    go_wp2_with (first | (refine wpList_load_row rfl 28 _ rfl _ rfl 28 _ _ _ P2.out Tryz.underlying28 rfl hiM ?_) | fail)
    refine (HFT.out _).mono ?_
    rintro e w3 ⟨qf, rfl, hqf, E3⟩
    have E03 := E02.trans E3
    have P3 := Lib.hid (P2.out.ext E3)
    have HPT := Lib.hid (show ps = [] ∨ ∃ g, Ap = some ⟨g, 0, none⟩ ∧ w.heap.size ≤ g ∧ Blk w3 g 71 (ps.flatMap (fun q => (paA q).toList)).toArray from HPT.out.imp id (fun ⟨g, h1, h2, h3⟩ => ⟨g, h1, Nat.le_trans (Nat.le_of_lt hs1) h2, h3.ext E3⟩))
    clear P2 E3 E02
    cases qf with
    | false =>
      have HNF := Lib.hid (show ¬ FitP m from fun h9 => by have := hqf.2 h9; cases this)
      clear hqf
      go_wp2
      go_ret2
      exact ⟨_, 4, rfl, E03, fun h => absurd h (by decide), fun _ => rfl, fun _ _ h9 => absurd h9 HNF.out⟩
    | true =>
      have HFP := Lib.hid (hqf.1 rfl)
      clear hqf
      have hkk : IntKind.u32.wrap m.k = m.k := by
        have h9 := row_kind HPS.out
        unfold KindOk at h9
        unfold IntKind.wrap
        simp [IntKind.bits, IntKind.signed]
        omega
      go_upto_region 7 with (refine wpList_load_row rfl 28 _ rfl _ rfl 28 _ _ _ P3.out Tryz.underlying28 rfl hiM ?_)
      obtain ⟨W6, hW6⟩ : ∃ W6, W6 = w3.alloc (.cells (mgA m (.slice Av m.da.length cv)) 67) := ⟨_, rfl⟩
      have E6 : Ext w3 W6 := by rw [hW6]; exact (Ext.refl _).alloc _
      have P6 := Lib.hid (show Blk W6 w3.heap.size 67 (mgA m (.slice Av m.da.length cv)) by rw [hW6]; exact Blk.new w3 _ _)
      have hs3 : w.heap.size ≤ w3.heap.size := E03.size
      obtain ⟨n6, hn6⟩ : ∃ n6, w3.heap.size = n6 := ⟨_, rfl⟩
      rw [← hW6]
      rw [hn6] at P6 hs3 ⊢
      clear hW6 hn6
      have k0 := (mgC (P3.out.ext E6)).k0
      have E06 := E03.trans E6
      have HPT := Lib.hid (show ps = [] ∨ ∃ g, Ap = some ⟨g, 0, none⟩ ∧ w.heap.size ≤ g ∧ Blk W6 g 71 (ps.flatMap (fun q => (paA q).toList)).toArray from HPT.out.imp id (fun ⟨g, h1, h2, h3⟩ => ⟨g, h1, h2, h3.ext E6⟩))
      clear P3 E03 E6
      have HL := Lib.hid hs1
      have hlen : (flds m ps).length = ps.length + 1 := by simp [flds]
      obtain ⟨K, hK⟩ : ∃ K, ps.length = K := ⟨_, rfl⟩
      have HKL := Lib.hid hK
      have hK5 : K ≤ 5 := by have := (row_all HPS.out).1; omega
      have hlen := Lib.hid (show (flds m ps).length = K + 1 by rw [← hK]; exact hlen)
      rw [hK]
      have hs6 : n6 < W6.heap.size := P6.out.lt
      go_upto_region 8 with fail
      have HO0 := Lib.hid (show OwnS FdR 59 W6.heap.size (fun _ => True) (W6.alloc (.cells #[.int .i64 1, .int .u32 m.k, .slice none 0 0, .slice none 0 0] 59)) (.slice (some ⟨W6.heap.size, 0, none⟩) 1 1) ((flds m ps).take 1) from by
        refine OwnS.litB (A := fun k => k < W6.heap.size) (cs := [.int .i64 1, .int .u32 m.k, .slice none 0 0, .slice none 0 0]) ?_ (Blk.new _ _ _) (fun k _ hk => ⟨trivial, by omega⟩) (Nat.le_refl _) rfl (by omega)
        exact RdE.single (e := FdR) (d := ⟨1, m.k, []⟩) ⟨_, rfl, RdS.nil _ _ _⟩)
      have HE0 := Lib.hid ((Ext.refl W6).alloc (.cells #[.int .i64 1, .int .u32 m.k, .slice none 0 0, .slice none 0 0] 59))
      clear hK k0
      go_wp2
      go_loopw [7, 34] (fun u i wr => ∃ j : Nat, j ≤ K ∧ i = .int .i64 j ∧ Hid (OwnS FdR 59 W6.heap.size (fun _ => True) wr u ((flds m ps).take (j + 1))) ∧ Hid (Ext W6 wr)) (fun _ i _ => K - (intOf i).toNat)
      case atStart => exact ⟨0, Nat.zero_le _, rfl, HO0, HE0⟩
      case round =>
        clear HO0 HE0
        obtain ⟨j, hj, rfl, HO, hE⟩ := hrel
        by_cases hjk : j < K
        · obtain ⟨q, hq⟩ : ∃ q, ps[j]? = some q := ⟨_, List.getElem?_eq_getElem (by rw [HKL.out]; exact hjk)⟩
          obtain ⟨gp, rfl, hgp, hbp⟩ : ∃ g, Ap = some ⟨g, 0, none⟩ ∧ w.heap.size ≤ g ∧ Blk W6 g 71 (ps.flatMap (fun q => (paA q).toList)).toArray := by
            rcases HPT.out with h9 | h9
            · rw [h9] at hq; simp at hq
            · exact h9
          obtain ⟨c0, c1, c2⟩ := pa_at (hbp.ext hE.out) hq
          have HQ := Lib.hid hq
          have hgets := gets_all ((row_all HPS.out).2.1 q (List.mem_of_getElem? hq)) m (by have := HOK.out.nm; omega) (by have := HOK.out.la; omega)
          have hen := hgets.enters
          have HG := Lib.hid hgets.gets
          clear hbp hq hgets
          go_upto_region 11 with (refine wpList_store_M rfl 71 _ _ rfl wr.heap.size _ rfl rfl 71 _ (Blk.new _ _ _) hiP rfl (by simp [Value.oneCell']) ?_; intro w10 P10 M10)
          have E10 : Ext wr w10 := Mod.toExt ((Ext.refl wr).alloc _) M10 (fun k hk he => by omega)
          have kp0 := P10.cell 0
          have kp1 := P10.cell 1
          have hE10 := hE.out.trans E10
          have HP10 := Lib.hid P10
          clear M10 P10 c0 c1 c2
          go_wp2_with fail
          refine (HG.out n6 _ (fun k => k < w.heap.size) w10 (P6.out.ext hE10) (HD.out.ext (E06.trans hE10))).mono ?_
          rintro e w11 ⟨vt, rfl, T11, E11⟩
          obtain ⟨At, ct, rfl, -, -⟩ := T11.shape
          obtain ⟨Ao, co, rfl, -, -⟩ := HO.out.shape
          have hlm : ((flds m ps).take (j + 1)).length = j + 1 := by rw [List.length_take, hlen.out]; omega
          rw [hlm]
          have HO0 := HO.out
          rw [hlm] at HO0
          have HRow := Lib.hid HO0.row
          have hvf : (flds m ps)[j + 1]? = some (vOf q m) := by
            unfold flds
            rw [List.getElem?_cons_succ, List.getElem?_map, HQ.out]
            rfl
          have hvk : (vOf q m).k = q.k := vOf_k q m
          obtain ⟨f, hf⟩ : ∃ f, vOf q m = f := ⟨_, rfl⟩
          rw [hf] at hvf hvk T11 ⊢
          have hwr := E10.size
          have E1011 := E10.trans E11
          have hs11 := E1011.size
          have HO11 := Lib.hid (HO0.ext E1011)
          have P11 := Lib.hid (HP10.out.ext E11)
          have hE11 := Lib.hid (hE10.trans E11)
          have T11 := Lib.hid T11
          have HVF := Lib.hid hvf
          have HVK := Lib.hid hvk
          clear HO hE hE10 E10 E11 E1011 HP10 HO0 hen kp0 kp1 hf hvf hvk HG
          go_upto_region 12 with fail
          obtain ⟨W12, hW12⟩ : ∃ W12, W12 = w11.alloc (.cells #[.int .i64 0, .int .u32 f.n, .slice At f.t.length ct, .slice none 0 0] 59) := ⟨_, rfl⟩
          have E12 : Ext w11 W12 := by rw [hW12]; exact (Ext.refl _).alloc _
          have P12 := Lib.hid (show Blk W12 w11.heap.size 59 #[.int .i64 0, .int .u32 f.n, .slice At f.t.length ct, .slice none 0 0] by rw [hW12]; exact Blk.new w11 _ _)
          rw [← hW12]
          clear hW12
          obtain ⟨n12, hn12⟩ : ∃ n12, w11.heap.size = n12 := ⟨_, rfl⟩
          rw [hn12] at P12 hs11 ⊢
          have kf := P12.out.frozen 0
          have kp := P12.out.cell 0
          have kk := (P11.out.ext E12).cell 0
          have P13 := Lib.hid (show Blk (W12.setCell ⟨n12, 0, none⟩ (.int .i64 q.k)) n12 59 #[.int .i64 q.k, .int .u32 f.n, .slice At f.t.length ct, .slice none 0 0] by simpa using P12.out.set_ 0 (.int .i64 q.k))
          have M13 : Mod (fun k => k = n12) w11 (W12.setCell ⟨n12, 0, none⟩ (.int .i64 q.k)) := (Mod.of_ext E12).set1 _
          have hl13 : n12 < (W12.setCell ⟨n12, 0, none⟩ (.int .i64 q.k)).heap.size := P13.out.lt
          have HO13 := Lib.hid (show OwnS FdR 59 W6.heap.size (fun _ => True) (W12.setCell ⟨n12, 0, none⟩ (.int .i64 q.k)) (.slice Ao (j + 1) co) ((flds m ps).take (j + 1)) from by
            refine ((HO11.out.mono (B := fun k => k < w11.heap.size) (fun k hk _ => hk)).mod M13 (fun k hk he => by have := (HO11.out.row k hk).2; omega) (fun k hk hb he => by omega)).mono (fun _ _ _ => trivial))
          have hE13 := Lib.hid (Mod.toExt hE11.out M13 (fun k hk he => by have := hE11.out.size; omega))
          have T13 := Lib.hid (show RdS Ub8 (fun k => (k < w.heap.size ∨ wr.heap.size ≤ k) ∧ k < n12) _ _ _ from (T11.out.lt.mono (fun k _ hk => by rw [hn12] at hk; exact ⟨by omega, hk.2⟩)).mod M13 (fun k _ hk he => by omega))
          clear E12 P12 M13 HO11 hE11 T11 P11
          go_upto_region 13 with fail
          generalize W12.setCell ⟨n12, 0, none⟩ (.int .i64 q.k) = W13 at *
          have hrel := Lib.hid (show FdR.rel (fun k => (k < w.heap.size ∨ wr.heap.size ≤ k) ∧ k < n12) W13 [.int .i64 q.k, .int .u32 f.n, .slice At f.t.length ct, .slice none 0 0] f from ⟨_, by rw [HVK.out], T13.out⟩)
          have h6l := HL.out
          have hA13 : ∀ k, (k < w.heap.size ∨ wr.heap.size ≤ k) ∧ k < n12 → True ∧ (Value.slice Ao (j + 1) co).ownBlock ≠ some k := fun k hk => ⟨trivial, fun he => by have := HRow.out k he; omega⟩
          have hb13 : W6.heap.size ≤ W13.heap.size := hE13.out.size
          go_wp2_with (first
            | (refine wpList_load_row rfl 59 _ rfl _ rfl 59 _ _ _ P13.out Tryz.underlying59 rfl hi ?_)
            | (at_builtin; refine wpList_app (e := FdR) (base := W6.heap.size) (B := fun _ => True) (A := fun k => (k < w.heap.size ∨ wr.heap.size ≤ k) ∧ k < n12) rfl (.tmp 45) (.tmp 47) rfl Tryz.underlying60 info_fd rfl (HO13.out.alloc _) rfl (RdY.singleB (e := FdR) (cs := [.int .i64 q.k, .int .u32 f.n, .slice At f.t.length ct, .slice none 0 0]) (d := f) (Rep.ext hrel.out ((Ext.refl _).alloc _)) (Blk.new _ _ _)) rfl (fun k _ hk => hA13 k hk) (N := j + 1 + 1) (by simp [hlm]) (by unfold maxLen; omega) (by omega) (by simp; omega) ?_; intro A14 c14 w14 o14 M14 L14))
          have M15 : Mod (fun k => (Value.slice Ao (j + 1) co).ownBlock = some k) W13 w14 := (Mod.of_ext ((Ext.refl W13).alloc _)).trans M14
          refine ⟨⟨j + 1, by omega, by go_num, Lib.hid ?_, Lib.hid ?_⟩, by simp [intOf]; omega⟩
          · rw [List.take_add_one, HVF.out]
            exact o14
          · exact Mod.toExt hE13.out M15 (fun k hk he => by have := (HRow.out _ he).1; omega)
        · obtain rfl : j = K := by omega
          have hta : (flds m ps).take (j + 1) = flds m ps := List.take_of_length_le (by rw [hlen.out]; exact Nat.le_refl _)
          rw [hta] at HO
          have hrow := row_all HPS.out
          have HRY := Lib.hid (HO.out.rdT.y)
          have HEE := Lib.hid (E06.trans hE.out)
          obtain ⟨Ao, co, rfl, -, -⟩ := HO.out.shape
          have hok : ∀ f ∈ flds m ps, FdOk f := by
            intro f hf
            unfold flds at hf
            rcases List.mem_cons.1 hf with rfl | hf
            · have h9 := row_kind HPS.out
              unfold KindOk at h9
              exact ⟨.inl rfl, by dsimp only; omega⟩
            · obtain ⟨q, hq, rfl⟩ := List.mem_map.1 hf
              exact vOf_ok HOK.out (hrow.2.1 q hq)
          have HW := Lib.hid (owrite_any _ _ _ HRY.out (by rw [hlen.out]; omega) (by rw [flds_k]; exact hrow.2.2) hok)
          rw [hlen.out] at HW ⊢
          have hes := HEE.out.size
          clear hta hrow HRY hok HO hE
          go_wp2_with fail
          refine (HW.out).mono ?_
          rintro e w9 ⟨u, qw, rfl, E9, hq0, hq1, hq2⟩
          have E09 := HEE.out.trans E9
          have HQ0 := Lib.hid hq0
          have HQ1 := Lib.hid hq1
          have HQ2 := Lib.hid hq2
          clear hq0 hq1 hq2
          go_wp2
          go_ret2
          exact ⟨u, qw, rfl, E09, fun h0 => ⟨ps, HPS.out, HFP.out, (HQ0.out h0).1, (HQ0.out h0).2.1, (HQ0.out h0).2.2.lower hes⟩, HQ1.out, fun ps9 h9 _ ha hl => by obtain rfl : ps = ps9 := Option.some.inj (HPS.out.symm.trans h9); exact HQ2.out ha hl⟩
end Go.Proofs.YtldijmappinngaaGreatDoor
