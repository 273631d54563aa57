/- The set of a list by the document, masks; what is done with a signal, and what becomes of a process; by contract. Conditions: the set has 64 bits, the actions are as many as there are. -/
import Derived.Test.YteandiddfokfjaaI18
namespace Go.Proofs.Yteandiddfokfjaa
open Go.RowKit Go.Kb Go.Kb.Bits

set_option maxHeartbeats 800000 in
theorem rof_any (v : Value) (l : List Int) (w : World) (hl : RI .i64 w v l) : Calls Try.prog 19 #[v] w fun e w' => e = .returned (.int .u64 (ofL l)) ∧ Ext w w' := by
  obtain ⟨Ad, c, rfl, hc1, hc2⟩ := hl.shape
  have HL := Lib.hid hl
  have ho : ofL l = l.foldl addL 0 := rfl
  have HOF := Lib.hid ho
  clear hl ho
  have hlen : l.length ≤ 9223372036854775807 := by omega
  go_enter Try.func19, Try.ntmps19
  go_wp2
  go_loopw [3, 8] (fun a i wr => ∃ k : Nat, k ≤ l.length ∧ a = .int .u64 ((l.take k).foldl addL 0) ∧ i = .int .i64 k ∧ Ext w wr) (fun _ i _ => l.length - (intOf i).toNat)
  case atStart => exact ⟨0, by omega, by simp, rfl, (by repeat (first | with_reducible exact Ext.refl _ | refine Ext.drewN ?_ _ | refine Ext.drew ?_ | refine Ext.alloc ?_ _ | assumption | (refine Below.trans ?_ (by assumption)) | (refine Ext.trans ?_ (by assumption)) | (refine Below.trans ?_ (Below.mono (by assumption) (by omega)))))⟩
  case round =>
    obtain ⟨k, hk, rfl, rfl, hE⟩ := hrel
    by_cases hlt : k < l.length
    · have Ha := RdN.ext HL.out hE
      obtain ⟨b, off, x, rfl, hc1, hx⟩ := RdN.icell Ha hlt
      have k1 : (k : Int) < (l.length : Int) := by omega
      have k2 : (0 : Int) ≤ (k : Int) := by omega
      have k3 : IntKind.i64.wrap ((k : Int) + 1) = (k : Int) + 1 := IntWalk.i64_in _ (by omega)
      have hbd := fold_add_bd (l.take k) (s := 0) ⟨by decide, by decide⟩
      have hst := fold_take (f := addL) (s := 0) hx.out
      have HST := Lib.hid hst
      have HC := Lib.hid fun w' => radd_any ((l.take k).foldl addL 0) x w' hbd
      clear hbd hst Ha
      generalize (l.take k).foldl addL 0 = z at *
      go_wp2_with ((go_at_call 12; (with_reducible refine (HC.out _).mono ?_); rintro e w1 ⟨rfl, E1⟩))
      go_roundw
      case rel => exact ⟨k + 1, by omega, by rw [HST.out], by first | rfl | go_num | simp, (by repeat (first | with_reducible exact Ext.refl _ | refine Ext.drewN ?_ _ | refine Ext.drew ?_ | refine Ext.alloc ?_ _ | assumption | (refine Below.trans ?_ (by assumption)) | (refine Ext.trans ?_ (by assumption)) | (refine Below.trans ?_ (Below.mono (by assumption) (by omega)))))⟩
      case measure => simp [intOf]; omega
    · obtain rfl : k = l.length := by omega
      have ht : l.take l.length = l := List.take_length
      rw [ht]
      go_wp2
      go_ret
      exact ⟨by rw [HOF.out]; rfl, hE⟩
def blockL (s : Int) : Int := delL (delL (ofL (listL s)) 9) 19
theorem blockL_bd (s : Int) : U64 (blockL s) := delL_bd (delL_bd (ofL_bd _) _) _
set_option maxHeartbeats 800000 in
theorem block_any (s : Int) (w : World) (h : U64 s) : Calls Try.prog 20 #[.int .u64 s] w fun e w' => e = .returned (.int .u64 (blockL s)) ∧ Ext w w' := by
  have HL := Lib.hid fun w' => list_any s w' h
  have HO := Lib.hid fun v w' hv => of_set_any v (listL s) w' hv
  have HD := Lib.hid fun v w' hv => all_del (ofL (listL s)) v [9, 19] w' (ofL_bd _) hv
  have hb : blockL s = [9, 19].foldl delL (ofL (listL s)) := rfl
  rw [← hb] at HD
  generalize blockL s = r at *
  generalize ofL (listL s) = o at *
  generalize listL s = l at *
  clear h hb
  go_enter Try.func20, Try.ntmps20
  go_wp2_with fail
  (with_reducible refine (HL.out _).mono ?_); rintro e w1 ⟨A1, c1, rfl, r1, E1⟩
  have R1 := Lib.hid r1
  clear r1
  go_wp2_with fail
  (with_reducible refine (HO.out _ _ R1.out).mono ?_); rintro e w2 ⟨rfl, E2⟩
  go_wp2_with fail
  refine (HD.out _ _ (RI.lit (w := w2) .i64 [9, 19] _ rfl (by simp))).mono ?_; rintro e w3 ⟨rfl, E3⟩
  go_wp2
  go_ret
  exact ⟨rfl, (by repeat (first | with_reducible exact Ext.refl _ | refine Ext.drewN ?_ _ | refine Ext.drew ?_ | refine Ext.alloc ?_ _ | assumption | (refine Below.trans ?_ (by assumption)) | (refine Ext.trans ?_ (by assumption)) | (refine Below.trans ?_ (Below.mono (by assumption) (by omega)))))⟩
set_option maxHeartbeats 800000 in
theorem rblock_any (s : Int) (w : World) (h : U64 s) : Calls Try.prog 21 #[.int .u64 s] w fun e w' => e = .returned (.int .u64 (blockL s)) ∧ Ext w w' := by
  have HL := Lib.hid fun w' => rlist_any s w' h
  have HO := Lib.hid fun v w' hv => rof_any v (listL s) w' hv
  have HD1 := Lib.hid fun w' => rdel_any (ofL (listL s)) 9 w' (ofL_bd _)
  have HD2 := Lib.hid fun w' => rdel_any (delL (ofL (listL s)) 9) 19 w' (delL_bd (ofL_bd _) _)
  have hb : blockL s = delL (delL (ofL (listL s)) 9) 19 := rfl
  rw [← hb] at HD2
  generalize blockL s = r at *
  generalize delL (ofL (listL s)) 9 = q at *
  generalize ofL (listL s) = o at *
  generalize listL s = l at *
  clear h hb
  go_enter Try.func21, Try.ntmps21
  go_wp2_with fail
  (with_reducible refine (HL.out _).mono ?_); rintro e w1 ⟨A1, c1, rfl, r1, E1⟩
  have R1 := Lib.hid r1
  clear r1
  go_wp2_with fail
  (with_reducible refine (HO.out _ _ R1.out).mono ?_); rintro e w2 ⟨rfl, E2⟩
  go_wp2_with fail
  (with_reducible refine (HD1.out _).mono ?_); rintro e w3 ⟨rfl, E3⟩
  go_wp2_with fail
  (with_reducible refine (HD2.out _).mono ?_); rintro e w4 ⟨rfl, E4⟩
  go_wp2
  go_ret
  exact ⟨rfl, (by repeat (first | with_reducible exact Ext.refl _ | refine Ext.drewN ?_ _ | refine Ext.drew ?_ | refine Ext.alloc ?_ _ | assumption | (refine Below.trans ?_ (by assumption)) | (refine Ext.trans ?_ (by assumption)) | (refine Below.trans ?_ (Below.mono (by assumption) (by omega)))))⟩
def arrV (a : List Int) : Array Value := (a.map (Value.int .i64)).toArray
def zero32 : List Int := List.replicate 32 0
theorem zero32_arr : arrV zero32 = #[.int .i64 0, .int .i64 0, .int .i64 0, .int .i64 0, .int .i64 0, .int .i64 0, .int .i64 0, .int .i64 0, .int .i64 0, .int .i64 0, .int .i64 0, .int .i64 0, .int .i64 0, .int .i64 0, .int .i64 0, .int .i64 0, .int .i64 0, .int .i64 0, .int .i64 0, .int .i64 0, .int .i64 0, .int .i64 0, .int .i64 0, .int .i64 0, .int .i64 0, .int .i64 0, .int .i64 0, .int .i64 0, .int .i64 0, .int .i64 0, .int .i64 0, .int .i64 0] := rfl
def badAct (sig how : Int) : Bool := !isL sig || (sig == 9 || sig == 19) || decide (how < 0) || decide (2 < how)
def actL (a : List Int) (sig how : Int) : List Int × Int := if badAct sig how then (zero32, 2) else (a.set sig.toNat how, 0)
theorem arrV_size {a : List Int} (h : a.length = 32) : (arrV a).size = 32 := by simp [arrV, h]
theorem arrV_one (a : List Int) : (arrV a).all (·.oneCell') = true := by
  simp only [arrV, List.all_toArray, List.all_map, List.all_eq_true]
  intro x _
  rfl
theorem arrV_set (a : List Int) (k : Nat) (x : Int) : (arrV a).setIfInBounds k (.int .i64 x) = arrV (a.set k x) := by
  apply Array.ext'
  simp [arrV, List.map_set]
theorem arrV_at {a : List Int} {k : Nat} (h : k < a.length) : (arrV a)[k]? = some (.int .i64 (a.getD k 0)) := by
  simp [arrV, h]
theorem arr_info : (Try.prog.info? 39).map (·.size) = some 32 := by kernel_rfl
theorem arr_info2 : (Try.prog.info? 38).map (·.size) = some 32 := by kernel_rfl
set_option maxRecDepth 100000 in
set_option maxHeartbeats 800000 in
theorem act_any (a : List Int) (sig how : Int) (w : World) (ha : a.length = 32) : Calls Try.prog 22 #[.agg (arrV a), .int .i64 sig, .int .i64 how] w fun e w' => e = .returned (.tuple #[.agg (arrV (actL a sig how).1), .int .i64 (actL a sig how).2]) ∧ Ext w w' := by
  have hz := arrV_size ha
  have h1 := Lib.hid (arrV_one a)
  have HI := Lib.hid fun w' => is_any sig w'
  have HS := Lib.hid fun w' => sure_any sig w'
  have hact : actL a sig how = if badAct sig how then (zero32, 2) else (a.set sig.toNat how, 0) := rfl
  have hbad : badAct sig how = (!isL sig || (sig == 9 || sig == 19) || decide (how < 0) || decide (2 < how)) := rfl
  have hset := arrV_set a sig.toNat how
  have h1s := Lib.hid (arrV_one (a.set sig.toNat how))
  have hzs := arrV_size (a := a.set sig.toNat how) (by rw [List.length_set]; exact ha)
  have hbz : Try.prog.built 39 [] = some (arrV zero32) := by kernel_rfl
  have h1z := Lib.hid (arrV_one zero32)
  have hzz := arrV_size (a := zero32) rfl
  generalize actL a sig how = al at *
  generalize badAct sig how = bad at *
  generalize (sig == 9 || sig == 19) = su at *
  have hbd : isL sig = true → 1 ≤ sig ∧ sig ≤ 28 := isL_bd
  generalize isL sig = il at *
  generalize hcz : arrV zero32 = cz at *
  generalize hcs2 : arrV (a.set sig.toNat how) = cs2 at *
  generalize arrV a = cs at *
  have HCZ := Lib.hid hcz
  have HC2 := Lib.hid hcs2
  have HST := Lib.hid hset
  have hi : (Try.prog.info? 39).map (·.size) = some cs.size := by rw [hz]; exact arr_info
  have hiz : (Try.prog.info? 39).map (·.size) = some cz.size := by rw [hzz]; exact arr_info
  have hi2 : (Try.prog.info? 39).map (·.size) = some cs2.size := by rw [hzs]; exact arr_info
  have hT := Lib.hid ((Blk.new w 39 cs).alloc (.cells #[.int .i64 0, .int .i64 0, .int .i64 0, .int .i64 0, .int .i64 0, .int .i64 0, .int .i64 0, .int .i64 0, .int .i64 0, .int .i64 0, .int .i64 0, .int .i64 0, .int .i64 0, .int .i64 0, .int .i64 0, .int .i64 0, .int .i64 0, .int .i64 0, .int .i64 0, .int .i64 0, .int .i64 0, .int .i64 0, .int .i64 0, .int .i64 0, .int .i64 0, .int .i64 0, .int .i64 0, .int .i64 0, .int .i64 0, .int .i64 0, .int .i64 0, .int .i64 0] 39))
  have hR := Lib.hid (show Blk ((w.alloc (.cells cs 39)).alloc (.cells #[.int .i64 0, .int .i64 0, .int .i64 0, .int .i64 0, .int .i64 0, .int .i64 0, .int .i64 0, .int .i64 0, .int .i64 0, .int .i64 0, .int .i64 0, .int .i64 0, .int .i64 0, .int .i64 0, .int .i64 0, .int .i64 0, .int .i64 0, .int .i64 0, .int .i64 0, .int .i64 0, .int .i64 0, .int .i64 0, .int .i64 0, .int .i64 0, .int .i64 0, .int .i64 0, .int .i64 0, .int .i64 0, .int .i64 0, .int .i64 0, .int .i64 0, .int .i64 0] 39)) (w.heap.size + 1) 39 #[.int .i64 0, .int .i64 0, .int .i64 0, .int .i64 0, .int .i64 0, .int .i64 0, .int .i64 0, .int .i64 0, .int .i64 0, .int .i64 0, .int .i64 0, .int .i64 0, .int .i64 0, .int .i64 0, .int .i64 0, .int .i64 0, .int .i64 0, .int .i64 0, .int .i64 0, .int .i64 0, .int .i64 0, .int .i64 0, .int .i64 0, .int .i64 0, .int .i64 0, .int .i64 0, .int .i64 0, .int .i64 0, .int .i64 0, .int .i64 0, .int .i64 0, .int .i64 0] from Blk.at_ _ _ (by simp))
  have hz32 : (#[.int .i64 0, .int .i64 0, .int .i64 0, .int .i64 0, .int .i64 0, .int .i64 0, .int .i64 0, .int .i64 0, .int .i64 0, .int .i64 0, .int .i64 0, .int .i64 0, .int .i64 0, .int .i64 0, .int .i64 0, .int .i64 0, .int .i64 0, .int .i64 0, .int .i64 0, .int .i64 0, .int .i64 0, .int .i64 0, .int .i64 0, .int .i64 0, .int .i64 0, .int .i64 0, .int .i64 0, .int .i64 0, .int .i64 0, .int .i64 0, .int .i64 0, .int .i64 0] : Array Value).size = cz.size := by rw [hzz]; rfl
  have hz322 : (#[.int .i64 0, .int .i64 0, .int .i64 0, .int .i64 0, .int .i64 0, .int .i64 0, .int .i64 0, .int .i64 0, .int .i64 0, .int .i64 0, .int .i64 0, .int .i64 0, .int .i64 0, .int .i64 0, .int .i64 0, .int .i64 0, .int .i64 0, .int .i64 0, .int .i64 0, .int .i64 0, .int .i64 0, .int .i64 0, .int .i64 0, .int .i64 0, .int .i64 0, .int .i64 0, .int .i64 0, .int .i64 0, .int .i64 0, .int .i64 0, .int .i64 0, .int .i64 0] : Array Value).size = cs2.size := by rw [hzs]; rfl
  have HZ := Lib.hid hz32
  have HZ2 := Lib.hid hz322
  clear hcz hcs2 hz32 hz322 hset ha
  cases il
  · have hb : bad = true := by rw [hbad]; rfl
    rw [hb, if_pos rfl] at hact
    have HAL := Lib.hid hact
    clear hact hbad hb hbd
    go_enter Try.func22, Try.ntmps22
    go_wp2_with (first
      | ((go_at_call 39; (with_reducible refine (HI.out _).mono ?_); rintro e w1 ⟨rfl, E1⟩); have hT := Lib.hid (Blk.ext hT.out E1); have hR := Lib.hid (Blk.ext hR.out E1); have Ew : Ext w w1 := (by repeat (first | with_reducible exact Ext.refl _ | refine Ext.drewN ?_ _ | refine Ext.drew ?_ | refine Ext.alloc ?_ _ | assumption | (refine Below.trans ?_ (by assumption)) | (refine Ext.trans ?_ (by assumption)) | (refine Below.trans ?_ (Below.mono (by assumption) (by omega))))); have wz : ∃ wz, wz = w1 := ⟨_, rfl⟩)
      | ((go_at_call 40; (with_reducible refine (HS.out _).mono ?_); rintro e w2 ⟨rfl, E2⟩); have hT := Lib.hid (Blk.ext hT.out E2); have hR := Lib.hid (Blk.ext hR.out E2); have Ew : Ext w w2 := (by repeat (first | with_reducible exact Ext.refl _ | refine Ext.drewN ?_ _ | refine Ext.drew ?_ | refine Ext.alloc ?_ _ | assumption | (refine Below.trans ?_ (by assumption)) | (refine Ext.trans ?_ (by assumption)) | (refine Below.trans ?_ (Below.mono (by assumption) (by omega))))))
      | (refine wpList_build_eq rfl 39 _ rfl (L := cz) (by simp [go_sem]; exact hbz) ?_)
      | (refine wpList_store_A rfl 39 _ _ rfl (w.heap.size + 1) _ rfl rfl 39 _ hR.out hiz HZ.out h1z.out ?_; intro w4 H4 E4; have E4 : Ext w w4 := E4 w.heap.size w Ew (by omega)))
    refine bodyPost_ret_by (Go.Kb.results_cell_tmp Try.results22 _ _ (w.heap.size + 1) 39 _ _ _ rfl _ rfl H4 Try.underlying39 rfl hiz) rfl ?_
    exact ⟨by rw [HAL.out, HCZ.out]; rfl, E4⟩
  · obtain ⟨hs1, hs2⟩ := hbd rfl
    cases su
    · by_cases h0 : how < 0
      · have hb : bad = true := by rw [hbad]; simp [h0]
        rw [hb, if_pos rfl] at hact
        have HAL := Lib.hid hact
        clear hact hbad hb hbd
        go_enter Try.func22, Try.ntmps22
        go_wp2_with (first
          | ((go_at_call 39; (with_reducible refine (HI.out _).mono ?_); rintro e w1 ⟨rfl, E1⟩); have hT := Lib.hid (Blk.ext hT.out E1); have hR := Lib.hid (Blk.ext hR.out E1); have Ew : Ext w w1 := (by repeat (first | with_reducible exact Ext.refl _ | refine Ext.drewN ?_ _ | refine Ext.drew ?_ | refine Ext.alloc ?_ _ | assumption | (refine Below.trans ?_ (by assumption)) | (refine Ext.trans ?_ (by assumption)) | (refine Below.trans ?_ (Below.mono (by assumption) (by omega))))); have wz : ∃ wz, wz = w1 := ⟨_, rfl⟩)
          | ((go_at_call 40; (with_reducible refine (HS.out _).mono ?_); rintro e w2 ⟨rfl, E2⟩); have hT := Lib.hid (Blk.ext hT.out E2); have hR := Lib.hid (Blk.ext hR.out E2); have Ew : Ext w w2 := (by repeat (first | with_reducible exact Ext.refl _ | refine Ext.drewN ?_ _ | refine Ext.drew ?_ | refine Ext.alloc ?_ _ | assumption | (refine Below.trans ?_ (by assumption)) | (refine Ext.trans ?_ (by assumption)) | (refine Below.trans ?_ (Below.mono (by assumption) (by omega))))))
          | (refine wpList_build_eq rfl 39 _ rfl (L := cz) (by simp [go_sem]; exact hbz) ?_)
          | (refine wpList_store_A rfl 39 _ _ rfl (w.heap.size + 1) _ rfl rfl 39 _ hR.out hiz HZ.out h1z.out ?_; intro w4 H4 E4; have E4 : Ext w w4 := E4 w.heap.size w Ew (by omega)))
        refine bodyPost_ret_by (Go.Kb.results_cell_tmp Try.results22 _ _ (w.heap.size + 1) 39 _ _ _ rfl _ rfl H4 Try.underlying39 rfl hiz) rfl ?_
        exact ⟨by rw [HAL.out, HCZ.out]; rfl, E4⟩
      · by_cases h2 : 2 < how
        · have hb : bad = true := by rw [hbad]; simp [h2]
          rw [hb, if_pos rfl] at hact
          have HAL := Lib.hid hact
          clear hact hbad hb hbd
          go_enter Try.func22, Try.ntmps22
          go_wp2_with (first
            | ((go_at_call 39; (with_reducible refine (HI.out _).mono ?_); rintro e w1 ⟨rfl, E1⟩); have hT := Lib.hid (Blk.ext hT.out E1); have hR := Lib.hid (Blk.ext hR.out E1); have Ew : Ext w w1 := (by repeat (first | with_reducible exact Ext.refl _ | refine Ext.drewN ?_ _ | refine Ext.drew ?_ | refine Ext.alloc ?_ _ | assumption | (refine Below.trans ?_ (by assumption)) | (refine Ext.trans ?_ (by assumption)) | (refine Below.trans ?_ (Below.mono (by assumption) (by omega))))); have wz : ∃ wz, wz = w1 := ⟨_, rfl⟩)
            | ((go_at_call 40; (with_reducible refine (HS.out _).mono ?_); rintro e w2 ⟨rfl, E2⟩); have hT := Lib.hid (Blk.ext hT.out E2); have hR := Lib.hid (Blk.ext hR.out E2); have Ew : Ext w w2 := (by repeat (first | with_reducible exact Ext.refl _ | refine Ext.drewN ?_ _ | refine Ext.drew ?_ | refine Ext.alloc ?_ _ | assumption | (refine Below.trans ?_ (by assumption)) | (refine Ext.trans ?_ (by assumption)) | (refine Below.trans ?_ (Below.mono (by assumption) (by omega))))))
            | (refine wpList_build_eq rfl 39 _ rfl (L := cz) (by simp [go_sem]; exact hbz) ?_)
            | (refine wpList_store_A rfl 39 _ _ rfl (w.heap.size + 1) _ rfl rfl 39 _ hR.out hiz HZ.out h1z.out ?_; intro w4 H4 E4; have E4 : Ext w w4 := E4 w.heap.size w Ew (by omega)))
          refine bodyPost_ret_by (Go.Kb.results_cell_tmp Try.results22 _ _ (w.heap.size + 1) 39 _ _ _ rfl _ rfl H4 Try.underlying39 rfl hiz) rfl ?_
          exact ⟨by rw [HAL.out, HCZ.out]; rfl, E4⟩
        · have hb : bad = false := by rw [hbad]; simp [h0]; omega
          rw [hb, if_neg (by decide)] at hact
          obtain ⟨k, rfl⟩ := Int.eq_ofNat_of_zero_le (show 0 ≤ sig by omega)
          simp only [Int.toNat_natCast] at HST HC2 hact
          have hks : k < cs.size := by omega
          have k1 : (k : Int) < 32 := by omega
          have k2 : (0 : Int) ≤ (k : Int) := by omega
          have HAL := Lib.hid hact
          clear hact hbad hb hbd
          go_enter Try.func22, Try.ntmps22
          go_wp2_with fail
          (with_reducible refine (HI.out _).mono ?_); rintro e w1 ⟨rfl, E1⟩
          go_wp2_with fail
          (with_reducible refine (HS.out _).mono ?_); rintro e w2 ⟨rfl, E2⟩
          have hT := Lib.hid (Blk.ext hT.out (show Ext _ w2 from Ext.trans E1 E2))
          have hR := Lib.hid (Blk.ext hR.out (show Ext _ w2 from Ext.trans E1 E2))
          have Ew2 : Ext w w2 := (by repeat (first | with_reducible exact Ext.refl _ | refine Ext.drewN ?_ _ | refine Ext.drew ?_ | refine Ext.alloc ?_ _ | assumption | (refine Below.trans ?_ (by assumption)) | (refine Ext.trans ?_ (by assumption)) | (refine Below.trans ?_ (Below.mono (by assumption) (by omega)))))
          clear E1 E2
          go_wp2_with (first
            | (refine wpList_store_B rfl 3 _ _ rfl w.heap.size k rfl _ rfl rfl rfl 39 _ hT.out hks (by kernel_rfl) ?_; intro w3 H3 F3 E3; have H3 := Lib.hid (show Blk w3 w.heap.size 39 cs2 from by have h := H3; rw [← HST.out]; exact h); have hR3 := Lib.hid (F3 _ _ _ (by omega) hR.out); have E3 : Ext w w3 := E3 w.heap.size w Ew2 (Nat.le_refl _); clear F3)
            | (refine wpList_load_row rfl 39 _ rfl _ rfl 39 _ _ _ H3.out Try.underlying39 rfl hi2 ?_)
            | (refine wpList_store_A rfl 39 _ _ rfl (w.heap.size + 1) _ rfl rfl 39 _ hR3.out hi2 HZ2.out h1s.out ?_; intro w4 H4 E4; have E4 : Ext w w4 := E4 w.heap.size w E3 (by omega)))
          refine bodyPost_ret_by (Go.Kb.results_cell_tmp Try.results22 _ _ (w.heap.size + 1) 39 _ _ _ rfl _ rfl H4 Try.underlying39 rfl hi2) rfl ?_
          exact ⟨by rw [HAL.out, HC2.out]; rfl, E4⟩
    · have hb : bad = true := by rw [hbad]; simp
      rw [hb, if_pos rfl] at hact
      have HAL := Lib.hid hact
      clear hact hbad hb hbd
      go_enter Try.func22, Try.ntmps22
      go_wp2_with (first
        | ((go_at_call 39; (with_reducible refine (HI.out _).mono ?_); rintro e w1 ⟨rfl, E1⟩); have hT := Lib.hid (Blk.ext hT.out E1); have hR := Lib.hid (Blk.ext hR.out E1); have Ew : Ext w w1 := (by repeat (first | with_reducible exact Ext.refl _ | refine Ext.drewN ?_ _ | refine Ext.drew ?_ | refine Ext.alloc ?_ _ | assumption | (refine Below.trans ?_ (by assumption)) | (refine Ext.trans ?_ (by assumption)) | (refine Below.trans ?_ (Below.mono (by assumption) (by omega))))); have wz : ∃ wz, wz = w1 := ⟨_, rfl⟩)
        | ((go_at_call 40; (with_reducible refine (HS.out _).mono ?_); rintro e w2 ⟨rfl, E2⟩); have hT := Lib.hid (Blk.ext hT.out E2); have hR := Lib.hid (Blk.ext hR.out E2); have Ew : Ext w w2 := (by repeat (first | with_reducible exact Ext.refl _ | refine Ext.drewN ?_ _ | refine Ext.drew ?_ | refine Ext.alloc ?_ _ | assumption | (refine Below.trans ?_ (by assumption)) | (refine Ext.trans ?_ (by assumption)) | (refine Below.trans ?_ (Below.mono (by assumption) (by omega))))))
        | (refine wpList_build_eq rfl 39 _ rfl (L := cz) (by simp [go_sem]; exact hbz) ?_)
        | (refine wpList_store_A rfl 39 _ _ rfl (w.heap.size + 1) _ rfl rfl 39 _ hR.out hiz HZ.out h1z.out ?_; intro w4 H4 E4; have E4 : Ext w w4 := E4 w.heap.size w Ew (by omega)))
      refine bodyPost_ret_by (Go.Kb.results_cell_tmp Try.results22 _ _ (w.heap.size + 1) 39 _ _ _ rfl _ rfl H4 Try.underlying39 rfl hiz) rfl ?_
      exact ⟨by rw [HAL.out, HCZ.out]; rfl, E4⟩
end Go.Proofs.Yteandiddfokfjaa
