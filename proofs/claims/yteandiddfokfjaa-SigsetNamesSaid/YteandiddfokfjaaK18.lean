/- What is done with a signal by the document; what becomes of a process; by contract. Conditions: the actions are as many as there are. -/
import Derived.Test.YteandiddfokfjaaJ18
namespace Go.Proofs.Yteandiddfokfjaa
open Go.RowKit Go.Kb Go.Kb.Bits

set_option maxRecDepth 100000 in
set_option maxHeartbeats 800000 in
theorem ract_any (a : List Int) (sig how : Int) (w : World) (ha : a.length = 32) : Calls Try.prog 23 #[.agg (arrV a), .int .i64 sig, .int .i64 how] w fun e w' => e = .returned (.tuple #[.agg (arrV (actL a sig how).1), .int .i64 (actL a sig how).2]) ∧ Ext w w' := by
  have hz := arrV_size ha
  have h1 := Lib.hid (arrV_one a)
  have hO := fun w' => of_any sig w'
  generalize rowL sig = rr at *
  obtain ⟨n, nm, d, wi⟩ := rr
  simp only [rowV] at hO
  have hact : actL a sig how = if badAct sig how then (zero32, 2) else (a.set sig.toNat how, 0) := rfl
  have hbad : badAct sig how = (!isL sig || (sig == 9 || sig == 19) || decide (how < 0) || decide (2 < how)) := rfl
  have hset := arrV_set a sig.toNat how
  have h1s := Lib.hid (arrV_one (a.set sig.toNat how))
  have hzs := arrV_size (a := a.set sig.toNat how) (by rw [List.length_set]; exact ha)
  have hbz : Try.prog.built 38 [] = some (arrV zero32) := by kernel_rfl
  have h1z := Lib.hid (arrV_one zero32)
  have hzz := arrV_size (a := zero32) rfl
  generalize actL a sig how = al at *
  generalize badAct sig how = bad at *
  have hbd : isL sig = true → 1 ≤ sig ∧ sig ≤ 28 := isL_bd
  generalize isL sig = il at *
  generalize hcz : arrV zero32 = cz at *
  generalize hcs2 : arrV (a.set sig.toNat how) = cs2 at *
  generalize arrV a = cs at *
  have HCZ := Lib.hid hcz
  have HC2 := Lib.hid hcs2
  have HST := Lib.hid hset
  have HO := Lib.hid hO
  have hi : (Try.prog.info? 38).map (·.size) = some cs.size := by rw [hz]; exact arr_info2
  have hiz : (Try.prog.info? 38).map (·.size) = some cz.size := by rw [hzz]; exact arr_info2
  have hi2 : (Try.prog.info? 38).map (·.size) = some cs2.size := by rw [hzs]; exact arr_info2
  have hT := Lib.hid ((Blk.new w 38 cs).alloc (.cells #[.int .i64 0, .int .i64 0, .int .i64 0, .int .i64 0, .int .i64 0, .int .i64 0, .int .i64 0, .int .i64 0, .int .i64 0, .int .i64 0, .int .i64 0, .int .i64 0, .int .i64 0, .int .i64 0, .int .i64 0, .int .i64 0, .int .i64 0, .int .i64 0, .int .i64 0, .int .i64 0, .int .i64 0, .int .i64 0, .int .i64 0, .int .i64 0, .int .i64 0, .int .i64 0, .int .i64 0, .int .i64 0, .int .i64 0, .int .i64 0, .int .i64 0, .int .i64 0] 38))
  have hR := Lib.hid (show Blk ((w.alloc (.cells cs 38)).alloc (.cells #[.int .i64 0, .int .i64 0, .int .i64 0, .int .i64 0, .int .i64 0, .int .i64 0, .int .i64 0, .int .i64 0, .int .i64 0, .int .i64 0, .int .i64 0, .int .i64 0, .int .i64 0, .int .i64 0, .int .i64 0, .int .i64 0, .int .i64 0, .int .i64 0, .int .i64 0, .int .i64 0, .int .i64 0, .int .i64 0, .int .i64 0, .int .i64 0, .int .i64 0, .int .i64 0, .int .i64 0, .int .i64 0, .int .i64 0, .int .i64 0, .int .i64 0, .int .i64 0] 38)) (w.heap.size + 1) 38 #[.int .i64 0, .int .i64 0, .int .i64 0, .int .i64 0, .int .i64 0, .int .i64 0, .int .i64 0, .int .i64 0, .int .i64 0, .int .i64 0, .int .i64 0, .int .i64 0, .int .i64 0, .int .i64 0, .int .i64 0, .int .i64 0, .int .i64 0, .int .i64 0, .int .i64 0, .int .i64 0, .int .i64 0, .int .i64 0, .int .i64 0, .int .i64 0, .int .i64 0, .int .i64 0, .int .i64 0, .int .i64 0, .int .i64 0, .int .i64 0, .int .i64 0, .int .i64 0] from Blk.at_ _ _ (by simp))
  have hz32 : (#[.int .i64 0, .int .i64 0, .int .i64 0, .int .i64 0, .int .i64 0, .int .i64 0, .int .i64 0, .int .i64 0, .int .i64 0, .int .i64 0, .int .i64 0, .int .i64 0, .int .i64 0, .int .i64 0, .int .i64 0, .int .i64 0, .int .i64 0, .int .i64 0, .int .i64 0, .int .i64 0, .int .i64 0, .int .i64 0, .int .i64 0, .int .i64 0, .int .i64 0, .int .i64 0, .int .i64 0, .int .i64 0, .int .i64 0, .int .i64 0, .int .i64 0, .int .i64 0] : Array Value).size = cz.size := by rw [hzz]; rfl
  have hz322 : (#[.int .i64 0, .int .i64 0, .int .i64 0, .int .i64 0, .int .i64 0, .int .i64 0, .int .i64 0, .int .i64 0, .int .i64 0, .int .i64 0, .int .i64 0, .int .i64 0, .int .i64 0, .int .i64 0, .int .i64 0, .int .i64 0, .int .i64 0, .int .i64 0, .int .i64 0, .int .i64 0, .int .i64 0, .int .i64 0, .int .i64 0, .int .i64 0, .int .i64 0, .int .i64 0, .int .i64 0, .int .i64 0, .int .i64 0, .int .i64 0, .int .i64 0, .int .i64 0] : Array Value).size = cs2.size := by rw [hzs]; rfl
  have HZ := Lib.hid hz32
  have HZ2 := Lib.hid hz322
  clear hcz hcs2 hz32 hz322 hset ha hO
  cases il
  · have hb : bad = true := by rw [hbad]; rfl
    rw [hb, if_pos rfl] at hact
    have HAL := Lib.hid hact
    clear hact hbad hb hbd
    go_enter Try.func23, Try.ntmps23
    go_wp2_with (first
      | ((go_at_call 35; (with_reducible refine (HO.out _).mono ?_); rintro e w1 ⟨rfl, E1⟩); have hR := Lib.hid (Blk.ext hR.out E1); have Ew : Ext w w1 := (by repeat (first | with_reducible exact Ext.refl _ | refine Ext.drewN ?_ _ | refine Ext.drew ?_ | refine Ext.alloc ?_ _ | assumption | (refine Below.trans ?_ (by assumption)) | (refine Ext.trans ?_ (by assumption)) | (refine Below.trans ?_ (Below.mono (by assumption) (by omega))))))
      | (refine wpList_build_eq rfl 38 _ rfl (L := cz) (by simp [go_sem]; exact hbz) ?_)
      | (refine wpList_store_A rfl 38 _ _ rfl (w.heap.size + 1) _ rfl rfl 38 _ (Blk.ext hR.out (by repeat (first | with_reducible exact Ext.refl _ | refine Ext.drewN ?_ _ | refine Ext.drew ?_ | refine Ext.alloc ?_ _ | assumption | (refine Below.trans ?_ (by assumption)) | (refine Ext.trans ?_ (by assumption)) | (refine Below.trans ?_ (Below.mono (by assumption) (by omega)))))) hiz HZ.out h1z.out ?_; intro w4 H4 E4; have E4 : Ext w w4 := E4 w.heap.size w (by repeat (first | with_reducible exact Ext.refl _ | refine Ext.drewN ?_ _ | refine Ext.drew ?_ | refine Ext.alloc ?_ _ | assumption | (refine Below.trans ?_ (by assumption)) | (refine Ext.trans ?_ (by assumption)) | (refine Below.trans ?_ (Below.mono (by assumption) (by omega))))) (by omega)))
    refine bodyPost_ret_by (Go.Kb.results_cell_tmp Try.results23 _ _ (w.heap.size + 1) 38 _ _ _ rfl _ rfl H4 Try.underlying38 rfl hiz) rfl ?_
    exact ⟨by rw [HAL.out, HCZ.out]; rfl, E4⟩
  · obtain ⟨hs1, hs2⟩ := hbd rfl
    by_cases h9 : sig = 9
    · have hb : bad = true := by rw [hbad, h9]; simp
      subst h9
      rw [hb, if_pos rfl] at hact
      have HAL := Lib.hid hact
      clear hact hbad hb hbd
      go_enter Try.func23, Try.ntmps23
      go_wp2_with (first
        | ((go_at_call 35; (with_reducible refine (HO.out _).mono ?_); rintro e w1 ⟨rfl, E1⟩); have hR := Lib.hid (Blk.ext hR.out E1); have Ew : Ext w w1 := (by repeat (first | with_reducible exact Ext.refl _ | refine Ext.drewN ?_ _ | refine Ext.drew ?_ | refine Ext.alloc ?_ _ | assumption | (refine Below.trans ?_ (by assumption)) | (refine Ext.trans ?_ (by assumption)) | (refine Below.trans ?_ (Below.mono (by assumption) (by omega))))))
        | (refine wpList_build_eq rfl 38 _ rfl (L := cz) (by simp [go_sem]; exact hbz) ?_)
        | (refine wpList_store_A rfl 38 _ _ rfl (w.heap.size + 1) _ rfl rfl 38 _ (Blk.ext hR.out (by repeat (first | with_reducible exact Ext.refl _ | refine Ext.drewN ?_ _ | refine Ext.drew ?_ | refine Ext.alloc ?_ _ | assumption | (refine Below.trans ?_ (by assumption)) | (refine Ext.trans ?_ (by assumption)) | (refine Below.trans ?_ (Below.mono (by assumption) (by omega)))))) hiz HZ.out h1z.out ?_; intro w4 H4 E4; have E4 : Ext w w4 := E4 w.heap.size w (by repeat (first | with_reducible exact Ext.refl _ | refine Ext.drewN ?_ _ | refine Ext.drew ?_ | refine Ext.alloc ?_ _ | assumption | (refine Below.trans ?_ (by assumption)) | (refine Ext.trans ?_ (by assumption)) | (refine Below.trans ?_ (Below.mono (by assumption) (by omega))))) (by omega)))
      refine bodyPost_ret_by (Go.Kb.results_cell_tmp Try.results23 _ _ (w.heap.size + 1) 38 _ _ _ rfl _ rfl H4 Try.underlying38 rfl hiz) rfl ?_
      exact ⟨by rw [HAL.out, HCZ.out]; rfl, E4⟩
    · have b9 : (sig == 9) = false := by simpa using h9
      by_cases h19 : sig = 19
      · have hb : bad = true := by rw [hbad, h19]; simp
        subst h19
        rw [hb, if_pos rfl] at hact
        have HAL := Lib.hid hact
        clear hact hbad hb hbd
        go_enter Try.func23, Try.ntmps23
        go_wp2_with (first
          | ((go_at_call 35; (with_reducible refine (HO.out _).mono ?_); rintro e w1 ⟨rfl, E1⟩); have hR := Lib.hid (Blk.ext hR.out E1); have Ew : Ext w w1 := (by repeat (first | with_reducible exact Ext.refl _ | refine Ext.drewN ?_ _ | refine Ext.drew ?_ | refine Ext.alloc ?_ _ | assumption | (refine Below.trans ?_ (by assumption)) | (refine Ext.trans ?_ (by assumption)) | (refine Below.trans ?_ (Below.mono (by assumption) (by omega))))))
          | (refine wpList_build_eq rfl 38 _ rfl (L := cz) (by simp [go_sem]; exact hbz) ?_)
          | (refine wpList_store_A rfl 38 _ _ rfl (w.heap.size + 1) _ rfl rfl 38 _ (Blk.ext hR.out (by repeat (first | with_reducible exact Ext.refl _ | refine Ext.drewN ?_ _ | refine Ext.drew ?_ | refine Ext.alloc ?_ _ | assumption | (refine Below.trans ?_ (by assumption)) | (refine Ext.trans ?_ (by assumption)) | (refine Below.trans ?_ (Below.mono (by assumption) (by omega)))))) hiz HZ.out h1z.out ?_; intro w4 H4 E4; have E4 : Ext w w4 := E4 w.heap.size w (by repeat (first | with_reducible exact Ext.refl _ | refine Ext.drewN ?_ _ | refine Ext.drew ?_ | refine Ext.alloc ?_ _ | assumption | (refine Below.trans ?_ (by assumption)) | (refine Ext.trans ?_ (by assumption)) | (refine Below.trans ?_ (Below.mono (by assumption) (by omega))))) (by omega)))
        refine bodyPost_ret_by (Go.Kb.results_cell_tmp Try.results23 _ _ (w.heap.size + 1) 38 _ _ _ rfl _ rfl H4 Try.underlying38 rfl hiz) rfl ?_
        exact ⟨by rw [HAL.out, HCZ.out]; rfl, E4⟩
      · have b19 : (sig == 19) = false := by simpa using h19
        rw [b9, b19] at hbad
        clear h9 h19
        by_cases h0 : how < 0
        · have hb : bad = true := by rw [hbad]; simp [h0]
          rw [hb, if_pos rfl] at hact
          have HAL := Lib.hid hact
          clear hact hbad hb hbd
          go_enter Try.func23, Try.ntmps23
          go_wp2_with (first
            | ((go_at_call 35; (with_reducible refine (HO.out _).mono ?_); rintro e w1 ⟨rfl, E1⟩); have hR := Lib.hid (Blk.ext hR.out E1); have Ew : Ext w w1 := (by repeat (first | with_reducible exact Ext.refl _ | refine Ext.drewN ?_ _ | refine Ext.drew ?_ | refine Ext.alloc ?_ _ | assumption | (refine Below.trans ?_ (by assumption)) | (refine Ext.trans ?_ (by assumption)) | (refine Below.trans ?_ (Below.mono (by assumption) (by omega))))))
            | (refine wpList_build_eq rfl 38 _ rfl (L := cz) (by simp [go_sem]; exact hbz) ?_)
            | (refine wpList_store_A rfl 38 _ _ rfl (w.heap.size + 1) _ rfl rfl 38 _ (Blk.ext hR.out (by repeat (first | with_reducible exact Ext.refl _ | refine Ext.drewN ?_ _ | refine Ext.drew ?_ | refine Ext.alloc ?_ _ | assumption | (refine Below.trans ?_ (by assumption)) | (refine Ext.trans ?_ (by assumption)) | (refine Below.trans ?_ (Below.mono (by assumption) (by omega)))))) hiz HZ.out h1z.out ?_; intro w4 H4 E4; have E4 : Ext w w4 := E4 w.heap.size w (by repeat (first | with_reducible exact Ext.refl _ | refine Ext.drewN ?_ _ | refine Ext.drew ?_ | refine Ext.alloc ?_ _ | assumption | (refine Below.trans ?_ (by assumption)) | (refine Ext.trans ?_ (by assumption)) | (refine Below.trans ?_ (Below.mono (by assumption) (by omega))))) (by omega)))
          refine bodyPost_ret_by (Go.Kb.results_cell_tmp Try.results23 _ _ (w.heap.size + 1) 38 _ _ _ rfl _ rfl H4 Try.underlying38 rfl hiz) rfl ?_
          exact ⟨by rw [HAL.out, HCZ.out]; rfl, E4⟩
        · by_cases h2 : 2 < how
          · have hb : bad = true := by rw [hbad]; simp [h2]
            rw [hb, if_pos rfl] at hact
            have HAL := Lib.hid hact
            clear hact hbad hb hbd
            go_enter Try.func23, Try.ntmps23
            go_wp2_with (first
              | ((go_at_call 35; (with_reducible refine (HO.out _).mono ?_); rintro e w1 ⟨rfl, E1⟩); have hR := Lib.hid (Blk.ext hR.out E1); have Ew : Ext w w1 := (by repeat (first | with_reducible exact Ext.refl _ | refine Ext.drewN ?_ _ | refine Ext.drew ?_ | refine Ext.alloc ?_ _ | assumption | (refine Below.trans ?_ (by assumption)) | (refine Ext.trans ?_ (by assumption)) | (refine Below.trans ?_ (Below.mono (by assumption) (by omega))))))
              | (refine wpList_build_eq rfl 38 _ rfl (L := cz) (by simp [go_sem]; exact hbz) ?_)
              | (refine wpList_store_A rfl 38 _ _ rfl (w.heap.size + 1) _ rfl rfl 38 _ (Blk.ext hR.out (by repeat (first | with_reducible exact Ext.refl _ | refine Ext.drewN ?_ _ | refine Ext.drew ?_ | refine Ext.alloc ?_ _ | assumption | (refine Below.trans ?_ (by assumption)) | (refine Ext.trans ?_ (by assumption)) | (refine Below.trans ?_ (Below.mono (by assumption) (by omega)))))) hiz HZ.out h1z.out ?_; intro w4 H4 E4; have E4 : Ext w w4 := E4 w.heap.size w (by repeat (first | with_reducible exact Ext.refl _ | refine Ext.drewN ?_ _ | refine Ext.drew ?_ | refine Ext.alloc ?_ _ | assumption | (refine Below.trans ?_ (by assumption)) | (refine Ext.trans ?_ (by assumption)) | (refine Below.trans ?_ (Below.mono (by assumption) (by omega))))) (by omega)))
            refine bodyPost_ret_by (Go.Kb.results_cell_tmp Try.results23 _ _ (w.heap.size + 1) 38 _ _ _ rfl _ rfl H4 Try.underlying38 rfl hiz) rfl ?_
            exact ⟨by rw [HAL.out, HCZ.out]; rfl, E4⟩
          · have hb : bad = false := by rw [hbad]; simp [h0]; omega
            rw [hb, if_neg (by decide)] at hact
            obtain ⟨k, rfl⟩ := Int.eq_ofNat_of_zero_le (show 0 ≤ sig by omega)
            simp only [Int.toNat_natCast] at HST HC2 hact
            have hks : k < cs.size := by omega
            have k1 : (k : Int) < 32 := by omega
            have k2 : (0 : Int) ≤ (k : Int) := by omega
            have HAL := Lib.hid hact
            clear hact hbad hb hbd
            go_enter Try.func23, Try.ntmps23
            go_wp2_with fail
            (with_reducible refine (HO.out _).mono ?_); rintro e w1 ⟨rfl, E1⟩
            have hT := Lib.hid (Blk.ext (Blk.ext hT.out E1) (show Ext w1 (w1.alloc (.cells #[.int .i64 n, .string nm, .int .i64 d, .bool wi] 58)) from (by repeat (first | with_reducible exact Ext.refl _ | refine Ext.drewN ?_ _ | refine Ext.drew ?_ | refine Ext.alloc ?_ _ | assumption | (refine Below.trans ?_ (by assumption)) | (refine Ext.trans ?_ (by assumption)) | (refine Below.trans ?_ (Below.mono (by assumption) (by omega)))))))
            have hR := Lib.hid (Blk.ext (Blk.ext hR.out E1) (show Ext w1 (w1.alloc (.cells #[.int .i64 n, .string nm, .int .i64 d, .bool wi] 58)) from (by repeat (first | with_reducible exact Ext.refl _ | refine Ext.drewN ?_ _ | refine Ext.drew ?_ | refine Ext.alloc ?_ _ | assumption | (refine Below.trans ?_ (by assumption)) | (refine Ext.trans ?_ (by assumption)) | (refine Below.trans ?_ (Below.mono (by assumption) (by omega)))))))
            have Ew2 : Ext w (w1.alloc (.cells #[.int .i64 n, .string nm, .int .i64 d, .bool wi] 58)) := (by repeat (first | with_reducible exact Ext.refl _ | refine Ext.drewN ?_ _ | refine Ext.drew ?_ | refine Ext.alloc ?_ _ | assumption | (refine Below.trans ?_ (by assumption)) | (refine Ext.trans ?_ (by assumption)) | (refine Below.trans ?_ (Below.mono (by assumption) (by omega)))))
            clear E1
            go_wp2_with (first
              | (refine wpList_store_B rfl 3 _ _ rfl w.heap.size k rfl _ rfl rfl rfl 38 _ hT.out hks (by kernel_rfl) ?_; intro w3 H3 F3 E3; have H3 := Lib.hid (show Blk w3 w.heap.size 38 cs2 from by have h := H3; rw [← HST.out]; exact h); have hR3 := Lib.hid (F3 _ _ _ (by omega) hR.out); have E3 : Ext w w3 := E3 w.heap.size w Ew2 (Nat.le_refl _); clear F3)
              | (refine wpList_load_row rfl 38 _ rfl _ rfl 38 _ _ _ H3.out Try.underlying38 rfl hi2 ?_)
              | (refine wpList_store_A rfl 38 _ _ rfl (w.heap.size + 1) _ rfl rfl 38 _ hR3.out hi2 HZ2.out h1s.out ?_; intro w4 H4 E4; have E4 : Ext w w4 := E4 w.heap.size w E3 (by omega)))
            refine bodyPost_ret_by (Go.Kb.results_cell_tmp Try.results23 _ _ (w.heap.size + 1) 38 _ _ _ rfl _ rfl H4 Try.underlying38 rfl hi2) rfl ?_
            exact ⟨by rw [HAL.out, HC2.out]; rfl, E4⟩
def effL (a : List Int) (sig : Int) : Int := if !isL sig then 0 else if sig == 9 || sig == 19 then doesL sig else if a.getD sig.toNat 0 = 1 then (if sig = 18 then 5 else 3) else if a.getD sig.toNat 0 = 2 then 6 else doesL sig
set_option maxRecDepth 100000 in
set_option maxHeartbeats 800000 in
theorem effect_any (a : List Int) (sig : Int) (w : World) (ha : a.length = 32) : Calls Try.prog 24 #[.agg (arrV a), .int .i64 sig] w fun e w' => e = .returned (.int .i64 (effL a sig)) ∧ Ext w w' := by
  have HI := Lib.hid fun w' => is_any sig w'
  have HS := Lib.hid fun w' => sure_any sig w'
  have heff : effL a sig = if !isL sig then 0 else if sig == 9 || sig == 19 then doesL sig else if a.getD sig.toNat 0 = 1 then (if sig = 18 then 5 else 3) else if a.getD sig.toNat 0 = 2 then 6 else doesL sig := rfl
  obtain ⟨x, hxx⟩ : ∃ x, a.getD sig.toNat 0 = x := ⟨_, rfl⟩
  rw [hxx] at heff
  have HT := Lib.hid fun h w' => itself_any sig w' h
  have hat : ∀ k : Nat, k < 32 → (arrV a)[k]? = some (.int .i64 (a.getD k 0)) := fun k hk => arrV_at (by omega)
  have hz := arrV_size ha
  have h18 : sig = 18 → doesL sig = 5 := by rintro rfl; decide +kernel
  generalize effL a sig = ef at *
  have hbd : isL sig = true → 1 ≤ sig ∧ sig ≤ 28 := isL_bd
  generalize doesL sig = ds at *
  generalize isL sig = il at *
  generalize arrV a = cs at *
  have hB := Blk.new w 39 cs
  cases il
  · have he : ef = 0 := by rw [heff]; rfl
    subst he
    clear heff hat HT
    go_enter Try.func24, Try.ntmps24
    go_wp2_with ((go_at_call 39; (with_reducible refine (HI.out _).mono ?_); rintro e w1 ⟨rfl, E1⟩))
    go_ret
    exact ⟨rfl, (by repeat (first | with_reducible exact Ext.refl _ | refine Ext.drewN ?_ _ | refine Ext.drew ?_ | refine Ext.alloc ?_ _ | assumption | (refine Below.trans ?_ (by assumption)) | (refine Ext.trans ?_ (by assumption)) | (refine Below.trans ?_ (Below.mono (by assumption) (by omega)))))⟩
  · obtain ⟨hs1, hs2⟩ := hbd rfl
    have HTT := Lib.hid fun w' => HT.out rfl w'
    cases hsu : (sig == 9 || sig == 19)
    · rw [hsu] at heff HS
      simp only [Bool.not_true, Bool.false_eq_true, if_false] at heff
      obtain ⟨k, rfl⟩ := Int.eq_ofNat_of_zero_le (show 0 ≤ sig by omega)
      have hxk : a.getD k 0 = x := hxx
      have hc := hB.cell k
      rw [hat k (by omega), hxk] at hc
      have hlt : w.heap.size < (w.alloc (.cells cs 39)).heap.size := by simp
      have HC := Lib.hid fun w' (h : Ext (w.alloc (.cells cs 39)) w') => cell_ext h hc
      have k1 : (k : Int) < 32 := by omega
      have k2 : (0 : Int) ≤ (k : Int) := by omega
      clear hat hc hbd HT hsu hlt hxx hxk
      by_cases h1 : x = 1
      · subst h1
        rw [if_pos rfl] at heff
        by_cases hk : k = 18
        · have h5 := h18 (by omega)
          subst h5
          rw [if_pos (by omega)] at heff
          have b18 : ((k : Int) == 18) = true := by rw [beq_iff_eq]; omega
          subst heff
          clear h18 hk
          go_enter Try.func24, Try.ntmps24
          go_wp2_with fail
          (with_reducible refine (HI.out _).mono ?_); rintro e w1 ⟨rfl, E1⟩
          go_wp2_with fail
          (with_reducible refine (HS.out _).mono ?_); rintro e w2 ⟨rfl, E2⟩
          have c := HC.out w2 (Ext.trans E1 E2)
          go_wp2_with fail
          (with_reducible refine (HTT.out _).mono ?_); rintro e w3 ⟨rfl, E3⟩
          go_wp2
          go_ret
          exact ⟨rfl, (by repeat (first | with_reducible exact Ext.refl _ | refine Ext.drewN ?_ _ | refine Ext.drew ?_ | refine Ext.alloc ?_ _ | assumption | (refine Below.trans ?_ (by assumption)) | (refine Ext.trans ?_ (by assumption)) | (refine Below.trans ?_ (Below.mono (by assumption) (by omega)))))⟩
        · rw [if_neg (by omega)] at heff
          have b18 : ((k : Int) == 18) = false := by rw [beq_eq_false_iff_ne]; omega
          subst heff
          clear h18 hk
          go_enter Try.func24, Try.ntmps24
          go_wp2_with fail
          (with_reducible refine (HI.out _).mono ?_); rintro e w1 ⟨rfl, E1⟩
          go_wp2_with fail
          (with_reducible refine (HS.out _).mono ?_); rintro e w2 ⟨rfl, E2⟩
          have c := HC.out w2 (Ext.trans E1 E2)
          go_wp2
          go_ret
          exact ⟨rfl, (by repeat (first | with_reducible exact Ext.refl _ | refine Ext.drewN ?_ _ | refine Ext.drew ?_ | refine Ext.alloc ?_ _ | assumption | (refine Below.trans ?_ (by assumption)) | (refine Ext.trans ?_ (by assumption)) | (refine Below.trans ?_ (Below.mono (by assumption) (by omega)))))⟩
      · have b1 : (x == 1) = false := by simpa using h1
        rw [if_neg h1] at heff
        clear h1 h18
        by_cases h2 : x = 2
        · subst h2
          rw [if_pos rfl] at heff
          subst heff
          go_enter Try.func24, Try.ntmps24
          go_wp2_with fail
          (with_reducible refine (HI.out _).mono ?_); rintro e w1 ⟨rfl, E1⟩
          go_wp2_with fail
          (with_reducible refine (HS.out _).mono ?_); rintro e w2 ⟨rfl, E2⟩
          have c := HC.out w2 (Ext.trans E1 E2)
          go_wp2
          go_ret
          exact ⟨rfl, (by repeat (first | with_reducible exact Ext.refl _ | refine Ext.drewN ?_ _ | refine Ext.drew ?_ | refine Ext.alloc ?_ _ | assumption | (refine Below.trans ?_ (by assumption)) | (refine Ext.trans ?_ (by assumption)) | (refine Below.trans ?_ (Below.mono (by assumption) (by omega)))))⟩
        · have b2 : (x == 2) = false := by simpa using h2
          rw [if_neg h2] at heff
          subst heff
          clear h2
          go_enter Try.func24, Try.ntmps24
          go_wp2_with fail
          (with_reducible refine (HI.out _).mono ?_); rintro e w1 ⟨rfl, E1⟩
          go_wp2_with fail
          (with_reducible refine (HS.out _).mono ?_); rintro e w2 ⟨rfl, E2⟩
          have c := HC.out w2 (Ext.trans E1 E2)
          go_wp2_with fail
          (with_reducible refine (HTT.out _).mono ?_); rintro e w3 ⟨rfl, E3⟩
          go_wp2
          go_ret
          exact ⟨rfl, (by repeat (first | with_reducible exact Ext.refl _ | refine Ext.drewN ?_ _ | refine Ext.drew ?_ | refine Ext.alloc ?_ _ | assumption | (refine Below.trans ?_ (by assumption)) | (refine Ext.trans ?_ (by assumption)) | (refine Below.trans ?_ (Below.mono (by assumption) (by omega)))))⟩
    · rw [hsu] at heff HS
      simp only [Bool.not_true, Bool.false_eq_true, if_false, if_true] at heff
      subst heff
      clear hat h18 hsu HT hbd hxx
      go_enter Try.func24, Try.ntmps24
      go_wp2_with (first | ((go_at_call 39; (with_reducible refine (HI.out _).mono ?_); rintro e w1 ⟨rfl, E1⟩)) | ((go_at_call 40; (with_reducible refine (HS.out _).mono ?_); rintro e w2 ⟨rfl, E2⟩)) | ((go_at_call 41; (with_reducible refine (HTT.out _).mono ?_); rintro e w3 ⟨rfl, E3⟩)))
      go_ret
      exact ⟨rfl, (by repeat (first | with_reducible exact Ext.refl _ | refine Ext.drewN ?_ _ | refine Ext.drew ?_ | refine Ext.alloc ?_ _ | assumption | (refine Below.trans ?_ (by assumption)) | (refine Ext.trans ?_ (by assumption)) | (refine Below.trans ?_ (Below.mono (by assumption) (by omega)))))⟩
end Go.Proofs.Yteandiddfokfjaa
