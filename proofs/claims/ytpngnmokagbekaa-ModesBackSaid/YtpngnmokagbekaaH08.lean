/- The document's word on which settings may be, by contract. Condition: the setting is one. -/
import Derived.Test.YtpngnmokagbekaaC08
namespace Go.Proofs.Ytpngnmokagbekaa
open Go.RowKit Go.Kb

/-- a setting with the flags from 30 on off, so many -/
def offT : Nat → Tm → Tm
  | 0, t => t
  | k + 1, t => setL (offT k t) (30 + k) false
theorem offT_ok {t : Tm} (h : t.Ok) : ∀ k, (offT k t).Ok
  | 0 => h
  | k + 1 => setL_ok (offT_ok h k) _ _
def rightL (t : Tm) : Bool := decide ((offT 64 t).f = 0 ∧ t.c.getD 0 0 = 0 ∧ 0 ≤ t.m ∧ t.m ≤ 255 ∧ 0 ≤ t.t ∧ t.t ≤ 255)
theorem Tm.at22 {t : Tm} (h : t.Ok) : t.arr[22]? = some (.int .i64 t.m) := by
  have hc := h.c
  simp only [Tm.arr, Tm.cells, List.getElem?_toArray]
  rw [List.getElem?_append_right (by simp; omega)]
  simp [hc]
theorem Tm.at23 {t : Tm} (h : t.Ok) : t.arr[23]? = some (.int .i64 t.t) := by
  have hc := h.c
  simp only [Tm.arr, Tm.cells, List.getElem?_toArray]
  rw [List.getElem?_append_right (by simp; omega)]
  simp [hc]
set_option maxRecDepth 100000 in
set_option maxHeartbeats 800000 in
theorem rright_any (t : Tm) (w : World) (ht : t.Ok) : Calls Try.prog 22 #[.agg t.arr] w fun e w' => e = .returned (.bool (rightL t)) ∧ Ext w w' := by
  have hf : rightL t = decide ((offT 64 t).f = 0 ∧ t.c.getD 0 0 = 0 ∧ 0 ≤ t.m ∧ t.m ≤ 255 ∧ 0 ≤ t.t ∧ t.t ≤ 255) := rfl
  obtain ⟨z, hz0⟩ : ∃ z, rightL t = z := ⟨_, rfl⟩; rw [hz0]; have HZ := Lib.hid (hz0.symm.trans hf); clear hz0 hf
  have hn := t.size ht
  have h1 := Lib.hid t.one
  have HOk := Lib.hid (offT_ok ht)
  have a0 := Tm.at_ ht (k := 0) (by decide)
  have a22 := Tm.at22 ht
  have a23 := Tm.at23 ht
  have a19 := Tm.at19 (offT_ok ht 64)
  generalize hcs : t.arr = cs at *
  have HCS := Lib.hid hcs
  clear hcs
  have hi : (Try.prog.info? 27).map (·.size) = some cs.size := by rw [hn]; kernel_rfl
  have hn24 := Lib.hid hn
  go_enter Try.func22, Try.ntmps22
  go_wp2_with (first
    | (refine wpList_load_row rfl 27 _ rfl _ rfl 27 _ _ _ (Blk.new w 27 cs) Try.underlying27 rfl hi ?_)
    | (refine wpList_store_AF rfl 27 _ _ rfl (w.heap.size + 1) _ rfl rfl 27 _ (Blk.at_ (w := w.alloc (.cells cs 27)) (B := w.heap.size + 1) 27 _ (by simp)) hi (by rw [hn24.out]; rfl) h1.out ?_; intro w2 H2 F2 E2; have H2 := Lib.hid H2; have G2 := Lib.hid (F2 _ _ _ (by simp) ((Blk.new w 27 cs).alloc _)); have E2 : Ext w w2 := E2 w.heap.size w (by repeat (first | with_reducible exact Ext.refl _ | refine Ext.drewN ?_ _ | refine Ext.drew ?_ | refine Ext.alloc ?_ _ | assumption | (refine Below.trans ?_ (by assumption)) | (refine Ext.trans ?_ (by assumption)) | (refine Below.trans ?_ (Below.mono (by assumption) (by omega))))) (Nat.le_succ _); clear F2))
  go_loopw [4] (fun i wr => ∃ k : Nat, k ≤ 64 ∧ i = .int .i64 (30 + (k : Int)) ∧ Hid (Blk wr w.heap.size 27 cs) ∧ Hid (Blk wr (w.heap.size + 1) 27 (offT k t).arr) ∧ Ext w wr) (fun i _ => 94 - (intOf i).toNat)
  case atStart => exact ⟨0, Nat.zero_le _, by simp, G2, Lib.hid (by show Blk _ _ _ t.arr; rw [HCS.out]; exact H2.out), E2⟩
  case round =>
    clear E2 H2 G2
    obtain ⟨k, hk, rfl, HG, HH, hE⟩ := hrel
    by_cases hlt : k < 64
    · have h93 : 30 + (k : Int) ≤ 93 := by omega
      have hS := Lib.hid fun w' => rset_any (offT k t) (30 + k) false w' (HOk.out k)
      have hnk := (offT k t).size (HOk.out k)
      have hnk' := (offT (k + 1) t).size (HOk.out (k + 1))
      have h1k := Lib.hid (offT (k + 1) t).one
      have HK : Hid ((setL (offT k t) (30 + k) false).arr = (offT (k + 1) t).arr) := Lib.hid rfl
      rw [HK.out] at hS
      generalize (offT k t).arr = ck at *
      generalize hcl : (offT (k + 1) t).arr = cl at *
      have HCL := Lib.hid hcl
      clear hcl HK a0 a22 a23 a19
      have hik : (Try.prog.info? 27).map (·.size) = some ck.size := by rw [hnk]; kernel_rfl
      have hil : (Try.prog.info? 27).map (·.size) = some cl.size := by rw [hnk']; kernel_rfl
      have hkl : ck.size = cl.size := by rw [hnk, hnk']
      go_wp2_with ((refine wpList_load_row rfl 27 _ rfl _ rfl 27 _ _ _ HH.out Try.underlying27 rfl hik ?_))
      (with_reducible refine (hS.out _).mono ?_); rintro e w3 ⟨rfl, E3⟩
      go_wp2_with (refine wpList_store_AF rfl 27 _ _ rfl (w.heap.size + 1) _ rfl rfl 27 _ (HH.out.ext E3) hil hkl h1k.out ?_; intro w5 H5 F5 E5; have H5 := Lib.hid H5; have G5 := Lib.hid (F5 _ _ _ (by simp) (HG.out.ext E3)); have E5 : Ext w w5 := E5 w.heap.size w (hE.trans E3) (Nat.le_succ _); clear F5)
      try simp only [Act.put]
      go_roundw
      case rel => exact ⟨k + 1, by omega, by first | go_num | (congr 1; omega) | (simp; omega), G5, Lib.hid (by rw [HCL.out]; exact H5.out), E5⟩
      case measure => first | (simp [intOf]; omega) | (show 94 - _ < _; simp [intOf]; omega)
    · obtain rfl : k = 64 := by omega
      have c19 := HH.out.cell 19
      have c0 := HG.out.cell 0
      have c22 := HG.out.cell 22
      have c23 := HG.out.cell 23
      rw [a19] at c19
      rw [a0] at c0
      rw [a22] at c22
      rw [a23] at c23
      clear a0 a22 a23 a19 HG HH HOk h1
      generalize (offT 64 t).f = f at *
      generalize t.c.getD 0 0 = x0 at *
      generalize t.m = m at *
      generalize t.t = tt at *
      by_cases b1 : f = 0
      · subst b1
        by_cases b2 : x0 = 0
        · subst b2
          by_cases b3 : 0 ≤ m
          · by_cases b4 : m ≤ 255
            · by_cases b5 : 0 ≤ tt
              · by_cases b6 : tt ≤ 255
                · replace HZ : Hid (z = true) := Lib.hid (by rw [HZ.out]; exact decide_eq_true ⟨rfl, rfl, b3, b4, b5, b6⟩)
                  go_wp2
                  go_ret
                  exact ⟨by rw [HZ.out]; rfl, hE⟩
                ·
                  replace HZ : Hid (z = false) := Lib.hid (by rw [HZ.out]; exact decide_eq_false (fun h => b6 h.2.2.2.2.2))
                  go_wp2
                  go_ret
                  exact ⟨by rw [HZ.out]; rfl, hE⟩
              ·
                replace HZ : Hid (z = false) := Lib.hid (by rw [HZ.out]; exact decide_eq_false (fun h => b5 h.2.2.2.2.1))
                go_wp2
                go_ret
                exact ⟨by rw [HZ.out]; rfl, hE⟩
            ·
              replace HZ : Hid (z = false) := Lib.hid (by rw [HZ.out]; exact decide_eq_false (fun h => b4 h.2.2.2.1))
              go_wp2
              go_ret
              exact ⟨by rw [HZ.out]; rfl, hE⟩
          ·
            replace HZ : Hid (z = false) := Lib.hid (by rw [HZ.out]; exact decide_eq_false (fun h => b3 h.2.2.1))
            go_wp2
            go_ret
            exact ⟨by rw [HZ.out]; rfl, hE⟩
        · have b2' : (x0 == 0) = false := by simpa using b2
          replace HZ : Hid (z = false) := Lib.hid (by rw [HZ.out]; exact decide_eq_false (fun h => b2 h.2.1))
          go_wp2
          go_ret
          exact ⟨by rw [HZ.out]; rfl, hE⟩
      · have b1' : (f == 0) = false := by simpa using b1
        replace HZ : Hid (z = false) := Lib.hid (by rw [HZ.out]; exact decide_eq_false (fun h => b1 h.1))
        go_wp2
        go_ret
        exact ⟨by rw [HZ.out]; rfl, hE⟩
end Go.Proofs.Ytpngnmokagbekaa
