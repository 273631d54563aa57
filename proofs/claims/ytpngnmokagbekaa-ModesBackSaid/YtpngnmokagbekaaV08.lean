/- The document's stream of a setting, by contract. Condition: the setting is one. -/
import Derived.Test.YtpngnmokagbekaaU08
namespace Go.Proofs.Ytpngnmokagbekaa
open Go.RowKit Go.Kb

def stepE (t : Tm) (op : Int) : List Int := if op ≤ 18 then fiveL op (t.c.getD op.toNat 0) else if op = 128 then fiveL 128 t.i else if op = 129 then fiveL 129 t.o else if flagL op then fiveL op (if hasL t op then 1 else 0) else []
def rE (t : Tm) (k : Nat) : List Int := ((List.range k).map fun (j : Nat) => (j : Int) + 1).flatMap (stepE t)
theorem rE_succ (t : Tm) (k : Nat) : rE t (k + 1) = rE t k ++ stepE t ((k : Int) + 1) := by
  unfold rE
  rw [List.range_succ, List.map_append, List.flatMap_append]
  simp
theorem rE_mid (t : Tm) : ∀ (l : List Int), (∀ x ∈ l, 18 < x ∧ x < 128) → l.flatMap (stepE t) = flagsE t (l.filter flagL)
  | [], _ => rfl
  | x :: l, h => by
    have hx := h x (by simp)
    have ih := rE_mid t l fun y hy => h y (by simp [hy])
    have e : stepE t x = if flagL x then fiveL x (if hasL t x then 1 else 0) else [] := by
      unfold stepE
      rw [if_neg (by omega), if_neg (by omega), if_neg (by omega)]
    rw [List.flatMap_cons, ih, e, List.filter_cons]
    by_cases hf : flagL x = true
    · rw [if_pos hf, if_pos hf]; rfl
    · rw [if_neg hf, if_neg hf]; rfl
theorem rE_head (t : Tm) : ((List.range 18).map fun (j : Nat) => (j : Int) + 1).flatMap (stepE t) = headL t 18 := by
  unfold headL
  rw [List.flatMap_map]
  have : ∀ (l : List Nat), (∀ j ∈ l, j < 18) → l.flatMap (fun (j : Nat) => stepE t ((j : Int) + 1)) = l.flatMap fun (j : Nat) => fiveL ((j : Int) + 1) (t.c.getD (j + 1) 0) := by
    intro l
    induction l with
    | nil => intro _; rfl
    | cons j l ih =>
      intro h
      have hj := h j (by simp)
      rw [List.flatMap_cons, List.flatMap_cons, ih fun y hy => h y (by simp [hy])]
      have e : stepE t ((j : Int) + 1) = fiveL ((j : Int) + 1) (t.c.getD (j + 1) 0) := by
        unfold stepE
        rw [if_pos (by omega), show ((j : Int) + 1).toNat = j + 1 by omega]
      rw [e]
  exact this _ fun j hj => by simpa using hj
theorem rE_all (t : Tm) : rE t 129 ++ [0] = encL t := by
  have h : (List.range 129).map (fun (j : Nat) => (j : Int) + 1) = ((List.range 18).map fun (j : Nat) => (j : Int) + 1) ++ ((List.range 109).map fun (j : Nat) => (j : Int) + 19) ++ [128, 129] := by decide +kernel
  have hm : ∀ x ∈ (List.range 109).map (fun (j : Nat) => (j : Int) + 19), 18 < x ∧ x < 128 := by decide +kernel
  have hf : ((List.range 109).map fun (j : Nat) => (j : Int) + 19).filter flagL = flagsAll := by decide +kernel
  unfold rE
  rw [h, List.flatMap_append, List.flatMap_append, rE_head, rE_mid t _ hm, hf]
  have e : [(128 : Int), 129].flatMap (stepE t) = fiveL 128 t.i ++ fiveL 129 t.o := by simp [stepE]
  rw [e]
  unfold encL
  simp only [List.append_assoc]
theorem stepE_len (t : Tm) (op : Int) : (stepE t op).length ≤ 5 := by
  unfold stepE
  split
  · simp [fiveL, fourL]
  · split
    · simp [fiveL, fourL]
    · split
      · simp [fiveL, fourL]
      · split
        · simp [fiveL, fourL]
        · simp
theorem rE_len (t : Tm) : ∀ k, (rE t k).length ≤ 5 * k
  | 0 => by simp [rE]
  | k + 1 => by
    rw [rE_succ, List.length_append]
    have := rE_len t k
    have := stepE_len t ((k : Int) + 1)
    omega
set_option maxHeartbeats 800000 in
theorem four_any (n : Int) (w : World) (hn : 0 ≤ n ∧ n < 4294967296) :
    Calls Try.prog 36 #[.int .u32 n] w fun e w' => ∃ A c, e = .returned (.slice A 4 c) ∧ RI .u8 w' (.slice A 4 c) (fourL n) ∧ Ext w w' := by
  obtain ⟨h0, h1⟩ := hn
  go_enter Try.func36, Try.ntmps36
  go_wp2
  go_ret
  exact ⟨_, _, rfl, RI.lit .u8 (fourL n) _ rfl (by simp [fourL]), (by repeat (first | with_reducible exact Ext.refl _ | refine Ext.drewN ?_ _ | refine Ext.drew ?_ | refine Ext.alloc ?_ _ | assumption | (refine Below.trans ?_ (by assumption)) | (refine Ext.trans ?_ (by assumption)) | (refine Below.trans ?_ (Below.mono (by assumption) (by omega)))))⟩
set_option maxRecDepth 100000 in
set_option maxHeartbeats 3000000 in
theorem rencode_any (t : Tm) (w : World) (ht : t.Ok) : Calls Try.prog 26 #[.agg t.arr] w fun e w' => ∃ A c, e = .returned (.slice A (encL t).length c) ∧ RI .u8 w' (.slice A (encL t).length c) (encL t) ∧ Ext w w' := by
  have hn := t.size ht
  have HO := Lib.hid ht
  have hat : ∀ k : Nat, k < 19 → t.arr[k]? = some (.int .u8 (t.c.getD k 0)) := fun k hk => t.at_ ht hk
  have HAT := Lib.hid hat
  have h20 : t.arr[20]? = some (.int .u32 t.i) := by
    have hc := ht.c
    simp only [Tm.arr, Tm.cells, List.getElem?_toArray]
    rw [List.getElem?_append_right (by simp; omega)]
    simp [hc]
  have h21 : t.arr[21]? = some (.int .u32 t.o) := by
    have hc := ht.c
    simp only [Tm.arr, Tm.cells, List.getElem?_toArray]
    rw [List.getElem?_append_right (by simp; omega)]
    simp [hc]
  have hHas := fun op w' => rhas_any t op w' ht
  have hlenE := encL_len t
  have HST := Lib.hid (fun k => rE_succ t k)
  have HRL := Lib.hid (fun k => rE_len t k)
  have HALL := Lib.hid (rE_all t)
  generalize hcs : t.arr = cs at *
  have H20 := Lib.hid h20
  have H21 := Lib.hid h21
  have HHAS := Lib.hid hHas
  clear hcs hat h20 h21 hHas
  have hi : (Try.prog.info? 27).map (·.size) = some cs.size := by rw [hn]; kernel_rfl
  have hT0 := Lib.hid (Blk.new w 27 cs)
  go_enter Try.func26, Try.ntmps26
  go_wp2
  go_loopw [3, 4] (fun o i wr => ∃ (k n c : Nat) (A : Option Addr), k ≤ 129 ∧ i = .int .i64 ((k + 1 : Nat) : Int) ∧ o = .slice A n c ∧ Hid ((rE t k).length = n) ∧ Hid (OwnS Ub 5 (w.heap.size + 1) (fun _ => False) wr (.slice A n c) (rE t k)) ∧ Ext (w.alloc (.cells cs 27)) wr) (fun _ i _ => 130 - (intOf i).toNat)
  case atStart => exact ⟨0, 0, 0, none, by omega, rfl, rfl, Lib.hid rfl, Lib.hid (OwnS.nil _ _ _ _ _), Ext.refl _⟩
  case round =>
    obtain ⟨k, n, c, A, hk, rfl, rfl, HN, HR, hE⟩ := hrel
    have hn5 := HRL.out k
    rw [HN.out] at hn5
    by_cases hlt : k < 129
    · obtain ⟨q, hq⟩ : ∃ q, k + 1 = q := ⟨_, rfl⟩
      rw [hq]
      have q0 : (q : Int) < 130 := by omega
      have q1 : (0 : Int) ≤ (q : Int) := by omega
      have q3 : wrap64 ((q : Int) + 1) = (q : Int) + 1 := IntWalk.wrap64_in _ (by omega)
      have q4 : IntKind.u8.wrap (q : Int) = (q : Int) := by simp only [IntKind.wrap, IntKind.bits, IntKind.signed]; simp; omega
      have hst := HST.out k
      rw [show ((k : Int) + 1) = (q : Int) by omega] at hst
      have hTr := Lib.hid (hT0.out.ext hE)
      have hEw : Ext w wr := Ext.trans ((Ext.refl w).alloc _) hE
      by_cases h18 : q ≤ 18
      · have q5 : (q : Int) ≤ 18 := by omega
        have q6 : (q : Int) < 19 := by omega
        have hx := HAT.out q (by omega)
        have hxc := hTr.out.cell q
        rw [hx] at hxc
        have hxb := HO.out.b (t.c.getD q 0) (by have hc := HO.out.c; rw [getD_at (by omega)]; exact List.getElem_mem _)
        have hs : stepE t (q : Int) = fiveL (q : Int) (t.c.getD q 0) := by unfold stepE; rw [if_pos q5]; simp
        rw [hs] at hst
        generalize t.c.getD q 0 = x at *
        have hwx : IntKind.u32.wrap x = x := by rw [IntKind.wrap_u32]; omega
        have hN : 0 ≤ x ∧ x < 4294967296 := by omega
        clear hs hx
        have hb1 : w.heap.size + 1 ≤ wr.heap.size := by have := hE.size; simpa using this
        have HF4 := Lib.hid fun w' => four_any (x) w' hN
        go_wp2_with ((at_builtin; refine wpList_app (e := Ub) (base := w.heap.size + 1) (B := fun _ => False) (A := fun _ => False) rfl _ (.tmp 39) rfl Try.underlying22 info_u8 rfl (OwnS.ext HR.out (by repeat (first | with_reducible exact Ext.refl _ | refine Ext.drewN ?_ _ | refine Ext.drew ?_ | refine Ext.alloc ?_ _ | assumption | (refine Below.trans ?_ (by assumption)) | (refine Ext.trans ?_ (by assumption)) | (refine Below.trans ?_ (Below.mono (by assumption) (by omega)))))) rfl (RI.y (RI.lit .u8 [(q : Int)] _ rfl (by simp))) rfl (fun _ _ h => h.elim) (N := n + 1) (by rw [HN.out]; rfl) (by simp [maxLen]; omega) (by omega) (by simp; omega) ?_; intro A5 c5 w5 o5 M5 B5; have O5 := Lib.hid o5; have E5 : Below (w.heap.size + 1) wr w5 := Below.trans ((Below.refl _ _).alloc hb1 _) B5; clear o5 M5 B5))
        refine (HF4.out _).mono ?_; rintro e w6 ⟨A6, c6, rfl, r6, E6⟩
        have R6 := Lib.hid r6
        have O6 := Lib.hid (O5.out.ext E6)
        have E26 : Below (w.heap.size + 1) wr w6 := Below.trans E5 (E6.mono (by have := E5.size; omega))
        clear r6 E6 O5 E5 HF4
        go_wp2_with (at_builtin; refine wpList_app (e := Ub) (base := w.heap.size + 1) (B := fun _ => False) (A := fun _ => False) rfl _ (.tmp 42) rfl Try.underlying22 info_u8 rfl O6.out rfl (RI.y R6.out) rfl (fun _ _ h => h.elim) (N := n + 5) (by rw [List.length_append, HN.out]; simp [fourL]) (by simp [maxLen]; omega) (by omega) (by have := E26.size; omega) ?_; intro A7 c7 w7 o7 M7 B7)
        have hE7 : Ext (w.alloc (.cells cs 27)) w7 := by
          have h1 : Below (w.heap.size + 1) wr w7 := E26.trans B7
          exact Ext.trans_below hE h1 (by simp)
        go_roundw
        case rel => exact ⟨k + 1, n + 5, c7, A7, by omega, by first | (rw [← hq]; go_num) | (rw [← hq]; congr 1; omega) | (rw [← hq]; simp; omega), rfl, Lib.hid (by rw [hst, List.length_append, HN.out]; simp [fiveL, fourL]), Lib.hid (by rw [hst]; simpa [fiveL] using o7), hE7⟩
        case measure => first | (simp [intOf]; omega) | (show 130 - _ < _; simp [intOf]; omega)
      · have q5 : ¬ (q : Int) ≤ 18 := by omega
        by_cases h128 : q = 128
        · have hs : stepE t (q : Int) = fiveL (q : Int) t.i := by unfold stepE; rw [if_neg q5, if_pos (by omega), show (q : Int) = 128 by omega]
          rw [hs] at hst
          have hxc := hTr.out.cell 20
          rw [H20.out] at hxc
          have hN := HO.out.i
          have q6 : ((q : Int) == 128) = true := by simp; omega
          generalize t.i = x at *
          clear hs h128
          have hb1 : w.heap.size + 1 ≤ wr.heap.size := by have := hE.size; simpa using this
          have HF4 := Lib.hid fun w' => four_any (x) w' hN
          go_wp2_with ((at_builtin; refine wpList_app (e := Ub) (base := w.heap.size + 1) (B := fun _ => False) (A := fun _ => False) rfl _ (.tmp 39) rfl Try.underlying22 info_u8 rfl (OwnS.ext HR.out (by repeat (first | with_reducible exact Ext.refl _ | refine Ext.drewN ?_ _ | refine Ext.drew ?_ | refine Ext.alloc ?_ _ | assumption | (refine Below.trans ?_ (by assumption)) | (refine Ext.trans ?_ (by assumption)) | (refine Below.trans ?_ (Below.mono (by assumption) (by omega)))))) rfl (RI.y (RI.lit .u8 [(q : Int)] _ rfl (by simp))) rfl (fun _ _ h => h.elim) (N := n + 1) (by rw [HN.out]; rfl) (by simp [maxLen]; omega) (by omega) (by simp; omega) ?_; intro A5 c5 w5 o5 M5 B5; have O5 := Lib.hid o5; have E5 : Below (w.heap.size + 1) wr w5 := Below.trans ((Below.refl _ _).alloc hb1 _) B5; clear o5 M5 B5))
          refine (HF4.out _).mono ?_; rintro e w6 ⟨A6, c6, rfl, r6, E6⟩
          have R6 := Lib.hid r6
          have O6 := Lib.hid (O5.out.ext E6)
          have E26 : Below (w.heap.size + 1) wr w6 := Below.trans E5 (E6.mono (by have := E5.size; omega))
          clear r6 E6 O5 E5 HF4
          go_wp2_with (at_builtin; refine wpList_app (e := Ub) (base := w.heap.size + 1) (B := fun _ => False) (A := fun _ => False) rfl _ (.tmp 42) rfl Try.underlying22 info_u8 rfl O6.out rfl (RI.y R6.out) rfl (fun _ _ h => h.elim) (N := n + 5) (by rw [List.length_append, HN.out]; simp [fourL]) (by simp [maxLen]; omega) (by omega) (by have := E26.size; omega) ?_; intro A7 c7 w7 o7 M7 B7)
          have hE7 : Ext (w.alloc (.cells cs 27)) w7 := by
            have h1 : Below (w.heap.size + 1) wr w7 := E26.trans B7
            exact Ext.trans_below hE h1 (by simp)
          go_roundw
          case rel => exact ⟨k + 1, n + 5, c7, A7, by omega, by first | (rw [← hq]; go_num) | (rw [← hq]; congr 1; omega) | (rw [← hq]; simp; omega), rfl, Lib.hid (by rw [hst, List.length_append, HN.out]; simp [fiveL, fourL]), Lib.hid (by rw [hst]; simpa [fiveL] using o7), hE7⟩
          case measure => first | (simp [intOf]; omega) | (show 130 - _ < _; simp [intOf]; omega)
        · have q6 : ((q : Int) == 128) = false := by rw [beq_eq_false_iff_ne]; omega
          by_cases h129 : q = 129
          · have hs : stepE t (q : Int) = fiveL (q : Int) t.o := by unfold stepE; rw [if_neg q5, if_neg (by omega), if_pos (by omega), show (q : Int) = 129 by omega]
            rw [hs] at hst
            have hxc := hTr.out.cell 21
            rw [H21.out] at hxc
            have hN := HO.out.o
            have q7 : ((q : Int) == 129) = true := by simp; omega
            generalize t.o = x at *
            clear hs h128 h129
            have hb1 : w.heap.size + 1 ≤ wr.heap.size := by have := hE.size; simpa using this
            have HF4 := Lib.hid fun w' => four_any (x) w' hN
            go_wp2_with ((at_builtin; refine wpList_app (e := Ub) (base := w.heap.size + 1) (B := fun _ => False) (A := fun _ => False) rfl _ (.tmp 39) rfl Try.underlying22 info_u8 rfl (OwnS.ext HR.out (by repeat (first | with_reducible exact Ext.refl _ | refine Ext.drewN ?_ _ | refine Ext.drew ?_ | refine Ext.alloc ?_ _ | assumption | (refine Below.trans ?_ (by assumption)) | (refine Ext.trans ?_ (by assumption)) | (refine Below.trans ?_ (Below.mono (by assumption) (by omega)))))) rfl (RI.y (RI.lit .u8 [(q : Int)] _ rfl (by simp))) rfl (fun _ _ h => h.elim) (N := n + 1) (by rw [HN.out]; rfl) (by simp [maxLen]; omega) (by omega) (by simp; omega) ?_; intro A5 c5 w5 o5 M5 B5; have O5 := Lib.hid o5; have E5 : Below (w.heap.size + 1) wr w5 := Below.trans ((Below.refl _ _).alloc hb1 _) B5; clear o5 M5 B5))
            refine (HF4.out _).mono ?_; rintro e w6 ⟨A6, c6, rfl, r6, E6⟩
            have R6 := Lib.hid r6
            have O6 := Lib.hid (O5.out.ext E6)
            have E26 : Below (w.heap.size + 1) wr w6 := Below.trans E5 (E6.mono (by have := E5.size; omega))
            clear r6 E6 O5 E5 HF4
            go_wp2_with (at_builtin; refine wpList_app (e := Ub) (base := w.heap.size + 1) (B := fun _ => False) (A := fun _ => False) rfl _ (.tmp 42) rfl Try.underlying22 info_u8 rfl O6.out rfl (RI.y R6.out) rfl (fun _ _ h => h.elim) (N := n + 5) (by rw [List.length_append, HN.out]; simp [fourL]) (by simp [maxLen]; omega) (by omega) (by have := E26.size; omega) ?_; intro A7 c7 w7 o7 M7 B7)
            have hE7 : Ext (w.alloc (.cells cs 27)) w7 := by
              have h1 : Below (w.heap.size + 1) wr w7 := E26.trans B7
              exact Ext.trans_below hE h1 (by simp)
            go_roundw
            case rel => exact ⟨k + 1, n + 5, c7, A7, by omega, by first | (rw [← hq]; go_num) | (rw [← hq]; congr 1; omega) | (rw [← hq]; simp; omega), rfl, Lib.hid (by rw [hst, List.length_append, HN.out]; simp [fiveL, fourL]), Lib.hid (by rw [hst]; simpa [fiveL] using o7), hE7⟩
            case measure => first | (simp [intOf]; omega) | (show 130 - _ < _; simp [intOf]; omega)
          · have q7 : ((q : Int) == 129) = false := by rw [beq_eq_false_iff_ne]; omega
            cases hfl : flagL (q : Int)
            · have hs : stepE t (q : Int) = [] := by unfold stepE; rw [if_neg q5, if_neg (by omega), if_neg (by omega), hfl]; rfl
              rw [hs, List.append_nil] at hst
              have hFl := Lib.hid fun w' => flag_any (q : Int) w'
              rw [hfl] at hFl
              go_wp2_with ((go_at_call 32; (with_reducible refine (hFl.out _).mono ?_); rintro e w3 ⟨rfl, E3⟩))
              go_roundw
              case rel => exact ⟨k + 1, n, c, A, by omega, by first | (rw [← hq]; go_num) | (rw [← hq]; congr 1; omega) | (rw [← hq]; simp; omega), rfl, Lib.hid (by rw [hst]; exact HN.out), Lib.hid (by rw [hst]; exact HR.out.ext E3), hE.trans E3⟩
              case measure => first | (simp [intOf]; omega) | (show 130 - _ < _; simp [intOf]; omega)
            · have hFl := Lib.hid fun w' => flag_any (q : Int) w'
              rw [hfl] at hFl
              have hH := Lib.hid fun w' => HHAS.out (q : Int) w'
              cases hh : hasL t (q : Int)
              · rw [hh] at hH
                have hs : stepE t (q : Int) = fiveL (q : Int) 0 := by unfold stepE; rw [if_neg q5, if_neg (by omega), if_neg (by omega), hfl, hh]; rfl
                rw [hs] at hst
                go_wp2_with (first | ((go_at_call 32; (with_reducible refine (hFl.out _).mono ?_); rintro e w3 ⟨rfl, E3⟩)) | (refine wpList_load_row rfl 27 _ rfl _ rfl 27 _ _ _ (Blk.ext hTr.out E3) Try.underlying27 rfl hi ?_))
                (with_reducible refine (hH.out _).mono ?_); rintro e w4 ⟨rfl, E4⟩
                have hE := hE.trans (E3.trans E4)
                have HR := Lib.hid (HR.out.ext (E3.trans E4))
                have hN : (0 : Int) ≤ 0 ∧ (0 : Int) < 4294967296 := by omega
                clear E3 E4 hEw hTr hs
                have hb1 : w.heap.size + 1 ≤ w4.heap.size := by have := hE.size; simpa using this
                have HF4 := Lib.hid fun w' => four_any (0) w' hN
                go_wp2_with ((at_builtin; refine wpList_app (e := Ub) (base := w.heap.size + 1) (B := fun _ => False) (A := fun _ => False) rfl _ (.tmp 39) rfl Try.underlying22 info_u8 rfl (OwnS.ext HR.out (by repeat (first | with_reducible exact Ext.refl _ | refine Ext.drewN ?_ _ | refine Ext.drew ?_ | refine Ext.alloc ?_ _ | assumption | (refine Below.trans ?_ (by assumption)) | (refine Ext.trans ?_ (by assumption)) | (refine Below.trans ?_ (Below.mono (by assumption) (by omega)))))) rfl (RI.y (RI.lit .u8 [(q : Int)] _ rfl (by simp))) rfl (fun _ _ h => h.elim) (N := n + 1) (by rw [HN.out]; rfl) (by simp [maxLen]; omega) (by omega) (by simp; omega) ?_; intro A5 c5 w5 o5 M5 B5; have O5 := Lib.hid o5; have E5 : Below (w.heap.size + 1) w4 w5 := Below.trans ((Below.refl _ _).alloc hb1 _) B5; clear o5 M5 B5))
                refine (HF4.out _).mono ?_; rintro e w6 ⟨A6, c6, rfl, r6, E6⟩
                have R6 := Lib.hid r6
                have O6 := Lib.hid (O5.out.ext E6)
                have E26 : Below (w.heap.size + 1) w4 w6 := Below.trans E5 (E6.mono (by have := E5.size; omega))
                clear r6 E6 O5 E5 HF4
                go_wp2_with (at_builtin; refine wpList_app (e := Ub) (base := w.heap.size + 1) (B := fun _ => False) (A := fun _ => False) rfl _ (.tmp 42) rfl Try.underlying22 info_u8 rfl O6.out rfl (RI.y R6.out) rfl (fun _ _ h => h.elim) (N := n + 5) (by rw [List.length_append, HN.out]; simp [fourL]) (by simp [maxLen]; omega) (by omega) (by have := E26.size; omega) ?_; intro A7 c7 w7 o7 M7 B7)
                have hE7 : Ext (w.alloc (.cells cs 27)) w7 := by
                  have h1 : Below (w.heap.size + 1) w4 w7 := E26.trans B7
                  exact Ext.trans_below hE h1 (by simp)
                go_roundw
                case rel => exact ⟨k + 1, n + 5, c7, A7, by omega, by first | (rw [← hq]; go_num) | (rw [← hq]; congr 1; omega) | (rw [← hq]; simp; omega), rfl, Lib.hid (by rw [hst, List.length_append, HN.out]; simp [fiveL, fourL]), Lib.hid (by rw [hst]; simpa [fiveL] using o7), hE7⟩
                case measure => first | (simp [intOf]; omega) | (show 130 - _ < _; simp [intOf]; omega)
              · rw [hh] at hH
                have hs : stepE t (q : Int) = fiveL (q : Int) 1 := by unfold stepE; rw [if_neg q5, if_neg (by omega), if_neg (by omega), hfl, hh]; rfl
                rw [hs] at hst
                go_wp2_with (first | ((go_at_call 32; (with_reducible refine (hFl.out _).mono ?_); rintro e w3 ⟨rfl, E3⟩)) | (refine wpList_load_row rfl 27 _ rfl _ rfl 27 _ _ _ (Blk.ext hTr.out E3) Try.underlying27 rfl hi ?_))
                (with_reducible refine (hH.out _).mono ?_); rintro e w4 ⟨rfl, E4⟩
                have hE := hE.trans (E3.trans E4)
                have HR := Lib.hid (HR.out.ext (E3.trans E4))
                have hN : (0 : Int) ≤ 1 ∧ (1 : Int) < 4294967296 := by omega
                clear E3 E4 hEw hTr hs
                have hb1 : w.heap.size + 1 ≤ w4.heap.size := by have := hE.size; simpa using this
                have HF4 := Lib.hid fun w' => four_any (1) w' hN
                go_wp2_with ((at_builtin; refine wpList_app (e := Ub) (base := w.heap.size + 1) (B := fun _ => False) (A := fun _ => False) rfl _ (.tmp 39) rfl Try.underlying22 info_u8 rfl (OwnS.ext HR.out (by repeat (first | with_reducible exact Ext.refl _ | refine Ext.drewN ?_ _ | refine Ext.drew ?_ | refine Ext.alloc ?_ _ | assumption | (refine Below.trans ?_ (by assumption)) | (refine Ext.trans ?_ (by assumption)) | (refine Below.trans ?_ (Below.mono (by assumption) (by omega)))))) rfl (RI.y (RI.lit .u8 [(q : Int)] _ rfl (by simp))) rfl (fun _ _ h => h.elim) (N := n + 1) (by rw [HN.out]; rfl) (by simp [maxLen]; omega) (by omega) (by simp; omega) ?_; intro A5 c5 w5 o5 M5 B5; have O5 := Lib.hid o5; have E5 : Below (w.heap.size + 1) w4 w5 := Below.trans ((Below.refl _ _).alloc hb1 _) B5; clear o5 M5 B5))
                refine (HF4.out _).mono ?_; rintro e w6 ⟨A6, c6, rfl, r6, E6⟩
                have R6 := Lib.hid r6
                have O6 := Lib.hid (O5.out.ext E6)
                have E26 : Below (w.heap.size + 1) w4 w6 := Below.trans E5 (E6.mono (by have := E5.size; omega))
                clear r6 E6 O5 E5 HF4
                go_wp2_with (at_builtin; refine wpList_app (e := Ub) (base := w.heap.size + 1) (B := fun _ => False) (A := fun _ => False) rfl _ (.tmp 42) rfl Try.underlying22 info_u8 rfl O6.out rfl (RI.y R6.out) rfl (fun _ _ h => h.elim) (N := n + 5) (by rw [List.length_append, HN.out]; simp [fourL]) (by simp [maxLen]; omega) (by omega) (by have := E26.size; omega) ?_; intro A7 c7 w7 o7 M7 B7)
                have hE7 : Ext (w.alloc (.cells cs 27)) w7 := by
                  have h1 : Below (w.heap.size + 1) w4 w7 := E26.trans B7
                  exact Ext.trans_below hE h1 (by simp)
                go_roundw
                case rel => exact ⟨k + 1, n + 5, c7, A7, by omega, by first | (rw [← hq]; go_num) | (rw [← hq]; congr 1; omega) | (rw [← hq]; simp; omega), rfl, Lib.hid (by rw [hst, List.length_append, HN.out]; simp [fiveL, fourL]), Lib.hid (by rw [hst]; simpa [fiveL] using o7), hE7⟩
                case measure => first | (simp [intOf]; omega) | (show 130 - _ < _; simp [intOf]; omega)
    · obtain rfl : k = 129 := by omega
      have hall := HALL.out
      have hb1 : w.heap.size + 1 ≤ wr.heap.size := by have := hE.size; simpa using this
      have hn281 : n + 1 = 281 := by rw [← hlenE, ← hall, List.length_append, HN.out]; rfl
      go_wp2_with (at_builtin; refine wpList_app (e := Ub) (base := w.heap.size + 1) (B := fun _ => False) (A := fun _ => False) rfl _ (.tmp 45) rfl Try.underlying22 info_u8 rfl (OwnS.ext HR.out (by repeat (first | with_reducible exact Ext.refl _ | refine Ext.drewN ?_ _ | refine Ext.drew ?_ | refine Ext.alloc ?_ _ | assumption | (refine Below.trans ?_ (by assumption)) | (refine Ext.trans ?_ (by assumption)) | (refine Below.trans ?_ (Below.mono (by assumption) (by omega)))))) rfl (RI.y (RI.lit .u8 [0] _ rfl (by simp))) rfl (fun _ _ h => h.elim) (N := n + 1) (by rw [HN.out]; rfl) (by simp [maxLen]; omega) (by omega) (by simp; omega) ?_; intro A5 c5 w5 o5 M5 B5)
      go_ret
      refine ⟨A5, c5, by rw [hlenE]; rfl, ?_, ?_⟩
      · rw [hall] at o5
        rw [hlenE, ← hn281]
        exact o5.rdT.ri
      · have h1 : Below (w.heap.size + 1) wr w5 := Below.trans ((Below.refl _ _).alloc hb1 _) B5
        exact Ext.trans ((Ext.refl w).alloc _) (Ext.trans_below hE h1 (by simp))
end Go.Proofs.Ytpngnmokagbekaa
