/- Written by chain.py of +ME17 A11@Ec P11@Ec B11[-rhat_any,-rshow_any]@Ec C11[-line_any,-rline_any,-rstep_any,-rcols_any]@Ec D11[-rrub_any]@Ec. No condition. -/
import Derived.Test.YtfnicinnjkbedaaGreatDoorME17
import Derived.Shelf.Bits.Mul64
import Derived.Lib.MakeNoZero
import Derived.Laws.Externs
import Derived.Laws.CopyOwn
namespace Go.Proofs.YtfnicinnjkbedaaGreatDoor.Ec
set_option maxRecDepth 100000
open Go.RowKit Go.Kb

abbrev Ub : Rep Int := Rep.int .u8
theorem info_u8 : (Tryz.prog.info? 5).map (fun i => (i.zero, i.size, i.bytes)) = some (some (.int .u8 0), Ub.size, 1) := by kernel_rfl
theorem mul64_any (n : Nat) (w : World) (hn : n ≤ 1000000) : Calls Tryz.prog 179 #[.int .u64 3, .int .u64 n] w fun e w' => e = .returned (.tuple #[.int .u64 0, .int .u64 (3 * (n : Int))]) ∧ w = w' := by
  have e1 : bits .and .u64 3 4294967295 = 3 := by decide
  have e2 : bits .and .u64 (n : Int) 4294967295 = n := by rw [Mul64.maskN n (by omega), Nat.mod_eq_of_lt (by omega)]
  have e4 : (n : Int) / 4294967296 = 0 := by omega
  have e5 : 3 * (n : Int) / 4294967296 = 0 := by omega
  have e6 : bits .and .u64 0 4294967295 = 0 := by decide
  have e7 : IntKind.u64.wrap (3 * (n : Int)) = 3 * (n : Int) := by rw [IntKind.wrap_u64]; omega
  go_enter Tryz.func179, Tryz.ntmps179
  go_wp2
  refine bodyPost_ret (v := .tuple #[.int .u64 0, .int .u64 (3 * (n : Int))]) (by simp [results, Tryz.results179, go_sem]) rfl ?_
  exact ⟨rfl, rfl⟩
theorem mul_any (n T : Nat) (w : World) (hn : n ≤ 1000000) (hT : 3 * n = T) : Calls Tryz.prog 172 #[.int .u64 3, .int .u64 n] w fun e w' => e = .returned (.tuple #[.int .u64 0, .int .u64 (T : Int)]) ∧ w = w' := by
  have e : (T : Int) = 3 * (n : Int) := by omega
  rw [e]
  clear e hT
  go_enter Tryz.func172, Tryz.ntmps172
  go_wp2_with ((go_at_call 179; (with_reducible refine (mul64_any n _ hn).mono ?_); rintro e w1 ⟨rfl, rfl⟩))
  refine bodyPost_ret (v := .tuple #[.int .u64 0, .int .u64 (3 * (n : Int))]) (by simp [results, Tryz.results172, go_sem]) rfl ?_
  exact ⟨rfl, rfl⟩
/-- three bytes, so many times -/
def rep3 (n : Nat) : List Int := (List.replicate n [8, 32, 8]).flatten
def pat (i : Nat) : Int := if i % 3 = 1 then 32 else 8
theorem rep3_len (n : Nat) : (rep3 n).length = 3 * n := by
  induction n with
  | zero => rfl
  | succ n ih =>
    have : rep3 (n + 1) = [8, 32, 8] ++ rep3 n := by simp [rep3, List.replicate_succ]
    rw [this, List.length_append, ih]; simp; omega
theorem rep3_at : ∀ (n i : Nat), i < 3 * n → (rep3 n)[i]? = some (pat i)
  | 0, i, h => by omega
  | n + 1, i, h => by
    have e : rep3 (n + 1) = [8, 32, 8] ++ rep3 n := by simp [rep3, List.replicate_succ]
    rw [e]
    rcases i with _ | _ | _ | i
    · rfl
    · rfl
    · rfl
    · rw [List.getElem?_append_right (by simp)]
      have := rep3_at n i (by omega)
      simp only [List.length_cons, List.length_nil]
      rw [show i + 1 + 1 + 1 - (0 + 1 + 1 + 1) = i by omega, this]
      congr 1
      unfold pat
      rw [show (i + 1 + 1 + 1) % 3 = i % 3 by omega]
/-- the first m bytes of a row are the pattern's -/
def Fill (m : Nat) (cur : List Value) : Prop := ∀ i, i < m → cur[i]? = some (.int .u8 (pat i))
theorem Fill.step {m c : Nat} {cur : List Value} (h : Fill m cur) (hc : c ≤ m) (hm : m % 3 = 0) (hl : m + c ≤ cur.length) : Fill (m + c) (splice cur m (cur.take c)) := by
  intro i hi
  have htl : (cur.take c).length = c := by rw [List.length_take]; omega
  have htm : (cur.take m).length = m := by rw [List.length_take]; omega
  unfold splice
  rcases Nat.lt_or_ge i m with h1 | h1
  · rw [List.getElem?_append_left (by rw [List.length_take]; omega), List.getElem?_take, if_pos h1]
    exact h i h1
  · rw [List.getElem?_append_right (by omega), htm, List.getElem?_append_left (by omega), List.getElem?_take, if_pos (by omega)]
    rw [h (i - m) (by omega)]
    unfold pat
    rw [show (i - m) % 3 = i % 3 by omega]
theorem Fill.first (cur : List Value) : Fill 3 (splice cur 0 [.int .u8 8, .int .u8 32, .int .u8 8]) := by
  intro i hi
  unfold splice
  rw [List.take_zero, List.nil_append, List.getElem?_append_left (by simpa using hi)]
  match i, hi with
  | 0, _ => rfl
  | 1, _ => rfl
  | 2, _ => rfl
/-- what a row reads, filled -/
theorem Fill.rd {w : World} {g n T : Nat} {cur : List Value} (h : Fill T cur) (hT : 3 * n = T) (hg : Blk w g 5 cur.toArray) (hb : T ≤ maxLen) : RI .u8 w (.slice (some ⟨g, 0, none⟩) T T) (rep3 n) := by
  subst hT
  refine ⟨by simp, _, _, by rw [rep3_len], by rw [rep3_len]; exact Nat.le_refl _, by exact hb, .inr ⟨g, 0, rfl, fun j u hu => ?_⟩⟩
  rw [List.getElem?_map, Option.map_eq_some_iff] at hu
  obtain ⟨x, hx, rfl⟩ := hu
  have hj : j < 3 * n := by rw [← rep3_len n]; exact (List.getElem?_eq_some_iff.1 hx).1
  rw [rep3_at n j hj] at hx
  cases hx
  rw [hg.cell (0 + j), Nat.zero_add]
  simpa using h j hj
set_option maxRecDepth 100000 in
set_option maxHeartbeats 800000 in
theorem repeat_any (v : Value) (n : Nat) (w : World) (hv : RI .u8 w v [8, 32, 8]) (h1 : 1 ≤ n) (hn : n ≤ 1000000) : Calls Tryz.prog 161 #[v, .int .i64 n] w fun e w' =>
    ∃ g T, e = .returned (.slice (some ⟨g, 0, none⟩) T T) ∧ 3 * n = T ∧ RI .u8 w' (.slice (some ⟨g, 0, none⟩) T T) (rep3 n) ∧ w.heap.size ≤ g ∧ Ext w w' := by
  obtain ⟨Ad, c, rfl, hc1, hc2⟩ := hv.shape
  obtain ⟨b, off, rfl⟩ := hv.addr (by simp)
  have HV := Lib.hid hv
  clear hv
  obtain ⟨T, hT⟩ : ∃ T, 3 * n = T := ⟨_, rfl⟩
  obtain ⟨cs, hrunM, hle, _⟩ := Lib.run_makeNoZero (P := Tryz.prog) w #[3] 27 5 Tryz.underlying27 T (by omega)
  have hcall : (callFunc 164 #[.int .i64 (T : Int)]).run Tryz.prog w = .ok (.value (.slice (some ⟨w.heap.size, 0, none⟩) T cs.size)) ((w.alloc (.cells cs 5)).drewN 2) := by
    rw [run_callFunc_extern Tryz.func164 (by kernel_rfl) (by kernel_rfl) (by kernel_rfl) (e := Extern.BytealgMakeNoZero.makeNoZero #[3] #[27]) (by kernel_rfl), hrunM]
    rfl
  clear hrunM
  have n0 : ((n : Int) == 0) = false := by rw [beq_eq_false_iff_ne]; omega
  have n1 : ¬ (n : Int) < 0 := by omega
  have n2 : IntKind.u64.wrap (n : Int) = n := by rw [IntKind.wrap_u64]; omega
  have n3 : ¬ (9223372036854775807 : Int) < (T : Int) := by omega
  have n4 : IntKind.i64.wrap (T : Int) = (T : Int) := IntWalk.i64_in _ (by omega)
  have i0 : (0 : Int) ≤ (T : Int) := by omega
  have i1 : (T : Int) ≤ (cs.size : Int) := by omega
  have h3T : 3 ≤ T := by omega
  have HT := Lib.hid hT
  have hTb : T ≤ 3000000 := by omega
  clear hT
  have hlc : [8, 32, 8].length = 3 := rfl
  have HC0 : Hid (∀ (j : Nat) u, [Value.int .u8 8, .int .u8 32, .int .u8 8][j]? = some u → ((w.alloc (.cells cs 5)).drewN 2).cell? ⟨b, off + j, none⟩ = some u) := Lib.hid fun j u hu => by
    obtain ⟨_, A', c', hv, _, _, hA⟩ := HV.out
    simp only [Value.slice.injEq] at hv
    obtain ⟨hv1, hv2, hv3⟩ := hv
    rcases hA with h0 | ⟨b', off', h0, hc⟩
    · rw [← hv3] at h0; simp at hc1; omega
    · rw [h0] at hv1
      simp only [Option.some.injEq, Addr.mk.injEq] at hv1
      obtain ⟨rfl, rfl, _⟩ := hv1
      have := hc j u hu
      rw [(((Ext.refl w).alloc (.cells cs 5)).drewN 2).cell b _ (World.block_lt_of_cell? w _ this)]
      exact this
  have HG0 : Hid (((w.alloc (.cells cs 5)).drewN 2).heap[w.heap.size]? = some (.cells cs.toList.toArray 5 (0, 0))) := Lib.hid (by
    have := Blk.new w 5 cs
    simpa [Blk] using this)
  have HE0 : Hid (Below w.heap.size w ((w.alloc (.cells cs 5)).drewN 2)) := Lib.hid (((Ext.refl w).alloc _).drewN 2)
  clear HV hlc
  by_cases hbig : 8192 < T
  · have hdec : decide ((8192 : Int) < (T : Int)) = true := decide_eq_true (by omega)
    have hdec2 : decide ((9223372036854775807 : Int) < (T : Int)) = false := decide_eq_false (by omega)
    go_enter Tryz.func161, Tryz.ntmps161
    go_wp2_with (first | ((go_at_call 172; (with_reducible refine (mul_any n T _ hn HT.out).mono ?_); rintro e w1 ⟨rfl, rfl⟩)) | (refine wpList_copy_splice rfl (.tmp 58) (.tmp 59) 27 27 rfl 5 Tryz.underlying27 (by kernel_rfl) (some ⟨w.heap.size, 0, none⟩) (some ⟨b, off, none⟩) T T 3 c rfl rfl w.heap.size 0 cs.toList 5 HG0.out [.int .u8 8, .int .u8 32, .int .u8 8] (show 3 = Nat.min 3 T from (Nat.min_eq_left h3T).symm) (fun _ => ⟨rfl, ⟨b, off, none⟩, rfl, fun j u hu => by rw [Addr.add_lit]; exact HC0.out j u hu⟩) (by simp; omega) (by simp [Value.oneCell']) w.heap.size w HE0.out (Nat.le_refl _) ?_; intro w2 H2 B2))
    have HF2 : Hid (Fill 3 (splice cs.toList 0 [.int .u8 8, .int .u8 32, .int .u8 8])) := Lib.hid (Fill.first _)
    have HL2 : Hid (T ≤ (splice cs.toList 0 [.int .u8 8, .int .u8 32, .int .u8 8]).length) := Lib.hid (by rw [length_splice _ _ _ (by simp; omega)]; simpa using hle)
    clear hcall HC0 HG0
    go_loopw [10] (fun x wr => ∃ (m : Nat) (cur : List Value), x = .int .i64 m ∧ 3 ≤ m ∧ m ≤ T ∧ m % 3 = 0 ∧ Hid (Blk wr w.heap.size 5 cur.toArray) ∧ Hid (Fill m cur) ∧ Hid (T ≤ cur.length) ∧ Ext w wr) (fun x _ => T - (intOf x).toNat)
    case atStart => exact ⟨3, _, by simp, Nat.le_refl _, by omega, rfl, Lib.hid H2.out, HF2, HL2, B2⟩
    case round =>
      clear HF2 HL2 H2 B2
      obtain ⟨m, cur, rfl, hm3, hmT, hmm, HB, HF, HL, hE⟩ := hrel
      by_cases hlt : m < T
      · have hne : ¬ (T = m) := by omega
        obtain ⟨ch, hch, hch2, hch3, hch4⟩ : ∃ ch : Nat, ((m : Int) ≤ 8190 ∧ ch = m ∨ ¬ ((m : Int) ≤ 8190) ∧ (ch : Int) = 8190) ∧ ch ≤ m ∧ ch % 3 = 0 ∧ 0 < ch := by
          by_cases hc : (m : Int) ≤ 8190
          · exact ⟨m, .inl ⟨hc, rfl⟩, Nat.le_refl _, hmm, by omega⟩
          · exact ⟨8190, .inr ⟨hc, rfl⟩, by omega, (by decide), by omega⟩
        obtain ⟨q, hq⟩ : ∃ q, Nat.min ch (T - m) = q := ⟨_, rfl⟩
        have hq1 : q ≤ ch ∧ q ≤ T - m ∧ (q = ch ∨ q = T - m) := by rw [← hq]; simp only [Nat.min_def]; split <;> omega
        have HTq := HT.out
        have hq3 : q % 3 = 0 := by omega
        have hq4 : 0 < q := by omega
        have HQ := Lib.hid hq
        have hlc := HL.out
        have hct : (cur.take q).length = q := by rw [List.length_take]; omega
        have HF' : Hid (Fill (m + q) (splice cur m (cur.take q))) := Lib.hid (HF.out.step (by omega) hmm (by omega))
        have HL' : Hid (T ≤ (splice cur m (cur.take q)).length) := Lib.hid (by rw [length_splice _ _ _ (by omega)]; exact hlc)
        have HO' : Hid (∀ v ∈ cur.take q, v.oneCell' = true) := Lib.hid (fun v hv => by
          obtain ⟨i, hi, rfl⟩ := List.getElem_of_mem hv
          have h1 : (cur.take q)[i]? = some ((cur.take q)[i]) := List.getElem?_eq_getElem hi
          rw [List.getElem?_take] at h1
          have hiq : i < q := by omega
          rw [if_pos hiq, HF.out i (by omega)] at h1
          rw [← Option.some.inj h1]; rfl)
        have HCC : Hid (∀ (j : Nat) u, (cur.take q)[j]? = some u → wr.drew.cell? ⟨w.heap.size, j, none⟩ = some u) := Lib.hid fun j u hu => by
          show wr.cell? ⟨w.heap.size, j, none⟩ = some u
          rw [HB.out.cell j]
          rw [List.getElem?_take] at hu
          split at hu
          · simpa using hu
          · cases hu
        clear hq HTq
        have k1 : (0 : Int) ≤ (m : Int) := by omega
        have k2 : (m : Int) ≤ (T : Int) := by omega
        have k3 : (0 : Int) ≤ (ch : Int) := by omega
        have k4 : (ch : Int) ≤ (T : Int) := by omega
        have k5 : IntKind.i64.wrap ((m : Int) + (q : Int)) = (m : Int) + (q : Int) := IntWalk.i64_in _ (by omega)
        rcases hch with ⟨hcc, hce⟩ | ⟨hcc, hce⟩
        · have hce' : m = ch := hce.symm
          subst hce'
          go_wp2
          refine wp_region_held_drew (S := fun w' => Ext w w') (by kernel_rfl) (by repeat (first | with_reducible exact Ext.refl _ | refine Ext.drewN ?_ _ | refine Ext.drew ?_ | refine Ext.alloc ?_ _ | assumption | (refine Below.trans ?_ (by assumption)) | (refine Ext.trans ?_ (by assumption)) | (refine Below.trans ?_ (Below.mono (by assumption) (by omega))))) (fun hHeld => ?_)
          (refine wpAnyH_take (i := 0) (v := ?_) rfl (by kernel_rfl) (by kernel_rfl) (by kernel_rfl) (fun _ _ _ h => h) (Or.inl ⟨by rfl, ?_⟩) (by assumption) ?_; rotate_left; (focus (intro w' hSw; go_simp; try with_reducible rfl)); (try simp only [List.getElem_toArray]); (try simp only [List.getElem_cons_succ]); (try simp only [List.getElem_cons_zero]); (try simp only [Act.put]); (try simp only [List.setIfInBounds_toArray]); (try simp only [List.set_cons_succ]); (try simp only [List.set_cons_zero]))
          (refine wpAnyH_take (i := 1) (v := ?_) rfl (by kernel_rfl) (by kernel_rfl) (by kernel_rfl) (fun _ _ _ h => h) (Or.inl ⟨by rfl, ?_⟩) (by assumption) ?_; rotate_left; (focus (intro w' hSw; go_simp; try with_reducible rfl)); (try simp only [List.getElem_toArray]); (try simp only [List.getElem_cons_succ]); (try simp only [List.getElem_cons_zero]); (try simp only [Act.put]); (try simp only [List.setIfInBounds_toArray]); (try simp only [List.set_cons_succ]); (try simp only [List.set_cons_zero]))
          (refine wpAnyH_take (i := 2) (v := ?_) rfl (by kernel_rfl) (by kernel_rfl) (by kernel_rfl) (fun _ _ _ h => h) (Or.inl ⟨by rfl, ?_⟩) (by assumption) ?_; rotate_left; (focus (intro w' hSw; go_simp; try with_reducible rfl)); (try simp only [List.getElem_toArray]); (try simp only [List.getElem_cons_succ]); (try simp only [List.getElem_cons_zero]); (try simp only [Act.put]); (try simp only [List.setIfInBounds_toArray]); (try simp only [List.set_cons_succ]); (try simp only [List.set_cons_zero]))
          (refine wpAnyH_take (i := 3) (v := ?_) rfl (by kernel_rfl) (by kernel_rfl) (by kernel_rfl) (fun _ _ _ h => h) (Or.inl ⟨by rfl, ?_⟩) (by assumption) ?_; rotate_left; (focus (intro w' hSw; go_simp; try with_reducible rfl)); (try simp only [List.getElem_toArray]); (try simp only [List.getElem_cons_succ]); (try simp only [List.getElem_cons_zero]); (try simp only [Act.put]); (try simp only [List.setIfInBounds_toArray]); (try simp only [List.set_cons_succ]); (try simp only [List.set_cons_zero]))
          (refine wpAnyH_take (i := 4) (v := ?_) rfl (by kernel_rfl) (by kernel_rfl) (by kernel_rfl) (fun _ _ _ h => h) (Or.inl ⟨by rfl, ?_⟩) (by assumption) ?_; rotate_left; (focus (intro w' hSw; go_simp; try with_reducible rfl)); (try simp only [List.getElem_toArray]); (try simp only [List.getElem_cons_succ]); (try simp only [List.getElem_cons_zero]); (try simp only [Act.put]); (try simp only [List.setIfInBounds_toArray]); (try simp only [List.set_cons_succ]); (try simp only [List.set_cons_zero]))
          (refine wpAnyH_take (i := 5) (v := ?_) rfl (by kernel_rfl) (by kernel_rfl) (by kernel_rfl) (fun _ _ _ h => h) (Or.inl ⟨by rfl, ?_⟩) (by assumption) ?_; rotate_left; (focus (intro w' hSw; go_simp; try with_reducible rfl)); (try simp only [List.getElem_toArray]); (try simp only [List.getElem_cons_succ]); (try simp only [List.getElem_cons_zero]); (try simp only [Act.put]); (try simp only [List.setIfInBounds_toArray]); (try simp only [List.set_cons_succ]); (try simp only [List.set_cons_zero]))
          (refine wpAnyH_take (i := 6) (v := ?_) rfl (by kernel_rfl) (by kernel_rfl) (by kernel_rfl) (fun _ _ _ h => h) (Or.inl ⟨by rfl, ?_⟩) (by assumption) ?_; rotate_left; (focus (intro w' hSw; go_simp; try with_reducible rfl)); (try simp only [List.getElem_toArray]); (try simp only [List.getElem_cons_succ]); (try simp only [List.getElem_cons_zero]); (try simp only [Act.put]); (try simp only [List.setIfInBounds_toArray]); (try simp only [List.set_cons_succ]); (try simp only [List.set_cons_zero]))
          refine wpAnyH_ready (rs := [7]) (by kernel_rfl) (by simp) ?_
          refine AllReadyH.cons rfl (fun K hK => ?_) AllReadyH.nil
          refine step_copy_splice rfl (.tmp 70) (.tmp 73) 27 27 rfl 5 Tryz.underlying27 (by kernel_rfl) (some ⟨w.heap.size, m, none⟩) (some ⟨w.heap.size, 0, none⟩) (T - m) (T - m) m T rfl rfl w.heap.size m cur 5 HB.out (cur.take q) (by rw [hct]; exact HQ.out.symm) (fun _ => ⟨rfl, ⟨w.heap.size, 0, none⟩, rfl, fun j u hu => by rw [Addr.add_lit, Nat.zero_add]; exact HCC.out j u hu⟩) (by omega) HO'.out w.heap.size w hHeld (Nat.le_refl _) ?_
          intro w4 H4 B4
          refine hK.out _ _ B4 (fun hHeld => ?_)
          clear hK K
          (try simp only [List.getElem_toArray]); (try simp only [List.getElem_cons_succ]); (try simp only [List.getElem_cons_zero]); (try simp only [Act.put]); (try simp only [List.setIfInBounds_toArray]); (try simp only [List.set_cons_succ]); (try simp only [List.set_cons_zero])
          try simp only [goInt, hct]
          (refine wpAnyH_take (i := 8) (v := ?_) rfl (by kernel_rfl) (by kernel_rfl) (by kernel_rfl) (fun _ _ _ h => h) (Or.inl ⟨by rfl, ?_⟩) (by assumption) ?_; rotate_left; (focus (intro w' hSw; go_simp; try with_reducible rfl)); (try simp only [List.getElem_toArray]); (try simp only [List.getElem_cons_succ]); (try simp only [List.getElem_cons_zero]); (try simp only [Act.put]); (try simp only [List.setIfInBounds_toArray]); (try simp only [List.set_cons_succ]); (try simp only [List.set_cons_zero]))
          (refine wpAnyH_take (i := 9) (v := ?_) rfl (by kernel_rfl) (by kernel_rfl) (by kernel_rfl) (fun _ _ _ h => h) (Or.inl ⟨by rfl, ?_⟩) (by assumption) ?_; rotate_left; (focus (intro w' hSw; go_simp; try with_reducible rfl)); (try simp only [List.getElem_toArray]); (try simp only [List.getElem_cons_succ]); (try simp only [List.getElem_cons_zero]); (try simp only [Act.put]); (try simp only [List.setIfInBounds_toArray]); (try simp only [List.set_cons_succ]); (try simp only [List.set_cons_zero]))
          refine wpAnyH_done (by kernel_rfl) ?_ _
          go_roundw
          case rel => ((repeat apply Exists.intro); exact ⟨⟨m + q, _, by go_num, by omega, by omega, by omega, Lib.hid H4.out, HF', HL', hHeld⟩, rfl⟩)
          case measure => simp [intOf]; omega
        · have hce' : 8190 = ch := by omega
          subst hce'
          have k8 : 8190 ≤ (T : Int) := by omega
          go_wp2
          refine wp_region_held_drew (S := fun w' => Ext w w') (by kernel_rfl) (by repeat (first | with_reducible exact Ext.refl _ | refine Ext.drewN ?_ _ | refine Ext.drew ?_ | refine Ext.alloc ?_ _ | assumption | (refine Below.trans ?_ (by assumption)) | (refine Ext.trans ?_ (by assumption)) | (refine Below.trans ?_ (Below.mono (by assumption) (by omega))))) (fun hHeld => ?_)
          (refine wpAnyH_take (i := 0) (v := ?_) rfl (by kernel_rfl) (by kernel_rfl) (by kernel_rfl) (fun _ _ _ h => h) (Or.inl ⟨by rfl, ?_⟩) (by assumption) ?_; rotate_left; (focus (intro w' hSw; go_simp; try with_reducible rfl)); (try simp only [List.getElem_toArray]); (try simp only [List.getElem_cons_succ]); (try simp only [List.getElem_cons_zero]); (try simp only [Act.put]); (try simp only [List.setIfInBounds_toArray]); (try simp only [List.set_cons_succ]); (try simp only [List.set_cons_zero]))
          (refine wpAnyH_take (i := 1) (v := ?_) rfl (by kernel_rfl) (by kernel_rfl) (by kernel_rfl) (fun _ _ _ h => h) (Or.inl ⟨by rfl, ?_⟩) (by assumption) ?_; rotate_left; (focus (intro w' hSw; go_simp; try with_reducible rfl)); (try simp only [List.getElem_toArray]); (try simp only [List.getElem_cons_succ]); (try simp only [List.getElem_cons_zero]); (try simp only [Act.put]); (try simp only [List.setIfInBounds_toArray]); (try simp only [List.set_cons_succ]); (try simp only [List.set_cons_zero]))
          (refine wpAnyH_take (i := 2) (v := ?_) rfl (by kernel_rfl) (by kernel_rfl) (by kernel_rfl) (fun _ _ _ h => h) (Or.inl ⟨by rfl, ?_⟩) (by assumption) ?_; rotate_left; (focus (intro w' hSw; go_simp; try with_reducible rfl)); (try simp only [List.getElem_toArray]); (try simp only [List.getElem_cons_succ]); (try simp only [List.getElem_cons_zero]); (try simp only [Act.put]); (try simp only [List.setIfInBounds_toArray]); (try simp only [List.set_cons_succ]); (try simp only [List.set_cons_zero]))
          (refine wpAnyH_take (i := 3) (v := ?_) rfl (by kernel_rfl) (by kernel_rfl) (by kernel_rfl) (fun _ _ _ h => h) (Or.inl ⟨by rfl, ?_⟩) (by assumption) ?_; rotate_left; (focus (intro w' hSw; go_simp; try with_reducible rfl)); (try simp only [List.getElem_toArray]); (try simp only [List.getElem_cons_succ]); (try simp only [List.getElem_cons_zero]); (try simp only [Act.put]); (try simp only [List.setIfInBounds_toArray]); (try simp only [List.set_cons_succ]); (try simp only [List.set_cons_zero]))
          (refine wpAnyH_take (i := 4) (v := ?_) rfl (by kernel_rfl) (by kernel_rfl) (by kernel_rfl) (fun _ _ _ h => h) (Or.inl ⟨by rfl, ?_⟩) (by assumption) ?_; rotate_left; (focus (intro w' hSw; go_simp; try with_reducible rfl)); (try simp only [List.getElem_toArray]); (try simp only [List.getElem_cons_succ]); (try simp only [List.getElem_cons_zero]); (try simp only [Act.put]); (try simp only [List.setIfInBounds_toArray]); (try simp only [List.set_cons_succ]); (try simp only [List.set_cons_zero]))
          (refine wpAnyH_take (i := 5) (v := ?_) rfl (by kernel_rfl) (by kernel_rfl) (by kernel_rfl) (fun _ _ _ h => h) (Or.inl ⟨by rfl, ?_⟩) (by assumption) ?_; rotate_left; (focus (intro w' hSw; go_simp; try with_reducible rfl)); (try simp only [List.getElem_toArray]); (try simp only [List.getElem_cons_succ]); (try simp only [List.getElem_cons_zero]); (try simp only [Act.put]); (try simp only [List.setIfInBounds_toArray]); (try simp only [List.set_cons_succ]); (try simp only [List.set_cons_zero]))
          (refine wpAnyH_take (i := 6) (v := ?_) rfl (by kernel_rfl) (by kernel_rfl) (by kernel_rfl) (fun _ _ _ h => h) (Or.inl ⟨by rfl, ?_⟩) (by assumption) ?_; rotate_left; (focus (intro w' hSw; go_simp; try with_reducible rfl)); (try simp only [List.getElem_toArray]); (try simp only [List.getElem_cons_succ]); (try simp only [List.getElem_cons_zero]); (try simp only [Act.put]); (try simp only [List.setIfInBounds_toArray]); (try simp only [List.set_cons_succ]); (try simp only [List.set_cons_zero]))
          refine wpAnyH_ready (rs := [7]) (by kernel_rfl) (by simp) ?_
          refine AllReadyH.cons rfl (fun K hK => ?_) AllReadyH.nil
          refine step_copy_splice rfl (.tmp 70) (.tmp 73) 27 27 rfl 5 Tryz.underlying27 (by kernel_rfl) (some ⟨w.heap.size, m, none⟩) (some ⟨w.heap.size, 0, none⟩) (T - m) (T - m) 8190 T rfl rfl w.heap.size m cur 5 HB.out (cur.take q) (by rw [hct]; exact HQ.out.symm) (fun _ => ⟨rfl, ⟨w.heap.size, 0, none⟩, rfl, fun j u hu => by rw [Addr.add_lit, Nat.zero_add]; exact HCC.out j u hu⟩) (by omega) HO'.out w.heap.size w hHeld (Nat.le_refl _) ?_
          intro w4 H4 B4
          refine hK.out _ _ B4 (fun hHeld => ?_)
          clear hK K
          (try simp only [List.getElem_toArray]); (try simp only [List.getElem_cons_succ]); (try simp only [List.getElem_cons_zero]); (try simp only [Act.put]); (try simp only [List.setIfInBounds_toArray]); (try simp only [List.set_cons_succ]); (try simp only [List.set_cons_zero])
          try simp only [goInt, hct]
          (refine wpAnyH_take (i := 8) (v := ?_) rfl (by kernel_rfl) (by kernel_rfl) (by kernel_rfl) (fun _ _ _ h => h) (Or.inl ⟨by rfl, ?_⟩) (by assumption) ?_; rotate_left; (focus (intro w' hSw; go_simp; try with_reducible rfl)); (try simp only [List.getElem_toArray]); (try simp only [List.getElem_cons_succ]); (try simp only [List.getElem_cons_zero]); (try simp only [Act.put]); (try simp only [List.setIfInBounds_toArray]); (try simp only [List.set_cons_succ]); (try simp only [List.set_cons_zero]))
          (refine wpAnyH_take (i := 9) (v := ?_) rfl (by kernel_rfl) (by kernel_rfl) (by kernel_rfl) (fun _ _ _ h => h) (Or.inl ⟨by rfl, ?_⟩) (by assumption) ?_; rotate_left; (focus (intro w' hSw; go_simp; try with_reducible rfl)); (try simp only [List.getElem_toArray]); (try simp only [List.getElem_cons_succ]); (try simp only [List.getElem_cons_zero]); (try simp only [Act.put]); (try simp only [List.setIfInBounds_toArray]); (try simp only [List.set_cons_succ]); (try simp only [List.set_cons_zero]))
          refine wpAnyH_done (by kernel_rfl) ?_ _
          go_roundw
          case rel => ((repeat apply Exists.intro); exact ⟨⟨m + q, _, by go_num, by omega, by omega, by omega, Lib.hid H4.out, HF', HL', hHeld⟩, rfl⟩)
          case measure => simp [intOf]; omega
      · obtain rfl : T = m := by omega
        go_wp2
        go_ret
        exact ⟨_, _, rfl, HT.out, HF.out.rd HT.out HB.out (by unfold maxLen; omega), Nat.le_refl _, hE⟩
  · have hdec : decide ((8192 : Int) < (T : Int)) = false := decide_eq_false (by omega)
    have hdec2 : decide ((9223372036854775807 : Int) < (T : Int)) = false := decide_eq_false (by omega)
    go_enter Tryz.func161, Tryz.ntmps161
    go_wp2_with (first | ((go_at_call 172; (with_reducible refine (mul_any n T _ hn HT.out).mono ?_); rintro e w1 ⟨rfl, rfl⟩)) | (refine wpList_copy_splice rfl (.tmp 58) (.tmp 59) 27 27 rfl 5 Tryz.underlying27 (by kernel_rfl) (some ⟨w.heap.size, 0, none⟩) (some ⟨b, off, none⟩) T T 3 c rfl rfl w.heap.size 0 cs.toList 5 HG0.out [.int .u8 8, .int .u8 32, .int .u8 8] (show 3 = Nat.min 3 T from (Nat.min_eq_left h3T).symm) (fun _ => ⟨rfl, ⟨b, off, none⟩, rfl, fun j u hu => by rw [Addr.add_lit]; exact HC0.out j u hu⟩) (by simp; omega) (by simp [Value.oneCell']) w.heap.size w HE0.out (Nat.le_refl _) ?_; intro w2 H2 B2))
    have HF2 : Hid (Fill 3 (splice cs.toList 0 [.int .u8 8, .int .u8 32, .int .u8 8])) := Lib.hid (Fill.first _)
    have HL2 : Hid (T ≤ (splice cs.toList 0 [.int .u8 8, .int .u8 32, .int .u8 8]).length) := Lib.hid (by rw [length_splice _ _ _ (by simp; omega)]; simpa using hle)
    clear hcall HC0 HG0
    go_loopw [10] (fun x wr => ∃ (m : Nat) (cur : List Value), x = .int .i64 m ∧ 3 ≤ m ∧ m ≤ T ∧ m % 3 = 0 ∧ Hid (Blk wr w.heap.size 5 cur.toArray) ∧ Hid (Fill m cur) ∧ Hid (T ≤ cur.length) ∧ Ext w wr) (fun x _ => T - (intOf x).toNat)
    case atStart => exact ⟨3, _, by simp, Nat.le_refl _, by omega, rfl, Lib.hid H2.out, HF2, HL2, B2⟩
    case round =>
      clear HF2 HL2 H2 B2
      obtain ⟨m, cur, rfl, hm3, hmT, hmm, HB, HF, HL, hE⟩ := hrel
      by_cases hlt : m < T
      · have hne : ¬ (T = m) := by omega
        obtain ⟨ch, hch, hch2, hch3, hch4⟩ : ∃ ch : Nat, ((m : Int) ≤ (T : Int) ∧ ch = m ∨ ¬ ((m : Int) ≤ (T : Int)) ∧ (ch : Int) = (T : Int)) ∧ ch ≤ m ∧ ch % 3 = 0 ∧ 0 < ch := by
          by_cases hc : (m : Int) ≤ (T : Int)
          · exact ⟨m, .inl ⟨hc, rfl⟩, Nat.le_refl _, hmm, by omega⟩
          · exact ⟨T, .inr ⟨hc, rfl⟩, by omega, (by have := HT.out; omega), by omega⟩
        obtain ⟨q, hq⟩ : ∃ q, Nat.min ch (T - m) = q := ⟨_, rfl⟩
        have hq1 : q ≤ ch ∧ q ≤ T - m ∧ (q = ch ∨ q = T - m) := by rw [← hq]; simp only [Nat.min_def]; split <;> omega
        have HTq := HT.out
        have hq3 : q % 3 = 0 := by omega
        have hq4 : 0 < q := by omega
        have HQ := Lib.hid hq
        have hlc := HL.out
        have hct : (cur.take q).length = q := by rw [List.length_take]; omega
        have HF' : Hid (Fill (m + q) (splice cur m (cur.take q))) := Lib.hid (HF.out.step (by omega) hmm (by omega))
        have HL' : Hid (T ≤ (splice cur m (cur.take q)).length) := Lib.hid (by rw [length_splice _ _ _ (by omega)]; exact hlc)
        have HO' : Hid (∀ v ∈ cur.take q, v.oneCell' = true) := Lib.hid (fun v hv => by
          obtain ⟨i, hi, rfl⟩ := List.getElem_of_mem hv
          have h1 : (cur.take q)[i]? = some ((cur.take q)[i]) := List.getElem?_eq_getElem hi
          rw [List.getElem?_take] at h1
          have hiq : i < q := by omega
          rw [if_pos hiq, HF.out i (by omega)] at h1
          rw [← Option.some.inj h1]; rfl)
        have HCC : Hid (∀ (j : Nat) u, (cur.take q)[j]? = some u → wr.drew.cell? ⟨w.heap.size, j, none⟩ = some u) := Lib.hid fun j u hu => by
          show wr.cell? ⟨w.heap.size, j, none⟩ = some u
          rw [HB.out.cell j]
          rw [List.getElem?_take] at hu
          split at hu
          · simpa using hu
          · cases hu
        clear hq HTq
        have k1 : (0 : Int) ≤ (m : Int) := by omega
        have k2 : (m : Int) ≤ (T : Int) := by omega
        have k3 : (0 : Int) ≤ (ch : Int) := by omega
        have k4 : (ch : Int) ≤ (T : Int) := by omega
        have k5 : IntKind.i64.wrap ((m : Int) + (q : Int)) = (m : Int) + (q : Int) := IntWalk.i64_in _ (by omega)
        rcases hch with ⟨hcc, hce⟩ | ⟨hcc, hce⟩
        · have hce' : m = ch := hce.symm
          subst hce'
          go_wp2
          refine wp_region_held_drew (S := fun w' => Ext w w') (by kernel_rfl) (by repeat (first | with_reducible exact Ext.refl _ | refine Ext.drewN ?_ _ | refine Ext.drew ?_ | refine Ext.alloc ?_ _ | assumption | (refine Below.trans ?_ (by assumption)) | (refine Ext.trans ?_ (by assumption)) | (refine Below.trans ?_ (Below.mono (by assumption) (by omega))))) (fun hHeld => ?_)
          (refine wpAnyH_take (i := 0) (v := ?_) rfl (by kernel_rfl) (by kernel_rfl) (by kernel_rfl) (fun _ _ _ h => h) (Or.inl ⟨by rfl, ?_⟩) (by assumption) ?_; rotate_left; (focus (intro w' hSw; go_simp; try with_reducible rfl)); (try simp only [List.getElem_toArray]); (try simp only [List.getElem_cons_succ]); (try simp only [List.getElem_cons_zero]); (try simp only [Act.put]); (try simp only [List.setIfInBounds_toArray]); (try simp only [List.set_cons_succ]); (try simp only [List.set_cons_zero]))
          (refine wpAnyH_take (i := 1) (v := ?_) rfl (by kernel_rfl) (by kernel_rfl) (by kernel_rfl) (fun _ _ _ h => h) (Or.inl ⟨by rfl, ?_⟩) (by assumption) ?_; rotate_left; (focus (intro w' hSw; go_simp; try with_reducible rfl)); (try simp only [List.getElem_toArray]); (try simp only [List.getElem_cons_succ]); (try simp only [List.getElem_cons_zero]); (try simp only [Act.put]); (try simp only [List.setIfInBounds_toArray]); (try simp only [List.set_cons_succ]); (try simp only [List.set_cons_zero]))
          (refine wpAnyH_take (i := 2) (v := ?_) rfl (by kernel_rfl) (by kernel_rfl) (by kernel_rfl) (fun _ _ _ h => h) (Or.inl ⟨by rfl, ?_⟩) (by assumption) ?_; rotate_left; (focus (intro w' hSw; go_simp; try with_reducible rfl)); (try simp only [List.getElem_toArray]); (try simp only [List.getElem_cons_succ]); (try simp only [List.getElem_cons_zero]); (try simp only [Act.put]); (try simp only [List.setIfInBounds_toArray]); (try simp only [List.set_cons_succ]); (try simp only [List.set_cons_zero]))
          (refine wpAnyH_take (i := 3) (v := ?_) rfl (by kernel_rfl) (by kernel_rfl) (by kernel_rfl) (fun _ _ _ h => h) (Or.inl ⟨by rfl, ?_⟩) (by assumption) ?_; rotate_left; (focus (intro w' hSw; go_simp; try with_reducible rfl)); (try simp only [List.getElem_toArray]); (try simp only [List.getElem_cons_succ]); (try simp only [List.getElem_cons_zero]); (try simp only [Act.put]); (try simp only [List.setIfInBounds_toArray]); (try simp only [List.set_cons_succ]); (try simp only [List.set_cons_zero]))
          (refine wpAnyH_take (i := 4) (v := ?_) rfl (by kernel_rfl) (by kernel_rfl) (by kernel_rfl) (fun _ _ _ h => h) (Or.inl ⟨by rfl, ?_⟩) (by assumption) ?_; rotate_left; (focus (intro w' hSw; go_simp; try with_reducible rfl)); (try simp only [List.getElem_toArray]); (try simp only [List.getElem_cons_succ]); (try simp only [List.getElem_cons_zero]); (try simp only [Act.put]); (try simp only [List.setIfInBounds_toArray]); (try simp only [List.set_cons_succ]); (try simp only [List.set_cons_zero]))
          (refine wpAnyH_take (i := 5) (v := ?_) rfl (by kernel_rfl) (by kernel_rfl) (by kernel_rfl) (fun _ _ _ h => h) (Or.inl ⟨by rfl, ?_⟩) (by assumption) ?_; rotate_left; (focus (intro w' hSw; go_simp; try with_reducible rfl)); (try simp only [List.getElem_toArray]); (try simp only [List.getElem_cons_succ]); (try simp only [List.getElem_cons_zero]); (try simp only [Act.put]); (try simp only [List.setIfInBounds_toArray]); (try simp only [List.set_cons_succ]); (try simp only [List.set_cons_zero]))
          (refine wpAnyH_take (i := 6) (v := ?_) rfl (by kernel_rfl) (by kernel_rfl) (by kernel_rfl) (fun _ _ _ h => h) (Or.inl ⟨by rfl, ?_⟩) (by assumption) ?_; rotate_left; (focus (intro w' hSw; go_simp; try with_reducible rfl)); (try simp only [List.getElem_toArray]); (try simp only [List.getElem_cons_succ]); (try simp only [List.getElem_cons_zero]); (try simp only [Act.put]); (try simp only [List.setIfInBounds_toArray]); (try simp only [List.set_cons_succ]); (try simp only [List.set_cons_zero]))
          refine wpAnyH_ready (rs := [7]) (by kernel_rfl) (by simp) ?_
          refine AllReadyH.cons rfl (fun K hK => ?_) AllReadyH.nil
          refine step_copy_splice rfl (.tmp 70) (.tmp 73) 27 27 rfl 5 Tryz.underlying27 (by kernel_rfl) (some ⟨w.heap.size, m, none⟩) (some ⟨w.heap.size, 0, none⟩) (T - m) (T - m) m T rfl rfl w.heap.size m cur 5 HB.out (cur.take q) (by rw [hct]; exact HQ.out.symm) (fun _ => ⟨rfl, ⟨w.heap.size, 0, none⟩, rfl, fun j u hu => by rw [Addr.add_lit, Nat.zero_add]; exact HCC.out j u hu⟩) (by omega) HO'.out w.heap.size w hHeld (Nat.le_refl _) ?_
          intro w4 H4 B4
          refine hK.out _ _ B4 (fun hHeld => ?_)
          clear hK K
          (try simp only [List.getElem_toArray]); (try simp only [List.getElem_cons_succ]); (try simp only [List.getElem_cons_zero]); (try simp only [Act.put]); (try simp only [List.setIfInBounds_toArray]); (try simp only [List.set_cons_succ]); (try simp only [List.set_cons_zero])
          try simp only [goInt, hct]
          (refine wpAnyH_take (i := 8) (v := ?_) rfl (by kernel_rfl) (by kernel_rfl) (by kernel_rfl) (fun _ _ _ h => h) (Or.inl ⟨by rfl, ?_⟩) (by assumption) ?_; rotate_left; (focus (intro w' hSw; go_simp; try with_reducible rfl)); (try simp only [List.getElem_toArray]); (try simp only [List.getElem_cons_succ]); (try simp only [List.getElem_cons_zero]); (try simp only [Act.put]); (try simp only [List.setIfInBounds_toArray]); (try simp only [List.set_cons_succ]); (try simp only [List.set_cons_zero]))
          (refine wpAnyH_take (i := 9) (v := ?_) rfl (by kernel_rfl) (by kernel_rfl) (by kernel_rfl) (fun _ _ _ h => h) (Or.inl ⟨by rfl, ?_⟩) (by assumption) ?_; rotate_left; (focus (intro w' hSw; go_simp; try with_reducible rfl)); (try simp only [List.getElem_toArray]); (try simp only [List.getElem_cons_succ]); (try simp only [List.getElem_cons_zero]); (try simp only [Act.put]); (try simp only [List.setIfInBounds_toArray]); (try simp only [List.set_cons_succ]); (try simp only [List.set_cons_zero]))
          refine wpAnyH_done (by kernel_rfl) ?_ _
          go_roundw
          case rel => ((repeat apply Exists.intro); exact ⟨⟨m + q, _, by go_num, by omega, by omega, by omega, Lib.hid H4.out, HF', HL', hHeld⟩, rfl⟩)
          case measure => simp [intOf]; omega
        · exfalso; omega
      · obtain rfl : T = m := by omega
        go_wp2
        go_ret
        exact ⟨_, _, rfl, HT.out, HF.out.rd HT.out HB.out (by unfold maxLen; omega), Nat.le_refl _, hE⟩
end Go.Proofs.YtfnicinnjkbedaaGreatDoor.Ec
namespace Go.Proofs.YtfnicinnjkbedaaGreatDoor.Ec
set_option maxRecDepth 100000
open Go.RowKit Go.Kb

theorem Bs.take {l : List Int} (h : Bs l) (k : Nat) : Bs (l.take k) := fun x hx => h x (List.mem_of_mem_take hx)
theorem Bs.drop {l : List Int} (h : Bs l) (k : Nat) : Bs (l.drop k) := fun x hx => h x (List.mem_of_mem_drop hx)
theorem Bs.one {c : Int} (h : 0 ≤ c ∧ c ≤ 255) : Bs [c] := fun x hx => by
  rw [List.mem_singleton.1 hx]; exact h
def colL (col : Int) : Int := if col < 0 ∨ 65535 < col then 0 else col
theorem colL_bd (col : Int) : 0 ≤ colL col ∧ colL col ≤ 65535 := by unfold colL; split <;> omega
theorem colL_id {col : Int} (h : 0 ≤ col ∧ col ≤ 65535) : colL col = col := by unfold colL; rw [if_neg (by omega)]
/-- is a byte one without a sign? -/
def quietL (c : Int) : Bool := decide (c < 32 ∨ c = 127)
/-- is it shown by two? ('e': ECHOCTL) -/
def hatL (e : Bool) (c : Int) : Bool := quietL c && c != 9 && c != 10 && e
theorem hatL_eq (e : Bool) (c : Int) : hatL e c = if (c < 32 ∨ c = 127) ∧ c ≠ 9 ∧ c ≠ 10 ∧ e = true then true else false := by
  unfold hatL quietL
  rw [Bool.eq_iff_iff]
  simp only [Bool.and_eq_true, decide_eq_true_eq, bne_iff_ne]
  split <;> simp_all
def showL (e : Bool) (c : Int) : List Int := if hatL e c = true then [94, if c = 127 then 63 else c + 64] else [c]
/-- the column behind a byte ('u': IUTF8) -/
def moveL (e u : Bool) (col c : Int) : Int :=
  if c = 9 then (col / 8 + 1) * 8 else if hatL e c = true then col + 2 else if c < 32 ∨ c = 127 then col else if u = true ∧ 128 ≤ c ∧ c ≤ 191 then col else col + 1
def stepL (e u : Bool) (col c : Int) : Int := moveL e u (colL col) c
def colsL (e u : Bool) (col : Int) (l : List Int) : Int := l.foldl (stepL e u) (colL col)
def lineL (e : Bool) (l : List Int) : List Int := l.flatMap (showL e)
theorem moveL_bd {e u : Bool} {col c : Int} : col ≤ moveL e u col c ∧ moveL e u col c ≤ col + 8 := by
  unfold moveL
  repeat' split
  all_goals omega
theorem stepL_bd {e u : Bool} {col c : Int} : 0 ≤ stepL e u col c ∧ stepL e u col c ≤ colL col + 8 := by
  have h1 := moveL_bd (e := e) (u := u) (col := colL col) (c := c)
  have h2 := colL_bd col
  unfold stepL
  omega
theorem colsL_nil (e u : Bool) (col : Int) : colsL e u col [] = colL col := rfl
theorem colsL_snoc (e u : Bool) (col : Int) (l : List Int) (c : Int) : colsL e u col (l ++ [c]) = stepL e u (colsL e u col l) c := by
  simp [colsL, List.foldl_append]
theorem colsL_succ {e u : Bool} {col : Int} {l : List Int} {k : Nat} {c : Int} (h : l[k]? = some c) : colsL e u col (l.take (k + 1)) = stepL e u (colsL e u col (l.take k)) c := by
  rw [take_succ_of h, colsL_snoc]
theorem snoc_ind {P : List Int → Prop} (h0 : P []) (h1 : ∀ l c, P l → P (l ++ [c])) (l : List Int) : P l := by
  have : ∀ n, n ≤ l.length → P (l.take n) := by
    intro n
    induction n with
    | zero => intro _; simpa using h0
    | succ n ih =>
      intro hn
      rw [take_succ_of (List.getElem?_eq_getElem (by omega : n < l.length))]
      exact h1 _ _ (ih (by omega))
  have h := this l.length (Nat.le_refl _)
  rwa [List.take_length] at h
/-- where nothing gets near the bound -/
theorem colsL_bd (e u : Bool) (col : Int) (l : List Int) (hn : colL col + 8 * l.length ≤ 65535) : colL col ≤ colsL e u col l ∧ colsL e u col l ≤ colL col + 8 * l.length := by
  induction l using snoc_ind with
  | h0 => rw [colsL_nil]; simp
  | h1 l c ih =>
    have hb := colL_bd col
    rw [List.length_append, List.length_cons, List.length_nil] at hn ⊢
    have ih' := ih (by omega)
    rw [colsL_snoc]
    have h1 := moveL_bd (e := e) (u := u) (col := colsL e u col l) (c := c)
    unfold stepL
    rw [colL_id (col := colsL e u col l) (by omega)]
    omega
theorem colsL_any (e u : Bool) (col : Int) (l : List Int) : 0 ≤ colsL e u col l ∧ colsL e u col l ≤ 65543 := by
  induction l using snoc_ind with
  | h0 => have := colL_bd col; rw [colsL_nil]; omega
  | h1 l c ih =>
    rw [colsL_snoc]
    have h := stepL_bd (e := e) (u := u) (col := colsL e u col l) (c := c)
    have h2 := colL_bd (colsL e u col l)
    omega
theorem colsL_append (e u : Bool) (col : Int) (a b : List Int) (hn : colL col + 8 * a.length ≤ 65535) : colsL e u col (a ++ b) = colsL e u (colsL e u col a) b := by
  have h := colsL_bd e u col a hn
  have hb := colL_bd col
  unfold colsL at h ⊢
  rw [List.foldl_append, colL_id (col := List.foldl (stepL e u) (colL col) a) (by omega)]
theorem lineL_nil (e : Bool) : lineL e [] = [] := rfl
theorem lineL_succ {e : Bool} {l : List Int} {k : Nat} {c : Int} (h : l[k]? = some c) : lineL e (l.take (k + 1)) = lineL e (l.take k) ++ showL e c := by
  rw [take_succ_of h]
  simp [lineL]
theorem showL_len (e : Bool) (c : Int) : (showL e c).length ≤ 2 := by
  unfold showL; split <;> simp
theorem lineL_len (e : Bool) (l : List Int) : (lineL e l).length ≤ 2 * l.length := by
  induction l with
  | nil => simp [lineL]
  | cons c l ih =>
    have := showL_len e c
    have e1 : lineL e (c :: l) = showL e c ++ lineL e l := by simp [lineL]
    rw [e1, List.length_append, List.length_cons]; omega
theorem lineL_off (l : List Int) : lineL false l = l := by
  induction l with
  | nil => rfl
  | cons c l ih =>
    have e1 : lineL false (c :: l) = showL false c ++ lineL false l := by simp [lineL]
    rw [e1, ih]
    simp [showL, hatL]
theorem lineL_on {l : List Int} (hB : Bs l) {x : Int} (hx : x ∈ lineL true l) : ¬ (x < 32 ∧ x ≠ 9 ∧ x ≠ 10) ∧ x ≠ 127 := by
  simp only [lineL, List.mem_flatMap] at hx
  obtain ⟨c, hc, hx⟩ := hx
  have hb := hB c hc
  unfold showL at hx
  by_cases h : hatL true c = true
  · rw [if_pos h] at hx
    simp [hatL, quietL] at h
    simp only [List.mem_cons, List.not_mem_nil, or_false] at hx
    rcases hx with rfl | hx
    · omega
    · split at hx <;> omega
  · rw [if_neg h] at hx
    simp [hatL, quietL] at h
    simp only [List.mem_cons, List.not_mem_nil, or_false] at hx
    subst hx
    omega
theorem rep3_add (m n : Nat) : rep3 (m + n) = rep3 m ++ rep3 n := by
  induction m with
  | zero => simp [rep3]
  | succ m ih =>
    have e1 : rep3 (m + 1 + n) = [8, 32, 8] ++ rep3 (m + n) := by rw [show m + 1 + n = (m + n) + 1 by omega]; simp [rep3, List.replicate_succ]
    have e2 : rep3 (m + 1) = [8, 32, 8] ++ rep3 m := by simp [rep3, List.replicate_succ]
    rw [e1, e2, ih, List.append_assoc]
theorem rep3_succ (n : Nat) : rep3 (n + 1) = rep3 n ++ [8, 32, 8] := by
  rw [rep3_add]; rfl
end Go.Proofs.YtfnicinnjkbedaaGreatDoor.Ec
namespace Go.Proofs.YtfnicinnjkbedaaGreatDoor.Ec
set_option maxRecDepth 100000
open Go.RowKit Go.Kb

theorem quiet_any (c : Int) (w : World) : Calls Tryz.prog 156 #[.int .u8 c] w fun e w' => e = .returned (.bool (quietL c)) ∧ w = w' := by
  by_cases h1 : c < 32
  · have e : quietL c = true := by simp [quietL, h1]
    rw [e]
    go_enter Tryz.func156, Tryz.ntmps156
    go_wp2
    go_ret
    exact ⟨rfl, rfl⟩
  · by_cases h2 : c = 127
    · subst h2
      go_enter Tryz.func156, Tryz.ntmps156
      go_wp2
      go_ret
      exact ⟨rfl, rfl⟩
    · have e : quietL c = false := by simp [quietL, h1, h2]
      have i2 : (c == 127) = false := by simpa using h2
      rw [e]
      clear h2
      go_enter Tryz.func156, Tryz.ntmps156
      go_wp2
      go_ret
      exact ⟨rfl, rfl⟩
set_option maxHeartbeats 400000 in
theorem hat_any (t : Tm) (c : Int) (w : World) (ht : t.Ok) : Calls Tryz.prog 138 #[.agg t.arr, .int .u8 c] w fun e w' => e = .returned (.bool (hatL (hasL t 60) c)) ∧ Ext w w' := by
  have hn := t.size ht
  have h60 := fun w' => has_any t 60 w' ht
  have hq := fun w' => quiet_any c w'
  have hf : hatL (hasL t 60) c = (quietL c && c != 9 && c != 10 && hasL t 60) := rfl
  obtain ⟨z, hz0⟩ : ∃ z, hatL (hasL t 60) c = z := ⟨_, rfl⟩; rw [hz0]; have HZ := Lib.hid (hz0.symm.trans hf); clear hz0 hf
  generalize hasL t 60 = e at *
  generalize quietL c = q at *
  generalize t.arr = cs at *
  clear ht
  have hi : (Tryz.prog.info? 26).map (·.size) = some cs.size := by rw [hn]; kernel_rfl
  have hT := Lib.hid (Blk.new w 26 cs)
  cases q
  · have HZ : Hid (z = false) := Lib.hid (by rw [HZ.out]; rfl)
    go_enter Tryz.func138, Tryz.ntmps138
    go_wp2_with ((go_at_call 156; (with_reducible refine (hq _).mono ?_); rintro e w1 ⟨rfl, rfl⟩))
    go_ret
    exact ⟨by rw [HZ.out]; rfl, (by repeat (first | with_reducible exact Ext.refl _ | refine Ext.drewN ?_ _ | refine Ext.drew ?_ | refine Ext.alloc ?_ _ | assumption | (refine Below.trans ?_ (by assumption)) | (refine Ext.trans ?_ (by assumption)) | (refine Below.trans ?_ (Below.mono (by assumption) (by omega)))))⟩
  · by_cases h9 : c = 9
    · subst h9
      have HZ : Hid (z = false) := Lib.hid (by rw [HZ.out]; rfl)
      go_enter Tryz.func138, Tryz.ntmps138
      go_wp2_with ((go_at_call 156; (with_reducible refine (hq _).mono ?_); rintro e w1 ⟨rfl, rfl⟩))
      go_ret
      exact ⟨by rw [HZ.out]; rfl, (by repeat (first | with_reducible exact Ext.refl _ | refine Ext.drewN ?_ _ | refine Ext.drew ?_ | refine Ext.alloc ?_ _ | assumption | (refine Below.trans ?_ (by assumption)) | (refine Ext.trans ?_ (by assumption)) | (refine Below.trans ?_ (Below.mono (by assumption) (by omega)))))⟩
    · have i9 : (c != 9) = true := by simpa using h9
      by_cases h10 : c = 10
      · subst h10
        have HZ : Hid (z = false) := Lib.hid (by rw [HZ.out]; rfl)
        clear h9 i9
        go_enter Tryz.func138, Tryz.ntmps138
        go_wp2_with ((go_at_call 156; (with_reducible refine (hq _).mono ?_); rintro e w1 ⟨rfl, rfl⟩))
        go_ret
        exact ⟨by rw [HZ.out]; rfl, (by repeat (first | with_reducible exact Ext.refl _ | refine Ext.drewN ?_ _ | refine Ext.drew ?_ | refine Ext.alloc ?_ _ | assumption | (refine Below.trans ?_ (by assumption)) | (refine Ext.trans ?_ (by assumption)) | (refine Below.trans ?_ (Below.mono (by assumption) (by omega)))))⟩
      · have i10 : (c != 10) = true := by simpa using h10
        have HZ : Hid (z = e) := Lib.hid (by rw [HZ.out, i9, i10]; rfl)
        clear h9 h10
        go_enter Tryz.func138, Tryz.ntmps138
        go_wp2_with (first | ((go_at_call 156; (with_reducible refine (hq _).mono ?_); rintro e w1 ⟨rfl, rfl⟩)) | (refine wpList_openG rfl rfl ?_; (refine wpList_load_row rfl 26 _ rfl _ rfl 26 _ _ _ (Blk.ext hT.out (by repeat (first | with_reducible exact Ext.refl _ | refine Ext.drewN ?_ _ | refine Ext.drew ?_ | refine Ext.alloc ?_ _ | assumption | (refine Below.trans ?_ (by assumption)) | (refine Ext.trans ?_ (by assumption)) | (refine Below.trans ?_ (Below.mono (by assumption) (by omega)))))) Tryz.underlying26 rfl hi ?_)))
        (with_reducible refine (h60 _).mono ?_); rintro e w2 ⟨rfl, E2⟩
        go_wp2
        go_ret
        exact ⟨by rw [HZ.out]; simp, (by repeat (first | with_reducible exact Ext.refl _ | refine Ext.drewN ?_ _ | refine Ext.drew ?_ | refine Ext.alloc ?_ _ | assumption | (refine Below.trans ?_ (by assumption)) | (refine Ext.trans ?_ (by assumption)) | (refine Below.trans ?_ (Below.mono (by assumption) (by omega)))))⟩
/-- bytes that may be read -/
def RPost (w : World) (l : List Int) (e : Ending) (w' : World) : Prop := ∃ A n c, l.length = n ∧ e = .returned (.slice A n c) ∧ RI .u8 w' (.slice A n c) l ∧ Ext w w'
/-- bytes of the call's own -/
def OPost (w : World) (l : List Int) (e : Ending) (w' : World) : Prop :=
  ∃ A n c, l.length = n ∧ e = .returned (.slice A n c) ∧ OwnS Ub 5 w.heap.size (fun _ => False) w' (.slice A n c) l ∧ Ext w w'
theorem xor64 : ∀ n : Nat, n < 256 → (n < 32 ∨ n = 127) → bits .xor .u8 (n : Int) 64 = if (n : Int) = 127 then 63 else (n : Int) + 64 := by decide +kernel
theorem hat_q {e : Bool} {c : Int} (h : hatL e c = true) : c < 32 ∨ c = 127 := by
  rw [hatL_eq] at h
  by_cases g : (c < 32 ∨ c = 127) ∧ c ≠ 9 ∧ c ≠ 10 ∧ e = true
  · exact g.1
  · rw [if_neg g] at h; cases h
set_option maxHeartbeats 400000 in
theorem show_any (t : Tm) (c : Int) (w : World) (ht : t.Ok) (hc : 0 ≤ c ∧ c ≤ 255) : Calls Tryz.prog 115 #[.agg t.arr, .int .u8 c] w (OPost w (showL (hasL t 60) c)) := by
  have hn := t.size ht
  have hh := fun w' => hat_any t c w' ht
  have hq := hat_q (e := hasL t 60) (c := c)
  have hf : showL (hasL t 60) c = if hatL (hasL t 60) c = true then [94, if c = 127 then 63 else c + 64] else [c] := rfl
  obtain ⟨z, hz0⟩ : ∃ z, showL (hasL t 60) c = z := ⟨_, rfl⟩; rw [hz0]; have HZ := Lib.hid (hz0.symm.trans hf); clear hz0 hf
  generalize hatL (hasL t 60) c = q at *
  generalize t.arr = cs at *
  clear ht
  have hi : (Tryz.prog.info? 26).map (·.size) = some cs.size := by rw [hn]; kernel_rfl
  have hT := Lib.hid (Blk.new w 26 cs)
  cases q
  · replace HZ := Lib.hid (HZ.out.trans (if_neg (by decide)))
    clear hq
    go_enter Tryz.func115, Tryz.ntmps115
    go_wp2_with ((refine wpList_load_row rfl 26 _ rfl _ rfl 26 _ _ _ (Blk.ext hT.out (by repeat (first | with_reducible exact Ext.refl _ | refine Ext.drewN ?_ _ | refine Ext.drew ?_ | refine Ext.alloc ?_ _ | assumption | (refine Below.trans ?_ (by assumption)) | (refine Ext.trans ?_ (by assumption)) | (refine Below.trans ?_ (Below.mono (by assumption) (by omega)))))) Tryz.underlying26 rfl hi ?_))
    (with_reducible refine (hh _).mono ?_); rintro e w1 ⟨rfl, E1⟩
    go_wp2
    go_ret
    have z1 := E1.size
    exact ⟨_, 1, 1, by rw [HZ.out]; rfl, rfl, by rw [HZ.out]; exact OwnS.litB (e := Ub) (A := fun _ => False) (RdE.ints (k := .u8) (l := [c])) (Blk.at_ _ _ (by simp)) (fun _ _ h => h.elim) (by simp at z1 ⊢; omega) rfl (by simp), (by repeat (first | with_reducible exact Ext.refl _ | refine Ext.drewN ?_ _ | refine Ext.drew ?_ | refine Ext.alloc ?_ _ | assumption | (refine Below.trans ?_ (by assumption)) | (refine Ext.trans ?_ (by assumption)) | (refine Below.trans ?_ (Below.mono (by assumption) (by omega)))))⟩
  · replace HZ := Lib.hid (HZ.out.trans (if_pos rfl))
    have hx : bits .xor .u8 c 64 = if c = 127 then 63 else c + 64 := by
      have := hq rfl
      obtain ⟨n, rfl⟩ := Int.eq_ofNat_of_zero_le hc.1
      exact xor64 n (by omega) (by omega)
    generalize (if c = 127 then 63 else c + 64 : Int) = x at *
    have HX := Lib.hid hx
    clear hq hx
    go_enter Tryz.func115, Tryz.ntmps115
    go_wp2_with ((refine wpList_load_row rfl 26 _ rfl _ rfl 26 _ _ _ (Blk.ext hT.out (by repeat (first | with_reducible exact Ext.refl _ | refine Ext.drewN ?_ _ | refine Ext.drew ?_ | refine Ext.alloc ?_ _ | assumption | (refine Below.trans ?_ (by assumption)) | (refine Ext.trans ?_ (by assumption)) | (refine Below.trans ?_ (Below.mono (by assumption) (by omega)))))) Tryz.underlying26 rfl hi ?_))
    (with_reducible refine (hh _).mono ?_); rintro e w1 ⟨rfl, E1⟩
    go_wp2
    go_ret
    have z1 := E1.size
    exact ⟨_, 2, 2, by rw [HZ.out]; rfl, rfl, by rw [HZ.out, ← HX.out]; exact OwnS.litB (e := Ub) (A := fun _ => False) (RdE.ints (k := .u8) (l := [94, bits .xor .u8 c 64])) (Blk.at_ _ _ (by simp)) (fun _ _ h => h.elim) (by simp at z1 ⊢; omega) rfl (by simp), (by repeat (first | with_reducible exact Ext.refl _ | refine Ext.drewN ?_ _ | refine Ext.drew ?_ | refine Ext.alloc ?_ _ | assumption | (refine Below.trans ?_ (by assumption)) | (refine Ext.trans ?_ (by assumption)) | (refine Below.trans ?_ (Below.mono (by assumption) (by omega)))))⟩
end Go.Proofs.YtfnicinnjkbedaaGreatDoor.Ec
namespace Go.Proofs.YtfnicinnjkbedaaGreatDoor.Ec
set_option maxRecDepth 100000
open Go.RowKit Go.Kb

theorem column_any (col : Int) (w : World) : Calls Tryz.prog 170 #[.int .i64 col] w fun e w' => e = .returned (.int .i64 (colL col)) ∧ w = w' := by
  unfold colL
  by_cases h : col < 0 ∨ 65535 < col
  · rw [if_pos h]
    rcases h with h | h
    · go_enter Tryz.func170, Tryz.ntmps170
      go_wp2
      go_ret
      exact ⟨rfl, rfl⟩
    · have h0 : ¬ col < 0 := by omega
      go_enter Tryz.func170, Tryz.ntmps170
      go_wp2
      go_ret
      exact ⟨rfl, rfl⟩
  · rw [if_neg h]
    have h0 : ¬ col < 0 := by omega
    have h1 : ¬ 65535 < col := by omega
    clear h
    go_enter Tryz.func170, Tryz.ntmps170
    go_wp2
    go_ret
    exact ⟨rfl, rfl⟩
theorem and192 : ∀ n : Nat, n < 256 → (bits .and .u8 (n : Int) 192 == 128) = decide (128 ≤ (n : Int) ∧ (n : Int) ≤ 191) := by decide +kernel
set_option maxHeartbeats 800000 in
theorem step_any (t : Tm) (col c : Int) (w : World) (ht : t.Ok) (hc : 0 ≤ c ∧ c ≤ 255) : Calls Tryz.prog 171 #[.agg t.arr, .int .i64 col, .int .u8 c] w fun e w' => e = .returned (.int .i64 (stepL (hasL t 60) (hasL t 42) col c)) ∧ Ext w w' := by
  have hn := t.size ht
  have hh := fun w' => hat_any t c w' ht
  have h42 := fun w' => has_any t 42 w' ht
  have hcl := fun w' => column_any col w'
  have hqu := fun w' => quiet_any c w'
  have hqd : quietL c = decide (c < 32 ∨ c = 127) := rfl
  have hkb := colL_bd col
  have hf : stepL (hasL t 60) (hasL t 42) col c = if c = 9 then (colL col / 8 + 1) * 8 else if hatL (hasL t 60) c = true then colL col + 2 else if c < 32 ∨ c = 127 then colL col else if hasL t 42 = true ∧ 128 ≤ c ∧ c ≤ 191 then colL col else colL col + 1 := rfl
  obtain ⟨z, hz0⟩ : ∃ z, stepL (hasL t 60) (hasL t 42) col c = z := ⟨_, rfl⟩; rw [hz0]; have HZ := Lib.hid (hz0.symm.trans hf); clear hz0 hf
  generalize hatL (hasL t 60) c = q at *
  generalize hasL t 42 = u at *
  generalize colL col = k at *
  generalize t.arr = cs at *
  clear ht
  obtain ⟨hk0, hk1⟩ := hkb
  have hi : (Tryz.prog.info? 26).map (·.size) = some cs.size := by rw [hn]; kernel_rfl
  have hT := Lib.hid (Blk.new w 26 cs)
  by_cases h9 : c = 9
  · subst h9
    replace HZ := Lib.hid (HZ.out.trans (if_pos rfl))
    clear hqd hqu
    go_enter Tryz.func171, Tryz.ntmps171
    go_wp2_with ((go_at_call 170; (with_reducible refine (hcl _).mono ?_); rintro e w1 ⟨rfl, rfl⟩))
    go_ret
    exact ⟨ret_int (by rw [HZ.out]; omega), (by repeat (first | with_reducible exact Ext.refl _ | refine Ext.drewN ?_ _ | refine Ext.drew ?_ | refine Ext.alloc ?_ _ | assumption | (refine Below.trans ?_ (by assumption)) | (refine Ext.trans ?_ (by assumption)) | (refine Below.trans ?_ (Below.mono (by assumption) (by omega)))))⟩
  · replace HZ := Lib.hid (HZ.out.trans (if_neg h9))
    have i9 : (c == 9) = false := by simpa using h9
    clear h9
    cases q
    · replace HZ := Lib.hid (HZ.out.trans (if_neg (by decide)))
      by_cases hq : c < 32 ∨ c = 127
      · replace HZ := Lib.hid (HZ.out.trans (if_pos hq))
        rw [decide_eq_true hq] at hqd
        rw [hqd] at hqu
        clear hqd hq
        go_enter Tryz.func171, Tryz.ntmps171
        go_wp2_with (first | ((go_at_call 170; (with_reducible refine (hcl _).mono ?_); rintro e w1 ⟨rfl, rfl⟩)) | (refine wpList_load_row rfl 26 _ rfl _ rfl 26 _ _ _ (Blk.ext hT.out (by repeat (first | with_reducible exact Ext.refl _ | refine Ext.drewN ?_ _ | refine Ext.drew ?_ | refine Ext.alloc ?_ _ | assumption | (refine Below.trans ?_ (by assumption)) | (refine Ext.trans ?_ (by assumption)) | (refine Below.trans ?_ (Below.mono (by assumption) (by omega)))))) Tryz.underlying26 rfl hi ?_))
        (with_reducible refine (hh _).mono ?_); rintro e w2 ⟨rfl, E2⟩
        go_wp2_with ((go_at_call 156; (with_reducible refine (hqu _).mono ?_); rintro e w3 ⟨rfl, rfl⟩))
        go_ret
        exact ⟨by rw [HZ.out]; rfl, (by repeat (first | with_reducible exact Ext.refl _ | refine Ext.drewN ?_ _ | refine Ext.drew ?_ | refine Ext.alloc ?_ _ | assumption | (refine Below.trans ?_ (by assumption)) | (refine Ext.trans ?_ (by assumption)) | (refine Below.trans ?_ (Below.mono (by assumption) (by omega)))))⟩
      · replace HZ := Lib.hid (HZ.out.trans (if_neg hq))
        rw [decide_eq_false hq] at hqd
        rw [hqd] at hqu
        have h192 : (bits .and .u8 c 192 == 128) = decide (128 ≤ c ∧ c ≤ 191) := by
          obtain ⟨n, rfl⟩ := Int.eq_ofNat_of_zero_le hc.1
          exact and192 n (by omega)
        clear hqd hq
        by_cases hin : 128 ≤ c ∧ c ≤ 191
        · rw [decide_eq_true hin] at h192
          go_enter Tryz.func171, Tryz.ntmps171
          go_wp2_with (first | ((go_at_call 170; (with_reducible refine (hcl _).mono ?_); rintro e w1 ⟨rfl, rfl⟩)) | (refine wpList_load_row rfl 26 _ rfl _ rfl 26 _ _ _ (Blk.ext hT.out (by repeat (first | with_reducible exact Ext.refl _ | refine Ext.drewN ?_ _ | refine Ext.drew ?_ | refine Ext.alloc ?_ _ | assumption | (refine Below.trans ?_ (by assumption)) | (refine Ext.trans ?_ (by assumption)) | (refine Below.trans ?_ (Below.mono (by assumption) (by omega)))))) Tryz.underlying26 rfl hi ?_))
          (with_reducible refine (hh _).mono ?_); rintro e w2 ⟨rfl, E2⟩
          go_wp2_with (first | ((go_at_call 156; (with_reducible refine (hqu _).mono ?_); rintro e w3 ⟨rfl, rfl⟩)) | (refine wpList_openG rfl rfl ?_; (refine wpList_load_row rfl 26 _ rfl _ rfl 26 _ _ _ (Blk.ext hT.out (by repeat (first | with_reducible exact Ext.refl _ | refine Ext.drewN ?_ _ | refine Ext.drew ?_ | refine Ext.alloc ?_ _ | assumption | (refine Below.trans ?_ (by assumption)) | (refine Ext.trans ?_ (by assumption)) | (refine Below.trans ?_ (Below.mono (by assumption) (by omega)))))) Tryz.underlying26 rfl hi ?_)))
          (with_reducible refine (h42 _).mono ?_); rintro e w4 ⟨rfl, E4⟩
          cases u
          · replace HZ := Lib.hid (HZ.out.trans (if_neg (fun h => by cases h.1)))
            go_wp2
            go_ret
            exact ⟨by rw [HZ.out]; rfl, (by repeat (first | with_reducible exact Ext.refl _ | refine Ext.drewN ?_ _ | refine Ext.drew ?_ | refine Ext.alloc ?_ _ | assumption | (refine Below.trans ?_ (by assumption)) | (refine Ext.trans ?_ (by assumption)) | (refine Below.trans ?_ (Below.mono (by assumption) (by omega)))))⟩
          · replace HZ := Lib.hid (HZ.out.trans (if_pos ⟨by trivial, hin.1, hin.2⟩))
            go_wp2
            go_ret
            exact ⟨by rw [HZ.out]; rfl, (by repeat (first | with_reducible exact Ext.refl _ | refine Ext.drewN ?_ _ | refine Ext.drew ?_ | refine Ext.alloc ?_ _ | assumption | (refine Below.trans ?_ (by assumption)) | (refine Ext.trans ?_ (by assumption)) | (refine Below.trans ?_ (Below.mono (by assumption) (by omega)))))⟩
        · rw [decide_eq_false hin] at h192
          replace HZ := Lib.hid (HZ.out.trans (if_neg (fun h => hin h.2)))
          clear hin
          go_enter Tryz.func171, Tryz.ntmps171
          go_wp2_with (first | ((go_at_call 170; (with_reducible refine (hcl _).mono ?_); rintro e w1 ⟨rfl, rfl⟩)) | (refine wpList_load_row rfl 26 _ rfl _ rfl 26 _ _ _ (Blk.ext hT.out (by repeat (first | with_reducible exact Ext.refl _ | refine Ext.drewN ?_ _ | refine Ext.drew ?_ | refine Ext.alloc ?_ _ | assumption | (refine Below.trans ?_ (by assumption)) | (refine Ext.trans ?_ (by assumption)) | (refine Below.trans ?_ (Below.mono (by assumption) (by omega)))))) Tryz.underlying26 rfl hi ?_))
          (with_reducible refine (hh _).mono ?_); rintro e w2 ⟨rfl, E2⟩
          go_wp2_with ((go_at_call 156; (with_reducible refine (hqu _).mono ?_); rintro e w3 ⟨rfl, rfl⟩))
          go_ret
          exact ⟨by rw [HZ.out]; rfl, (by repeat (first | with_reducible exact Ext.refl _ | refine Ext.drewN ?_ _ | refine Ext.drew ?_ | refine Ext.alloc ?_ _ | assumption | (refine Below.trans ?_ (by assumption)) | (refine Ext.trans ?_ (by assumption)) | (refine Below.trans ?_ (Below.mono (by assumption) (by omega)))))⟩
    · replace HZ := Lib.hid (HZ.out.trans (if_pos rfl))
      clear hqd hqu
      go_enter Tryz.func171, Tryz.ntmps171
      go_wp2_with (first | ((go_at_call 170; (with_reducible refine (hcl _).mono ?_); rintro e w1 ⟨rfl, rfl⟩)) | (refine wpList_load_row rfl 26 _ rfl _ rfl 26 _ _ _ (Blk.ext hT.out (by repeat (first | with_reducible exact Ext.refl _ | refine Ext.drewN ?_ _ | refine Ext.drew ?_ | refine Ext.alloc ?_ _ | assumption | (refine Below.trans ?_ (by assumption)) | (refine Ext.trans ?_ (by assumption)) | (refine Below.trans ?_ (Below.mono (by assumption) (by omega)))))) Tryz.underlying26 rfl hi ?_))
      (with_reducible refine (hh _).mono ?_); rintro e w2 ⟨rfl, E2⟩
      go_wp2
      go_ret
      exact ⟨by rw [HZ.out]; rfl, (by repeat (first | with_reducible exact Ext.refl _ | refine Ext.drewN ?_ _ | refine Ext.drew ?_ | refine Ext.alloc ?_ _ | assumption | (refine Below.trans ?_ (by assumption)) | (refine Ext.trans ?_ (by assumption)) | (refine Below.trans ?_ (Below.mono (by assumption) (by omega)))))⟩
set_option maxHeartbeats 800000 in
theorem cols_any (t : Tm) (col : Int) (v : Value) (l : List Int) (w : World) (ht : t.Ok) (hl : RI .u8 w v l) (hB : Bs l) : Calls Tryz.prog 160 #[.agg t.arr, .int .i64 col, v] w fun e w' => e = .returned (.int .i64 (colsL (hasL t 60) (hasL t 42) col l)) ∧ Ext w w' := by
  have hn := t.size ht
  have hS := fun col c w' hc => step_any t col c w' ht hc
  generalize hasL t 60 = e at *
  generalize hasL t 42 = u at *
  generalize t.arr = cs at *
  clear ht
  obtain ⟨Ad, c, rfl, h1, h2⟩ := hl.shape
  have H := Lib.hid hl
  have HB := Lib.hid hB
  have HS := Lib.hid hS
  clear hS hl hB
  have hi : (Tryz.prog.info? 26).map (·.size) = some cs.size := by rw [hn]; kernel_rfl
  have hT := Lib.hid (Blk.new w 26 cs)
  go_enter Tryz.func160, Tryz.ntmps160
  go_wp2_with ((go_at_call 170; (with_reducible refine (column_any _ _).mono ?_); rintro e w1 ⟨rfl, rfl⟩))
  go_loopw [1, 13] (fun x i wr => ∃ k : Nat, k ≤ l.length ∧ i = .int .i64 k ∧ x = .int .i64 (colsL e u col (l.take k)) ∧ Ext (w.alloc (.cells cs 26)) wr) (fun _ i _ => l.length - (intOf i).toNat)
  case atStart => exact ⟨0, Nat.zero_le _, rfl, rfl, (by repeat (first | with_reducible exact Ext.refl _ | refine Ext.drewN ?_ _ | refine Ext.drew ?_ | refine Ext.alloc ?_ _ | assumption | (refine Below.trans ?_ (by assumption)) | (refine Ext.trans ?_ (by assumption)) | (refine Below.trans ?_ (Below.mono (by assumption) (by omega)))))⟩
  case round =>
    obtain ⟨k, hk', rfl, rfl, hE⟩ := hrel
    by_cases hlt : k < l.length
    · obtain ⟨b, off, x, rfl, hx, hd⟩ := (RdN.ext H.out (Ext.trans ((Ext.refl w).alloc _) hE)).icell hlt
      have hxb := HB.out x (List.mem_of_getElem? hd.out)
      have HSu := Lib.hid (colsL_succ (e := e) (u := u) (col := col) hd.out)
      have HS2 := Lib.hid fun w' => HS.out (colsL e u col (l.take k)) x w' hxb
      generalize colsL e u col (l.take k) = y at HSu HS2
      go_wp2_with ((refine wpList_load_row rfl 26 _ rfl _ rfl 26 _ _ _ (Blk.ext hT.out (by repeat (first | with_reducible exact Ext.refl _ | refine Ext.drewN ?_ _ | refine Ext.drew ?_ | refine Ext.alloc ?_ _ | assumption | (refine Below.trans ?_ (by assumption)) | (refine Ext.trans ?_ (by assumption)) | (refine Below.trans ?_ (Below.mono (by assumption) (by omega)))))) Tryz.underlying26 rfl hi ?_))
      (with_reducible refine (HS2.out _).mono ?_); rintro e w3 ⟨rfl, E3⟩
      go_wp2
      go_roundw
      case rel => exact ⟨k + 1, by omega, by go_num, by rw [HSu.out], (by repeat (first | with_reducible exact Ext.refl _ | refine Ext.drewN ?_ _ | refine Ext.drew ?_ | refine Ext.alloc ?_ _ | assumption | (refine Below.trans ?_ (by assumption)) | (refine Ext.trans ?_ (by assumption)) | (refine Below.trans ?_ (Below.mono (by assumption) (by omega)))))⟩
      case measure => simp [intOf]; omega
    · obtain rfl : k = l.length := by omega
      rw [List.take_length]
      go_wp2
      go_ret
      exact ⟨rfl, Ext.trans ((Ext.refl w).alloc _) hE⟩
end Go.Proofs.YtfnicinnjkbedaaGreatDoor.Ec
namespace Go.Proofs.YtfnicinnjkbedaaGreatDoor.Ec
set_option maxRecDepth 100000
open Go.RowKit Go.Kb

/-- how many columns are gone -/
def goneN (e u : Bool) (col : Int) (rest gone : List Int) : Nat := (colsL e u (colsL e u col rest) gone - colsL e u col rest).toNat
def rgoneN (e u : Bool) (col : Int) (rest gone : List Int) : Nat := (colsL e u col (rest ++ gone) - colsL e u col rest).toNat
theorem goneN_eq {e u : Bool} {col : Int} {rest gone : List Int} (h : colL col + 8 * rest.length ≤ 65535) : rgoneN e u col rest gone = goneN e u col rest gone := by
  unfold goneN rgoneN
  rw [colsL_append _ _ _ _ _ h]
/-- bytes that may be read; nil, or a row of their own with no room behind them -/
def TPost (w : World) (N : Nat) (e : Ending) (w' : World) : Prop :=
  ∃ A n, 3 * N = n ∧ e = .returned (.slice A n n) ∧ RI .u8 w' (.slice A n n) (rep3 N) ∧ (N = 0 → A = none) ∧ Ext w w'
theorem TPost.any {w w' : World} {N : Nat} {e : Ending} (h : TPost w N e w') : RPost w (rep3 N) e w' := by
  obtain ⟨A, n, h1, h2, h3, _, h4⟩ := h
  exact ⟨A, n, n, by rw [rep3_len, h1], h2, h3, h4⟩
set_option maxHeartbeats 800000 in
theorem rub_any (t : Tm) (col : Int) (v1 v2 : Value) (rest gone : List Int) (w : World) (ht : t.Ok) (hl1 : RI .u8 w v1 rest) (hB1 : Bs rest) (hl2 : RI .u8 w v2 gone) (hB2 : Bs gone) :
    Calls Tryz.prog 142 #[.agg t.arr, .int .i64 col, v1, v2] w (TPost w (goneN (hasL t 60) (hasL t 42) col rest gone)) := by
  have kc := fun (u : World) (C : Array Value) (n c : Nat) => Lib.run_convert_bytes_const (P := Tryz.prog) u 27 5 C n c Tryz.underlying27 Tryz.underlying5
  have hn := t.size ht
  have hC1 := fun v w' hr => cols_any t col v rest w' ht hr hB1
  have hC2 := fun col v w' hr => cols_any t col v gone w' ht hr hB2
  have hbd1 := colsL_any (hasL t 60) (hasL t 42) col rest
  have hg : goneN (hasL t 60) (hasL t 42) col rest gone = (colsL (hasL t 60) (hasL t 42) (colsL (hasL t 60) (hasL t 42) col rest) gone - colsL (hasL t 60) (hasL t 42) col rest).toNat := rfl
  generalize colsL (hasL t 60) (hasL t 42) col rest = f at hg hC1 hbd1
  have hbd2 := colsL_any (hasL t 60) (hasL t 42) f gone
  have hC2 := fun v w' hr => hC2 f v w' hr
  generalize colsL (hasL t 60) (hasL t 42) f gone = g at hg hC2 hbd2
  obtain ⟨z, hz0⟩ : ∃ z, goneN (hasL t 60) (hasL t 42) col rest gone = z := ⟨_, rfl⟩; rw [hz0]; have HZ := Lib.hid (hz0.symm.trans hg); clear hz0 hg
  generalize t.arr = cs at *
  clear ht hB1 hB2
  obtain ⟨Ad1, c1, rfl, h11, h12⟩ := hl1.shape
  obtain ⟨Ad2, c2, rfl, h21, h22⟩ := hl2.shape
  have H1 := Lib.hid hl1
  have H2 := Lib.hid hl2
  have HC1 := Lib.hid hC1
  have HC2 := Lib.hid hC2
  clear hl1 hl2 hC1 hC2
  obtain ⟨f0, f1⟩ := hbd1
  obtain ⟨g0, g1⟩ := hbd2
  have hi : (Tryz.prog.info? 26).map (·.size) = some cs.size := by rw [hn]; kernel_rfl
  have hT := Lib.hid (Blk.new w 26 cs)
  go_enter Tryz.func142, Tryz.ntmps142
  go_wp2_with ((refine wpList_load_row rfl 26 _ rfl _ rfl 26 _ _ _ (Blk.ext hT.out (by repeat (first | with_reducible exact Ext.refl _ | refine Ext.drewN ?_ _ | refine Ext.drew ?_ | refine Ext.alloc ?_ _ | assumption | (refine Below.trans ?_ (by assumption)) | (refine Ext.trans ?_ (by assumption)) | (refine Below.trans ?_ (Below.mono (by assumption) (by omega)))))) Tryz.underlying26 rfl hi ?_))
  (with_reducible refine (HC1.out _ _ (RdN.ext H1.out (by repeat (first | with_reducible exact Ext.refl _ | refine Ext.drewN ?_ _ | refine Ext.drew ?_ | refine Ext.alloc ?_ _ | assumption | (refine Below.trans ?_ (by assumption)) | (refine Ext.trans ?_ (by assumption)) | (refine Below.trans ?_ (Below.mono (by assumption) (by omega))))))).mono ?_); rintro e w2 ⟨rfl, E2⟩
  go_wp2_with ((refine wpList_load_row rfl 26 _ rfl _ rfl 26 _ _ _ (Blk.ext hT.out (by repeat (first | with_reducible exact Ext.refl _ | refine Ext.drewN ?_ _ | refine Ext.drew ?_ | refine Ext.alloc ?_ _ | assumption | (refine Below.trans ?_ (by assumption)) | (refine Ext.trans ?_ (by assumption)) | (refine Below.trans ?_ (Below.mono (by assumption) (by omega)))))) Tryz.underlying26 rfl hi ?_))
  (with_reducible refine (HC2.out _ _ (RdN.ext H2.out (by repeat (first | with_reducible exact Ext.refl _ | refine Ext.drewN ?_ _ | refine Ext.drew ?_ | refine Ext.alloc ?_ _ | assumption | (refine Below.trans ?_ (by assumption)) | (refine Ext.trans ?_ (by assumption)) | (refine Below.trans ?_ (Below.mono (by assumption) (by omega))))))).mono ?_); rintro e w3 ⟨rfl, E3⟩
  have hw : IntKind.i64.wrap (g - f) = g - f := IntWalk.i64_in _ (by omega)
  by_cases hle : g - f ≤ 0
  · have HZ0 : Hid (z = 0) := Lib.hid (by rw [HZ.out]; omega)
    go_wp2
    go_ret
    exact ⟨none, 0, by rw [HZ0.out], rfl, by rw [HZ0.out]; exact RdN.nil _ _, fun _ => rfl, (by repeat (first | with_reducible exact Ext.refl _ | refine Ext.drewN ?_ _ | refine Ext.drew ?_ | refine Ext.alloc ?_ _ | assumption | (refine Below.trans ?_ (by assumption)) | (refine Ext.trans ?_ (by assumption)) | (refine Below.trans ?_ (Below.mono (by assumption) (by omega)))))⟩
  · obtain ⟨N, hN⟩ : ∃ N : Nat, g - f = (N : Int) := ⟨(g - f).toNat, by omega⟩
    have HN0 : Hid (z = N) := Lib.hid (by rw [HZ.out, hN]; simp)
    have hN1 : 1 ≤ N := by omega
    have hN2 : N ≤ 1000000 := by omega
    clear hle
    go_wp2_with fail
    refine (repeat_any _ N _ (RI.lit .u8 [8, 32, 8] _ (by simp) (by simp)) hN1 hN2).mono ?_
    rintro e w4 ⟨g4, T, rfl, hT4, hR, hg4, E4⟩
    have HR := Lib.hid hR
    have HT4 := Lib.hid hT4
    clear hR hT4
    go_wp2
    go_ret
    exact ⟨_, T, by rw [HN0.out]; exact HT4.out, rfl, by rw [HN0.out]; exact HR.out, fun h => by rw [HN0.out] at h; omega, (by repeat (first | with_reducible exact Ext.refl _ | refine Ext.drewN ?_ _ | refine Ext.drew ?_ | refine Ext.alloc ?_ _ | assumption | (refine Below.trans ?_ (by assumption)) | (refine Ext.trans ?_ (by assumption)) | (refine Below.trans ?_ (Below.mono (by assumption) (by omega)))))⟩
end Go.Proofs.YtfnicinnjkbedaaGreatDoor.Ec
