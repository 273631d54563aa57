/- bytes.Repeat of three bytes, by contract. Conditions: from one to a million times. -/
import Derived.Test.YtjgheofaflgagaaMoT
import Derived.Shelf.Bits.Mul64
import Derived.Lib.MakeNoZero
import Derived.Laws.Externs
import Derived.Laws.CopyOwn
namespace Go.Proofs.Ytjgheofaflgagaa
open Go.RowKit Go.Kb

abbrev Ub : Rep Int := Rep.int .u8
theorem info_u8 : (Try.prog.info? 5).map (fun i => (i.zero, i.size, i.bytes)) = some (some (.int .u8 0), Ub.size, 1) := by kernel_rfl
theorem mul64_any (n : Nat) (w : World) (hn : n ≤ 1000000) : Calls Try.prog 38 #[.int .u64 3, .int .u64 n] w fun e w' => e = .returned (.tuple #[.int .u64 0, .int .u64 (3 * (n : Int))]) ∧ w = w' := by
  have e1 : bits .and .u64 3 4294967295 = 3 := by decide
  have e2 : bits .and .u64 (n : Int) 4294967295 = n := by rw [Mul64.maskN n (by omega), Nat.mod_eq_of_lt (by omega)]
  have e4 : (n : Int) / 4294967296 = 0 := by omega
  have e5 : 3 * (n : Int) / 4294967296 = 0 := by omega
  have e6 : bits .and .u64 0 4294967295 = 0 := by decide
  have e7 : IntKind.u64.wrap (3 * (n : Int)) = 3 * (n : Int) := by rw [IntKind.wrap_u64]; omega
  go_enter Try.func38, Try.ntmps38
  go_wp2
  refine bodyPost_ret (v := .tuple #[.int .u64 0, .int .u64 (3 * (n : Int))]) (by simp [results, Try.results38, go_sem]) rfl ?_
  exact ⟨rfl, rfl⟩
theorem mul_any (n T : Nat) (w : World) (hn : n ≤ 1000000) (hT : 3 * n = T) : Calls Try.prog 34 #[.int .u64 3, .int .u64 n] w fun e w' => e = .returned (.tuple #[.int .u64 0, .int .u64 (T : Int)]) ∧ w = w' := by
  have e : (T : Int) = 3 * (n : Int) := by omega
  rw [e]
  clear e hT
  go_enter Try.func34, Try.ntmps34
  go_wp2_with ((go_at_call 38; (with_reducible refine (mul64_any n _ hn).mono ?_); rintro e w1 ⟨rfl, rfl⟩))
  refine bodyPost_ret (v := .tuple #[.int .u64 0, .int .u64 (3 * (n : Int))]) (by simp [results, Try.results34, go_sem]) rfl ?_
  exact ⟨rfl, rfl⟩
/-- three bytes, so many times -/
def rep3 (n : Nat) : List Int := (List.replicate n [8, 32, 8]).flatten
def pat (i : Nat) : Int := if i % 3 = 1 then 32 else 8
theorem rep3_len (n : Nat) : (rep3 n).length = 3 * n := by
  induction n with
  | zero => rfl
  | succ n ih =>
    have : rep3 (n + 1) = [8, 32, 8] ++ rep3 n := by simp [rep3, List.replicate_succ]
    rw [this, List.length_append, ih]; simp; omega
theorem rep3_at : ∀ (n i : Nat), i < 3 * n → (rep3 n)[i]? = some (pat i)
  | 0, i, h => by omega
  | n + 1, i, h => by
    have e : rep3 (n + 1) = [8, 32, 8] ++ rep3 n := by simp [rep3, List.replicate_succ]
    rw [e]
    rcases i with _ | _ | _ | i
    · rfl
    · rfl
    · rfl
    · rw [List.getElem?_append_right (by simp)]
      have := rep3_at n i (by omega)
      simp only [List.length_cons, List.length_nil]
      rw [show i + 1 + 1 + 1 - (0 + 1 + 1 + 1) = i by omega, this]
      congr 1
      unfold pat
      rw [show (i + 1 + 1 + 1) % 3 = i % 3 by omega]
/-- the first m bytes of a row are the pattern's -/
def Fill (m : Nat) (cur : List Value) : Prop := ∀ i, i < m → cur[i]? = some (.int .u8 (pat i))
theorem Fill.step {m c : Nat} {cur : List Value} (h : Fill m cur) (hc : c ≤ m) (hm : m % 3 = 0) (hl : m + c ≤ cur.length) : Fill (m + c) (splice cur m (cur.take c)) := by
  intro i hi
  have htl : (cur.take c).length = c := by rw [List.length_take]; omega
  have htm : (cur.take m).length = m := by rw [List.length_take]; omega
  unfold splice
  rcases Nat.lt_or_ge i m with h1 | h1
  · rw [List.getElem?_append_left (by rw [List.length_take]; omega), List.getElem?_take, if_pos h1]
    exact h i h1
  · rw [List.getElem?_append_right (by omega), htm, List.getElem?_append_left (by omega), List.getElem?_take, if_pos (by omega)]
    rw [h (i - m) (by omega)]
    unfold pat
    rw [show (i - m) % 3 = i % 3 by omega]
theorem Fill.first (cur : List Value) : Fill 3 (splice cur 0 [.int .u8 8, .int .u8 32, .int .u8 8]) := by
  intro i hi
  unfold splice
  rw [List.take_zero, List.nil_append, List.getElem?_append_left (by simpa using hi)]
  match i, hi with
  | 0, _ => rfl
  | 1, _ => rfl
  | 2, _ => rfl
/-- what a row reads, filled -/
theorem Fill.rd {w : World} {g n T : Nat} {cur : List Value} (h : Fill T cur) (hT : 3 * n = T) (hg : Blk w g 5 cur.toArray) (hb : T ≤ maxLen) : RI .u8 w (.slice (some ⟨g, 0, none⟩) T T) (rep3 n) := by
  subst hT
  refine ⟨by simp, _, _, by rw [rep3_len], by rw [rep3_len]; exact Nat.le_refl _, by exact hb, .inr ⟨g, 0, rfl, fun j u hu => ?_⟩⟩
  rw [List.getElem?_map, Option.map_eq_some_iff] at hu
  obtain ⟨x, hx, rfl⟩ := hu
  have hj : j < 3 * n := by rw [← rep3_len n]; exact (List.getElem?_eq_some_iff.1 hx).1
  rw [rep3_at n j hj] at hx
  cases hx
  rw [hg.cell (0 + j), Nat.zero_add]
  simpa using h j hj
set_option maxRecDepth 100000 in
set_option maxHeartbeats 800000 in
theorem repeat_any (v : Value) (n : Nat) (w : World) (hv : RI .u8 w v [8, 32, 8]) (h1 : 1 ≤ n) (hn : n ≤ 1000000) : Calls Try.prog 29 #[v, .int .i64 n] w fun e w' =>
    ∃ g T, e = .returned (.slice (some ⟨g, 0, none⟩) T T) ∧ 3 * n = T ∧ RI .u8 w' (.slice (some ⟨g, 0, none⟩) T T) (rep3 n) ∧ w.heap.size ≤ g ∧ Ext w w' := by
  obtain ⟨Ad, c, rfl, hc1, hc2⟩ := hv.shape
  obtain ⟨b, off, rfl⟩ := hv.addr (by simp)
  have HV := Lib.hid hv
  clear hv
  obtain ⟨T, hT⟩ : ∃ T, 3 * n = T := ⟨_, rfl⟩
  obtain ⟨cs, hrunM, hle, _⟩ := Lib.run_makeNoZero (P := Try.prog) w #[3] 27 5 Try.underlying27 T (by omega)
  have hcall : (callFunc 35 #[.int .i64 (T : Int)]).run Try.prog w = .ok (.value (.slice (some ⟨w.heap.size, 0, none⟩) T cs.size)) ((w.alloc (.cells cs 5)).drewN 2) := by
    rw [run_callFunc_extern Try.func35 (by kernel_rfl) (by kernel_rfl) (by kernel_rfl) (e := Extern.BytealgMakeNoZero.makeNoZero #[3] #[27]) (by kernel_rfl), hrunM]
    rfl
  clear hrunM
  have n0 : ((n : Int) == 0) = false := by rw [beq_eq_false_iff_ne]; omega
  have n1 : ¬ (n : Int) < 0 := by omega
  have n2 : IntKind.u64.wrap (n : Int) = n := by rw [IntKind.wrap_u64]; omega
  have n3 : ¬ (9223372036854775807 : Int) < (T : Int) := by omega
  have n4 : IntKind.i64.wrap (T : Int) = (T : Int) := IntWalk.i64_in _ (by omega)
  have i0 : (0 : Int) ≤ (T : Int) := by omega
  have i1 : (T : Int) ≤ (cs.size : Int) := by omega
  have h3T : 3 ≤ T := by omega
  have HT := Lib.hid hT
  have hTb : T ≤ 3000000 := by omega
  clear hT
  have hlc : [8, 32, 8].length = 3 := rfl
  have HC0 : Hid (∀ (j : Nat) u, [Value.int .u8 8, .int .u8 32, .int .u8 8][j]? = some u → ((w.alloc (.cells cs 5)).drewN 2).cell? ⟨b, off + j, none⟩ = some u) := Lib.hid fun j u hu => by
    obtain ⟨_, A', c', hv, _, _, hA⟩ := HV.out
    simp only [Value.slice.injEq] at hv
    obtain ⟨hv1, hv2, hv3⟩ := hv
    rcases hA with h0 | ⟨b', off', h0, hc⟩
    · rw [← hv3] at h0; simp at hc1; omega
    · rw [h0] at hv1
      simp only [Option.some.injEq, Addr.mk.injEq] at hv1
      obtain ⟨rfl, rfl, _⟩ := hv1
      have := hc j u hu
      rw [(((Ext.refl w).alloc (.cells cs 5)).drewN 2).cell b _ (World.block_lt_of_cell? w _ this)]
      exact this
  have HG0 : Hid (((w.alloc (.cells cs 5)).drewN 2).heap[w.heap.size]? = some (.cells cs.toList.toArray 5 (0, 0))) := Lib.hid (by
    have := Blk.new w 5 cs
    simpa [Blk] using this)
  have HE0 : Hid (Below w.heap.size w ((w.alloc (.cells cs 5)).drewN 2)) := Lib.hid (((Ext.refl w).alloc _).drewN 2)
  clear HV hlc
  by_cases hbig : 8192 < T
  · have hdec : decide ((8192 : Int) < (T : Int)) = true := decide_eq_true (by omega)
    have hdec2 : decide ((9223372036854775807 : Int) < (T : Int)) = false := decide_eq_false (by omega)
    go_enter Try.func29, Try.ntmps29
    go_wp2_with (first | ((go_at_call 34; (with_reducible refine (mul_any n T _ hn HT.out).mono ?_); rintro e w1 ⟨rfl, rfl⟩)) | (refine wpList_copy_splice rfl (.tmp 58) (.tmp 59) 27 27 rfl 5 Try.underlying27 (by kernel_rfl) (some ⟨w.heap.size, 0, none⟩) (some ⟨b, off, none⟩) T T 3 c rfl rfl w.heap.size 0 cs.toList 5 HG0.out [.int .u8 8, .int .u8 32, .int .u8 8] (show 3 = Nat.min 3 T from (Nat.min_eq_left h3T).symm) (fun _ => ⟨rfl, ⟨b, off, none⟩, rfl, fun j u hu => by rw [Addr.add_lit]; exact HC0.out j u hu⟩) (by simp; omega) (by simp [Value.oneCell']) w.heap.size w HE0.out (Nat.le_refl _) ?_; intro w2 H2 B2))
    have HF2 : Hid (Fill 3 (splice cs.toList 0 [.int .u8 8, .int .u8 32, .int .u8 8])) := Lib.hid (Fill.first _)
    have HL2 : Hid (T ≤ (splice cs.toList 0 [.int .u8 8, .int .u8 32, .int .u8 8]).length) := Lib.hid (by rw [length_splice _ _ _ (by simp; omega)]; simpa using hle)
    clear hcall HC0 HG0
    go_loopw [10] (fun x wr => ∃ (m : Nat) (cur : List Value), x = .int .i64 m ∧ 3 ≤ m ∧ m ≤ T ∧ m % 3 = 0 ∧ Hid (Blk wr w.heap.size 5 cur.toArray) ∧ Hid (Fill m cur) ∧ Hid (T ≤ cur.length) ∧ Ext w wr) (fun x _ => T - (intOf x).toNat)
    case atStart => exact ⟨3, _, by simp, Nat.le_refl _, by omega, rfl, Lib.hid H2.out, HF2, HL2, B2⟩
    case round =>
      clear HF2 HL2 H2 B2
      obtain ⟨m, cur, rfl, hm3, hmT, hmm, HB, HF, HL, hE⟩ := hrel
      by_cases hlt : m < T
      · have hne : ¬ (T = m) := by omega
        obtain ⟨ch, hch, hch2, hch3, hch4⟩ : ∃ ch : Nat, ((m : Int) ≤ 8190 ∧ ch = m ∨ ¬ ((m : Int) ≤ 8190) ∧ (ch : Int) = 8190) ∧ ch ≤ m ∧ ch % 3 = 0 ∧ 0 < ch := by
          by_cases hc : (m : Int) ≤ 8190
          · exact ⟨m, .inl ⟨hc, rfl⟩, Nat.le_refl _, hmm, by omega⟩
          · exact ⟨8190, .inr ⟨hc, rfl⟩, by omega, (by decide), by omega⟩
        obtain ⟨q, hq⟩ : ∃ q, Nat.min ch (T - m) = q := ⟨_, rfl⟩
        have hq1 : q ≤ ch ∧ q ≤ T - m ∧ (q = ch ∨ q = T - m) := by rw [← hq]; simp only [Nat.min_def]; split <;> omega
        have HTq := HT.out
        have hq3 : q % 3 = 0 := by omega
        have hq4 : 0 < q := by omega
        have HQ := Lib.hid hq
        have hlc := HL.out
        have hct : (cur.take q).length = q := by rw [List.length_take]; omega
        have HF' : Hid (Fill (m + q) (splice cur m (cur.take q))) := Lib.hid (HF.out.step (by omega) hmm (by omega))
        have HL' : Hid (T ≤ (splice cur m (cur.take q)).length) := Lib.hid (by rw [length_splice _ _ _ (by omega)]; exact hlc)
        have HO' : Hid (∀ v ∈ cur.take q, v.oneCell' = true) := Lib.hid (fun v hv => by
          obtain ⟨i, hi, rfl⟩ := List.getElem_of_mem hv
          have h1 : (cur.take q)[i]? = some ((cur.take q)[i]) := List.getElem?_eq_getElem hi
          rw [List.getElem?_take] at h1
          have hiq : i < q := by omega
          rw [if_pos hiq, HF.out i (by omega)] at h1
          rw [← Option.some.inj h1]; rfl)
        have HCC : Hid (∀ (j : Nat) u, (cur.take q)[j]? = some u → wr.drew.cell? ⟨w.heap.size, j, none⟩ = some u) := Lib.hid fun j u hu => by
          show wr.cell? ⟨w.heap.size, j, none⟩ = some u
          rw [HB.out.cell j]
          rw [List.getElem?_take] at hu
          split at hu
          · simpa using hu
          · cases hu
        clear hq HTq
        have k1 : (0 : Int) ≤ (m : Int) := by omega
        have k2 : (m : Int) ≤ (T : Int) := by omega
        have k3 : (0 : Int) ≤ (ch : Int) := by omega
        have k4 : (ch : Int) ≤ (T : Int) := by omega
        have k5 : IntKind.i64.wrap ((m : Int) + (q : Int)) = (m : Int) + (q : Int) := IntWalk.i64_in _ (by omega)
        rcases hch with ⟨hcc, hce⟩ | ⟨hcc, hce⟩
        · have hce' : m = ch := hce.symm
          subst hce'
          go_wp2
          refine wp_region_held_drew (S := fun w' => Ext w w') (by kernel_rfl) (by repeat (first | with_reducible exact Ext.refl _ | refine Ext.drewN ?_ _ | refine Ext.drew ?_ | refine Ext.alloc ?_ _ | assumption | (refine Below.trans ?_ (by assumption)) | (refine Ext.trans ?_ (by assumption)) | (refine Below.trans ?_ (Below.mono (by assumption) (by omega))))) (fun hHeld => ?_)
          (refine wpAnyH_take (i := 0) (v := ?_) rfl (by kernel_rfl) (by kernel_rfl) (by kernel_rfl) (fun _ _ _ h => h) (Or.inl ⟨by rfl, ?_⟩) (by assumption) ?_; rotate_left; (focus (intro w' hSw; go_simp; try with_reducible rfl)); (try simp only [List.getElem_toArray]); (try simp only [List.getElem_cons_succ]); (try simp only [List.getElem_cons_zero]); (try simp only [Act.put]); (try simp only [List.setIfInBounds_toArray]); (try simp only [List.set_cons_succ]); (try simp only [List.set_cons_zero]))
          (refine wpAnyH_take (i := 1) (v := ?_) rfl (by kernel_rfl) (by kernel_rfl) (by kernel_rfl) (fun _ _ _ h => h) (Or.inl ⟨by rfl, ?_⟩) (by assumption) ?_; rotate_left; (focus (intro w' hSw; go_simp; try with_reducible rfl)); (try simp only [List.getElem_toArray]); (try simp only [List.getElem_cons_succ]); (try simp only [List.getElem_cons_zero]); (try simp only [Act.put]); (try simp only [List.setIfInBounds_toArray]); (try simp only [List.set_cons_succ]); (try simp only [List.set_cons_zero]))
          (refine wpAnyH_take (i := 2) (v := ?_) rfl (by kernel_rfl) (by kernel_rfl) (by kernel_rfl) (fun _ _ _ h => h) (Or.inl ⟨by rfl, ?_⟩) (by assumption) ?_; rotate_left; (focus (intro w' hSw; go_simp; try with_reducible rfl)); (try simp only [List.getElem_toArray]); (try simp only [List.getElem_cons_succ]); (try simp only [List.getElem_cons_zero]); (try simp only [Act.put]); (try simp only [List.setIfInBounds_toArray]); (try simp only [List.set_cons_succ]); (try simp only [List.set_cons_zero]))
          (refine wpAnyH_take (i := 3) (v := ?_) rfl (by kernel_rfl) (by kernel_rfl) (by kernel_rfl) (fun _ _ _ h => h) (Or.inl ⟨by rfl, ?_⟩) (by assumption) ?_; rotate_left; (focus (intro w' hSw; go_simp; try with_reducible rfl)); (try simp only [List.getElem_toArray]); (try simp only [List.getElem_cons_succ]); (try simp only [List.getElem_cons_zero]); (try simp only [Act.put]); (try simp only [List.setIfInBounds_toArray]); (try simp only [List.set_cons_succ]); (try simp only [List.set_cons_zero]))
          (refine wpAnyH_take (i := 4) (v := ?_) rfl (by kernel_rfl) (by kernel_rfl) (by kernel_rfl) (fun _ _ _ h => h) (Or.inl ⟨by rfl, ?_⟩) (by assumption) ?_; rotate_left; (focus (intro w' hSw; go_simp; try with_reducible rfl)); (try simp only [List.getElem_toArray]); (try simp only [List.getElem_cons_succ]); (try simp only [List.getElem_cons_zero]); (try simp only [Act.put]); (try simp only [List.setIfInBounds_toArray]); (try simp only [List.set_cons_succ]); (try simp only [List.set_cons_zero]))
          (refine wpAnyH_take (i := 5) (v := ?_) rfl (by kernel_rfl) (by kernel_rfl) (by kernel_rfl) (fun _ _ _ h => h) (Or.inl ⟨by rfl, ?_⟩) (by assumption) ?_; rotate_left; (focus (intro w' hSw; go_simp; try with_reducible rfl)); (try simp only [List.getElem_toArray]); (try simp only [List.getElem_cons_succ]); (try simp only [List.getElem_cons_zero]); (try simp only [Act.put]); (try simp only [List.setIfInBounds_toArray]); (try simp only [List.set_cons_succ]); (try simp only [List.set_cons_zero]))
          (refine wpAnyH_take (i := 6) (v := ?_) rfl (by kernel_rfl) (by kernel_rfl) (by kernel_rfl) (fun _ _ _ h => h) (Or.inl ⟨by rfl, ?_⟩) (by assumption) ?_; rotate_left; (focus (intro w' hSw; go_simp; try with_reducible rfl)); (try simp only [List.getElem_toArray]); (try simp only [List.getElem_cons_succ]); (try simp only [List.getElem_cons_zero]); (try simp only [Act.put]); (try simp only [List.setIfInBounds_toArray]); (try simp only [List.set_cons_succ]); (try simp only [List.set_cons_zero]))
          refine wpAnyH_ready (rs := [7]) (by kernel_rfl) (by simp) ?_
          refine AllReadyH.cons rfl (fun K hK => ?_) AllReadyH.nil
          refine step_copy_splice rfl (.tmp 70) (.tmp 73) 27 27 rfl 5 Try.underlying27 (by kernel_rfl) (some ⟨w.heap.size, m, none⟩) (some ⟨w.heap.size, 0, none⟩) (T - m) (T - m) m T rfl rfl w.heap.size m cur 5 HB.out (cur.take q) (by rw [hct]; exact HQ.out.symm) (fun _ => ⟨rfl, ⟨w.heap.size, 0, none⟩, rfl, fun j u hu => by rw [Addr.add_lit, Nat.zero_add]; exact HCC.out j u hu⟩) (by omega) HO'.out w.heap.size w hHeld (Nat.le_refl _) ?_
          intro w4 H4 B4
          refine hK.out _ _ B4 (fun hHeld => ?_)
          clear hK K
          (try simp only [List.getElem_toArray]); (try simp only [List.getElem_cons_succ]); (try simp only [List.getElem_cons_zero]); (try simp only [Act.put]); (try simp only [List.setIfInBounds_toArray]); (try simp only [List.set_cons_succ]); (try simp only [List.set_cons_zero])
          try simp only [goInt, hct]
          (refine wpAnyH_take (i := 8) (v := ?_) rfl (by kernel_rfl) (by kernel_rfl) (by kernel_rfl) (fun _ _ _ h => h) (Or.inl ⟨by rfl, ?_⟩) (by assumption) ?_; rotate_left; (focus (intro w' hSw; go_simp; try with_reducible rfl)); (try simp only [List.getElem_toArray]); (try simp only [List.getElem_cons_succ]); (try simp only [List.getElem_cons_zero]); (try simp only [Act.put]); (try simp only [List.setIfInBounds_toArray]); (try simp only [List.set_cons_succ]); (try simp only [List.set_cons_zero]))
          (refine wpAnyH_take (i := 9) (v := ?_) rfl (by kernel_rfl) (by kernel_rfl) (by kernel_rfl) (fun _ _ _ h => h) (Or.inl ⟨by rfl, ?_⟩) (by assumption) ?_; rotate_left; (focus (intro w' hSw; go_simp; try with_reducible rfl)); (try simp only [List.getElem_toArray]); (try simp only [List.getElem_cons_succ]); (try simp only [List.getElem_cons_zero]); (try simp only [Act.put]); (try simp only [List.setIfInBounds_toArray]); (try simp only [List.set_cons_succ]); (try simp only [List.set_cons_zero]))
          refine wpAnyH_done (by kernel_rfl) ?_ _
          go_roundw
          case rel => ((repeat apply Exists.intro); exact ⟨⟨m + q, _, by go_num, by omega, by omega, by omega, Lib.hid H4.out, HF', HL', hHeld⟩, rfl⟩)
          case measure => simp [intOf]; omega
        · have hce' : 8190 = ch := by omega
          subst hce'
          have k8 : 8190 ≤ (T : Int) := by omega
          go_wp2
          refine wp_region_held_drew (S := fun w' => Ext w w') (by kernel_rfl) (by repeat (first | with_reducible exact Ext.refl _ | refine Ext.drewN ?_ _ | refine Ext.drew ?_ | refine Ext.alloc ?_ _ | assumption | (refine Below.trans ?_ (by assumption)) | (refine Ext.trans ?_ (by assumption)) | (refine Below.trans ?_ (Below.mono (by assumption) (by omega))))) (fun hHeld => ?_)
          (refine wpAnyH_take (i := 0) (v := ?_) rfl (by kernel_rfl) (by kernel_rfl) (by kernel_rfl) (fun _ _ _ h => h) (Or.inl ⟨by rfl, ?_⟩) (by assumption) ?_; rotate_left; (focus (intro w' hSw; go_simp; try with_reducible rfl)); (try simp only [List.getElem_toArray]); (try simp only [List.getElem_cons_succ]); (try simp only [List.getElem_cons_zero]); (try simp only [Act.put]); (try simp only [List.setIfInBounds_toArray]); (try simp only [List.set_cons_succ]); (try simp only [List.set_cons_zero]))
          (refine wpAnyH_take (i := 1) (v := ?_) rfl (by kernel_rfl) (by kernel_rfl) (by kernel_rfl) (fun _ _ _ h => h) (Or.inl ⟨by rfl, ?_⟩) (by assumption) ?_; rotate_left; (focus (intro w' hSw; go_simp; try with_reducible rfl)); (try simp only [List.getElem_toArray]); (try simp only [List.getElem_cons_succ]); (try simp only [List.getElem_cons_zero]); (try simp only [Act.put]); (try simp only [List.setIfInBounds_toArray]); (try simp only [List.set_cons_succ]); (try simp only [List.set_cons_zero]))
          (refine wpAnyH_take (i := 2) (v := ?_) rfl (by kernel_rfl) (by kernel_rfl) (by kernel_rfl) (fun _ _ _ h => h) (Or.inl ⟨by rfl, ?_⟩) (by assumption) ?_; rotate_left; (focus (intro w' hSw; go_simp; try with_reducible rfl)); (try simp only [List.getElem_toArray]); (try simp only [List.getElem_cons_succ]); (try simp only [List.getElem_cons_zero]); (try simp only [Act.put]); (try simp only [List.setIfInBounds_toArray]); (try simp only [List.set_cons_succ]); (try simp only [List.set_cons_zero]))
          (refine wpAnyH_take (i := 3) (v := ?_) rfl (by kernel_rfl) (by kernel_rfl) (by kernel_rfl) (fun _ _ _ h => h) (Or.inl ⟨by rfl, ?_⟩) (by assumption) ?_; rotate_left; (focus (intro w' hSw; go_simp; try with_reducible rfl)); (try simp only [List.getElem_toArray]); (try simp only [List.getElem_cons_succ]); (try simp only [List.getElem_cons_zero]); (try simp only [Act.put]); (try simp only [List.setIfInBounds_toArray]); (try simp only [List.set_cons_succ]); (try simp only [List.set_cons_zero]))
          (refine wpAnyH_take (i := 4) (v := ?_) rfl (by kernel_rfl) (by kernel_rfl) (by kernel_rfl) (fun _ _ _ h => h) (Or.inl ⟨by rfl, ?_⟩) (by assumption) ?_; rotate_left; (focus (intro w' hSw; go_simp; try with_reducible rfl)); (try simp only [List.getElem_toArray]); (try simp only [List.getElem_cons_succ]); (try simp only [List.getElem_cons_zero]); (try simp only [Act.put]); (try simp only [List.setIfInBounds_toArray]); (try simp only [List.set_cons_succ]); (try simp only [List.set_cons_zero]))
          (refine wpAnyH_take (i := 5) (v := ?_) rfl (by kernel_rfl) (by kernel_rfl) (by kernel_rfl) (fun _ _ _ h => h) (Or.inl ⟨by rfl, ?_⟩) (by assumption) ?_; rotate_left; (focus (intro w' hSw; go_simp; try with_reducible rfl)); (try simp only [List.getElem_toArray]); (try simp only [List.getElem_cons_succ]); (try simp only [List.getElem_cons_zero]); (try simp only [Act.put]); (try simp only [List.setIfInBounds_toArray]); (try simp only [List.set_cons_succ]); (try simp only [List.set_cons_zero]))
          (refine wpAnyH_take (i := 6) (v := ?_) rfl (by kernel_rfl) (by kernel_rfl) (by kernel_rfl) (fun _ _ _ h => h) (Or.inl ⟨by rfl, ?_⟩) (by assumption) ?_; rotate_left; (focus (intro w' hSw; go_simp; try with_reducible rfl)); (try simp only [List.getElem_toArray]); (try simp only [List.getElem_cons_succ]); (try simp only [List.getElem_cons_zero]); (try simp only [Act.put]); (try simp only [List.setIfInBounds_toArray]); (try simp only [List.set_cons_succ]); (try simp only [List.set_cons_zero]))
          refine wpAnyH_ready (rs := [7]) (by kernel_rfl) (by simp) ?_
          refine AllReadyH.cons rfl (fun K hK => ?_) AllReadyH.nil
          refine step_copy_splice rfl (.tmp 70) (.tmp 73) 27 27 rfl 5 Try.underlying27 (by kernel_rfl) (some ⟨w.heap.size, m, none⟩) (some ⟨w.heap.size, 0, none⟩) (T - m) (T - m) 8190 T rfl rfl w.heap.size m cur 5 HB.out (cur.take q) (by rw [hct]; exact HQ.out.symm) (fun _ => ⟨rfl, ⟨w.heap.size, 0, none⟩, rfl, fun j u hu => by rw [Addr.add_lit, Nat.zero_add]; exact HCC.out j u hu⟩) (by omega) HO'.out w.heap.size w hHeld (Nat.le_refl _) ?_
          intro w4 H4 B4
          refine hK.out _ _ B4 (fun hHeld => ?_)
          clear hK K
          (try simp only [List.getElem_toArray]); (try simp only [List.getElem_cons_succ]); (try simp only [List.getElem_cons_zero]); (try simp only [Act.put]); (try simp only [List.setIfInBounds_toArray]); (try simp only [List.set_cons_succ]); (try simp only [List.set_cons_zero])
          try simp only [goInt, hct]
          (refine wpAnyH_take (i := 8) (v := ?_) rfl (by kernel_rfl) (by kernel_rfl) (by kernel_rfl) (fun _ _ _ h => h) (Or.inl ⟨by rfl, ?_⟩) (by assumption) ?_; rotate_left; (focus (intro w' hSw; go_simp; try with_reducible rfl)); (try simp only [List.getElem_toArray]); (try simp only [List.getElem_cons_succ]); (try simp only [List.getElem_cons_zero]); (try simp only [Act.put]); (try simp only [List.setIfInBounds_toArray]); (try simp only [List.set_cons_succ]); (try simp only [List.set_cons_zero]))
          (refine wpAnyH_take (i := 9) (v := ?_) rfl (by kernel_rfl) (by kernel_rfl) (by kernel_rfl) (fun _ _ _ h => h) (Or.inl ⟨by rfl, ?_⟩) (by assumption) ?_; rotate_left; (focus (intro w' hSw; go_simp; try with_reducible rfl)); (try simp only [List.getElem_toArray]); (try simp only [List.getElem_cons_succ]); (try simp only [List.getElem_cons_zero]); (try simp only [Act.put]); (try simp only [List.setIfInBounds_toArray]); (try simp only [List.set_cons_succ]); (try simp only [List.set_cons_zero]))
          refine wpAnyH_done (by kernel_rfl) ?_ _
          go_roundw
          case rel => ((repeat apply Exists.intro); exact ⟨⟨m + q, _, by go_num, by omega, by omega, by omega, Lib.hid H4.out, HF', HL', hHeld⟩, rfl⟩)
          case measure => simp [intOf]; omega
      · obtain rfl : T = m := by omega
        go_wp2
        go_ret
        exact ⟨_, _, rfl, HT.out, HF.out.rd HT.out HB.out (by unfold maxLen; omega), Nat.le_refl _, hE⟩
  · have hdec : decide ((8192 : Int) < (T : Int)) = false := decide_eq_false (by omega)
    have hdec2 : decide ((9223372036854775807 : Int) < (T : Int)) = false := decide_eq_false (by omega)
    go_enter Try.func29, Try.ntmps29
    go_wp2_with (first | ((go_at_call 34; (with_reducible refine (mul_any n T _ hn HT.out).mono ?_); rintro e w1 ⟨rfl, rfl⟩)) | (refine wpList_copy_splice rfl (.tmp 58) (.tmp 59) 27 27 rfl 5 Try.underlying27 (by kernel_rfl) (some ⟨w.heap.size, 0, none⟩) (some ⟨b, off, none⟩) T T 3 c rfl rfl w.heap.size 0 cs.toList 5 HG0.out [.int .u8 8, .int .u8 32, .int .u8 8] (show 3 = Nat.min 3 T from (Nat.min_eq_left h3T).symm) (fun _ => ⟨rfl, ⟨b, off, none⟩, rfl, fun j u hu => by rw [Addr.add_lit]; exact HC0.out j u hu⟩) (by simp; omega) (by simp [Value.oneCell']) w.heap.size w HE0.out (Nat.le_refl _) ?_; intro w2 H2 B2))
    have HF2 : Hid (Fill 3 (splice cs.toList 0 [.int .u8 8, .int .u8 32, .int .u8 8])) := Lib.hid (Fill.first _)
    have HL2 : Hid (T ≤ (splice cs.toList 0 [.int .u8 8, .int .u8 32, .int .u8 8]).length) := Lib.hid (by rw [length_splice _ _ _ (by simp; omega)]; simpa using hle)
    clear hcall HC0 HG0
    go_loopw [10] (fun x wr => ∃ (m : Nat) (cur : List Value), x = .int .i64 m ∧ 3 ≤ m ∧ m ≤ T ∧ m % 3 = 0 ∧ Hid (Blk wr w.heap.size 5 cur.toArray) ∧ Hid (Fill m cur) ∧ Hid (T ≤ cur.length) ∧ Ext w wr) (fun x _ => T - (intOf x).toNat)
    case atStart => exact ⟨3, _, by simp, Nat.le_refl _, by omega, rfl, Lib.hid H2.out, HF2, HL2, B2⟩
    case round =>
      clear HF2 HL2 H2 B2
      obtain ⟨m, cur, rfl, hm3, hmT, hmm, HB, HF, HL, hE⟩ := hrel
      by_cases hlt : m < T
      · have hne : ¬ (T = m) := by omega
        obtain ⟨ch, hch, hch2, hch3, hch4⟩ : ∃ ch : Nat, ((m : Int) ≤ (T : Int) ∧ ch = m ∨ ¬ ((m : Int) ≤ (T : Int)) ∧ (ch : Int) = (T : Int)) ∧ ch ≤ m ∧ ch % 3 = 0 ∧ 0 < ch := by
          by_cases hc : (m : Int) ≤ (T : Int)
          · exact ⟨m, .inl ⟨hc, rfl⟩, Nat.le_refl _, hmm, by omega⟩
          · exact ⟨T, .inr ⟨hc, rfl⟩, by omega, (by have := HT.out; omega), by omega⟩
        obtain ⟨q, hq⟩ : ∃ q, Nat.min ch (T - m) = q := ⟨_, rfl⟩
        have hq1 : q ≤ ch ∧ q ≤ T - m ∧ (q = ch ∨ q = T - m) := by rw [← hq]; simp only [Nat.min_def]; split <;> omega
        have HTq := HT.out
        have hq3 : q % 3 = 0 := by omega
        have hq4 : 0 < q := by omega
        have HQ := Lib.hid hq
        have hlc := HL.out
        have hct : (cur.take q).length = q := by rw [List.length_take]; omega
        have HF' : Hid (Fill (m + q) (splice cur m (cur.take q))) := Lib.hid (HF.out.step (by omega) hmm (by omega))
        have HL' : Hid (T ≤ (splice cur m (cur.take q)).length) := Lib.hid (by rw [length_splice _ _ _ (by omega)]; exact hlc)
        have HO' : Hid (∀ v ∈ cur.take q, v.oneCell' = true) := Lib.hid (fun v hv => by
          obtain ⟨i, hi, rfl⟩ := List.getElem_of_mem hv
          have h1 : (cur.take q)[i]? = some ((cur.take q)[i]) := List.getElem?_eq_getElem hi
          rw [List.getElem?_take] at h1
          have hiq : i < q := by omega
          rw [if_pos hiq, HF.out i (by omega)] at h1
          rw [← Option.some.inj h1]; rfl)
        have HCC : Hid (∀ (j : Nat) u, (cur.take q)[j]? = some u → wr.drew.cell? ⟨w.heap.size, j, none⟩ = some u) := Lib.hid fun j u hu => by
          show wr.cell? ⟨w.heap.size, j, none⟩ = some u
          rw [HB.out.cell j]
          rw [List.getElem?_take] at hu
          split at hu
          · simpa using hu
          · cases hu
        clear hq HTq
        have k1 : (0 : Int) ≤ (m : Int) := by omega
        have k2 : (m : Int) ≤ (T : Int) := by omega
        have k3 : (0 : Int) ≤ (ch : Int) := by omega
        have k4 : (ch : Int) ≤ (T : Int) := by omega
        have k5 : IntKind.i64.wrap ((m : Int) + (q : Int)) = (m : Int) + (q : Int) := IntWalk.i64_in _ (by omega)
        rcases hch with ⟨hcc, hce⟩ | ⟨hcc, hce⟩
        · have hce' : m = ch := hce.symm
          subst hce'
          go_wp2
          refine wp_region_held_drew (S := fun w' => Ext w w') (by kernel_rfl) (by repeat (first | with_reducible exact Ext.refl _ | refine Ext.drewN ?_ _ | refine Ext.drew ?_ | refine Ext.alloc ?_ _ | assumption | (refine Below.trans ?_ (by assumption)) | (refine Ext.trans ?_ (by assumption)) | (refine Below.trans ?_ (Below.mono (by assumption) (by omega))))) (fun hHeld => ?_)
          (refine wpAnyH_take (i := 0) (v := ?_) rfl (by kernel_rfl) (by kernel_rfl) (by kernel_rfl) (fun _ _ _ h => h) (Or.inl ⟨by rfl, ?_⟩) (by assumption) ?_; rotate_left; (focus (intro w' hSw; go_simp; try with_reducible rfl)); (try simp only [List.getElem_toArray]); (try simp only [List.getElem_cons_succ]); (try simp only [List.getElem_cons_zero]); (try simp only [Act.put]); (try simp only [List.setIfInBounds_toArray]); (try simp only [List.set_cons_succ]); (try simp only [List.set_cons_zero]))
          (refine wpAnyH_take (i := 1) (v := ?_) rfl (by kernel_rfl) (by kernel_rfl) (by kernel_rfl) (fun _ _ _ h => h) (Or.inl ⟨by rfl, ?_⟩) (by assumption) ?_; rotate_left; (focus (intro w' hSw; go_simp; try with_reducible rfl)); (try simp only [List.getElem_toArray]); (try simp only [List.getElem_cons_succ]); (try simp only [List.getElem_cons_zero]); (try simp only [Act.put]); (try simp only [List.setIfInBounds_toArray]); (try simp only [List.set_cons_succ]); (try simp only [List.set_cons_zero]))
          (refine wpAnyH_take (i := 2) (v := ?_) rfl (by kernel_rfl) (by kernel_rfl) (by kernel_rfl) (fun _ _ _ h => h) (Or.inl ⟨by rfl, ?_⟩) (by assumption) ?_; rotate_left; (focus (intro w' hSw; go_simp; try with_reducible rfl)); (try simp only [List.getElem_toArray]); (try simp only [List.getElem_cons_succ]); (try simp only [List.getElem_cons_zero]); (try simp only [Act.put]); (try simp only [List.setIfInBounds_toArray]); (try simp only [List.set_cons_succ]); (try simp only [List.set_cons_zero]))
          (refine wpAnyH_take (i := 3) (v := ?_) rfl (by kernel_rfl) (by kernel_rfl) (by kernel_rfl) (fun _ _ _ h => h) (Or.inl ⟨by rfl, ?_⟩) (by assumption) ?_; rotate_left; (focus (intro w' hSw; go_simp; try with_reducible rfl)); (try simp only [List.getElem_toArray]); (try simp only [List.getElem_cons_succ]); (try simp only [List.getElem_cons_zero]); (try simp only [Act.put]); (try simp only [List.setIfInBounds_toArray]); (try simp only [List.set_cons_succ]); (try simp only [List.set_cons_zero]))
          (refine wpAnyH_take (i := 4) (v := ?_) rfl (by kernel_rfl) (by kernel_rfl) (by kernel_rfl) (fun _ _ _ h => h) (Or.inl ⟨by rfl, ?_⟩) (by assumption) ?_; rotate_left; (focus (intro w' hSw; go_simp; try with_reducible rfl)); (try simp only [List.getElem_toArray]); (try simp only [List.getElem_cons_succ]); (try simp only [List.getElem_cons_zero]); (try simp only [Act.put]); (try simp only [List.setIfInBounds_toArray]); (try simp only [List.set_cons_succ]); (try simp only [List.set_cons_zero]))
          (refine wpAnyH_take (i := 5) (v := ?_) rfl (by kernel_rfl) (by kernel_rfl) (by kernel_rfl) (fun _ _ _ h => h) (Or.inl ⟨by rfl, ?_⟩) (by assumption) ?_; rotate_left; (focus (intro w' hSw; go_simp; try with_reducible rfl)); (try simp only [List.getElem_toArray]); (try simp only [List.getElem_cons_succ]); (try simp only [List.getElem_cons_zero]); (try simp only [Act.put]); (try simp only [List.setIfInBounds_toArray]); (try simp only [List.set_cons_succ]); (try simp only [List.set_cons_zero]))
          (refine wpAnyH_take (i := 6) (v := ?_) rfl (by kernel_rfl) (by kernel_rfl) (by kernel_rfl) (fun _ _ _ h => h) (Or.inl ⟨by rfl, ?_⟩) (by assumption) ?_; rotate_left; (focus (intro w' hSw; go_simp; try with_reducible rfl)); (try simp only [List.getElem_toArray]); (try simp only [List.getElem_cons_succ]); (try simp only [List.getElem_cons_zero]); (try simp only [Act.put]); (try simp only [List.setIfInBounds_toArray]); (try simp only [List.set_cons_succ]); (try simp only [List.set_cons_zero]))
          refine wpAnyH_ready (rs := [7]) (by kernel_rfl) (by simp) ?_
          refine AllReadyH.cons rfl (fun K hK => ?_) AllReadyH.nil
          refine step_copy_splice rfl (.tmp 70) (.tmp 73) 27 27 rfl 5 Try.underlying27 (by kernel_rfl) (some ⟨w.heap.size, m, none⟩) (some ⟨w.heap.size, 0, none⟩) (T - m) (T - m) m T rfl rfl w.heap.size m cur 5 HB.out (cur.take q) (by rw [hct]; exact HQ.out.symm) (fun _ => ⟨rfl, ⟨w.heap.size, 0, none⟩, rfl, fun j u hu => by rw [Addr.add_lit, Nat.zero_add]; exact HCC.out j u hu⟩) (by omega) HO'.out w.heap.size w hHeld (Nat.le_refl _) ?_
          intro w4 H4 B4
          refine hK.out _ _ B4 (fun hHeld => ?_)
          clear hK K
          (try simp only [List.getElem_toArray]); (try simp only [List.getElem_cons_succ]); (try simp only [List.getElem_cons_zero]); (try simp only [Act.put]); (try simp only [List.setIfInBounds_toArray]); (try simp only [List.set_cons_succ]); (try simp only [List.set_cons_zero])
          try simp only [goInt, hct]
          (refine wpAnyH_take (i := 8) (v := ?_) rfl (by kernel_rfl) (by kernel_rfl) (by kernel_rfl) (fun _ _ _ h => h) (Or.inl ⟨by rfl, ?_⟩) (by assumption) ?_; rotate_left; (focus (intro w' hSw; go_simp; try with_reducible rfl)); (try simp only [List.getElem_toArray]); (try simp only [List.getElem_cons_succ]); (try simp only [List.getElem_cons_zero]); (try simp only [Act.put]); (try simp only [List.setIfInBounds_toArray]); (try simp only [List.set_cons_succ]); (try simp only [List.set_cons_zero]))
          (refine wpAnyH_take (i := 9) (v := ?_) rfl (by kernel_rfl) (by kernel_rfl) (by kernel_rfl) (fun _ _ _ h => h) (Or.inl ⟨by rfl, ?_⟩) (by assumption) ?_; rotate_left; (focus (intro w' hSw; go_simp; try with_reducible rfl)); (try simp only [List.getElem_toArray]); (try simp only [List.getElem_cons_succ]); (try simp only [List.getElem_cons_zero]); (try simp only [Act.put]); (try simp only [List.setIfInBounds_toArray]); (try simp only [List.set_cons_succ]); (try simp only [List.set_cons_zero]))
          refine wpAnyH_done (by kernel_rfl) ?_ _
          go_roundw
          case rel => ((repeat apply Exists.intro); exact ⟨⟨m + q, _, by go_num, by omega, by omega, by omega, Lib.hid H4.out, HF', HL', hHeld⟩, rfl⟩)
          case measure => simp [intOf]; omega
        · exfalso; omega
      · obtain rfl : T = m := by omega
        go_wp2
        go_ret
        exact ⟨_, _, rfl, HT.out, HF.out.rd HT.out HB.out (by unfold maxLen; omega), Nat.le_refl _, hE⟩
end Go.Proofs.Ytjgheofaflgagaa
