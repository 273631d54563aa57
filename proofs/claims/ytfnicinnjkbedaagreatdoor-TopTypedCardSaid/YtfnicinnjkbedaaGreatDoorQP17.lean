/- Which texts mean nothing in a setting, by contract. Conditions: the setting is one, bytes are bytes. -/
import Derived.Test.YtfnicinnjkbedaaGreatDoorQO17
namespace Go.Proofs.YtfnicinnjkbedaaGreatDoor
open Go.RowKit Go.Kb
set_option maxRecDepth 100000

/-- a text of signs and ends of lines that mean nothing else -/
structure PTx (t : Tm) (l : List Int) : Prop where
  len : l.length ≤ 200
  nl : NoC t 10
  ch : ∀ c ∈ l, NoC t c ∧ (c = 10 ∨ 32 ≤ c ∧ c ≤ 126)
def PTPost (t : Tm) (l : List Int) (w : World) (e : Ending) (w' : World) : Prop := ∃ q : Bool, e = .returned (.bool q) ∧ (q = true → PTx t l) ∧ Ext w w'
/-- a byte that may stand in such a text -/
def ptcC (t : Tm) (c : Int) : Prop := (c = 10 ∨ 32 ≤ c ∧ c ≤ 126) ∧ ∀ op, 1 ≤ op → op ≤ 18 → isL t op c = false
theorem ptx_of {t : Tm} {l : List Int} (hl : l.length ≤ 200) (h : ∀ c ∈ 10 :: l, ptcC t c) : PTx t l := by
  have key : ∀ c ∈ 10 :: l, NoC t c := fun c hc => ⟨by have := (h c hc).1; omega, by have := (h c hc).1; omega, (h c hc).2⟩
  exact ⟨hl, key 10 (by simp), fun c hc => ⟨key c (by simp [hc]), (h c (by simp [hc])).1⟩⟩
set_option maxHeartbeats 3000000 in
theorem plainText_any (t : Tm) (v : Value) (l : List Int) (w : World) (ht : t.Ok) (hl : RI .u8 w v l) : Calls Tryz.prog 8 #[.agg t.arr, v] w (PTPost t l w) := by
  obtain ⟨A, c, rfl, hc1, hc2⟩ := hl.shape
  have H := Lib.hid hl
  have hi := info_tm ht
  have HIS := Lib.hid (fun op c w' => is_any t op c w' ht)
  have hT := Lib.hid (Blk.new w 26 t.arr)
  clear hl ht
  obtain ⟨N, hN⟩ : ∃ N, l.length = N := ⟨_, rfl⟩
  have HN := Lib.hid hN
  have H := Lib.hid (show RdN w 1 (.slice A N c) l.length (l.map (Value.int .u8)) by rw [← hN]; exact H.out)
  rw [hN] at hc1
  rw [hN]
  clear hN
  by_cases hbig : 200 < N
  · go_enter Tryz.func8, Tryz.ntmps8
    go_wp2
    go_ret
    exact ⟨false, rfl, (fun h => by cases h), (by repeat (first | with_reducible exact Ext.refl _ | refine Ext.drewN ?_ _ | refine Ext.drew ?_ | refine Ext.alloc ?_ _ | assumption | (refine Below.trans ?_ (by assumption)) | (refine Ext.trans ?_ (by assumption)) | (refine Below.trans ?_ (Below.mono (by assumption) (by omega)))))⟩
  · have hO := Lib.hid (OwnS.litB (e := Ub) (A := fun _ => False) (B := fun _ => False) (base := w.heap.size) (w := (w.alloc (.cells t.arr 26)).alloc (.cells #[.int .u8 10] 5)) (n := w.heap.size + 1) (RdE.ints (k := .u8) (l := [10])) (Blk.at_ _ _ (by simp)) (fun _ _ h => h.elim) (by omega) rfl (by decide))
    have hR := Lib.hid (RdN.ext H.out (show Ext w ((w.alloc (.cells t.arr 26)).alloc (.cells #[.int .u8 10] 5)) from ((Ext.refl _).alloc _).alloc _))
    have zB : w.heap.size ≤ ((w.alloc (.cells t.arr 26)).alloc (.cells #[.int .u8 10] 5)).heap.size := by simp; omega
    have HZB := Lib.hid zB
    clear zB
    go_enter Tryz.func8, Tryz.ntmps8
    go_wp2_with (at_builtin; refine wpList_app (e := Ub) (base := w.heap.size) (B := fun _ => False) (A := fun _ => False) rfl (.tmp 11) (.tmp 12) rfl Tryz.underlying27 info_u8 rfl hO.out rfl (RI.y hR.out) rfl (fun _ _ h => h.elim) (N := 1 + N) (by rw [HN.out]; rfl) (by unfold maxLen; omega) (by omega) HZB.out ?_; intro A7 c7 w7 o7 M7 B7)
    have E07 : Ext w w7 := Below.trans (((Ext.refl _).alloc _).alloc _) B7
    have O7 := Lib.hid (show RI .u8 w7 (.slice A7 (1 + N) c7) (10 :: l) from RdY.ri o7.y)
    have hT7 : Blk w7 w.heap.size 26 t.arr := Blk.mod (hT.out.alloc _) M7 (by simp [Value.ownBlock])
    have HT7 := Lib.hid hT7
    clear o7 M7 B7 hT7 hO hR HZB
    go_wp2
    go_loopw [15] (fun i wr => ∃ k : Nat, k ≤ 1 + N ∧ i = .int .i64 k ∧ Hid (∀ c ∈ (10 :: l).take k, ptcC t c) ∧ Ext w7 wr) (fun i _ => 1 + N - (intOf i).toNat)
    case atStart => exact ⟨0, Nat.zero_le _, rfl, Lib.hid (by simp), Ext.refl _⟩
    case round =>
      obtain ⟨k, hk, rfl, HC, hE⟩ := hrel
      by_cases hlt : k < 1 + N
      · obtain ⟨b, off, x, rfl, hx, hd⟩ := (O7.out.ext hE).icell hlt
        by_cases h10 : x = 10 ∨ 32 ≤ x ∧ x ≤ 126
        · have FIN : Hid (∀ q : Int, (∀ op, 1 ≤ op → op < q → isL t op x = false) → 19 ≤ q → ∀ c ∈ (10 :: l).take (k + 1), ptcC t c) := Lib.hid (by
            intro q hq h19 c hc
            rw [List.take_add_one, hd.out] at hc
            rcases List.mem_append.1 hc with h | h
            · exact HC.out c h
            · simp at h
              subst h
              exact ⟨h10, fun op h1 h2 => hq op h1 (by omega)⟩)
          have go : ∀ (P : Prop), (x = 10 → P) → (x ≠ 10 → ¬ (x < 32) → ¬ (126 < x) → P) → P := fun P h1 h2 => by
            by_cases h : x = 10
            · exact h1 h
            · exact h2 h (by omega) (by omega)
          obtain ⟨wq, hwq⟩ : ∃ wq, wq = wr := ⟨_, rfl⟩
          rw [← hwq] at hE hx ⊢
          clear hwq
          refine go _ (fun hx10 => ?_) (fun hx10 hx32 hx126 => ?_)
          · subst hx10
            go_wp2
            go_loopw [7] (fun i wr => ∃ q : Nat, 1 ≤ q ∧ q ≤ 19 ∧ i = .int .i64 q ∧ Hid (∀ op : Int, 1 ≤ op → op < q → isL t op 10 = false) ∧ Ext wq wr) (fun i _ => 19 - (intOf i).toNat)
            case atStart => exact ⟨1, by omega, by omega, rfl, Lib.hid (fun op h1 h2 => by omega), Ext.refl _⟩
            case round =>
              obtain ⟨q, hq1, hq2, rfl, HQ, hE2⟩ := hrel
              by_cases hq : q < 19
              · have HI := Lib.hid (HIS.out q 10)
                obtain ⟨r, hr⟩ : ∃ r, isL t q 10 = r := ⟨_, rfl⟩
                rw [hr] at HI
                have HR := Lib.hid hr
                clear hr
                have hqq : ¬ (18 < (q : Int)) := by omega
                go_wp2_with (refine wpList_load_row rfl 26 _ rfl w.heap.size rfl 26 t.arr _ _ (HT7.out.ext (hE.trans hE2)) Tryz.underlying26 rfl hi ?_)
                refine (HI.out _).mono ?_
                rintro e w9 ⟨rfl, E9⟩
                cases r with
                | true =>
                  go_wp2
                  go_ret
                  exact ⟨false, rfl, (fun h => by cases h), E07.trans (hE.trans (hE2.trans E9))⟩
                | false =>
                  go_wp2
                  go_roundw
                  case rel => exact ⟨q + 1, by omega, by omega, by go_num, Lib.hid (fun op h1 h2 => by
                    by_cases h : op = q
                    · rw [h]; exact HR.out
                    · exact HQ.out op h1 (by omega)), hE2.trans E9⟩
                  case measure => simp [intOf]; omega
              · obtain rfl : q = 19 := by omega
                have HC1 := Lib.hid (FIN.out 19 (fun op h1 h2 => HQ.out op h1 (by omega)) (by omega))
                go_wp2
                go_roundw
                case rel => exact ⟨k + 1, by omega, by go_num, HC1, hE.trans hE2⟩
                case measure => simp [intOf]; omega
          · have hx1 : (x == 10) = false := by simpa using hx10
            go_wp2
            go_loopw [7] (fun i wr => ∃ q : Nat, 1 ≤ q ∧ q ≤ 19 ∧ i = .int .i64 q ∧ Hid (∀ op : Int, 1 ≤ op → op < q → isL t op x = false) ∧ Ext wq wr) (fun i _ => 19 - (intOf i).toNat)
            case atStart => exact ⟨1, by omega, by omega, rfl, Lib.hid (fun op h1 h2 => by omega), Ext.refl _⟩
            case round =>
              obtain ⟨q, hq1, hq2, rfl, HQ, hE2⟩ := hrel
              by_cases hq : q < 19
              · have HI := Lib.hid (HIS.out q x)
                obtain ⟨r, hr⟩ : ∃ r, isL t q x = r := ⟨_, rfl⟩
                rw [hr] at HI
                have HR := Lib.hid hr
                clear hr
                have hqq : ¬ (18 < (q : Int)) := by omega
                go_wp2_with (refine wpList_load_row rfl 26 _ rfl w.heap.size rfl 26 t.arr _ _ (HT7.out.ext (hE.trans hE2)) Tryz.underlying26 rfl hi ?_)
                refine (HI.out _).mono ?_
                rintro e w9 ⟨rfl, E9⟩
                cases r with
                | true =>
                  go_wp2
                  go_ret
                  exact ⟨false, rfl, (fun h => by cases h), E07.trans (hE.trans (hE2.trans E9))⟩
                | false =>
                  go_wp2
                  go_roundw
                  case rel => exact ⟨q + 1, by omega, by omega, by go_num, Lib.hid (fun op h1 h2 => by
                    by_cases h : op = q
                    · rw [h]; exact HR.out
                    · exact HQ.out op h1 (by omega)), hE2.trans E9⟩
                  case measure => simp [intOf]; omega
              · obtain rfl : q = 19 := by omega
                have HC1 := Lib.hid (FIN.out 19 (fun op h1 h2 => HQ.out op h1 (by omega)) (by omega))
                go_wp2
                go_roundw
                case rel => exact ⟨k + 1, by omega, by go_num, HC1, hE.trans hE2⟩
                case measure => simp [intOf]; omega
        · have hx1 : ¬ (x = 10) := by omega
          by_cases hx32 : x < 32
          · go_wp2
            go_ret
            exact ⟨false, rfl, (fun h => by cases h), E07.trans (by exact (by repeat (first | with_reducible exact Ext.refl _ | refine Ext.drewN ?_ _ | refine Ext.drew ?_ | refine Ext.alloc ?_ _ | assumption | (refine Below.trans ?_ (by assumption)) | (refine Ext.trans ?_ (by assumption)) | (refine Below.trans ?_ (Below.mono (by assumption) (by omega))))))⟩
          · have hx126 : 126 < x := by omega
            go_wp2
            go_ret
            exact ⟨false, rfl, (fun h => by cases h), E07.trans (by exact (by repeat (first | with_reducible exact Ext.refl _ | refine Ext.drewN ?_ _ | refine Ext.drew ?_ | refine Ext.alloc ?_ _ | assumption | (refine Below.trans ?_ (by assumption)) | (refine Ext.trans ?_ (by assumption)) | (refine Below.trans ?_ (Below.mono (by assumption) (by omega))))))⟩
      · obtain rfl : k = 1 + N := by omega
        go_wp2
        go_ret
        refine ⟨true, rfl, fun _ => ptx_of (by rw [HN.out]; omega) ?_, E07.trans hE⟩
        have := HC.out
        rw [List.take_of_length_le (by rw [List.length_cons, HN.out]; omega)] at this
        exact this
end Go.Proofs.YtfnicinnjkbedaaGreatDoor
