/- request: words, lengths, the first of some errors, a text and a flag as fields, strings.Contains of one sign, by contract. Conditions: texts are at most a million bytes. -/
import Derived.Test.YtldijmappinngaaGreatDoorOS04
import Derived.Lib.Bytealg
import Derived.Lib.IndexBytes
namespace Go.Proofs.YtldijmappinngaaGreatDoor
open Go.RowKit Go.Kb
set_option maxRecDepth 100000

/-- a word of so many signs at least: an error's number -/
def wordE (s : ByteArray) (least : Int) : Int := if decide (least ≤ (s.size : Int)) && decide (s.size ≤ 64) && (bsL s).all (fun c => decide (33 ≤ c ∧ c ≤ 126)) then 0 else 4
theorem wordE_yes {s : ByteArray} {least : Int} (h1 : least ≤ (s.size : Int)) (h2 : s.size ≤ 64) (h3 : ∀ c ∈ bsL s, 33 ≤ c ∧ c ≤ 126) : wordE s least = 0 := by
  unfold wordE
  rw [if_pos]
  simp only [Bool.and_eq_true, decide_eq_true_eq, List.all_eq_true]
  exact ⟨⟨h1, h2⟩, h3⟩
theorem wordE_no {s : ByteArray} {least : Int} (h : ¬ (least ≤ (s.size : Int) ∧ s.size ≤ 64 ∧ ∀ c ∈ bsL s, 33 ≤ c ∧ c ≤ 126)) : wordE s least = 4 := by
  unfold wordE
  rw [if_neg]
  simp only [Bool.and_eq_true, decide_eq_true_eq, List.all_eq_true]
  exact fun h9 => h ⟨h9.1.1, h9.1.2, h9.2⟩
theorem wordE_zero {s : ByteArray} {least : Int} (h : wordE s least = 0) : s.size ≤ 64 := by
  apply Classical.byContradiction
  intro hn
  rw [wordE_no (fun h9 => hn h9.2.1)] at h
  cases h
set_option maxHeartbeats 800000 in
theorem word_any (s : ByteArray) (least : Int) (w : World) : Calls Tryz.prog 103 #[.string s, .int .i64 least] w fun e w' => e = .returned (.int .i64 (wordE s least)) ∧ Ext w w' := by
  have HL := Lib.hid (bsL_len s)
  have HIX := Lib.hid (str_ix s)
  obtain ⟨z, hz⟩ : ∃ z, wordE s least = z := ⟨_, rfl⟩
  rw [hz]
  have HZ := Lib.hid hz
  clear hz
  obtain ⟨N, hN⟩ : ∃ N, s.size = N := ⟨_, rfl⟩
  have hg : goInt (s.size : Int) = .int .i64 (N : Int) := by rw [hN]; rfl
  have HN := Lib.hid hN
  by_cases h1 : (N : Int) < least
  · have h0 : z = 4 := by rw [← HZ.out]; exact wordE_no (fun h => by have := h.1; rw [HN.out] at this; omega)
    subst h0
    go_enter Tryz.func103, Tryz.ntmps103
    go_wp2
    go_ret
    exact ⟨rfl, (by repeat (first | with_reducible exact Ext.refl _ | refine Ext.drewN ?_ _ | refine Ext.drew ?_ | refine Ext.alloc ?_ _ | assumption | (refine Below.trans ?_ (by assumption)) | (refine Ext.trans ?_ (by assumption)) | (refine Below.trans ?_ (Below.mono (by assumption) (by omega)))))⟩
  · by_cases h2 : 64 < N
    · have h3 : (64 : Int) < N := by omega
      have h0 : z = 4 := by rw [← HZ.out]; exact wordE_no (fun h => by have := h.2.1; rw [HN.out] at this; omega)
      subst h0
      go_enter Tryz.func103, Tryz.ntmps103
      go_wp2
      go_ret
      exact ⟨rfl, (by repeat (first | with_reducible exact Ext.refl _ | refine Ext.drewN ?_ _ | refine Ext.drew ?_ | refine Ext.alloc ?_ _ | assumption | (refine Below.trans ?_ (by assumption)) | (refine Ext.trans ?_ (by assumption)) | (refine Below.trans ?_ (Below.mono (by assumption) (by omega)))))⟩
    · have h3 : ¬ (64 : Int) < N := by omega
      go_enter Tryz.func103, Tryz.ntmps103
      go_wp2
      go_loopw [17] (fun i wr => ∃ m : Nat, m ≤ N ∧ i = .int .i64 m ∧ Hid (∀ c ∈ (bsL s).take m, 33 ≤ c ∧ c ≤ 126) ∧ Hid (Ext w wr)) (fun i _ => N - (intOf i).toNat)
      case atStart => exact ⟨0, Nat.zero_le _, rfl, Lib.hid (by simp), Lib.hid (Ext.refl _)⟩
      case round =>
        obtain ⟨m, hm, rfl, HC, hE⟩ := hrel
        by_cases hmn : m < N
        · obtain ⟨c, hc, hix⟩ := HIX.out m (by rw [hN]; exact hmn)
          by_cases c1 : c < 33
          · have h0 : z = 4 := by rw [← HZ.out]; exact wordE_no (fun h => by have := (h.2.2 c (List.mem_of_getElem? hc.out)).1; omega)
            subst h0
            go_wp2
            go_ret
            exact ⟨rfl, hE.out⟩
          · by_cases c2 : 126 < c
            · have h0 : z = 4 := by rw [← HZ.out]; exact wordE_no (fun h => by have := (h.2.2 c (List.mem_of_getElem? hc.out)).2; omega)
              subst h0
              go_wp2
              go_ret
              exact ⟨rfl, hE.out⟩
            · go_wp2
              go_roundw
              case rel => exact ⟨m + 1, by omega, by go_num, Lib.hid (by
                rw [List.take_add_one, hc.out]
                intro x hx
                rcases List.mem_append.1 hx with h | h
                · exact HC.out x h
                · simp at h; rw [h]; omega), hE⟩
              case measure => simp [intOf]; omega
        · obtain rfl : m = N := by omega
          have h0 : z = 0 := by
            rw [← HZ.out]
            have h9 := HC.out
            rw [← HN.out, ← HL.out, List.take_length] at h9
            exact wordE_yes (by rw [HN.out]; omega) (by rw [HN.out]; omega) h9
          subst h0
          go_wp2
          go_ret
          exact ⟨rfl, hE.out⟩
/-- at most so many -/
def longE (n : Int) : Int := if 1024 < n then 6 else 0
set_option maxHeartbeats 400000 in
theorem long_any (n : Int) (w : World) : Calls Tryz.prog 104 #[.int .i64 n] w fun e w' => e = .returned (.int .i64 (longE n)) ∧ Ext w w' := by
  by_cases h : 1024 < n
  · rw [show longE n = 6 from if_pos h]
    go_enter Tryz.func104, Tryz.ntmps104
    go_wp2
    go_ret
    exact ⟨rfl, (by repeat (first | with_reducible exact Ext.refl _ | refine Ext.drewN ?_ _ | refine Ext.drew ?_ | refine Ext.alloc ?_ _ | assumption | (refine Below.trans ?_ (by assumption)) | (refine Ext.trans ?_ (by assumption)) | (refine Below.trans ?_ (Below.mono (by assumption) (by omega)))))⟩
  · rw [show longE n = 0 from if_neg h]
    go_enter Tryz.func104, Tryz.ntmps104
    go_wp2
    go_ret
    exact ⟨rfl, (by repeat (first | with_reducible exact Ext.refl _ | refine Ext.drewN ?_ _ | refine Ext.drew ?_ | refine Ext.alloc ?_ _ | assumption | (refine Below.trans ?_ (by assumption)) | (refine Ext.trans ?_ (by assumption)) | (refine Below.trans ?_ (Below.mono (by assumption) (by omega)))))⟩
/-- the first that is no nought -/
def firstE : List Int → Int | [] => 0 | e :: r => if e = 0 then firstE r else e
theorem firstE_take {l : List Int} {j : Nat} (h : ∀ e ∈ l.take j, e = 0) : firstE l = firstE (l.drop j) := by
  induction l generalizing j with
  | nil => simp
  | cons a r ih =>
    cases j with
    | zero => rfl
    | succ j =>
      have ha : a = 0 := h a (by simp)
      rw [List.drop_succ_cons, ← ih (fun e he => h e (by simp [he]))]
      simp [firstE, ha]
set_option maxHeartbeats 800000 in
theorem first_any (v : Value) (l : List Int) (w : World) (h : RI .i64 w v l) : Calls Tryz.prog 102 #[v] w fun e w' => e = .returned (.int .i64 (firstE l)) ∧ Ext w w' := by
  obtain ⟨A, c, rfl, hc1, hc2⟩ := h.shape
  obtain ⟨N, hN⟩ : ∃ N, l.length = N := ⟨_, rfl⟩
  have HN := Lib.hid hN
  obtain ⟨z, hz⟩ : ∃ z, firstE l = z := ⟨_, rfl⟩
  rw [hz]
  have HZ := Lib.hid hz
  have H := Lib.hid (show RdN w 1 (.slice A N c) l.length (l.map (Value.int .i64)) by rw [← hN]; exact h)
  rw [hN] at hc1 ⊢
  clear h hN hz
  go_enter Tryz.func102, Tryz.ntmps102
  go_wp2
  go_loopw [7] (fun i wr => ∃ m : Nat, m ≤ N ∧ i = .int .i64 m ∧ Hid (∀ e ∈ l.take m, e = 0) ∧ Hid (Ext w wr)) (fun i _ => N - (intOf i).toNat)
  case atStart => exact ⟨0, Nat.zero_le _, rfl, Lib.hid (by simp), Lib.hid (Ext.refl _)⟩
  case round =>
    obtain ⟨m, hm, rfl, HC, hE⟩ := hrel
    by_cases hmn : m < N
    · obtain ⟨b, off, x, rfl, hx, hd⟩ := (RdN.ext H.out hE.out).icell hmn
      by_cases hx0 : x = 0
      · subst hx0
        go_wp2
        go_roundw
        case rel => exact ⟨m + 1, by omega, by go_num, Lib.hid (by
          rw [List.take_add_one, hd.out]
          intro e he
          rcases List.mem_append.1 he with h | h
          · exact HC.out e h
          · simpa using h), hE⟩
        case measure => simp [intOf]; omega
      · have hxb : (x == 0) = false := by simpa using hx0
        have hzx : z = x := by
          rw [← HZ.out, firstE_take HC.out]
          have h9 := hd.out
          obtain ⟨hlt, h8⟩ := List.getElem?_eq_some_iff.1 h9
          rw [List.drop_eq_getElem_cons hlt, h8]
          simp [firstE, hx0]
        subst hzx
        go_wp2
        go_ret
        exact ⟨rfl, hE.out⟩
    · obtain rfl : m = N := by omega
      have hz0 : z = 0 := by
        rw [← HZ.out, firstE_take HC.out, List.drop_of_length_le (by rw [HN.out]; exact Nat.le_refl _)]
        rfl
      subst hz0
      go_wp2
      go_ret
      exact ⟨rfl, hE.out⟩
/-- a text has '=' -/
def hasEq (s : ByteArray) : Bool := decide (0 ≤ Go.Lib.indexByte s.data.toList 61)
set_option maxHeartbeats 800000 in
theorem ixb_any (s : ByteArray) (w : World) : Calls Tryz.prog 127 #[.string s, .int .u8 61] w fun e w' => e = .returned (.int .i64 (Go.Lib.indexByte s.data.toList 61)) ∧ Ext w w' := by
  go_enter Tryz.func127, Tryz.ntmps127
  go_wp2
  rw [run_callFunc_extern Tryz.func136 (by kernel_rfl) (by kernel_rfl) (by kernel_rfl) (e := Extern.BytealgIndexByte.indexByte) (by kernel_rfl), Go.Lib.run_indexByteString]
  simp only [Result.andThen]
  rw [Oper.upon_value]
  go_wp2
  go_ret
  exact ⟨rfl, (by repeat (first | with_reducible exact Ext.refl _ | refine Ext.drewN ?_ _ | refine Ext.drew ?_ | refine Ext.alloc ?_ _ | assumption | (refine Below.trans ?_ (by assumption)) | (refine Ext.trans ?_ (by assumption)) | (refine Below.trans ?_ (Below.mono (by assumption) (by omega)))))⟩
set_option maxHeartbeats 800000 in
theorem sindex_any (s : ByteArray) (w : World) : Calls Tryz.prog 122 #[.string s, .string ⟨#[61]⟩] w fun e w' => e = .returned (.int .i64 (Go.Lib.indexByte s.data.toList 61)) ∧ Ext w w' := by
  cases hb : (([61] : List UInt8) == s.toList) with
  | true =>
    have hs : s.data.toList = [61] := (Go.Lib.toList_data s).symm.trans (beq_iff_eq.1 hb).symm
    have h0 : Go.Lib.indexByte s.data.toList 61 = 0 := by rw [hs]; rfl
    have H0 := Lib.hid h0
    clear hs h0
    go_enter Tryz.func122, Tryz.ntmps122
    go_wp2
    go_ret
    exact ⟨by rw [H0.out]; rfl, (by repeat (first | with_reducible exact Ext.refl _ | refine Ext.drewN ?_ _ | refine Ext.drew ?_ | refine Ext.alloc ?_ _ | assumption | (refine Below.trans ?_ (by assumption)) | (refine Ext.trans ?_ (by assumption)) | (refine Below.trans ?_ (Below.mono (by assumption) (by omega)))))⟩
  | false =>
    have h61 : ((({ data := #[61] } : ByteArray)[0].toNat : Nat) : Int) = 61 := by rfl
    go_enter Tryz.func122, Tryz.ntmps122
    go_wp2_with fail
    refine (ixb_any s _).mono ?_
    rintro e w1 ⟨rfl, E1⟩
    go_wp2
    go_ret
    exact ⟨rfl, (by repeat (first | with_reducible exact Ext.refl _ | refine Ext.drewN ?_ _ | refine Ext.drew ?_ | refine Ext.alloc ?_ _ | assumption | (refine Below.trans ?_ (by assumption)) | (refine Ext.trans ?_ (by assumption)) | (refine Below.trans ?_ (Below.mono (by assumption) (by omega)))))⟩
set_option maxHeartbeats 800000 in
theorem index_any4 (s : ByteArray) (w : World) : Calls Tryz.prog 116 #[.string s, .string ⟨#[61]⟩] w fun e w' => e = .returned (.int .i64 (Go.Lib.indexByte s.data.toList 61)) ∧ Ext w w' := by
  go_enter Tryz.func116, Tryz.ntmps116
  go_wp2_with fail
  refine (sindex_any s _).mono ?_
  rintro e w1 ⟨rfl, E1⟩
  go_wp2
  go_ret
  exact ⟨rfl, (by repeat (first | with_reducible exact Ext.refl _ | refine Ext.drewN ?_ _ | refine Ext.drew ?_ | refine Ext.alloc ?_ _ | assumption | (refine Below.trans ?_ (by assumption)) | (refine Ext.trans ?_ (by assumption)) | (refine Below.trans ?_ (Below.mono (by assumption) (by omega)))))⟩
set_option maxHeartbeats 800000 in
theorem contains_any4 (s : ByteArray) (w : World) : Calls Tryz.prog 106 #[.string s, .string ⟨#[61]⟩] w fun e w' => e = .returned (.bool (hasEq s)) ∧ Ext w w' := by
  obtain ⟨n, hn⟩ : ∃ n, Go.Lib.indexByte s.data.toList 61 = n := ⟨_, rfl⟩
  have HI := Lib.hid (fun w' => index_any4 s w')
  unfold hasEq
  rw [hn] at HI ⊢
  clear hn
  go_enter Tryz.func106, Tryz.ntmps106
  go_wp2_with fail
  refine (HI.out _).mono ?_
  rintro e w1 ⟨rfl, E1⟩
  go_wp2
  go_ret
  exact ⟨rfl, (by repeat (first | with_reducible exact Ext.refl _ | refine Ext.drewN ?_ _ | refine Ext.drew ?_ | refine Ext.alloc ?_ _ | assumption | (refine Below.trans ?_ (by assumption)) | (refine Ext.trans ?_ (by assumption)) | (refine Below.trans ?_ (Below.mono (by assumption) (by omega)))))⟩
set_option maxHeartbeats 800000 in
theorem text_any4 (s : ByteArray) (A : Nat → Prop) (w : World) (hs : s.size ≤ 1000000) : Calls Tryz.prog 105 #[.string s] w (GetP A 0 (bsL s) w) := by
  have hi : (Tryz.prog.info? 59).map (·.size) = some 4 := by kernel_rfl
  have HCV : ∀ (b : ByteArray) w', (convert 9 25 (.string b)).run Tryz.prog w' = _ := fun b w' => run_bytes_of_string w' 9 25 5 b Tryz.underlying9 Tryz.underlying25 Tryz.underlying5
  have B0 := Lib.hid (Blk.new w 59 #[.int .i64 0, .int .u32 0, .slice none 0 0, .slice none 0 0])
  go_enter Tryz.func105, Tryz.ntmps105
  go_wp2_with (refine wpList_store_row rfl 59 _ _ rfl w.heap.size _ rfl rfl 59 _ (B0.out.ext (by repeat (first | with_reducible exact Ext.refl _ | refine Ext.drewN ?_ _ | refine Ext.drew ?_ | refine Ext.alloc ?_ _ | assumption | (refine Below.trans ?_ (by assumption)) | (refine Ext.trans ?_ (by assumption)) | (refine Below.trans ?_ (Below.mono (by assumption) (by omega)))))) hi rfl (by simp [Value.oneCell']) ?_)
  refine bodyPost_ret_by (results_cell_row Tryz.results105 _ _ w.heap.size 59 _ _ _ rfl (Blk.setRow (B0.out.ext (by repeat (first | with_reducible exact Ext.refl _ | refine Ext.drewN ?_ _ | refine Ext.drew ?_ | refine Ext.alloc ?_ _ | assumption | (refine Below.trans ?_ (by assumption)) | (refine Ext.trans ?_ (by assumption)) | (refine Below.trans ?_ (Below.mono (by assumption) (by omega)))))) _) Tryz.underlying59 rfl hi) rfl ?_
  refine ⟨_, rfl, RdS.mono (RdS.mod (RdS.ext (txt_rds s _ _ _ (n := w.heap.size + 1) (by simp) (grownCap_ge _ _ _ _) (grownCap_le_maxLen _ _ _ _ (by simp [maxLen]; omega))) (Ext.drew (Ext.refl _))) (mod_setRow _) (fun k _ hk => by omega)) (fun k _ hk => .inr (by omega)), below_setRow (show Below w.heap.size w _ from (by repeat (first | with_reducible exact Ext.refl _ | refine Ext.drewN ?_ _ | refine Ext.drew ?_ | refine Ext.alloc ?_ _ | assumption | (refine Below.trans ?_ (by assumption)) | (refine Ext.trans ?_ (by assumption)) | (refine Below.trans ?_ (Below.mono (by assumption) (by omega)))))) (Nat.le_refl _) _⟩
set_option maxHeartbeats 800000 in
theorem flag_any4 (x : Bool) (A : Nat → Prop) (w : World) : Calls Tryz.prog 107 #[.bool x] w (GetP A (if x = true then 1 else 0) [] w) := by
  have hi : (Tryz.prog.info? 59).map (·.size) = some 4 := by kernel_rfl
  cases x with
  | true =>
    go_enter Tryz.func107, Tryz.ntmps107
    go_wp2_with (refine wpList_store_A rfl 59 _ _ rfl w.heap.size _ rfl rfl 59 _ (show Blk _ _ _ _ from Blk.at_ _ _ (by simp)) hi rfl (by simp [Value.oneCell']) ?_; intro w2 HB E2; have E2 := E2 w.heap.size w (by repeat (first | with_reducible exact Ext.refl _ | refine Ext.drewN ?_ _ | refine Ext.drew ?_ | refine Ext.alloc ?_ _ | assumption | (refine Below.trans ?_ (by assumption)) | (refine Ext.trans ?_ (by assumption)) | (refine Below.trans ?_ (Below.mono (by assumption) (by omega))))) (Nat.le_refl _))
    refine bodyPost_ret_by (results_cell_row Tryz.results107 _ _ w.heap.size 59 _ _ _ rfl HB Tryz.underlying59 rfl hi) rfl ?_
    exact ⟨_, rfl, RdS.nil _ _ _, E2⟩
  | false =>
    go_enter Tryz.func107, Tryz.ntmps107
    go_wp2_with (refine wpList_store_A rfl 59 _ _ rfl w.heap.size _ rfl rfl 59 _ (show Blk _ _ _ _ from Blk.at_ _ _ (by simp)) hi rfl (by simp [Value.oneCell']) ?_; intro w2 HB E2; have E2 := E2 w.heap.size w (by repeat (first | with_reducible exact Ext.refl _ | refine Ext.drewN ?_ _ | refine Ext.drew ?_ | refine Ext.alloc ?_ _ | assumption | (refine Below.trans ?_ (by assumption)) | (refine Ext.trans ?_ (by assumption)) | (refine Below.trans ?_ (Below.mono (by assumption) (by omega))))) (Nat.le_refl _))
    refine bodyPost_ret_by (results_cell_row Tryz.results107 _ _ w.heap.size 59 _ _ _ rfl HB Tryz.underlying59 rfl hi) rfl ?_
    exact ⟨_, rfl, RdS.nil _ _ _, E2⟩
end Go.Proofs.YtldijmappinngaaGreatDoor
