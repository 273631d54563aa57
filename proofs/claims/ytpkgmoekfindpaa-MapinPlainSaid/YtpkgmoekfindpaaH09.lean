/- What the flags leave out and make, walked. Conditions: the setting is one, bytes are bytes. -/
import Derived.Test.YtpkgmoekfindpaaE09
namespace Go.Proofs.Ytpkgmoekfindpaa
open Go.RowKit Go.Kb

def ops7 : List Int := [33, 37, 35, 36, 34, 31, 59]
def plT (t : Tm) (k : Nat) : Tm := (ops7.take k).foldl (fun t op => setL t op false) t
theorem plT_succ (t : Tm) {k : Nat} (h : k < 7) : plT t (k + 1) = setL (plT t k) (ops7.getD k 0) false := by
  unfold plT
  rw [List.take_add_one, List.foldl_append, List.getD_eq_getElem?_getD, List.getElem?_eq_getElem (show k < ops7.length from h)]
  rfl
theorem off_ok : ∀ (l : List Int) (t : Tm), t.Ok → (l.foldl (fun t op => setL t op false) t).Ok
  | [], _, h => h
  | x :: l, _, h => off_ok l _ (setL_ok h x false)
theorem plT_ok {t : Tm} (h : t.Ok) (k : Nat) : (plT t k).Ok := off_ok _ _ h
theorem hasL_off : ∀ (l : List Int) (t : Tm), t.Ok → ∀ q, (q ∈ l ∨ hasL t q = false) → hasL (l.foldl (fun t op => setL t op false) t) q = false
  | [], _, _, q, hq => by
    rcases hq with hq | hq
    · simp at hq
    · exact hq
  | x :: l, t, h, q, hq => by
    refine hasL_off l (setL t x false) (setL_ok h x false) q ?_
    rcases hq with hq | hq
    · rcases List.mem_cons.1 hq with rfl | hq
      · right
        rw [hasL_setL h]
        by_cases hf : flagL q = true
        · simp [hf]
        · simp [hf, hasL]
      · exact .inl hq
    · right
      rw [hasL_setL h]
      split
      · rfl
      · exact hq
theorem plT_map {t : Tm} (h : t.Ok) (l : List Int) : mapL (mfL (plT t 7)) l = l :=
  mapL_plain (hasL_off _ _ h 33 (.inl (by decide))) (hasL_off _ _ h 37 (.inl (by decide))) (hasL_off _ _ h 35 (.inl (by decide))) (hasL_off _ _ h 36 (.inl (by decide))) (hasL_off _ _ h 34 (.inl (by decide))) (hasL_off _ _ h 31 (.inl (by decide))) l
theorem index_ops7 (k : Nat) (hk : k < 7) (w : World) : (Instr.index 32 (.agg #[.int .i64 33, .int .i64 37, .int .i64 35, .int .i64 36, .int .i64 34, .int .i64 31, .int .i64 59]) (.int .i64 (k : Int))).run Try.prog w = .ok (.int .i64 (ops7.getD k 0)) w := by
  rcases k with _ | _ | _ | _ | _ | _ | _ | k
  all_goals first | omega | kernel_rfl
set_option maxRecDepth 100000 in
set_option maxHeartbeats 3000000 in
theorem mapinPlain_walk (t : Tm) (v : Value) (l : List Int) (w : World) (ht : t.Ok) (hl : RI .u8 w v l) (hB : Bs l) :
    Calls Try.prog 4 #[.agg t.arr, v] w fun e w' => e = .returned (.bool true) ∧ Ext w w' := by
  have hn := t.size ht
  have hF := fun v w' hl hlen => map_any t v l w' ht hl hB hlen
  have hP := fun v w' hl hlen => map_any (plT t 7) v l w' (plT_ok ht 7) hl hB hlen
  rw [plT_map ht] at hP
  have hS := fun k w' => set_any (plT t k) (ops7.getD k 0) false w' (plT_ok ht k)
  have hSn := fun k (hk : k < 7) => plT_succ t hk
  have hsz := fun k => Tm.size (plT_ok ht k)
  have hone := fun k => (plT t k).one
  have h36 := fun w' => has_any t 36 w' ht
  have h34 := fun w' => has_any t 34 w' ht
  have h33 := fun w' => has_any t 33 w' ht
  have h31 := fun w' => has_any t 31 w' ht
  have q13 := fun x h1 h2 hx => mapL_13 (f := mfL t) (l := l) (x := x) h1 h2 hx
  have q127 := fun x h1 hx => mapL_127 (f := mfL t) (l := l) (x := x) h1 hx
  have qev := fun h1 h2 k c hk hc => mapL_even (f := mfL t) (l := l) (k := k) (c := c) h1 h2 hk hc
  have p1 : (mfL t).ic = hasL t 36 := rfl
  have p2 : (mfL t).il = hasL t 34 := rfl
  have p3 : (mfL t).s = hasL t 33 := rfl
  have p4 : (mfL t).pm = hasL t 31 := rfl
  have hml := mapL_len (mfL t) l
  have hmb := mapL_bs (f := mfL t) hB
  rw [p1, p2] at q13
  rw [p3] at q127
  rw [p3, p4] at qev
  clear p1 p2 p3 p4
  have hz0 : plT t 0 = t := rfl
  generalize mapL (mfL t) l = out at *
  generalize hasL t 36 = g36 at *
  generalize hasL t 34 = g34 at *
  generalize hasL t 33 = g33 at *
  generalize hasL t 31 = g31 at *
  have HS := Lib.hid hS
  have HSn := Lib.hid hSn
  have Hsz := Lib.hid hsz
  have Hone := Lib.hid hone
  have Hz0 := Lib.hid (congrArg Tm.arr hz0)
  have h1 := Lib.hid t.one
  clear hS hSn hsz hone hz0
  generalize hcs : t.arr = cs at *
  clear hcs
  obtain ⟨Ad, c, rfl, hc1, hc2⟩ := hl.shape
  have H0 := Lib.hid hl
  have HF := Lib.hid hF
  have HP := Lib.hid hP
  have H36 := Lib.hid h36
  have H34 := Lib.hid h34
  have H33 := Lib.hid h33
  have H31 := Lib.hid h31
  have Q13 := Lib.hid q13
  have Q127 := Lib.hid q127
  have HEV := Lib.hid qev
  have HMB := Lib.hid hmb
  clear hl hB hF hP ht h36 h34 h33 h31 q13 q127 qev hmb
  have hi : (Try.prog.info? 26).map (·.size) = some cs.size := by rw [hn]; kernel_rfl
  have hi24 : (Try.prog.info? 26).map (·.size) = some 24 := by kernel_rfl
  have HI24 := Lib.hid hi24
  clear hi24
  have hT0 := Lib.hid (Blk.new w 26 cs)
  have hn24 := Lib.hid hn
  go_enter Try.func4, Try.ntmps4
  (go_wp2_with fail; refine (alive_any _).mono ?_; rintro e w1 ⟨rfl, E1⟩)
  have hT := Lib.hid (hT0.out.ext E1)
  have E01 : Ext w w1 := (by repeat (first | with_reducible exact Ext.refl _ | refine Ext.drewN ?_ _ | refine Ext.drew ?_ | refine Ext.alloc ?_ _ | assumption | (refine Below.trans ?_ (by assumption)) | (refine Ext.trans ?_ (by assumption)) | (refine Below.trans ?_ (Below.mono (by assumption) (by omega)))))
  have H := Lib.hid (RdN.ext H0.out E01)
  clear E1 hT0 H0
  by_cases hbig : 10000 < l.length
  · go_wp2
    go_ret
    exact ⟨rfl, E01⟩
  · have hlen : l.length ≤ 10000000 := by omega
    go_wp2_with (first | (refine wpList_load_row rfl 26 _ rfl _ rfl 26 _ _ _ (Blk.ext hT.out (by repeat (first | with_reducible exact Ext.refl _ | refine Ext.drewN ?_ _ | refine Ext.drew ?_ | refine Ext.alloc ?_ _ | assumption | (refine Below.trans ?_ (by assumption)) | (refine Ext.trans ?_ (by assumption)) | (refine Below.trans ?_ (Below.mono (by assumption) (by omega)))))) Try.underlying26 rfl hi ?_) | (refine wpList_store_A rfl 26 _ _ rfl w1.heap.size _ rfl rfl 26 _ (show Blk _ _ _ _ from Blk.at_ _ _ (by simp)) hi (by first | rfl | (rw [hn24.out]; rfl)) h1.out ?_; intro w2 Hw2 Ew2; have Ew2 := Ew2 w1.heap.size w1 (by repeat (first | with_reducible exact Ext.refl _ | refine Ext.drewN ?_ _ | refine Ext.drew ?_ | refine Ext.alloc ?_ _ | assumption | (refine Below.trans ?_ (by assumption)) | (refine Ext.trans ?_ (by assumption)) | (refine Below.trans ?_ (Below.mono (by assumption) (by omega))))) (Nat.le_refl _); have Hw2 := Lib.hid Hw2))
    have HB0 : Hid (Blk w2 w1.heap.size 26 (plT t 0).arr) := Lib.hid (by rw [Hz0.out]; exact Hw2.out)
    clear Hw2
    go_loopw [19] (fun i wr => ∃ k : Nat, k ≤ 7 ∧ i = .int .i64 k ∧ Hid (Blk wr w1.heap.size 26 (plT t k).arr) ∧ Ext w1 wr) (fun i _ => 7 - (intOf i).toNat)
    case atStart => exact ⟨0, Nat.zero_le _, rfl, HB0, Ew2⟩
    case round =>
      clear HB0 Ew2
      obtain ⟨k, hk, rfl, HBk, E1r⟩ := hrel
      by_cases hlt : k < 7
      · have hix := index_ops7 k hlt
        have HSk := Lib.hid (HS.out k)
        have hsk := Hsz.out k
        have hsn := Hsz.out (k + 1)
        have hon := Lib.hid (Hone.out (k + 1))
        have hsn' := HSn.out k hlt
        rw [← hsn'] at HSk
        clear hsn'
        generalize hcn : (plT t (k + 1)).arr = cn at HSk hsn hon
        have HCN := Lib.hid hcn
        clear hcn
        generalize (plT t k).arr = ck at HSk HBk hsk
        have HCn : Hid (cn.size = 24) := Lib.hid hsn
        have hik : (Try.prog.info? 26).map (·.size) = some ck.size := by rw [hsk]; exact HI24.out
        have hin : (Try.prog.info? 26).map (·.size) = some cn.size := by rw [hsn]; exact HI24.out
        have HCk : Hid (ck.size = cn.size) := Lib.hid (hsk.trans hsn.symm)
        clear hsk hsn
        generalize ops7.getD k 0 = op at hix HSk
        go_wp2_with ((refine wpList_load_row rfl 26 _ rfl _ rfl 26 _ _ _ (Blk.ext HBk.out (by repeat (first | with_reducible exact Ext.refl _ | refine Ext.drewN ?_ _ | refine Ext.drew ?_ | refine Ext.alloc ?_ _ | assumption | (refine Below.trans ?_ (by assumption)) | (refine Ext.trans ?_ (by assumption)) | (refine Below.trans ?_ (Below.mono (by assumption) (by omega)))))) Try.underlying26 rfl hik ?_))
        (with_reducible refine (HSk.out _).mono ?_); rintro e w3 ⟨rfl, E3⟩
        go_wp2_with (refine wpList_store_A rfl 26 _ _ rfl w1.heap.size _ rfl rfl 26 _ (Blk.ext HBk.out E3) hin HCk.out hon.out ?_; intro w4 H4 E4; have E4 := E4 w1.heap.size w1 (Ext.trans E1r E3) (Nat.le_refl _); have H4 := Lib.hid H4)
        go_roundw
        case rel => exact ⟨k + 1, by omega, by go_num, Lib.hid (by rw [HCN.out]; exact H4.out), E4⟩
        case measure => simp [intOf]; omega
      · obtain rfl : k = 7 := by omega
        have E1r' := Lib.hid E1r
        have hi7 : (Try.prog.info? 26).map (·.size) = some (plT t 7).arr.size := by rw [Hsz.out]; exact HI24.out
        generalize (plT t 7).arr = cp at *
        clear HS HSn Hz0 Hone
        go_wp2_with ((refine wpList_load_row rfl 26 _ rfl _ rfl 26 _ _ _ (Blk.ext HBk.out (by repeat (first | with_reducible exact Ext.refl _ | refine Ext.drewN ?_ _ | refine Ext.drew ?_ | refine Ext.alloc ?_ _ | assumption | (refine Below.trans ?_ (by assumption)) | (refine Ext.trans ?_ (by assumption)) | (refine Below.trans ?_ (Below.mono (by assumption) (by omega)))))) Try.underlying26 rfl hi7 ?_))
        (with_reducible refine (HP.out _ _ (RdN.ext H.out E1r) hlen).mono ?_); rintro e w3 ⟨A3, n3, c3, l3, rfl, o3, E3⟩
        have R3 : Hid (RI .u8 w3 (.slice A3 n3 c3) l) := Lib.hid o3.rdT.ri
        clear o3 l3
        go_wp2_with fail
        (with_reducible refine (bytes_same _ _ l _ R3.out (RdN.ext H.out (by repeat (first | with_reducible exact Ext.refl _ | refine Ext.drewN ?_ _ | refine Ext.drew ?_ | refine Ext.alloc ?_ _ | assumption | (refine Below.trans ?_ (by assumption)) | (refine Ext.trans ?_ (by assumption)) | (refine Below.trans ?_ (Below.mono (by assumption) (by omega))))))).mono ?_); rintro e w4 ⟨rfl, E4⟩
        go_wp2_with ((refine wpList_load_row rfl 26 _ rfl _ rfl 26 _ _ _ (Blk.ext hT.out (by repeat (first | with_reducible exact Ext.refl _ | refine Ext.drewN ?_ _ | refine Ext.drew ?_ | refine Ext.alloc ?_ _ | assumption | (refine Below.trans ?_ (by assumption)) | (refine Ext.trans ?_ (by assumption)) | (refine Below.trans ?_ (Below.mono (by assumption) (by omega)))))) Try.underlying26 rfl hi ?_))
        (with_reducible refine (HF.out _ _ (RdN.ext H.out (by repeat (first | with_reducible exact Ext.refl _ | refine Ext.drewN ?_ _ | refine Ext.drew ?_ | refine Ext.alloc ?_ _ | assumption | (refine Below.trans ?_ (by assumption)) | (refine Ext.trans ?_ (by assumption)) | (refine Below.trans ?_ (Below.mono (by assumption) (by omega)))))) hlen).mono ?_); rintro e w5 ⟨A5, n5, c5, l5, rfl, o5, E5⟩
        have R5 : Hid (RI .u8 w5 (.slice A5 n5 c5) out) := Lib.hid o5.rdT.ri
        have l5 : out.length = n5 := l5
        have E15 : Ext w1 w5 := (by repeat (first | with_reducible exact Ext.refl _ | refine Ext.drewN ?_ _ | refine Ext.drew ?_ | refine Ext.alloc ?_ _ | assumption | (refine Below.trans ?_ (by assumption)) | (refine Ext.trans ?_ (by assumption)) | (refine Below.trans ?_ (Below.mono (by assumption) (by omega)))))
        have i6 : n5 ≤ 20000 := by omega
        have i7 : (n5 : Int) ≤ 2 * (l.length : Int) := by omega
        have L5 := Lib.hid l5
        clear o5 l5 E3 E4 E5 R3 HF HP hml E1r E1r' HBk
        go_wp2
        go_loopw [9, 37] (fun q i wr => ∃ k : Nat, k ≤ n5 ∧ i = .int .i64 k ∧ q = .int .i64 (rowL (out.take k)) ∧ Ext w5 wr) (fun _ i _ => n5 - (intOf i).toNat)
        case atStart => exact ⟨0, Nat.zero_le _, rfl, rfl, Ext.refl _⟩
        case round =>
          obtain ⟨k, hk, rfl, rfl, E5r⟩ := hrel
          have E1r : Ext w1 wr := E15.trans E5r
          clear E15
          by_cases hlt : k < n5
          · obtain ⟨b, off, x, rfl, hx, hd⟩ := (RdN.ext R5.out E5r).icell hlt
            have hmem := Lib.hid (List.mem_of_getElem? hd.out)
            have hxb := HMB.out x hmem.out
            have hrl := rowL_le (out.take k)
            rw [List.length_take] at hrl
            have HRT := Lib.hid (rowL_take hd.out)
            have hrk : rowL (out.take k) ≤ 20000 := by omega
            have HEVk := Lib.hid fun h1 h2 hx => HEV.out h1 h2 k x hd.out hx
            clear hrl
            generalize rowL (out.take k) = r at HRT hrk HEVk
            by_cases h13 : x = 13
            · subst h13
              clear hxb
              go_wp2_with ((refine wpList_openG rfl rfl ?_; (refine wpList_load_row rfl 26 _ rfl _ rfl 26 _ _ _ (Blk.ext hT.out (by repeat (first | with_reducible exact Ext.refl _ | refine Ext.drewN ?_ _ | refine Ext.drew ?_ | refine Ext.alloc ?_ _ | assumption | (refine Below.trans ?_ (by assumption)) | (refine Ext.trans ?_ (by assumption)) | (refine Below.trans ?_ (Below.mono (by assumption) (by omega)))))) Try.underlying26 rfl hi ?_)))
              (with_reducible refine (H36.out _).mono ?_); rintro e w6 ⟨rfl, E6⟩
              cases g36
              ·
                replace HRT := Lib.hid (HRT.out.trans (if_neg (by decide)))
                rcases Nat.mod_two_eq_zero_or_one r with hpar | hpar
                · have hr0 : ((r : Int) % 2 == 1) = false := by rw [beq_eq_false_iff_ne]; omega
                  clear hpar
                  go_wp2
                  go_roundw
                  case rel => exact ⟨k + 1, by omega, by go_num, by rw [HRT.out]; rfl, (by repeat (first | with_reducible exact Ext.refl _ | refine Ext.drewN ?_ _ | refine Ext.drew ?_ | refine Ext.alloc ?_ _ | assumption | (refine Below.trans ?_ (by assumption)) | (refine Ext.trans ?_ (by assumption)) | (refine Below.trans ?_ (Below.mono (by assumption) (by omega)))))⟩
                  case measure => simp [intOf]; omega
                · have hr1 : ((r : Int) % 2 == 1) = true := by rw [beq_iff_eq]; omega
                  have HPAR := Lib.hid hpar
                  clear hpar
                  go_wp2_with ((refine wpList_openG rfl rfl ?_; (refine wpList_load_row rfl 26 _ rfl _ rfl 26 _ _ _ (Blk.ext hT.out (by repeat (first | with_reducible exact Ext.refl _ | refine Ext.drewN ?_ _ | refine Ext.drew ?_ | refine Ext.alloc ?_ _ | assumption | (refine Below.trans ?_ (by assumption)) | (refine Ext.trans ?_ (by assumption)) | (refine Below.trans ?_ (Below.mono (by assumption) (by omega)))))) Try.underlying26 rfl hi ?_)))
                  (with_reducible refine (H31.out _).mono ?_); rintro e w10 ⟨rfl, E10⟩
                  cases g31
                  · go_wp2
                    go_roundw
                    case rel => exact ⟨k + 1, by omega, by go_num, by rw [HRT.out]; rfl, (by repeat (first | with_reducible exact Ext.refl _ | refine Ext.drewN ?_ _ | refine Ext.drew ?_ | refine Ext.alloc ?_ _ | assumption | (refine Below.trans ?_ (by assumption)) | (refine Ext.trans ?_ (by assumption)) | (refine Below.trans ?_ (Below.mono (by assumption) (by omega)))))⟩
                    case measure => simp [intOf]; omega
                  · go_wp2_with ((refine wpList_openG rfl rfl ?_; (refine wpList_load_row rfl 26 _ rfl _ rfl 26 _ _ _ (Blk.ext hT.out (by repeat (first | with_reducible exact Ext.refl _ | refine Ext.drewN ?_ _ | refine Ext.drew ?_ | refine Ext.alloc ?_ _ | assumption | (refine Below.trans ?_ (by assumption)) | (refine Ext.trans ?_ (by assumption)) | (refine Below.trans ?_ (Below.mono (by assumption) (by omega)))))) Try.underlying26 rfl hi ?_)))
                    (with_reducible refine (H33.out _).mono ?_); rintro e w11 ⟨rfl, E11⟩
                    cases g33
                    · exact absurd (HEVk.out (by trivial) (by trivial) (by decide)) (by rw [HPAR.out]; decide)
                    · go_wp2
                      go_roundw
                      case rel => exact ⟨k + 1, by omega, by go_num, by rw [HRT.out]; rfl, (by repeat (first | with_reducible exact Ext.refl _ | refine Ext.drewN ?_ _ | refine Ext.drew ?_ | refine Ext.alloc ?_ _ | assumption | (refine Below.trans ?_ (by assumption)) | (refine Ext.trans ?_ (by assumption)) | (refine Below.trans ?_ (Below.mono (by assumption) (by omega)))))⟩
                      case measure => simp [intOf]; omega
              · go_wp2_with ((refine wpList_openG rfl rfl ?_; (refine wpList_load_row rfl 26 _ rfl _ rfl 26 _ _ _ (Blk.ext hT.out (by repeat (first | with_reducible exact Ext.refl _ | refine Ext.drewN ?_ _ | refine Ext.drew ?_ | refine Ext.alloc ?_ _ | assumption | (refine Below.trans ?_ (by assumption)) | (refine Ext.trans ?_ (by assumption)) | (refine Below.trans ?_ (Below.mono (by assumption) (by omega)))))) Try.underlying26 rfl hi ?_)))
                (with_reducible refine (H34.out _).mono ?_); rintro e w7 ⟨rfl, E7⟩
                cases g34
                · exact absurd rfl (Q13.out 13 (by trivial) (by trivial) hmem.out)
                ·
                  replace HRT := Lib.hid (HRT.out.trans (if_neg (by decide)))
                  rcases Nat.mod_two_eq_zero_or_one r with hpar | hpar
                  · have hr0 : ((r : Int) % 2 == 1) = false := by rw [beq_eq_false_iff_ne]; omega
                    clear hpar
                    go_wp2
                    go_roundw
                    case rel => exact ⟨k + 1, by omega, by go_num, by rw [HRT.out]; rfl, (by repeat (first | with_reducible exact Ext.refl _ | refine Ext.drewN ?_ _ | refine Ext.drew ?_ | refine Ext.alloc ?_ _ | assumption | (refine Below.trans ?_ (by assumption)) | (refine Ext.trans ?_ (by assumption)) | (refine Below.trans ?_ (Below.mono (by assumption) (by omega)))))⟩
                    case measure => simp [intOf]; omega
                  · have hr1 : ((r : Int) % 2 == 1) = true := by rw [beq_iff_eq]; omega
                    have HPAR := Lib.hid hpar
                    clear hpar
                    go_wp2_with ((refine wpList_openG rfl rfl ?_; (refine wpList_load_row rfl 26 _ rfl _ rfl 26 _ _ _ (Blk.ext hT.out (by repeat (first | with_reducible exact Ext.refl _ | refine Ext.drewN ?_ _ | refine Ext.drew ?_ | refine Ext.alloc ?_ _ | assumption | (refine Below.trans ?_ (by assumption)) | (refine Ext.trans ?_ (by assumption)) | (refine Below.trans ?_ (Below.mono (by assumption) (by omega)))))) Try.underlying26 rfl hi ?_)))
                    (with_reducible refine (H31.out _).mono ?_); rintro e w10 ⟨rfl, E10⟩
                    cases g31
                    · go_wp2
                      go_roundw
                      case rel => exact ⟨k + 1, by omega, by go_num, by rw [HRT.out]; rfl, (by repeat (first | with_reducible exact Ext.refl _ | refine Ext.drewN ?_ _ | refine Ext.drew ?_ | refine Ext.alloc ?_ _ | assumption | (refine Below.trans ?_ (by assumption)) | (refine Ext.trans ?_ (by assumption)) | (refine Below.trans ?_ (Below.mono (by assumption) (by omega)))))⟩
                      case measure => simp [intOf]; omega
                    · go_wp2_with ((refine wpList_openG rfl rfl ?_; (refine wpList_load_row rfl 26 _ rfl _ rfl 26 _ _ _ (Blk.ext hT.out (by repeat (first | with_reducible exact Ext.refl _ | refine Ext.drewN ?_ _ | refine Ext.drew ?_ | refine Ext.alloc ?_ _ | assumption | (refine Below.trans ?_ (by assumption)) | (refine Ext.trans ?_ (by assumption)) | (refine Below.trans ?_ (Below.mono (by assumption) (by omega)))))) Try.underlying26 rfl hi ?_)))
                      (with_reducible refine (H33.out _).mono ?_); rintro e w11 ⟨rfl, E11⟩
                      cases g33
                      · exact absurd (HEVk.out (by trivial) (by trivial) (by decide)) (by rw [HPAR.out]; decide)
                      · go_wp2
                        go_roundw
                        case rel => exact ⟨k + 1, by omega, by go_num, by rw [HRT.out]; rfl, (by repeat (first | with_reducible exact Ext.refl _ | refine Ext.drewN ?_ _ | refine Ext.drew ?_ | refine Ext.alloc ?_ _ | assumption | (refine Below.trans ?_ (by assumption)) | (refine Ext.trans ?_ (by assumption)) | (refine Below.trans ?_ (Below.mono (by assumption) (by omega)))))⟩
                        case measure => simp [intOf]; omega
            · have i13 : (x == 13) = false := by simpa using h13
              clear h13
              by_cases h127 : 127 < x
              · by_cases h255 : x = 255
                · subst h255
                  replace HRT := Lib.hid (HRT.out.trans (if_pos rfl))
                  clear i13
                  go_wp2_with ((refine wpList_openG rfl rfl ?_; (refine wpList_load_row rfl 26 _ rfl _ rfl 26 _ _ _ (Blk.ext hT.out (by repeat (first | with_reducible exact Ext.refl _ | refine Ext.drewN ?_ _ | refine Ext.drew ?_ | refine Ext.alloc ?_ _ | assumption | (refine Below.trans ?_ (by assumption)) | (refine Ext.trans ?_ (by assumption)) | (refine Below.trans ?_ (Below.mono (by assumption) (by omega)))))) Try.underlying26 rfl hi ?_)))
                  (with_reducible refine (H33.out _).mono ?_); rintro e w6 ⟨rfl, E6⟩
                  cases g33
                  · go_wp2
                    go_roundw
                    case rel => exact ⟨k + 1, by omega, by go_num, by rw [HRT.out]; rfl, (by repeat (first | with_reducible exact Ext.refl _ | refine Ext.drewN ?_ _ | refine Ext.drew ?_ | refine Ext.alloc ?_ _ | assumption | (refine Below.trans ?_ (by assumption)) | (refine Ext.trans ?_ (by assumption)) | (refine Below.trans ?_ (Below.mono (by assumption) (by omega)))))⟩
                    case measure => simp [intOf]; omega
                  · exact absurd (Q127.out 255 (by trivial) hmem.out) (by decide)
                · have i255 : (x == 255) = false := by simpa using h255
                  have H255 := Lib.hid h255
                  clear h255
                  go_wp2_with ((refine wpList_openG rfl rfl ?_; (refine wpList_load_row rfl 26 _ rfl _ rfl 26 _ _ _ (Blk.ext hT.out (by repeat (first | with_reducible exact Ext.refl _ | refine Ext.drewN ?_ _ | refine Ext.drew ?_ | refine Ext.alloc ?_ _ | assumption | (refine Below.trans ?_ (by assumption)) | (refine Ext.trans ?_ (by assumption)) | (refine Below.trans ?_ (Below.mono (by assumption) (by omega)))))) Try.underlying26 rfl hi ?_)))
                  (with_reducible refine (H33.out _).mono ?_); rintro e w6 ⟨rfl, E6⟩
                  cases g33
                  ·
                    replace HRT := Lib.hid (HRT.out.trans (if_neg H255.out))
                    rcases Nat.mod_two_eq_zero_or_one r with hpar | hpar
                    · have hr0 : ((r : Int) % 2 == 1) = false := by rw [beq_eq_false_iff_ne]; omega
                      clear hpar
                      go_wp2
                      go_roundw
                      case rel => exact ⟨k + 1, by omega, by go_num, by rw [HRT.out]; rfl, (by repeat (first | with_reducible exact Ext.refl _ | refine Ext.drewN ?_ _ | refine Ext.drew ?_ | refine Ext.alloc ?_ _ | assumption | (refine Below.trans ?_ (by assumption)) | (refine Ext.trans ?_ (by assumption)) | (refine Below.trans ?_ (Below.mono (by assumption) (by omega)))))⟩
                      case measure => simp [intOf]; omega
                    · have hr1 : ((r : Int) % 2 == 1) = true := by rw [beq_iff_eq]; omega
                      have HPAR := Lib.hid hpar
                      clear hpar
                      go_wp2_with ((refine wpList_openG rfl rfl ?_; (refine wpList_load_row rfl 26 _ rfl _ rfl 26 _ _ _ (Blk.ext hT.out (by repeat (first | with_reducible exact Ext.refl _ | refine Ext.drewN ?_ _ | refine Ext.drew ?_ | refine Ext.alloc ?_ _ | assumption | (refine Below.trans ?_ (by assumption)) | (refine Ext.trans ?_ (by assumption)) | (refine Below.trans ?_ (Below.mono (by assumption) (by omega)))))) Try.underlying26 rfl hi ?_)))
                      (with_reducible refine (H31.out _).mono ?_); rintro e w10 ⟨rfl, E10⟩
                      cases g31
                      · go_wp2
                        go_roundw
                        case rel => exact ⟨k + 1, by omega, by go_num, by rw [HRT.out]; rfl, (by repeat (first | with_reducible exact Ext.refl _ | refine Ext.drewN ?_ _ | refine Ext.drew ?_ | refine Ext.alloc ?_ _ | assumption | (refine Below.trans ?_ (by assumption)) | (refine Ext.trans ?_ (by assumption)) | (refine Below.trans ?_ (Below.mono (by assumption) (by omega)))))⟩
                        case measure => simp [intOf]; omega
                      · go_wp2_with ((refine wpList_openG rfl rfl ?_; (refine wpList_load_row rfl 26 _ rfl _ rfl 26 _ _ _ (Blk.ext hT.out (by repeat (first | with_reducible exact Ext.refl _ | refine Ext.drewN ?_ _ | refine Ext.drew ?_ | refine Ext.alloc ?_ _ | assumption | (refine Below.trans ?_ (by assumption)) | (refine Ext.trans ?_ (by assumption)) | (refine Below.trans ?_ (Below.mono (by assumption) (by omega)))))) Try.underlying26 rfl hi ?_)))
                        (with_reducible refine (H33.out _).mono ?_); rintro e w11 ⟨rfl, E11⟩
                        exact absurd (HEVk.out (by trivial) (by trivial) H255.out) (by rw [HPAR.out]; decide)
                  · exact absurd (Q127.out x (by trivial) hmem.out) (by omega)
              · have i255 : (x == 255) = false := by rw [beq_eq_false_iff_ne]; omega
                have H255 : Hid (x ≠ 255) := Lib.hid (by omega)
                replace HRT := Lib.hid (HRT.out.trans (if_neg H255.out))
                rcases Nat.mod_two_eq_zero_or_one r with hpar | hpar
                · have hr0 : ((r : Int) % 2 == 1) = false := by rw [beq_eq_false_iff_ne]; omega
                  clear hpar
                  go_wp2
                  go_roundw
                  case rel => exact ⟨k + 1, by omega, by go_num, by rw [HRT.out]; rfl, (by repeat (first | with_reducible exact Ext.refl _ | refine Ext.drewN ?_ _ | refine Ext.drew ?_ | refine Ext.alloc ?_ _ | assumption | (refine Below.trans ?_ (by assumption)) | (refine Ext.trans ?_ (by assumption)) | (refine Below.trans ?_ (Below.mono (by assumption) (by omega)))))⟩
                  case measure => simp [intOf]; omega
                · have hr1 : ((r : Int) % 2 == 1) = true := by rw [beq_iff_eq]; omega
                  have HPAR := Lib.hid hpar
                  clear hpar
                  go_wp2_with ((refine wpList_openG rfl rfl ?_; (refine wpList_load_row rfl 26 _ rfl _ rfl 26 _ _ _ (Blk.ext hT.out (by repeat (first | with_reducible exact Ext.refl _ | refine Ext.drewN ?_ _ | refine Ext.drew ?_ | refine Ext.alloc ?_ _ | assumption | (refine Below.trans ?_ (by assumption)) | (refine Ext.trans ?_ (by assumption)) | (refine Below.trans ?_ (Below.mono (by assumption) (by omega)))))) Try.underlying26 rfl hi ?_)))
                  (with_reducible refine (H31.out _).mono ?_); rintro e w10 ⟨rfl, E10⟩
                  cases g31
                  · go_wp2
                    go_roundw
                    case rel => exact ⟨k + 1, by omega, by go_num, by rw [HRT.out]; rfl, (by repeat (first | with_reducible exact Ext.refl _ | refine Ext.drewN ?_ _ | refine Ext.drew ?_ | refine Ext.alloc ?_ _ | assumption | (refine Below.trans ?_ (by assumption)) | (refine Ext.trans ?_ (by assumption)) | (refine Below.trans ?_ (Below.mono (by assumption) (by omega)))))⟩
                    case measure => simp [intOf]; omega
                  · go_wp2_with ((refine wpList_openG rfl rfl ?_; (refine wpList_load_row rfl 26 _ rfl _ rfl 26 _ _ _ (Blk.ext hT.out (by repeat (first | with_reducible exact Ext.refl _ | refine Ext.drewN ?_ _ | refine Ext.drew ?_ | refine Ext.alloc ?_ _ | assumption | (refine Below.trans ?_ (by assumption)) | (refine Ext.trans ?_ (by assumption)) | (refine Below.trans ?_ (Below.mono (by assumption) (by omega)))))) Try.underlying26 rfl hi ?_)))
                    (with_reducible refine (H33.out _).mono ?_); rintro e w11 ⟨rfl, E11⟩
                    cases g33
                    · exact absurd (HEVk.out (by trivial) (by trivial) H255.out) (by rw [HPAR.out]; decide)
                    · go_wp2
                      go_roundw
                      case rel => exact ⟨k + 1, by omega, by go_num, by rw [HRT.out]; rfl, (by repeat (first | with_reducible exact Ext.refl _ | refine Ext.drewN ?_ _ | refine Ext.drew ?_ | refine Ext.alloc ?_ _ | assumption | (refine Below.trans ?_ (by assumption)) | (refine Ext.trans ?_ (by assumption)) | (refine Below.trans ?_ (Below.mono (by assumption) (by omega)))))⟩
                      case measure => simp [intOf]; omega
          · go_wp2
            go_ret
            exact ⟨by first | (simp; done) | (simp; omega), (by repeat (first | with_reducible exact Ext.refl _ | refine Ext.drewN ?_ _ | refine Ext.drew ?_ | refine Ext.alloc ?_ _ | assumption | (refine Below.trans ?_ (by assumption)) | (refine Ext.trans ?_ (by assumption)) | (refine Below.trans ?_ (Below.mono (by assumption) (by omega)))))⟩
end Go.Proofs.Ytpkgmoekfindpaa
