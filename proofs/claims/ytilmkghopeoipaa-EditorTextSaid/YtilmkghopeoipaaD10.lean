/- EditorWords, walked: for every setting and line the law answers true. Conditions: the setting is one, bytes are bytes. -/
import Derived.Test.YtilmkghopeoipaaC10
namespace Go.Proofs.Ytilmkghopeoipaa
open Go.RowKit Go.Kb

/- the same bytes -/
theorem take_ne {xs ys : List Int} {k : Nat} {x y : Int} (h1 : xs[k]? = some x) (h2 : ys[k]? = some y) (hne : x ≠ y) : xs ≠ ys := by
  rintro rfl
  rw [h1] at h2
  exact hne (Option.some.inj h2)
theorem take_all {xs ys : List Int} {k : Nat} (hk : k ≤ xs.length) (hn : ¬ k < xs.length) (hl : xs.length = ys.length) (ht : xs.take k = ys.take k) : xs = ys := by
  have : k = xs.length := by omega
  subst this
  rw [List.take_of_length_le (Nat.le_refl _), List.take_of_length_le (by omega)] at ht
  exact ht
set_option maxHeartbeats 400000 in
theorem bytes_q (va vb : Value) (xs ys : List Int) (w : World) (ha : RI .u8 w va xs) (hb : RI .u8 w vb ys) :
    Calls Try.prog 9 #[va, vb] w fun e w' => e = .returned (.bool (decide (xs = ys))) ∧ Qt w w' := by
  have ha' := ha
  have hb' := hb
  obtain ⟨_, A, c, rfl, hnc, hcm, _⟩ := ha'
  obtain ⟨_, A2, c2, rfl, hnc2, hcm2, _⟩ := hb'
  have Ha := Lib.hid ha
  have Hb := Lib.hid hb
  clear ha hb
  unfold maxLen at hcm hcm2
  by_cases hl : xs.length = ys.length
  · have HL := Lib.hid hl
    have hl2 : ((xs.length : Int) == (ys.length : Int)) = true := by simp [hl]
    have hl3 : ((xs.length : Int) != (ys.length : Int)) = false := by simp [hl]
    clear hl
    go_enter Try.func9, Try.ntmps9
    go_wp2
    clear hl2 hl3
    go_loopw [13] (fun i wr => ∃ k : Nat, k ≤ xs.length ∧ i = .int .i64 k ∧ xs.take k = ys.take k ∧ Qt w wr) (fun i _ => xs.length - (intOf i).toNat)
    case atStart => exact ⟨0, Nat.zero_le _, rfl, by simp, Qt.refl _⟩
    case round =>
      obtain ⟨k, hk, rfl, htake, hq⟩ := hrel
      have HT := Lib.hid htake
      have Ha := Lib.hid (Ha.out.ext hq.ext)
      have Hb := Lib.hid (Hb.out.ext hq.ext)
      clear htake
      by_cases hlt : k < xs.length
      · have hlt2 : k < ys.length := by have := HL.out; omega
        obtain ⟨b, off, x, rfl, hc1, hx⟩ := Ha.out.icell hlt
        obtain ⟨b2, off2, y, rfl, hc2, hy⟩ := Hb.out.icell hlt2
        by_cases he : x = y
        · subst he
          go_wp2
          go_quiet (fail)
          go_wp2
          go_roundw
          case rel => exact ⟨k + 1, by omega, by go_num, by rw [take_succ_of hx.out, take_succ_of hy.out, HT.out], (by repeat (first | with_reducible exact Qt.refl _ | refine Qt.drewN ?_ _ | assumption | refine Qt.trans ?_ (by assumption)))⟩
          case measure => simp [intOf]; omega
        · have he2 : (x == y) = false := by simp [he]
          have he3 : (x != y) = true := by simp [he]
          go_wp2
          go_quiet (fail)
          go_wp2
          go_ret
          exact ⟨by simp [take_ne hx.out hy.out he], (by repeat (first | with_reducible exact Qt.refl _ | refine Qt.drewN ?_ _ | assumption | refine Qt.trans ?_ (by assumption)))⟩
      · go_wp2
        go_ret
        exact ⟨by simp [take_all hk hlt HL.out HT.out], (by repeat (first | with_reducible exact Qt.refl _ | refine Qt.drewN ?_ _ | assumption | refine Qt.trans ?_ (by assumption)))⟩
  · have hl2 : ((xs.length : Int) == (ys.length : Int)) = false := by simp; omega
    have hl3 : ((xs.length : Int) != (ys.length : Int)) = true := by simp; omega
    have hne : xs ≠ ys := fun h => hl (by rw [h])
    have HN := Lib.hid hne
    clear hne hl
    go_enter Try.func9, Try.ntmps9
    go_wp2
    go_ret
    exact ⟨by simp [HN.out], Qt.refl _⟩

theorem bytes_any (va vb : Value) (xs ys : List Int) (w : World) (ha : RI .u8 w va xs) (hb : RI .u8 w vb ys) :
    Calls Try.prog 9 #[va, vb] w fun e w' => e = .returned (.bool (decide (xs = ys))) ∧ Ext w w' :=
  (bytes_q va vb xs ys w ha hb).mono fun _ _ ⟨he, hq⟩ => ⟨he, hq.ext⟩
theorem blank1_any (c : Int) (w : World) : Calls Try.prog 11 #[.int .u8 c] w fun e w' => e = .returned (.bool (blankc c)) ∧ Ext w w' := by
  have h : blankc c = (c == 32 || c == 9) := rfl
  rw [h]
  clear h
  by_cases hx : c = 32
  · subst hx
    go_enter Try.func11, Try.ntmps11
    go_wp2
    go_ret
    exact ⟨rfl, (by repeat (first | with_reducible exact Ext.refl _ | refine Ext.drewN ?_ _ | refine Ext.drew ?_ | refine Ext.alloc ?_ _ | assumption | (refine Below.trans ?_ (by assumption)) | (refine Ext.trans ?_ (by assumption)) | (refine Below.trans ?_ (Below.mono (by assumption) (by omega)))))⟩
  · have hx2 : (c == 32) = false := by simpa using hx
    rw [hx2]
    go_enter Try.func11, Try.ntmps11
    go_wp2
    go_ret
    exact ⟨by simp, (by repeat (first | with_reducible exact Ext.refl _ | refine Ext.drewN ?_ _ | refine Ext.drew ?_ | refine Ext.alloc ?_ _ | assumption | (refine Below.trans ?_ (by assumption)) | (refine Ext.trans ?_ (by assumption)) | (refine Below.trans ?_ (Below.mono (by assumption) (by omega)))))⟩
theorem bytes_same (va vb : Value) (xs : List Int) (w : World) (ha : RI .u8 w va xs) (hb : RI .u8 w vb xs) :
    Calls Try.prog 9 #[va, vb] w fun e w' => e = .returned (.bool true) ∧ Ext w w' :=
  (bytes_any va vb xs xs w ha hb).mono fun e w' h => by simpa using h
/-- where the last word of a line begins, and what stands before and behind -/
structure WordAt (u : Bool) (l : List Int) (z : Nat) : Prop where
  le : z ≤ l.length
  lt : 0 < l.length → z < l.length
  f : wordF u l l.length l.length false = z
  end_ : 0 < z → ∃ c, l[z - 1]? = some c ∧ blankc c = true
  one : u = false → ∃ q, z ≤ q ∧ q ≤ l.length ∧ (∀ j, z ≤ j → j < q → ∃ c, l[j]? = some c ∧ blankc c = false) ∧ (∀ j, q ≤ j → j < l.length → ∃ c, l[j]? = some c ∧ blankc c = true)
theorem wordAt (u : Bool) (l : List Int) : WordAt u l (wordL u l) := by
  refine ⟨wordL_le u l, fun h => wordL_lt (List.length_pos_iff.1 h), rfl, fun h => ?_, fun h => ?_⟩
  · rcases wordF_end (u := u) (l := l) l.length l.length false (Nat.le_refl _) (Nat.le_refl _) with h1 | h1
    · unfold wordL at h; omega
    · exact h1
  · subst h
    obtain ⟨q, h1, h2, h3, h4, _⟩ := wordF_false (l := l) l.length l.length false (Nat.le_refl _) (Nat.le_refl _)
    exact ⟨q, h1, h2, h3, h4⟩
set_option maxRecDepth 100000 in
set_option maxHeartbeats 800000 in
theorem editorWords_nil (t : Tm) (v : Value) (w : World) (h : t.Ok) (hl : RI .u8 w v []) : Calls Try.prog 3 #[.agg t.arr, v] w fun e w' => e = .returned (.bool true) ∧ Ext w w' := by
  have hsz := t.size h
  have hW := fun w' hr => word_any t v [] w' h hr (by simp [Bs]) (by simp)
  have hz : wordL (hasL t 42) [] = 0 := by have := wordL_le (hasL t 42) []; simpa using this
  rw [hz] at hW
  generalize t.arr = cs at hW hsz ⊢
  clear h hz
  obtain ⟨Ad, c, rfl, h1, h2⟩ := hl.shape
  have H := Lib.hid hl
  clear hl
  have hi : (Try.prog.info? 26).map (·.size) = some cs.size := by rw [hsz]; kernel_rfl
  have hA := Lib.hid (Blk.new w 26 cs)
  simp only [List.length_nil] at *
  go_enter Try.func3, Try.ntmps3
  (go_wp2_with fail; refine (alive_any _).mono ?_; rintro e w1 ⟨rfl, E1⟩)
  have hA1 := Lib.hid (Blk.ext hA.out E1)
  clear hA
  go_wp2_with (first | (refine wpList_load_row rfl 26 _ rfl _ rfl 26 _ _ _ hA1.out Try.underlying26 rfl hi ?_))
  refine (hW _ (H.out.ext (by repeat (first | with_reducible exact Ext.refl _ | refine Ext.drewN ?_ _ | refine Ext.drew ?_ | refine Ext.alloc ?_ _ | assumption | (refine Below.trans ?_ (by assumption)) | (refine Ext.trans ?_ (by assumption)) | (refine Below.trans ?_ (Below.mono (by assumption) (by omega))))))).mono ?_
  rintro e w2 ⟨A1, c1, B1, d1, rfl, r1, s1, E2⟩
  simp only [List.length_nil, Nat.zero_sub, List.take_nil, List.drop_nil] at r1 s1 ⊢
  have R1 := Lib.hid (RdS.ri r1)
  have S1 := Lib.hid (RdS.ri s1)
  have E02 : Ext w w2 := (by repeat (first | with_reducible exact Ext.refl _ | refine Ext.drewN ?_ _ | refine Ext.drew ?_ | refine Ext.alloc ?_ _ | assumption | (refine Below.trans ?_ (by assumption)) | (refine Ext.trans ?_ (by assumption)) | (refine Below.trans ?_ (Below.mono (by assumption) (by omega)))))
  clear E1 E2 r1 s1 hA1 hW
  go_wp2_with (first
    | (at_builtin; refine wpList_app (e := Ub) (base := w2.heap.size) (B := fun _ => False) (A := fun _ => False) rfl _ (.tmp 24) rfl Try.underlying27 info_u8 rfl (OwnS.empty _ _ _ rfl (Nat.le_refl _)) rfl (RI.y (RdN.alloc R1.out _)) rfl (fun _ _ h => h.elim) (N := 0) rfl (by simp [maxLen]) (by omega) (by simp) ?_; intro A3 c3 w3 o3 M3 E3; have E23 : Ext w2 w3 := (by repeat (first | with_reducible exact Ext.refl _ | refine Ext.drewN ?_ _ | refine Ext.drew ?_ | refine Ext.alloc ?_ _ | assumption | (refine Below.trans ?_ (by assumption)) | (refine Ext.trans ?_ (by assumption)) | (refine Below.trans ?_ (Below.mono (by assumption) (by omega))))))
    | (at_builtin; refine wpList_app (e := Ub) (base := w2.heap.size) (B := fun _ => False) (A := fun _ => False) rfl _ (.tmp 26) rfl Try.underlying27 info_u8 rfl o3 rfl (RI.y (RdN.ext S1.out E23)) rfl (fun _ _ h => h.elim) (N := 0) rfl (by simp [maxLen]) (by omega) E23.size ?_; intro A4 c4 w4 o4 M4 E4; have E24 : Ext w2 w4 := (by repeat (first | with_reducible exact Ext.refl _ | refine Ext.drewN ?_ _ | refine Ext.drew ?_ | refine Ext.alloc ?_ _ | assumption | (refine Below.trans ?_ (by assumption)) | (refine Ext.trans ?_ (by assumption)) | (refine Below.trans ?_ (Below.mono (by assumption) (by omega)))))))
  refine (bytes_same _ _ [] _ o4.rdT.ri (H.out.ext (by repeat (first | with_reducible exact Ext.refl _ | refine Ext.drewN ?_ _ | refine Ext.drew ?_ | refine Ext.alloc ?_ _ | assumption | (refine Below.trans ?_ (by assumption)) | (refine Ext.trans ?_ (by assumption)) | (refine Below.trans ?_ (Below.mono (by assumption) (by omega))))))).mono ?_
  rintro e w5 ⟨rfl, E5⟩
  have E25 : Ext w2 w5 := (by repeat (first | with_reducible exact Ext.refl _ | refine Ext.drewN ?_ _ | refine Ext.drew ?_ | refine Ext.alloc ?_ _ | assumption | (refine Below.trans ?_ (by assumption)) | (refine Ext.trans ?_ (by assumption)) | (refine Below.trans ?_ (Below.mono (by assumption) (by omega)))))
  clear E3 E4 E5 E23 E24 M3 M4 o3 o4
  go_wp2
  go_loopw [7] (fun x wr => x = .slice Ad 0 c ∧ Ext w2 wr) (fun x _ => 0)
  case atStart => exact ⟨rfl, E25⟩
  case round =>
    obtain ⟨rfl, E2r⟩ := hrel
    go_wp2_with ((go_at_call 9; refine (bytes_same _ _ [] _ (H.out.ext (E02.trans E2r)) (RdN.ext R1.out E2r)).mono ?_; rintro e w7 ⟨rfl, E7⟩))
    have E27 : Ext w2 w7 := E2r.trans E7
    go_loopw [9] (fun x wr2 => x = .slice B1 0 d1 ∧ Ext w2 wr2) (fun x _ => 0)
    case atStart => exact ⟨rfl, E27⟩
    case round =>
      obtain ⟨rfl, E2s⟩ := hrel
      go_wp2
      go_loopw [78] (fun i wr3 => i = .int .i64 0 ∧ Ext w2 wr3) (fun i _ => 0)
      case atStart => exact ⟨rfl, E2s⟩
      case round =>
        obtain ⟨rfl, E2k⟩ := hrel
        go_wp2
        go_ret
        exact ⟨rfl, E02.trans E2k⟩
set_option maxRecDepth 100000 in
set_option maxHeartbeats 800000 in
theorem editorWords_walk (t : Tm) (v : Value) (l : List Int) (w : World) (hne : l ≠ []) (h : t.Ok) (hl : RI .u8 w v l) (hB : Bs l) : Calls Try.prog 3 #[.agg t.arr, v] w fun e w' => e = .returned (.bool true) ∧ Ext w w' := by
  have hsz := t.size h
  have hW := fun w' hr hn => word_any t v l w' h hr hB hn
  have hE := fun v' l' w' hr hB' hn => erase_any t v' l' w' h hr hB' hn
  have hH := fun w' => has_any t 42 w' h
  have hZ := wordAt (hasL t 42) l
  generalize wordL (hasL t 42) l = z at hW hZ
  generalize hasL t 42 = u at hZ hE hH
  generalize t.arr = cs at hW hE hsz hH ⊢
  clear h
  obtain ⟨Ad, c, rfl, h1, h2⟩ := hl.shape
  have H := Lib.hid hl
  have HB := Lib.hid hB
  have HNE := Lib.hid hne
  have HZ := Lib.hid hZ
  clear hl hB hne
  have hi : (Try.prog.info? 26).map (·.size) = some cs.size := by rw [hsz]; kernel_rfl
  have hA := Lib.hid (Blk.new w 26 cs)
  by_cases hbig : 600 < l.length
  · clear hZ hW hE hH
    go_enter Try.func3, Try.ntmps3
    go_wp2_with ((go_at_call 7; refine (alive_any _).mono ?_; rintro e w1 ⟨rfl, E1⟩))
    go_ret
    exact ⟨rfl, (by repeat (first | with_reducible exact Ext.refl _ | refine Ext.drewN ?_ _ | refine Ext.drew ?_ | refine Ext.alloc ?_ _ | assumption | (refine Below.trans ?_ (by assumption)) | (refine Ext.trans ?_ (by assumption)) | (refine Below.trans ?_ (Below.mono (by assumption) (by omega)))))⟩
  · have hn : l.length ≤ 600 := by omega
    have hn' : l.length ≤ 100000000 := by omega
    have hz := hZ.le
    have d600 : ¬ ((600 : Int) < l.length) := by omega
    have hzl := hZ.lt
    clear hZ hbig
    go_enter Try.func3, Try.ntmps3
    (go_wp2_with fail; refine (alive_any _).mono ?_; rintro e w1 ⟨rfl, E1⟩)
    have hA1 := Lib.hid (Blk.ext hA.out E1)
    clear hA
    go_wp2_with (first | (refine wpList_load_row rfl 26 _ rfl _ rfl 26 _ _ _ hA1.out Try.underlying26 rfl hi ?_))
    refine (hW _ (H.out.ext (by repeat (first | with_reducible exact Ext.refl _ | refine Ext.drewN ?_ _ | refine Ext.drew ?_ | refine Ext.alloc ?_ _ | assumption | (refine Below.trans ?_ (by assumption)) | (refine Ext.trans ?_ (by assumption)) | (refine Below.trans ?_ (Below.mono (by assumption) (by omega)))))) hn').mono ?_
    rintro e w2 ⟨A1, c1, B1, d1, rfl, r1, s1, E2⟩
    have hA2 := Lib.hid (Blk.ext hA1.out E2)
    have R1 := Lib.hid (RdS.ri r1)
    have S1 := Lib.hid (RdS.ri s1)
    obtain ⟨_, _, hv1, hr1, hr2⟩ := (RdS.ri r1).shape
    obtain ⟨_, _, hv2, hs1, hs2⟩ := (RdS.ri s1).shape
    simp only [Value.slice.injEq] at hv1 hv2
    obtain ⟨-, -, rfl⟩ := hv1
    obtain ⟨-, -, rfl⟩ := hv2
    have E02 : Ext w w2 := (by repeat (first | with_reducible exact Ext.refl _ | refine Ext.drewN ?_ _ | refine Ext.drew ?_ | refine Ext.alloc ?_ _ | assumption | (refine Below.trans ?_ (by assumption)) | (refine Ext.trans ?_ (by assumption)) | (refine Below.trans ?_ (Below.mono (by assumption) (by omega)))))
    have e1 : (l.take z).length = z := by rw [List.length_take]; omega
    have e2 : (l.drop z).length = l.length - z := List.length_drop
    clear E1 E2 r1 s1 hA1 hW
    go_wp2_with (first
      | (at_builtin; refine wpList_app (e := Ub) (base := w2.heap.size) (B := fun _ => False) (A := fun _ => False) rfl _ (.tmp 24) rfl Try.underlying27 info_u8 rfl (OwnS.empty _ _ _ rfl (Nat.le_refl _)) rfl (RI.y (RdN.alloc R1.out _)) rfl (fun _ _ h => h.elim) (N := z) (by rw [e1]; simp) (by simp [maxLen]; omega) (by omega) (by simp) ?_; intro A3 c3 w3 o3 M3 E3; simp only [List.nil_append] at o3; have E23 : Ext w2 w3 := (by repeat (first | with_reducible exact Ext.refl _ | refine Ext.drewN ?_ _ | refine Ext.drew ?_ | refine Ext.alloc ?_ _ | assumption | (refine Below.trans ?_ (by assumption)) | (refine Ext.trans ?_ (by assumption)) | (refine Below.trans ?_ (Below.mono (by assumption) (by omega))))))
      | (at_builtin; refine wpList_app (e := Ub) (base := w2.heap.size) (B := fun _ => False) (A := fun _ => False) rfl _ (.tmp 26) rfl Try.underlying27 info_u8 rfl o3 rfl (RI.y (RdN.ext S1.out E23)) rfl (fun _ _ h => h.elim) (N := l.length) (by rw [e1, e2]; omega) (by simp [maxLen]; omega) (by omega) E23.size ?_; intro A4 c4 w4 o4 M4 E4; have E24 : Ext w2 w4 := (by repeat (first | with_reducible exact Ext.refl _ | refine Ext.drewN ?_ _ | refine Ext.drew ?_ | refine Ext.alloc ?_ _ | assumption | (refine Below.trans ?_ (by assumption)) | (refine Ext.trans ?_ (by assumption)) | (refine Below.trans ?_ (Below.mono (by assumption) (by omega)))))))
    have O4 := o4.rdT.ri
    rw [List.take_append_drop] at O4
    refine (bytes_same _ _ l _ O4 (H.out.ext (by repeat (first | with_reducible exact Ext.refl _ | refine Ext.drewN ?_ _ | refine Ext.drew ?_ | refine Ext.alloc ?_ _ | assumption | (refine Below.trans ?_ (by assumption)) | (refine Ext.trans ?_ (by assumption)) | (refine Below.trans ?_ (Below.mono (by assumption) (by omega))))))).mono ?_
    rintro e w5 ⟨rfl, E5⟩
    have hA5 := Lib.hid ((hA2.out.ext E24).ext E5)
    have E25 : Ext w2 w5 := (by repeat (first | with_reducible exact Ext.refl _ | refine Ext.drewN ?_ _ | refine Ext.drew ?_ | refine Ext.alloc ?_ _ | assumption | (refine Below.trans ?_ (by assumption)) | (refine Ext.trans ?_ (by assumption)) | (refine Below.trans ?_ (Below.mono (by assumption) (by omega)))))
    clear E3 E4 E5 E23 E24 M3 M4 o3 o4 O4 hA2
    have hT := Lib.hid (List.take_length (l := l))
    have h0 := List.length_pos_iff.2 HNE.out
    have D1 : ((0 : Int) < l.length) := by omega
    have D2 : (((l.length - z : Nat) : Int) == 0) = false := by rw [beq_eq_false_iff_ne]; have := hzl h0; omega
    clear h0
    go_wp2
    go_loopw [7] (fun x wr => ∃ (p n : Nat) (wi : Bool) (A : Option Addr) (c' : Nat), x = .slice A p c' ∧ z ≤ p ∧ p ≤ l.length ∧ p ≤ n ∧ p ≤ c' ∧ c' ≤ 9223372036854775807 ∧ Hid (wordF u l n p wi = z) ∧ Hid (RI .u8 wr (.slice A p c') (l.take p)) ∧ Hid (Blk wr w.heap.size 26 cs) ∧ Ext w2 wr) (fun x _ => lenOfV x)
    case atStart => exact ⟨l.length, l.length, false, Ad, c, rfl, hz, Nat.le_refl _, Nat.le_refl _, h1, h2, Lib.hid HZ.out.f, Lib.hid (by rw [hT.out]; exact H.out.ext (E02.trans E25)), hA5, E25⟩
    case round =>
      clear hA5 E25
      obtain ⟨p, n, wi, Ap, cp, rfl, hzp, hpl, hpn, hpc, hcp, HF, HR, HA, E2r⟩ := hrel
      by_cases hlt : z < p
      · have dz : ((z : Int) < (p : Int)) := by omega
        have hq := start_take (u := u) (l := l) (show 0 < p by omega) hpl
        obtain ⟨n', wi', f1, f2, f3⟩ := word_next (u := u) hpn hpl hlt HF.out
        have HEp := Lib.hid fun w' (hr : RI .u8 w' (.slice Ap p cp) (l.take p)) => hE _ _ w' hr (Bs.take HB.out p) (by rw [List.length_take]; omega)
        generalize startL u (l.take p) = q at hq f1 f2 f3 HEp
        clear hE
        go_wp2_with (first | (refine wpList_load_row rfl 26 _ rfl _ rfl 26 _ _ _ HA.out Try.underlying26 rfl hi ?_))
        refine (HEp.out _ HR.out).mono ?_
        rintro e w6 ⟨A6, c6, B6, d6, rfl, r6, s6, E6⟩
        have R6 := RdS.ri r6
        rw [List.take_take, Nat.min_eq_left (Nat.le_of_lt hq)] at R6
        obtain ⟨_, _, hv6, hr6, hr7⟩ := (RdS.ri r6).shape
        simp only [Value.slice.injEq] at hv6
        obtain ⟨-, -, rfl⟩ := hv6
        rw [List.take_take, List.length_take] at hr6
        have F2 := Lib.hid f2
        have R6 := Lib.hid R6
        clear r6 s6 f2
        go_wp2
        go_roundw
        case rel => exact ⟨q, n', wi', A6, c6, rfl, f3, by omega, f1, by omega, hr7, F2, R6, Lib.hid (HA.out.ext E6), E2r.trans E6⟩
        case measure => simp [lenOfV]; omega
      · obtain rfl : z = p := by omega
        go_wp2_with ((go_at_call 9; refine (bytes_same _ _ (l.take z) _ HR.out (RdN.ext R1.out E2r)).mono ?_; rintro e w7 ⟨rfl, E7⟩))
        have HA7 := Lib.hid (HA.out.ext E7)
        have E27 : Ext w2 w7 := E2r.trans E7
        clear HA E2r E7 hE
        go_loopw [9] (fun x wr2 => ∃ q : Nat, x = .slice B1 q d1 ∧ q ≤ l.length - z ∧ Hid (∀ j, q ≤ j → j < l.length - z → ∃ c, l[z + j]? = some c ∧ blankc c = true) ∧ Hid (Blk wr2 w.heap.size 26 cs) ∧ Ext w2 wr2) (fun x _ => lenOfV x)
        case atStart => exact ⟨l.length - z, rfl, Nat.le_refl _, Lib.hid (fun j a b => by omega), HA7, E27⟩
        case round =>
          clear HA7 E27
          obtain ⟨q, rfl, hq, HQ, HA9, E29⟩ := hrel
          rcases q with _ | m
          · have HN : Hid (u = false → ∀ j, j < 0 → ∃ c, l[z + j]? = some c ∧ blankc c = false) := Lib.hid (fun _ j hj => by omega)
            go_wp2
            go_loopw [78] (fun i wr3 => i = .int .i64 0 ∧ Ext w2 wr3) (fun i _ => 0)
            case atStart => exact ⟨rfl, E29⟩
            case round =>
              obtain ⟨rfl, E2k⟩ := hrel
              by_cases hz0 : z = 0
              · subst hz0
                go_wp2
                go_ret
                exact ⟨rfl, E02.trans E2k⟩
              · obtain ⟨x8, hx8, hb8⟩ := HZ.out.end_ (by omega)
                obtain ⟨y, rfl⟩ : ∃ y, z = y + 1 := ⟨z - 1, by omega⟩
                obtain ⟨b9, off9, x9, hA9, hc9, hd9⟩ := (RdN.ext R1.out E2k).icell (j := y) (by omega)
                have hd9 := hd9.out
                rw [List.getElem?_take, if_pos (by omega)] at hd9
                rw [Nat.add_sub_cancel, hd9] at hx8
                have hx9 := Option.some.inj hx8
                rw [← hx9] at hb8
                clear hx9 hx8
                cases hA9
                have hy0 : ((y : Int) + 1 == 0) = false := by rw [beq_eq_false_iff_ne]; omega
                have hwy : IntKind.i64.wrap ((y : Int) + 1 - 1) = y := by rw [Int.add_sub_cancel]; exact IntWalk.i64_in _ (by omega)
                have hwy2 : IntKind.i64.wrap (y : Int) = y := IntWalk.i64_in _ (by omega)
                go_wp2_with ((go_at_call 11; refine (blank1_any x9 _).mono ?_; rintro e w10 ⟨rfl, E10⟩); rw [hb8])
                go_ret
                exact ⟨rfl, (E02.trans E2k).trans E10⟩
          · obtain ⟨b5, off5, x5, hB5, hx5, hd5⟩ := (RdN.ext S1.out E29).icell (j := m) (by omega)
            have hd5 := hd5.out
            rw [List.getElem?_drop] at hd5
            have HD5 := Lib.hid hd5
            cases hB5
            have hwm : IntKind.i64.wrap ((m : Int) + 1 - 1) = m := by rw [Int.add_sub_cancel]; exact IntWalk.i64_in _ (by omega)
            have hwm2 : IntKind.i64.wrap (m : Int) = m := IntWalk.i64_in _ (by omega)
            have hmd : (m : Int) ≤ (d1 : Int) := by omega
            clear hd5
            cases hb5 : blankc x5
            · have HN : Hid (u = false → ∀ j, j < m + 1 → ∃ c, l[z + j]? = some c ∧ blankc c = false) := Lib.hid (fun hu j hj => by
                obtain ⟨q0, a1, a2, a3, a4⟩ := HZ.out.one hu
                have : z + m < q0 := by
                  rcases Nat.lt_or_ge (z + m) q0 with h | h
                  · exact h
                  · obtain ⟨y, hy, hy2⟩ := a4 (z + m) h (by omega)
                    rw [HD5.out] at hy
                    cases hy
                    rw [hb5] at hy2; cases hy2
                exact a3 (z + j) (by omega) (by omega))
              go_wp2_with ((go_at_call 11; refine (blank1_any x5 _).mono ?_; rintro e w8 ⟨rfl, E8⟩); rw [hb5])
              have HA9 := Lib.hid (HA9.out.ext E8)
              have E29 : Ext w2 w8 := E29.trans E8
              clear E8
              /- behind the second loop: what is left of the word has no blank but with IUTF8 -/
              go_loopw [78] (fun i wr3 => ∃ k : Nat, i = .int .i64 k ∧ k ≤ (m + 1) ∧ Hid (Blk wr3 w.heap.size 26 cs) ∧ Ext w2 wr3) (fun i _ => (m + 1) - (intOf i).toNat)
              case atStart => exact ⟨0, rfl, Nat.zero_le _, HA9, E29⟩
              case round =>
                obtain ⟨k, rfl, hk, HAk, E2k⟩ := hrel
                clear HA9 E29
                by_cases hkq : k < (m + 1)
                · obtain ⟨b7, off7, x7, hB7, hx7, hd7⟩ := (RdN.ext S1.out E2k).icell (j := k) (by omega)
                  have hd7 := hd7.out
                  rw [List.getElem?_drop] at hd7
                  cases hB7
                  cases hb7 : blankc x7
                  · go_wp2_with ((go_at_call 11; refine (blank1_any x7 _).mono ?_; rintro e w10 ⟨rfl, E10⟩); rw [hb7])
                    go_roundw
                    case rel => exact ⟨k + 1, by go_num, by omega, Lib.hid (HAk.out.ext E10), E2k.trans E10⟩
                    case measure => simp [intOf]; omega
                  · have hu : u = true := by
                      cases u
                      · obtain ⟨y, hy, hy2⟩ := HN.out rfl k hkq
                        rw [hd7] at hy
                        cases hy
                        rw [hb7] at hy2; cases hy2
                      · rfl
                    go_wp2_with (first
                      | ((go_at_call 11; refine (blank1_any x7 _).mono ?_; rintro e w10 ⟨rfl, E10⟩); rw [hb7]; have HAk := Lib.hid (HAk.out.ext E10))
                      | (refine wpList_openG rfl rfl ?_; (refine wpList_load_row rfl 26 _ rfl _ rfl 26 _ _ _ HAk.out Try.underlying26 rfl hi ?_))
                      | ((go_at_call 12; refine (hH _).mono ?_; rintro e w11 ⟨rfl, E11⟩); rw [hu]))
                    go_roundw
                    case rel => exact ⟨k + 1, by go_num, by omega, Lib.hid (HAk.out.ext E11), (E2k.trans E10).trans E11⟩
                    case measure => simp [intOf]; omega
                · obtain rfl : k = (m + 1) := by omega
                  by_cases hz0 : z = 0
                  · subst hz0
                    go_wp2
                    go_ret
                    exact ⟨rfl, E02.trans E2k⟩
                  · obtain ⟨x8, hx8, hb8⟩ := HZ.out.end_ (by omega)
                    obtain ⟨y, rfl⟩ : ∃ y, z = y + 1 := ⟨z - 1, by omega⟩
                    obtain ⟨b9, off9, x9, hA9, hc9, hd9⟩ := (RdN.ext R1.out E2k).icell (j := y) (by omega)
                    have hd9 := hd9.out
                    rw [List.getElem?_take, if_pos (by omega)] at hd9
                    rw [Nat.add_sub_cancel, hd9] at hx8
                    have hx9 := Option.some.inj hx8
                    rw [← hx9] at hb8
                    clear hx9 hx8
                    cases hA9
                    have hy0 : ((y : Int) + 1 == 0) = false := by rw [beq_eq_false_iff_ne]; omega
                    have hwy : IntKind.i64.wrap ((y : Int) + 1 - 1) = y := by rw [Int.add_sub_cancel]; exact IntWalk.i64_in _ (by omega)
                    have hwy2 : IntKind.i64.wrap (y : Int) = y := IntWalk.i64_in _ (by omega)
                    go_wp2_with ((go_at_call 11; refine (blank1_any x9 _).mono ?_; rintro e w10 ⟨rfl, E10⟩); rw [hb8])
                    go_ret
                    exact ⟨rfl, (E02.trans E2k).trans E10⟩
            · go_wp2_with ((go_at_call 11; refine (blank1_any x5 _).mono ?_; rintro e w8 ⟨rfl, E8⟩); rw [hb5])
              go_roundw
              case rel => exact ⟨m, rfl, by omega, Lib.hid (fun j a b => by
                rcases Nat.lt_or_ge m j with h | h
                · exact HQ.out j h b
                · obtain rfl : j = m := by omega
                  exact ⟨x5, HD5.out, hb5⟩), Lib.hid (HA9.out.ext E8), E29.trans E8⟩
              case measure => simp [lenOfV]
end Go.Proofs.Ytilmkghopeoipaa
