/- A line with a byte more, and the document's last character, by contract. Conditions: the setting is one, bytes are bytes. -/
import Derived.Test.YtilmkghopeoipaaG10
namespace Go.Proofs.Ytilmkghopeoipaa
open Go.RowKit Go.Kb

def putE (l : List Int) (c : Int) : List Int × Bool := if 254 ≤ l.length then (l, false) else (l ++ [c], true)
def PutPost (w : World) (r : List Int × Bool) (e : Ending) (w' : World) : Prop :=
  ∃ A c, e = .returned (.tuple #[.slice A r.1.length c, .bool r.2]) ∧ NewB w w' (.slice A r.1.length c) r.1 ∧ Ext w w'
set_option maxRecDepth 100000 in
set_option maxHeartbeats 400000 in
theorem put_any (v : Value) (l : List Int) (x : Int) (w : World) (hl : RI .u8 w v l) (hn : l.length ≤ 100000000) : Calls Try.prog 16 #[v, .int .u8 x] w (PutPost w (putE l x)) := by
  obtain ⟨Ad, c, rfl, h1, h2⟩ := hl.shape
  have H := Lib.hid hl
  clear hl
  by_cases hbig : 254 ≤ l.length
  · have e : putE l x = (l, false) := if_pos hbig
    rw [e]
    have hb : (254 : Int) ≤ l.length := by omega
    clear e hbig
    go_enter Try.func16, Try.ntmps16
    (go_wp2_with fail; refine (clone_u8 _ l _ (RI.y (A := fun _ => True) H.out) (by omega)).mono ?_; rintro e w1 ⟨A1, c1, rfl, o1, E1⟩)
    go_wp2
    refine bodyPost_ret (v := .tuple #[.slice A1 l.length c1, .bool false]) (by simp [results, Try.results16, go_sem]) rfl ?_
    exact ⟨A1, c1, rfl, own_new o1 (Nat.le_refl _), E1⟩
  · have e : putE l x = (l ++ [x], true) := if_neg hbig
    rw [e]
    have hb : ¬ ((254 : Int) ≤ l.length) := by omega
    have hl1 : (l ++ [x]).length = l.length + 1 := by simp
    clear e hbig
    go_enter Try.func16, Try.ntmps16
    (go_wp2_with fail; refine (clone_u8 _ l _ (RI.y (A := fun _ => True) H.out) (by omega)).mono ?_; rintro e w1 ⟨A1, c1, rfl, o1, E1⟩)
    have o1 := OwnS.of_ints (B := fun _ => False) o1.ints
    go_wp2_with (at_builtin; refine wpList_app (e := Ub) (base := w.heap.size) (B := fun _ => False) (A := fun _ => False) rfl (.tmp 13) (.tmp 15) rfl Try.underlying27 info_u8 rfl (o1.alloc _) rfl (RI.y (RI.lit .u8 [x] _ rfl (by simp))) rfl (fun _ _ h => h.elim) (N := l.length + 1) (by simp) (by simp [maxLen]; omega) (by omega) (by have := E1.size; simp; omega) ?_; intro A2 c2 w2 o2 M2 E2)
    refine bodyPost_ret (v := .tuple #[.slice A2 (l.length + 1) c2, .bool true]) (by simp [results, Try.results16, go_sem]) rfl ?_
    exact ⟨A2, c2, by rw [hl1], by rw [hl1]; exact own_new o2 (Nat.le_refl _), Below.trans (E1.alloc _) E2⟩
set_option maxHeartbeats 400000 in
theorem rput_any (v : Value) (l : List Int) (x : Int) (w : World) (hl : RI .u8 w v l) (hn : l.length ≤ 100000000) : Calls Try.prog 17 #[v, .int .u8 x] w (PutPost w (putE l x)) := by
  obtain ⟨Ad, c, rfl, h1, h2⟩ := hl.shape
  have H := Lib.hid hl
  clear hl
  by_cases hbig : 254 ≤ l.length
  · have e : putE l x = (l, false) := if_pos hbig
    rw [e]
    have hb : (254 : Int) ≤ l.length := by omega
    clear e hbig
    go_enter Try.func17, Try.ntmps17
    go_wp2_with (at_builtin; refine wpList_app (e := Ub) (base := w.heap.size) (B := fun _ => False) (A := fun _ => False) rfl (.tmp 7) (.tmp 8) rfl Try.underlying27 info_u8 rfl (OwnS.empty _ _ _ rfl (Nat.le_refl _)) rfl (RI.y (RdN.alloc H.out _)) rfl (fun _ _ h => h.elim) (N := l.length) (by simp) (by simp [maxLen]; omega) (by omega) (by simp) ?_; intro A1 c1 w1 o1 M1 E1; simp only [List.nil_append] at o1)
    refine bodyPost_ret (v := .tuple #[.slice A1 l.length c1, .bool false]) (by simp [results, Try.results17, go_sem]) rfl ?_
    exact ⟨A1, c1, rfl, own_new o1 (Nat.le_refl _), Below.trans ((Ext.refl w).alloc _) E1⟩
  · have e : putE l x = (l ++ [x], true) := if_neg hbig
    rw [e]
    have hb : ¬ ((254 : Int) ≤ l.length) := by omega
    have hl1 : (l ++ [x]).length = l.length + 1 := by simp
    clear e hbig
    go_enter Try.func17, Try.ntmps17
    go_wp2_with (first
      | (at_builtin; refine wpList_app (e := Ub) (base := w.heap.size) (B := fun _ => False) (A := fun _ => False) rfl (.tmp 7) (.tmp 8) rfl Try.underlying27 info_u8 rfl (OwnS.empty _ _ _ rfl (Nat.le_refl _)) rfl (RI.y (RdN.alloc H.out _)) rfl (fun _ _ h => h.elim) (N := l.length) (by simp) (by simp [maxLen]; omega) (by omega) (by simp) ?_; intro A1 c1 w1 o1 M1 E1; simp only [List.nil_append] at o1; have E1w : Ext w w1 := Below.trans ((Ext.refl w).alloc _) E1)
      | (at_builtin; refine wpList_app (e := Ub) (base := w.heap.size) (B := fun _ => False) (A := fun _ => False) rfl (.tmp 14) (.tmp 16) rfl Try.underlying27 info_u8 rfl (o1.alloc _) rfl (RI.y (RI.lit .u8 [x] _ rfl (by simp))) rfl (fun _ _ h => h.elim) (N := l.length + 1) (by simp) (by simp [maxLen]; omega) (by omega) (by have := E1w.size; simp; omega) ?_; intro A2 c2 w2 o2 M2 E2))
    refine bodyPost_ret (v := .tuple #[.slice A2 (l.length + 1) c2, .bool true]) (by simp [results, Try.results17, go_sem]) rfl ?_
    exact ⟨A2, c2, by rw [hl1], by rw [hl1]; exact own_new o2 (Nat.le_refl _), Below.trans (E1w.alloc _) E2⟩
/-- the last k bytes stand within a character -/
theorem last_eq {u : Bool} {l : List Int} {k : Nat} (hk : k ≤ 4) (hl : k ≤ l.length) (h : In l k) (hu : 0 < k → u = true) (hs : k = 4 ∨ k = l.length) : lastL u l = k := by
  rcases Nat.eq_zero_or_pos k with rfl | h0
  · have hl0 : l = [] := List.eq_nil_of_length_eq_zero (by omega)
    subst hl0; rfl
  · obtain rfl := hu h0
    have h1 := start_eq (l := l) (k := k - 1) (m := l.length - k) (by omega) (by omega) (fun j hj => h j (by omega)) (fun a b => by omega)
    have h2 := lastL_le true l
    unfold startL at h1
    omega
theorem last_stop {u : Bool} {l : List Int} {k m : Nat} {x : Int} (hm : m + 1 + k = l.length) (hk : k < 4) (h : In l k) (hu : 0 < k → u = true) (hx : l[m]? = some x) (hs : u = false ∨ innerL x = false) : lastL u l = k + 1 := by
  have h2 := lastL_le u l
  cases u
  · have hk0 : k = 0 := by
      rcases Nat.eq_zero_or_pos k with h | h
      · exact h
      · exact absurd (hu h) (by simp)
    subst hk0
    have h1 := start_false (l := l) (by intro h; subst h; simp at hm)
    unfold startL at h1
    omega
  · have h1 := start_eq hm hk h (fun _ _ => ⟨x, hx, by simpa using hs⟩)
    unfold startL at h1
    omega
set_option maxHeartbeats 800000 in
theorem rlast_any (t : Tm) (v : Value) (l : List Int) (w : World) (h : t.Ok) (hl : RI .u8 w v l) (hB : Bs l) : Calls Try.prog 30 #[.agg t.arr, v] w fun e w' => e = .returned (.int .i64 (lastL (hasL t 42) l)) ∧ Ext w w' := by
  have hn := t.size h
  have hc := fun w' => rhas_any t 42 w' h
  generalize hasL t 42 = u at hc ⊢
  generalize t.arr = cs at hn hc ⊢
  clear h
  obtain ⟨Ad, c, rfl, h1, h2⟩ := hl.shape
  have H := Lib.hid hl
  have HB := Lib.hid hB
  clear hl hB
  have hi : (Try.prog.info? 26).map (·.size) = some cs.size := by rw [hn]; kernel_rfl
  have hA := Lib.hid (Blk.new w 26 cs)
  go_enter Try.func30, Try.ntmps30
  go_wp2
  go_loopw [5] (fun i wr => ∃ k : Nat, i = .int .i64 k ∧ k ≤ 4 ∧ k ≤ l.length ∧ Hid (In l k) ∧ Hid (0 < k → u = true) ∧ Hid (Blk wr w.heap.size 26 cs) ∧ Ext w wr) (fun i _ => 4 - (intOf i).toNat)
  case atStart => exact ⟨0, rfl, by omega, by omega, Lib.hid (In.zero _), Lib.hid (fun h => by omega), hA, (by repeat (first | with_reducible exact Ext.refl _ | refine Ext.drewN ?_ _ | refine Ext.drew ?_ | refine Ext.alloc ?_ _ | assumption | (refine Below.trans ?_ (by assumption)) | (refine Ext.trans ?_ (by assumption)) | (refine Below.trans ?_ (Below.mono (by assumption) (by omega)))))⟩
  case round =>
    clear hA
    obtain ⟨k, rfl, hk4, hkl, HI, HU, HA, hE⟩ := hrel
    by_cases hgo : k < l.length ∧ k < 4
    · obtain ⟨hg1, hg2⟩ := hgo
      obtain ⟨m, hm⟩ : ∃ m : Nat, m + 1 + k = l.length := ⟨l.length - 1 - k, by omega⟩
      obtain ⟨b, off, x, rfl, hx, hd⟩ := (H.out.ext hE).icell (j := m) (by omega)
      have hxb := HB.out x (List.mem_of_getElem? hd.out)
      have d1 : (k : Int) < (l.length : Int) := by omega
      have d2 : (k : Int) < 4 := by omega
      have hw1 : IntKind.i64.wrap ((l.length : Int) - 1) = (l.length : Int) - 1 := IntWalk.i64_in _ (by omega)
      have hw2 : IntKind.i64.wrap ((l.length : Int) - 1 - k) = (m : Int) := by rw [show (l.length : Int) - 1 - k = (m : Int) by omega]; exact IntWalk.i64_in _ (by omega)
      have hw3 : IntKind.i64.wrap ((k : Int) + 1) = (k : Int) + 1 := IntWalk.i64_in _ (by omega)
      have hml : (m : Int) < (l.length : Int) := by omega
      cases u
      · go_wp2_with (first | (refine wpList_load_row rfl 26 _ rfl _ rfl 26 _ _ _ HA.out Try.underlying26 rfl hi ?_) | (go_at_call 34; refine (hc _).mono ?_; rintro e w1 ⟨rfl, E1⟩))
        go_ret
        exact ⟨ret_int (by rw [last_stop hm hg2 HI.out HU.out hd.out (.inl rfl)]; simp), hE.trans E1⟩
      · by_cases hlo : x < 128
        · go_wp2_with (first | (refine wpList_load_row rfl 26 _ rfl _ rfl 26 _ _ _ HA.out Try.underlying26 rfl hi ?_) | (go_at_call 34; refine (hc _).mono ?_; rintro e w1 ⟨rfl, E1⟩))
          go_ret
          exact ⟨ret_int (by rw [last_stop hm hg2 HI.out (fun _ => rfl) hd.out (.inr (by simp [innerL]; omega))]; simp), hE.trans E1⟩
        · by_cases hhi : 191 < x
          · go_wp2_with (first | (refine wpList_load_row rfl 26 _ rfl _ rfl 26 _ _ _ HA.out Try.underlying26 rfl hi ?_) | (go_at_call 34; refine (hc _).mono ?_; rintro e w1 ⟨rfl, E1⟩))
            go_ret
            exact ⟨ret_int (by rw [last_stop hm hg2 HI.out (fun _ => rfl) hd.out (.inr (by simp [innerL]; omega))]; simp), hE.trans E1⟩
          · go_wp2_with (first | (refine wpList_load_row rfl 26 _ rfl _ rfl 26 _ _ _ HA.out Try.underlying26 rfl hi ?_) | (go_at_call 34; refine (hc _).mono ?_; rintro e w1 ⟨rfl, E1⟩))
            go_roundw
            case rel => exact ⟨k + 1, by go_num, by omega, by omega, Lib.hid (HI.out.succ hm hd.out (by simp [innerL]; omega)), Lib.hid (by simp), Lib.hid (HA.out.ext E1), hE.trans E1⟩
            case measure => simp [intOf]; omega
    · have hend : k = 4 ∨ k = l.length := by omega
      by_cases hkl2 : k = l.length
      · have d1 : ¬ ((k : Int) < (l.length : Int)) := by omega
        go_wp2
        go_ret
        exact ⟨ret_int (by have := last_eq hk4 hkl HI.out HU.out hend; omega), hE⟩
      · have d1 : (k : Int) < (l.length : Int) := by omega
        have d2 : ¬ ((k : Int) < 4) := by omega
        go_wp2
        go_ret
        exact ⟨ret_int (by have := last_eq hk4 hkl HI.out HU.out hend; omega), hE⟩
end Go.Proofs.Ytilmkghopeoipaa
