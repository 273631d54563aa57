/- The document's timers: cut, by contract. No condition. -/
import Derived.Test.YtapajcgfdiamdaaN07
namespace Go.Proofs.Ytapajcgfdiamdaa
open Go.RowKit Go.Kb

abbrev Kp : Rep (Int × Int) := Rep.pair (Rep.int .i64) (Rep.int .i64)
theorem info_kp : (Try.prog.info? 43).map (fun i => (i.zero, i.size, i.bytes)) = some (some (.agg #[.int .i64 0, .int .i64 0]), Kp.size, 16) := by kernel_rfl
theorem kp_at {A : Nat → Prop} {w : World} {Ad : Option Addr} {n c j : Nat} {l : List (Int × Int)} (h : RdY Kp A w (.slice Ad n c) l) (hj : j < n) : ∃ b off d, Ad = some ⟨b, off, none⟩ ∧ l[j]? = some d ∧ w.cell? ⟨b, off + j * 2, none⟩ = some (.int .i64 d.1) ∧ w.cell? ⟨b, off + j * 2 + 1, none⟩ = some (.int .i64 d.2) := by
  obtain ⟨b, off, u, u2, d, hA, hc, hc2, hd, hr⟩ := RdY.at2 h rfl hj
  obtain ⟨x, y, hx, h1, h2⟩ := hr.out
  have h1 : x = [.int .i64 d.1] := h1
  have h2 : y = [.int .i64 d.2] := h2
  subst h1 h2
  simp at hx
  obtain ⟨rfl, rfl⟩ := hx
  exact ⟨b, off, d, hA, hd.out, hc, hc2⟩
theorem kp_rel {A : Nat → Prop} {w : World} (x : Int × Int) : Kp.rel A w [.int .i64 x.1, .int .i64 x.2] x := ⟨[.int .i64 x.1], [.int .i64 x.2], rfl, rfl, rfl⟩
set_option maxRecDepth 100000 in
set_option maxHeartbeats 3000000 in
theorem cut_any {A : Nat → Prop} (v : Value) (L : List (Int × Int)) (id : Int) (hl : L.length ≤ 1000) (w : World) (h : RdY Kp A w v L) :
    Calls Try.prog 20 #[v, .int .i64 id] w fun e w' => ∃ A' c', e = .returned (.tuple #[.slice A' (remL id L).length c', .bool (decide ((remL id L).length < L.length))]) ∧ OwnS Kp 43 w.heap.size (fun _ => False) w' (.slice A' (remL id L).length c') (remL id L) ∧ Ext w w' := by
  obtain ⟨Ad, c, rfl, hc1, hc2⟩ := h.shape
  obtain ⟨N, hN⟩ : ∃ N, L.length = N := ⟨_, rfl⟩
  rw [hN] at h hc1 hl ⊢
  have H := Lib.hid h
  have HN := Lib.hid hN
  clear h hN
  go_enter Try.func20, Try.ntmps20
  go_wp2
  go_loopw [6, 11] (fun o i wr => ∃ (m : Nat) (A' : Option Addr) (c' : Nat), m ≤ N ∧ i = .int .i64 m ∧ o = .slice A' (remL id (L.take m)).length c' ∧ Hid (OwnS Kp 43 w.heap.size (fun _ => False) wr (.slice A' (remL id (L.take m)).length c') (remL id (L.take m))) ∧ Hid (Ext w wr)) (fun _ i _ => N - (intOf i).toNat)
  case atStart => exact ⟨0, none, 0, Nat.zero_le _, rfl, rfl, Lib.hid (OwnS.nil _ _ _ _ _), Lib.hid (by repeat (first | with_reducible exact Ext.refl _ | refine Ext.drewN ?_ _ | refine Ext.drew ?_ | refine Ext.alloc ?_ _ | assumption | (refine Below.trans ?_ (by assumption)) | (refine Ext.trans ?_ (by assumption)) | (refine Below.trans ?_ (Below.mono (by assumption) (by omega)))))⟩
  case round =>
    obtain ⟨m, A', c', hm, rfl, rfl, O, hE⟩ := hrel
    have hlen : (remL id (L.take m)).length ≤ m := Nat.le_trans (List.length_filter_le _ _) (by rw [List.length_take]; omega)
    by_cases hmn : m < N
    · obtain ⟨b, off, ⟨xi, xt⟩, rfl, hd, k0, k1⟩ := kp_at (H.out.ext hE.out) hmn
      have htk : L.take (m + 1) = L.take m ++ [(xi, xt)] := by rw [List.take_add_one, hd]; rfl
      have i1 : (0 : Int) ≤ (m : Int) := by omega
      have i2 : (m : Int) < (N : Int) := by omega
      simp only at k0 k1
      by_cases hid : xi = id
      · have hidb : (xi != id) = false := by simpa using hid
        have HR := Lib.hid (show remL id (L.take (m + 1)) = remL id (L.take m) by rw [htk]; unfold remL; rw [List.filter_append]; simp [hid])
        subst hid
        clear hd htk
        go_wp2
        have EA : Ext wr (wr.alloc (.cells #[.int .i64 xi, .int .i64 xt] 43)) := (Ext.refl wr).alloc _
        have E5 := Lib.hid (hE.out.trans EA)
        go_roundw
        case rel => exact ⟨m + 1, A', c', by omega, by go_num, by rw [HR.out], by rw [HR.out]; exact Lib.hid (O.out.ext EA), E5⟩
        case measure => simp [intOf]; omega
      · have hidb : (xi != id) = true := by simpa using hid
        have HR := Lib.hid (show remL id (L.take (m + 1)) = remL id (L.take m) ++ [(xi, xt)] by rw [htk]; unfold remL; rw [List.filter_append]; simp [hid])
        have hwz := hE.out.size
        clear hd htk
        go_wp2_with (at_builtin; refine wpList_app (e := Kp) (base := w.heap.size) (B := fun _ => False) (A := fun _ => False) rfl (.tmp 19) (.tmp 21) rfl Try.underlying27 info_kp rfl (OwnS.ext O.out (by repeat (first | with_reducible exact Ext.refl _ | refine Ext.drewN ?_ _ | refine Ext.drew ?_ | refine Ext.alloc ?_ _ | assumption | (refine Below.trans ?_ (by assumption)) | (refine Ext.trans ?_ (by assumption)) | (refine Below.trans ?_ (Below.mono (by assumption) (by omega)))))) rfl (RdY.singleB (e := Kp) (cs := [.int .i64 xi, .int .i64 xt]) (d := (xi, xt)) (n := wr.heap.size + 1) (kp_rel (xi, xt)) (Blk.at_ _ _ (by simp))) rfl (fun _ _ h => h.elim) (N := (remL id (L.take m)).length + 1) (by simp) (by simp [maxLen]; omega) (by omega) (by simp; omega) ?_; intro A5 c5 w5 o5 M5 D5)
        have EA : Ext wr ((wr.alloc (.cells #[.int .i64 xi, .int .i64 xt] 43)).alloc (.cells #[.int .i64 xi, .int .i64 xt] 43)) := ((Ext.refl wr).alloc _).alloc _
        have E5 := Lib.hid (show Ext w w5 from Below.trans (hE.out.trans EA) D5)
        have o5 := Lib.hid o5
        clear M5 D5
        go_roundw
        case rel => exact ⟨m + 1, A5, c5, by omega, by go_num, by rw [HR.out]; simp, by rw [HR.out]; rw [show (remL id (L.take m) ++ [(xi, xt)]).length = (remL id (L.take m)).length + 1 by simp]; exact o5, E5⟩
        case measure => simp [intOf]; omega
    · obtain rfl : m = N := by omega
      have ht : L.take m = L := List.take_of_length_le (by have := HN.out; omega)
      rw [ht] at O ⊢
      go_wp2
      refine bodyPost_ret (v := .tuple #[.slice A' (remL id L).length c', .bool (decide (((remL id L).length : Int) < (m : Int)))]) (by simp [results, Try.results20, go_sem]) rfl ?_
      refine ⟨A', c', ?_, O.out, hE.out⟩
      have : decide (((remL id L).length : Int) < (m : Int)) = decide ((remL id L).length < m) := by
        rw [Bool.eq_iff_iff, decide_eq_true_eq, decide_eq_true_eq]
        omega
      rw [this]
end Go.Proofs.Ytapajcgfdiamdaa
