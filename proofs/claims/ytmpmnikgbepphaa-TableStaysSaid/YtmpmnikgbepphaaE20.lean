/- Whether a table is right; a table in new memory, by contract. Conditions: few processes. -/
import Derived.Test.YtmpmnikgbepphaaD20
namespace Go.Proofs.Ytmpmnikgbepphaa
open Go.RowKit Go.Kb

theorem Pr.one {p : Pr} (h : p.ok) : p.cells.toArray.all (·.oneCell') = true := all_oneCell_toArray (Rp.one (A := fun _ => True) (w := (default : World)) (d := p) ⟨rfl, h⟩)
def rise (nx : Int) : Int → List Pr → Bool
  | _, [] => true
  | last, p :: r => decide (last < p.pid) && (decide (p.pid < nx) && rise nx p.pid r)
def rightL (l : List Pr) (nx : Int) : Bool := decide (1 ≤ nx) && (decide (l.length ≤ 32) && rise nx 0 l)
theorem right_len {l : List Pr} {nx : Int} (h : rightL l nx = true) : l.length ≤ 32 ∧ 1 ≤ nx := by
  simp only [rightL, Bool.and_eq_true, decide_eq_true_eq] at h
  exact ⟨h.2.1, h.1⟩
set_option maxRecDepth 100000 in
set_option maxHeartbeats 800000 in
theorem right_any {A : Nat → Prop} (Ad : Option Addr) (c : Nat) (l : List Pr) (nx : Int) (w : World) (h : RdY Rp A w (.slice Ad l.length c) l) :
    Calls Try.prog 44 #[.agg #[.slice Ad l.length c, .int .i64 nx]] w fun e w' => e = .returned (.bool (rightL l nx)) ∧ Ext w w' := by
  have H := Lib.hid (h.mono (B := fun _ => True) fun _ _ _ => trivial)
  obtain ⟨_, _, hv, hc1, hc2⟩ := h.shape
  simp only [Value.slice.injEq] at hv
  obtain ⟨-, -, rfl⟩ := hv
  obtain ⟨n, hn⟩ : ∃ n, l.length = n := ⟨_, rfl⟩
  have hR : rightL l nx = (decide (1 ≤ nx) && (decide (n ≤ 32) && rise nx 0 l)) := by rw [← hn]; rfl
  rw [hn] at H hc1 ⊢
  have HN := Lib.hid hn
  have HR := Lib.hid hR
  clear h hn hR
  by_cases h1 : nx < 1
  · go_enter Try.func44, Try.ntmps44
    go_wp2
    go_ret
    exact ⟨by rw [HR.out, decide_eq_false (by omega)]; rfl, (by repeat (first | with_reducible exact Ext.refl _ | refine Ext.drewN ?_ _ | refine Ext.drew ?_ | refine Ext.alloc ?_ _ | assumption | (refine Below.trans ?_ (by assumption)) | (refine Ext.trans ?_ (by assumption)) | (refine Below.trans ?_ (Below.mono (by assumption) (by omega)))))⟩
  by_cases h2 : 32 < n
  · have h3 : (32 : Int) < n := by omega
    go_enter Try.func44, Try.ntmps44
    go_wp2
    go_ret
    exact ⟨by rw [HR.out, decide_eq_true (show 1 ≤ nx by omega), decide_eq_false (show ¬ n ≤ 32 by omega)]; rfl, (by repeat (first | with_reducible exact Ext.refl _ | refine Ext.drewN ?_ _ | refine Ext.drew ?_ | refine Ext.alloc ?_ _ | assumption | (refine Below.trans ?_ (by assumption)) | (refine Ext.trans ?_ (by assumption)) | (refine Below.trans ?_ (Below.mono (by assumption) (by omega)))))⟩
  have h3 : ¬ ((32 : Int) < n) := by omega
  have HR2 : Hid (rightL l nx = rise nx 0 l) := Lib.hid (by rw [HR.out, decide_eq_true (show 1 ≤ nx by omega), decide_eq_true (show n ≤ 32 by omega)]; rfl)
  clear HR
  have hbox := Lib.hid (Blk.new w 29 #[.slice Ad n c, .int .i64 nx])
  go_enter Try.func44, Try.ntmps44
  go_wp2
  go_loopw [3, 18] (fun s i wr => ∃ (m : Nat) (last : Int), m ≤ n ∧ i = .int .i64 m ∧ s = .int .i64 last ∧ Hid (rise nx 0 l = rise nx last (l.drop m)) ∧ Hid (Blk wr w.heap.size 29 #[.slice Ad n c, .int .i64 nx]) ∧ Ext w wr) (fun _ i _ => n - (intOf i).toNat)
  case atStart => exact ⟨0, 0, Nat.zero_le _, rfl, rfl, Lib.hid rfl, hbox, (by repeat (first | with_reducible exact Ext.refl _ | refine Ext.drewN ?_ _ | refine Ext.drew ?_ | refine Ext.alloc ?_ _ | assumption | (refine Below.trans ?_ (by assumption)) | (refine Ext.trans ?_ (by assumption)) | (refine Below.trans ?_ (Below.mono (by assumption) (by omega)))))⟩
  case round =>
    clear hbox
    obtain ⟨m, last, hm, rfl, rfl, HD, hbox, hE⟩ := hrel
    by_cases hlt : m < n
    · obtain ⟨b, off, p, rfl, hd, hok, hcell⟩ := pr_at (H.out.ext hE) hlt
      have hsp : l.drop m = p :: l.drop (m + 1) := by
        obtain ⟨hl, hx⟩ := List.getElem?_eq_some_iff.1 hd.out
        rw [List.drop_eq_getElem_cons hl, hx]
      have HS : Hid (rise nx last (l.drop m) = (decide (last < p.pid) && (decide (p.pid < nx) && rise nx p.pid (l.drop (m + 1))))) := Lib.hid (by rw [hsp]; rfl)
      obtain ⟨_, q1, _, _⟩ := hbox.out.two
      have hs := hE.size
      clear hsp
      by_cases k1 : p.pid ≤ last
      · go_wp2_with (first
          | (refine wpList_load_mid rfl 43 _ rfl b (off + m * 43) rfl p.cells _ hcell.out Try.underlying43 rfl (i43' hok) ?_)
          | ((refine wpList_store_A rfl 43 _ _ rfl wr.heap.size _ rfl rfl 43 _ (Blk.at_ _ _ (by simp)) (by rw [List.size_toArray]; exact i43' hok) (by rw [show p.cells.toArray.size = 43 from Pr.size hok]; rfl) (Pr.one hok) ?_; intro w2 Hw2 Ew2; have Ew2 := Ew2 wr.heap.size wr (by repeat (first | with_reducible exact Ext.refl _ | refine Ext.drewN ?_ _ | refine Ext.drew ?_ | refine Ext.alloc ?_ _ | assumption | (refine Below.trans ?_ (by assumption)) | (refine Ext.trans ?_ (by assumption)) | (refine Below.trans ?_ (Below.mono (by assumption) (by omega))))) (Nat.le_refl _); have cw2 := prAt_blk hok Hw2); have c0 := cw2.c0))
        go_ret
        exact ⟨by rw [HR2.out, HD.out, HS.out, decide_eq_false (show ¬ last < p.pid by omega)]; rfl, (by repeat (first | with_reducible exact Ext.refl _ | refine Ext.drewN ?_ _ | refine Ext.drew ?_ | refine Ext.alloc ?_ _ | assumption | (refine Below.trans ?_ (by assumption)) | (refine Ext.trans ?_ (by assumption)) | (refine Below.trans ?_ (Below.mono (by assumption) (by omega)))))⟩
      by_cases k2 : nx ≤ p.pid
      · go_wp2_with (first
          | (refine wpList_load_mid rfl 43 _ rfl b (off + m * 43) rfl p.cells _ hcell.out Try.underlying43 rfl (i43' hok) ?_)
          | ((refine wpList_store_A rfl 43 _ _ rfl wr.heap.size _ rfl rfl 43 _ (Blk.at_ _ _ (by simp)) (by rw [List.size_toArray]; exact i43' hok) (by rw [show p.cells.toArray.size = 43 from Pr.size hok]; rfl) (Pr.one hok) ?_; intro w2 Hw2 Ew2; have Ew2 := Ew2 wr.heap.size wr (by repeat (first | with_reducible exact Ext.refl _ | refine Ext.drewN ?_ _ | refine Ext.drew ?_ | refine Ext.alloc ?_ _ | assumption | (refine Below.trans ?_ (by assumption)) | (refine Ext.trans ?_ (by assumption)) | (refine Below.trans ?_ (Below.mono (by assumption) (by omega))))) (Nat.le_refl _); have cw2 := prAt_blk hok Hw2); have c0 := cw2.c0; have q1 := cell_ext Ew2 q1))
        go_ret
        exact ⟨by rw [HR2.out, HD.out, HS.out, decide_eq_true (show last < p.pid by omega), decide_eq_false (show ¬ p.pid < nx by omega)]; rfl, (by repeat (first | with_reducible exact Ext.refl _ | refine Ext.drewN ?_ _ | refine Ext.drew ?_ | refine Ext.alloc ?_ _ | assumption | (refine Below.trans ?_ (by assumption)) | (refine Ext.trans ?_ (by assumption)) | (refine Below.trans ?_ (Below.mono (by assumption) (by omega)))))⟩
      · go_wp2_with (first
          | (refine wpList_load_mid rfl 43 _ rfl b (off + m * 43) rfl p.cells _ hcell.out Try.underlying43 rfl (i43' hok) ?_)
          | ((refine wpList_store_A rfl 43 _ _ rfl wr.heap.size _ rfl rfl 43 _ (Blk.at_ _ _ (by simp)) (by rw [List.size_toArray]; exact i43' hok) (by rw [show p.cells.toArray.size = 43 from Pr.size hok]; rfl) (Pr.one hok) ?_; intro w2 Hw2 Ew2; have Ew2 := Ew2 wr.heap.size wr (by repeat (first | with_reducible exact Ext.refl _ | refine Ext.drewN ?_ _ | refine Ext.drew ?_ | refine Ext.alloc ?_ _ | assumption | (refine Below.trans ?_ (by assumption)) | (refine Ext.trans ?_ (by assumption)) | (refine Below.trans ?_ (Below.mono (by assumption) (by omega))))) (Nat.le_refl _); have cw2 := prAt_blk hok Hw2); have c0 := cw2.c0; have q1 := cell_ext Ew2 q1; have hbox := Lib.hid (hbox.out.ext Ew2)))
        go_roundw
        case rel => exact ⟨m + 1, p.pid, by omega, by go_num, rfl, Lib.hid (by rw [HD.out, HS.out, decide_eq_true (show last < p.pid by omega), decide_eq_true (show p.pid < nx by omega)]; rfl), hbox, (by repeat (first | with_reducible exact Ext.refl _ | refine Ext.drewN ?_ _ | refine Ext.drew ?_ | refine Ext.alloc ?_ _ | assumption | (refine Below.trans ?_ (by assumption)) | (refine Ext.trans ?_ (by assumption)) | (refine Below.trans ?_ (Below.mono (by assumption) (by omega)))))⟩
        case measure => simp [intOf]; omega
    · go_wp2
      go_ret
      refine ⟨?_, (by repeat (first | with_reducible exact Ext.refl _ | refine Ext.drewN ?_ _ | refine Ext.drew ?_ | refine Ext.alloc ?_ _ | assumption | (refine Below.trans ?_ (by assumption)) | (refine Ext.trans ?_ (by assumption)) | (refine Below.trans ?_ (Below.mono (by assumption) (by omega)))))⟩
      rw [HR2.out, HD.out, List.drop_of_length_le (by have := HN.out; omega)]
      rfl
end Go.Proofs.Ytmpmnikgbepphaa
