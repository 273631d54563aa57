/- Fields in memory; which kinds may stand in a row, by contract. Conditions: the kinds may stand so. -/
import Derived.Test.YtldijmappinngaaGreatDoorOB04
namespace Go.Proofs.YtldijmappinngaaGreatDoor
open Go.RowKit Go.Kb
set_option maxRecDepth 100000

structure Fd where
  k : Int
  n : Int
  t : List Int
/-- how a field lies in four cells: it has no list -/
def FdR : Rep Fd where
  size := 4
  pos := by decide
  rel := fun A w cs f => ∃ vt, cs = [.int .i64 f.k, .int .u32 f.n, vt, .slice none 0 0] ∧ RdS Ub8 A w vt f.t
  len := fun ⟨vt, h, _⟩ => by rw [h]; rfl
  one := fun ⟨vt, h, h2⟩ u hu => by
    obtain ⟨Ad, c, rfl, _⟩ := h2.shape
    rw [h] at hu
    simp at hu
    rcases hu with rfl | rfl | rfl | rfl <;> rfl
  keep := fun ⟨vt, h, h2⟩ hk => ⟨vt, h, h2.keep hk⟩
theorem fd_at {A : Nat → Prop} {w : World} {Ad : Option Addr} {n c j : Nat} {fs : List Fd} (h : RdY FdR A w (.slice Ad n c) fs) (hj : j < n) :
    ∃ b off At ct f, Ad = some ⟨b, off, none⟩ ∧ w.cell? ⟨b, off + j * 4, none⟩ = some (.int .i64 f.k) ∧ w.cell? ⟨b, off + j * 4 + 1, none⟩ = some (.int .u32 f.n) ∧ w.cell? ⟨b, off + j * 4 + 2, none⟩ = some (.slice At f.t.length ct) ∧
      w.cell? ⟨b, off + j * 4 + 3, none⟩ = some (.slice none 0 0) ∧ Hid (fs[j]? = some f) ∧ Hid (RdS Ub8 A w (.slice At f.t.length ct) f.t) := by
  obtain ⟨Ad', c', hv, _⟩ := h.shape
  simp only [Value.slice.injEq] at hv
  obtain ⟨rfl, rfl, rfl⟩ := hv
  obtain ⟨b, off, c, d, cs, hv, hd, ⟨vt, rfl, hr⟩, hl, hc⟩ := h.cells hj
  simp only [Value.slice.injEq] at hv
  obtain ⟨At, ct, rfl, -, -⟩ := hr.shape
  exact ⟨b, off, At, ct, d, hv.1, hc 0 _ rfl, hc 1 _ rfl, hc 2 _ rfl, hc 3 _ rfl, hd, Lib.hid hr⟩
/-- kinds that may stand in a row -/
def RowOk (ks : List Int) : Prop := ∀ i x, ks[i]? = some x → (1 ≤ x ∧ x ≤ 6) ∧ (x = 6 → i + 1 = ks.length)
set_option maxHeartbeats 400000 in
theorem known_any (k : Int) (w : World) (h : 1 ≤ k ∧ k ≤ 6) : Calls Tryz.prog 66 #[.int .i64 k] w fun e w' => e = .returned (.bool true) ∧ Ext w w' := by
  obtain ⟨h1, h2⟩ := h
  go_enter Tryz.func66, Tryz.ntmps66
  go_wp2
  go_ret
  exact ⟨rfl, (by repeat (first | with_reducible exact Ext.refl _ | refine Ext.drewN ?_ _ | refine Ext.drew ?_ | refine Ext.alloc ?_ _ | assumption | (refine Below.trans ?_ (by assumption)) | (refine Ext.trans ?_ (by assumption)) | (refine Below.trans ?_ (Below.mono (by assumption) (by omega)))))⟩
set_option maxHeartbeats 800000 in
theorem row_any (v : Value) (ks : List Int) (w : World) (h : RI .i64 w v ks) (hr : RowOk ks) : Calls Tryz.prog 30 #[v] w fun e w' => e = .returned (.bool true) ∧ Ext w w' := by
  obtain ⟨A, c, rfl, hc1, hc2⟩ := h.shape
  obtain ⟨N, hN⟩ : ∃ N, ks.length = N := ⟨_, rfl⟩
  have HN := Lib.hid hN
  have H := Lib.hid (show RdN w 1 (.slice A N c) ks.length (ks.map (Value.int .i64)) by rw [← hN]; exact h)
  have HR := Lib.hid hr
  rw [hN] at hc1 ⊢
  clear h hr hN
  go_enter Tryz.func30, Tryz.ntmps30
  go_wp2
  go_loopw [7] (fun i wr => ∃ m : Nat, m ≤ N ∧ i = .int .i64 m ∧ Hid (Ext w wr)) (fun i _ => N - (intOf i).toNat)
  case atStart => exact ⟨0, Nat.zero_le _, rfl, Lib.hid (Ext.refl _)⟩
  case round =>
    obtain ⟨m, hm, rfl, hE⟩ := hrel
    obtain ⟨wq, hwq⟩ : ∃ wq, wq = wr := ⟨_, rfl⟩
    rw [← hwq] at hE ⊢
    clear hwq
    by_cases hmn : m < N
    · obtain ⟨b, off, x, rfl, hx, hd⟩ := (RdN.ext H.out hE.out).icell hmn
      obtain ⟨hk, h6⟩ := HR.out m x hd.out
      have HK := Lib.hid (fun w' => known_any x w' hk)
      go_wp2_with fail
      refine (HK.out _).mono ?_
      rintro e w1 ⟨rfl, E1⟩
      have hE1 := Lib.hid (hE.out.trans E1)
      by_cases hx6 : x = 6
      · subst hx6
        have h7 := h6 rfl
        rw [HN.out] at h7
        have h8 : ¬ ((m : Int) < (N : Int) - 1) := by omega
        clear h6
        go_wp2
        go_roundw
        case rel => exact ⟨m + 1, by omega, by go_num, hE1⟩
        case measure => simp [intOf]; omega
      · have hx1 : (x == 6) = false := by simpa using hx6
        clear h6
        go_wp2
        go_roundw
        case rel => exact ⟨m + 1, by omega, by go_num, hE1⟩
        case measure => simp [intOf]; omega
    · obtain rfl : m = N := by omega
      go_wp2
      go_ret
      exact ⟨rfl, hE.out⟩
end Go.Proofs.YtldijmappinngaaGreatDoor
