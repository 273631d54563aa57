/- slices.IndexFunc of processes, by contract: the test is any function value that answers a Bool. No condition. -/
import Derived.Test.YtmpmnikgbepphaaA20
namespace Go.Proofs.Ytmpmnikgbepphaa
open Go.RowKit Go.Kb

/-- a function value that asks something of a process -/
def Asks (k : Nat) (bs fs : Array Value) (f : Pr → Bool) (w : World) : Prop :=
  (∀ args w', (callFunc k args).run Try.prog w' = .ok (.enter k args) w') ∧ ∀ p w', p.ok → Ext w w' → Calls Try.prog k (bs.push (.agg p.cells.toArray) ++ fs) w' fun e w'' => e = .returned (.bool (f p)) ∧ Ext w' w''
theorem Asks.ext {k : Nat} {bs fs : Array Value} {f : Pr → Bool} {w w' : World} (h : Asks k bs fs f w) (hE : Ext w w') : Asks k bs fs f w' := ⟨h.1, fun p w2 hp h2 => h.2 p w2 hp (hE.trans h2)⟩
theorem i43 : (Try.prog.info? 43).map (·.size) = some 43 := by kernel_rfl
theorem i43' {p : Pr} (h : p.ok) : (Try.prog.info? 43).map (·.size) = some p.cells.length := by rw [Pr.len h]; exact i43
def idxL (f : Pr → Bool) (l : List Pr) : Int := match l.findIdx? f with | some i => i | none => -1
theorem idx_none {f : Pr → Bool} {l : List Pr} (h : ∀ p ∈ l, f p = false) : idxL f l = -1 := by
  unfold idxL
  rw [List.findIdx?_eq_none_iff.2 h]
theorem idx_some {f : Pr → Bool} {l : List Pr} {m : Nat} {p : Pr} (hp : l[m]? = some p) (h : ∀ q ∈ l.take m, f q = false) (hf : f p = true) : idxL f l = m := by
  unfold idxL
  have : l.findIdx? f = some m := by
    rw [List.findIdx?_eq_some_iff_getElem]
    obtain ⟨hlt, rfl⟩ := List.getElem?_eq_some_iff.1 hp
    refine ⟨hlt, hf, fun j hj => ?_⟩
    have := h (l[j]'(by omega)) (by rw [List.mem_take_iff_getElem]; exact ⟨j, by omega, rfl⟩)
    simp [this]
  rw [this]
set_option maxRecDepth 100000 in
set_option maxHeartbeats 800000 in
theorem index_any {A : Nat → Prop} (k : Nat) (bs fs : Array Value) (f : Pr → Bool) (v : Value) (l : List Pr) (w : World) (h : RdY Rp A w v l) (hf : Asks k bs fs f w) :
    Calls Try.prog 60 #[v, .func (.func k) bs fs] w fun e w' => e = .returned (.int .i64 (idxL f l)) ∧ Ext w w' := by
  obtain ⟨Ad, c, rfl, hc1, hc2⟩ := h.shape
  have H := Lib.hid (h.mono (B := fun _ => True) fun _ _ _ => trivial)
  have HF := Lib.hid hf
  obtain ⟨n, hn⟩ : ∃ n, l.length = n := ⟨_, rfl⟩
  rw [hn] at H hc1 ⊢
  have HN := Lib.hid hn
  clear h hf hn
  go_enter Try.func60, Try.ntmps60
  go_wp2
  go_loopw [8] (fun i wr => ∃ m : Nat, m ≤ n ∧ i = .int .i64 m ∧ Hid (∀ p ∈ l.take m, f p = false) ∧ Ext w wr) (fun i _ => n - (intOf i).toNat)
  case atStart => exact ⟨0, Nat.zero_le _, rfl, Lib.hid (by simp), (by repeat (first | with_reducible exact Ext.refl _ | refine Ext.drewN ?_ _ | refine Ext.drew ?_ | refine Ext.alloc ?_ _ | assumption | (refine Below.trans ?_ (by assumption)) | (refine Ext.trans ?_ (by assumption)) | (refine Below.trans ?_ (Below.mono (by assumption) (by omega)))))⟩
  case round =>
    obtain ⟨m, hm, rfl, HD, hE⟩ := hrel
    by_cases hlt : m < n
    · obtain ⟨b, off, p, rfl, hd, hok, hcell⟩ := pr_at (H.out.ext hE) hlt
      have HA := Lib.hid (HF.out.2 p wr hok hE)
      have HK := HF.out.1
      have hx := hd.out
      cases hp : f p
      · have HP := Lib.hid hp
        clear hp hx
        go_wp2_with (first
          | (refine wpList_load_mid rfl 43 _ rfl b (off + m * 43) rfl p.cells _ hcell.out Try.underlying43 rfl (i43' hok) ?_)
          | (refine HA.out.mono ?_; rintro e w2 ⟨rfl, E2⟩; rw [HP.out]))
        go_roundw
        case rel => exact ⟨m + 1, by omega, by go_num, Lib.hid (by
          rw [List.take_add_one, hd.out]
          intro q hq
          rcases List.mem_append.1 hq with h | h
          · exact HD.out q h
          · simp at h; rw [h]; exact HP.out), (by repeat (first | with_reducible exact Ext.refl _ | refine Ext.drewN ?_ _ | refine Ext.drew ?_ | refine Ext.alloc ?_ _ | assumption | (refine Below.trans ?_ (by assumption)) | (refine Ext.trans ?_ (by assumption)) | (refine Below.trans ?_ (Below.mono (by assumption) (by omega)))))⟩
        case measure => simp [intOf]; omega
      · have HP := Lib.hid hp
        clear hp hx
        go_wp2_with (first
          | (refine wpList_load_mid rfl 43 _ rfl b (off + m * 43) rfl p.cells _ hcell.out Try.underlying43 rfl (i43' hok) ?_)
          | (refine HA.out.mono ?_; rintro e w2 ⟨rfl, E2⟩; rw [HP.out]))
        go_ret
        exact ⟨by rw [idx_some hd.out HD.out HP.out]; rfl, (by repeat (first | with_reducible exact Ext.refl _ | refine Ext.drewN ?_ _ | refine Ext.drew ?_ | refine Ext.alloc ?_ _ | assumption | (refine Below.trans ?_ (by assumption)) | (refine Ext.trans ?_ (by assumption)) | (refine Below.trans ?_ (Below.mono (by assumption) (by omega)))))⟩
    · go_wp2
      go_ret
      obtain rfl : m = l.length := by have := HN.out; omega
      have := HD.out
      rw [List.take_length] at this
      exact ⟨by rw [idx_none this]; rfl, (by repeat (first | with_reducible exact Ext.refl _ | refine Ext.drewN ?_ _ | refine Ext.drew ?_ | refine Ext.alloc ?_ _ | assumption | (refine Below.trans ?_ (by assumption)) | (refine Ext.trans ?_ (by assumption)) | (refine Below.trans ?_ (Below.mono (by assumption) (by omega)))))⟩
end Go.Proofs.Ytmpmnikgbepphaa
