/- A line discipline finds the way of a character, by contract. Condition: the discipline is one. -/
import Derived.Test.YtfnicinnjkbedaaGreatDoorQF17
namespace Go.Proofs.YtfnicinnjkbedaaGreatDoor
open Go.RowKit Go.Kb
set_option maxRecDepth 100000

/-- a way: its character's number, whether it asks IEXTEN, what it does -/
structure Wy where
  op : Int
  ex : Bool
  fn : Nat
abbrev wyV (g k : Nat) : Value := .func (.func k) #[.pointer (some ⟨g, 0, none⟩)] #[]
abbrev wyA (g : Nat) (x : Wy) : Array Value := #[.int .i64 x.op, .bool x.ex, wyV g x.fn]
def Rwy (g : Nat) : Rep Wy where
  size := 3
  pos := by decide
  rel := fun _ _ cs d => cs = [.int .i64 d.op, .bool d.ex, wyV g d.fn]
  len := fun h => by rw [h]; rfl
  one := fun h u hu => by
    rw [h] at hu
    simp only [List.mem_cons, List.not_mem_nil, or_false] at hu
    rcases hu with rfl | rfl | rfl <;> rfl
  keep := fun h _ => h
theorem wy_at {A : Nat → Prop} {w : World} {Ad : Option Addr} {n c g : Nat} {ds : List Wy} (h : RdY (Rwy g) A w (.slice Ad n c) ds) {j : Nat} (hj : j < n) :
    ∃ b off x, Ad = some ⟨b, off, none⟩ ∧ Hid (ds[j]? = some x) ∧ w.cell? ⟨b, off + j * 3, none⟩ = some (.int .i64 x.op) ∧ w.cell? ⟨b, off + j * 3 + 1, none⟩ = some (.bool x.ex) ∧ w.cell? ⟨b, off + j * 3 + 2, none⟩ = some (wyV g x.fn) := by
  obtain ⟨Ad', c', hv, _⟩ := h.shape
  simp only [Value.slice.injEq] at hv
  obtain ⟨rfl, rfl, rfl⟩ := hv
  obtain ⟨b, off, c, d, cs, hv, hd, hr, hl, hc⟩ := h.cells hj
  simp only [Value.slice.injEq] at hv
  obtain rfl := hr.out
  exact ⟨b, off, d, hv.1, hd, hc 0 _ rfl, hc 1 _ rfl, hc 2 _ rfl⟩
/-- a function value that asks something of a way -/
def AsksY (g k : Nat) (bs fs : Array Value) (f : Wy → Bool) (w : World) : Prop :=
  (∀ args w', (callFunc k args).run Tryz.prog w' = .ok (.enter k args) w') ∧ ∀ x w', Ext w w' → Calls Tryz.prog k (bs.push (.agg (wyA g x)) ++ fs) w' fun e w'' => e = .returned (.bool (f x)) ∧ Ext w' w''
theorem AsksY.ext {g k : Nat} {bs fs : Array Value} {f : Wy → Bool} {w w' : World} (h : AsksY g k bs fs f w) (hE : Ext w w') : AsksY g k bs fs f w' := ⟨h.1, fun x w2 h2 => h.2 x w2 (hE.trans h2)⟩
def idxY (f : Wy → Bool) (l : List Wy) : Int := match l.findIdx? f with | some i => i | none => -1
theorem idxY_none {f : Wy → Bool} {l : List Wy} (h : ∀ p ∈ l, f p = false) : idxY f l = -1 := by
  unfold idxY
  rw [List.findIdx?_eq_none_iff.2 h]
theorem idxY_some {f : Wy → Bool} {l : List Wy} {m : Nat} {p : Wy} (hp : l[m]? = some p) (h : ∀ q ∈ l.take m, f q = false) (hf : f p = true) : idxY f l = m := by
  unfold idxY
  have : l.findIdx? f = some m := by
    rw [List.findIdx?_eq_some_iff_getElem]
    obtain ⟨hlt, rfl⟩ := List.getElem?_eq_some_iff.1 hp
    refine ⟨hlt, hf, fun j hj => ?_⟩
    have := h (l[j]'(by omega)) (by rw [List.mem_take_iff_getElem]; exact ⟨j, by omega, rfl⟩)
    simp [this]
  rw [this]
set_option maxHeartbeats 800000 in
theorem indexY_any {A : Nat → Prop} {g : Nat} (k : Nat) (bs fs : Array Value) (f : Wy → Bool) (v : Value) (l : List Wy) (w : World) (h : RdY (Rwy g) A w v l) (hf : AsksY g k bs fs f w) :
    Calls Tryz.prog 96 #[v, .func (.func k) bs fs] w fun e w' => e = .returned (.int .i64 (idxY f l)) ∧ Ext w w' := by
  obtain ⟨Ad, c, rfl, hc1, hc2⟩ := h.shape
  have H := Lib.hid (h.mono (B := fun _ => True) fun _ _ _ => trivial)
  have HF := Lib.hid hf
  obtain ⟨n, hn⟩ : ∃ n, l.length = n := ⟨_, rfl⟩
  rw [hn] at H hc1 ⊢
  have HN := Lib.hid hn
  clear h hf hn
  go_enter Tryz.func96, Tryz.ntmps96
  go_wp2
  go_loopw [8] (fun i wr => ∃ m : Nat, m ≤ n ∧ i = .int .i64 m ∧ Hid (∀ p ∈ l.take m, f p = false) ∧ Ext w wr) (fun i _ => n - (intOf i).toNat)
  case atStart => exact ⟨0, Nat.zero_le _, rfl, Lib.hid (by simp), (by repeat (first | with_reducible exact Ext.refl _ | refine Ext.drewN ?_ _ | refine Ext.drew ?_ | refine Ext.alloc ?_ _ | assumption | (refine Below.trans ?_ (by assumption)) | (refine Ext.trans ?_ (by assumption)) | (refine Below.trans ?_ (Below.mono (by assumption) (by omega)))))⟩
  case round =>
    obtain ⟨m, hm, rfl, HD, hE⟩ := hrel
    by_cases hlt : m < n
    · obtain ⟨b, off, p, rfl, hd, h0, h1, h2⟩ := wy_at (H.out.ext hE) hlt
      have HA := Lib.hid (HF.out.2 p wr hE)
      have HK := HF.out.1
      cases hp : f p
      · have HP := Lib.hid hp
        clear hp
        go_wp2_with (refine HA.out.mono ?_; rintro e w2 ⟨rfl, E2⟩; rw [HP.out])
        go_roundw
        case rel => exact ⟨m + 1, by omega, by go_num, Lib.hid (by
          rw [List.take_add_one, hd.out]
          intro q hq
          rcases List.mem_append.1 hq with h | h
          · exact HD.out q h
          · simp at h; rw [h]; exact HP.out), (by repeat (first | with_reducible exact Ext.refl _ | refine Ext.drewN ?_ _ | refine Ext.drew ?_ | refine Ext.alloc ?_ _ | assumption | (refine Below.trans ?_ (by assumption)) | (refine Ext.trans ?_ (by assumption)) | (refine Below.trans ?_ (Below.mono (by assumption) (by omega)))))⟩
        case measure => simp [intOf]; omega
      · have HP := Lib.hid hp
        clear hp
        go_wp2_with (refine HA.out.mono ?_; rintro e w2 ⟨rfl, E2⟩; rw [HP.out])
        go_ret
        exact ⟨by rw [idxY_some hd.out HD.out HP.out]; rfl, (by repeat (first | with_reducible exact Ext.refl _ | refine Ext.drewN ?_ _ | refine Ext.drew ?_ | refine Ext.alloc ?_ _ | assumption | (refine Below.trans ?_ (by assumption)) | (refine Ext.trans ?_ (by assumption)) | (refine Below.trans ?_ (Below.mono (by assumption) (by omega)))))⟩
    · go_wp2
      go_ret
      obtain rfl : m = l.length := by have := HN.out; omega
      have := HD.out
      rw [List.take_length] at this
      exact ⟨by rw [idxY_none this]; rfl, (by repeat (first | with_reducible exact Ext.refl _ | refine Ext.drewN ?_ _ | refine Ext.drew ?_ | refine Ext.alloc ?_ _ | assumption | (refine Below.trans ?_ (by assumption)) | (refine Ext.trans ?_ (by assumption)) | (refine Below.trans ?_ (Below.mono (by assumption) (by omega)))))⟩
set_option maxHeartbeats 800000 in
theorem containsY_any {A : Nat → Prop} {g : Nat} (k : Nat) (bs fs : Array Value) (f : Wy → Bool) (v : Value) (l : List Wy) (w : World) (h : RdY (Rwy g) A w v l) (hf : AsksY g k bs fs f w) :
    Calls Tryz.prog 95 #[v, .func (.func k) bs fs] w fun e w' => e = .returned (.bool (decide (0 ≤ idxY f l))) ∧ Ext w w' := by
  have H := Lib.hid h
  have HF := Lib.hid hf
  clear h hf
  go_enter Tryz.func95, Tryz.ntmps95
  go_wp2_with fail
  refine (indexY_any k bs fs f v l _ (H.out.ext (by repeat (first | with_reducible exact Ext.refl _ | refine Ext.drewN ?_ _ | refine Ext.drew ?_ | refine Ext.alloc ?_ _ | assumption | (refine Below.trans ?_ (by assumption)) | (refine Ext.trans ?_ (by assumption)) | (refine Below.trans ?_ (Below.mono (by assumption) (by omega)))))) (HF.out.ext (by repeat (first | with_reducible exact Ext.refl _ | refine Ext.drewN ?_ _ | refine Ext.drew ?_ | refine Ext.alloc ?_ _ | assumption | (refine Below.trans ?_ (by assumption)) | (refine Ext.trans ?_ (by assumption)) | (refine Below.trans ?_ (Below.mono (by assumption) (by omega))))))).mono ?_
  rintro e w1 ⟨rfl, E1⟩
  go_wp2
  go_ret
  exact ⟨rfl, (by repeat (first | with_reducible exact Ext.refl _ | refine Ext.drewN ?_ _ | refine Ext.drew ?_ | refine Ext.alloc ?_ _ | assumption | (refine Below.trans ?_ (by assumption)) | (refine Ext.trans ?_ (by assumption)) | (refine Below.trans ?_ (Below.mono (by assumption) (by omega)))))⟩
end Go.Proofs.YtfnicinnjkbedaaGreatDoor
