/- The document's queue: how it lies in memory, its functions, by contract. Conditions: the queue is one; a record is no longer than the reach. -/
import Derived.Test.YtefcafohhppmbaaK06
import Derived.Test.YtefcafohhppmbaaRow
namespace Go.Proofs.Ytefcafohhppmbaa
open Go.RowKit Go.Kb

def rb (c : Cf) (v : Value) (o : Bool) : Array Value := #[.int .i64 c.B, .int .i64 c.R, .int .i64 c.H, .int .i64 c.L, v, .bool o]
theorem rb_cells {w : World} {g : Nat} {c : Cf} {v : Value} {o : Bool} (h : Blk w g 45 (rb c v o)) :
    w.cell? ⟨g, 0, none⟩ = some (.int .i64 c.B) ∧ w.cell? ⟨g, 1, none⟩ = some (.int .i64 c.R) ∧ w.cell? ⟨g, 2, none⟩ = some (.int .i64 c.H) ∧ w.cell? ⟨g, 3, none⟩ = some (.int .i64 c.L) ∧ w.cell? ⟨g, 4, none⟩ = some v ∧ w.cell? ⟨g, 5, none⟩ = some (.bool o) ∧ ∀ j, w.frozen? ⟨g, j, none⟩ = false :=
  ⟨h.cell 0, h.cell 1, h.cell 2, h.cell 3, h.cell 4, h.cell 5, h.frozen⟩
theorem rb_list {w : World} {g : Nat} {c : Cf} {v v' : Value} {o : Bool} (h : Blk w g 45 (rb c v o)) : Blk (w.setCell ⟨g, 4, none⟩ v') g 45 (rb c v' o) := h.set_ 4 _
theorem rb_over {w : World} {g : Nat} {c : Cf} {v : Value} {o o' : Bool} (h : Blk w g 45 (rb c v o)) : Blk (w.setCell ⟨g, 5, none⟩ (.bool o')) g 45 (rb c v o') := h.set_ 5 _
/-- the document's queue in memory: its blocks are g and those of F -/
def Qr (c : Cf) (g : Nat) (F : Nat → Prop) (w : World) (l : List (List Int)) (o : Bool) : Prop :=
  ∃ v, Blk w g 45 (rb c v o) ∧ TailS Rc 34 F w v l ∧ (∀ k, F k → k < w.heap.size ∧ k ≠ g) ∧ (l.length : Int) ≤ c.R ∧ usedL l ≤ c.B ∧ ¬ badC c
theorem Qr.mod {c : Cf} {g : Nat} {F S : Nat → Prop} {w w' : World} {l : List (List Int)} {o : Bool} (h : Qr c g F w l o) (hM : Mod S w w') (hg : ¬ S g) (hF : ∀ k, F k → ¬ S k) : Qr c g F w' l o := by
  obtain ⟨v, hB, hT, h1, h2⟩ := h
  exact ⟨v, hB.mod hM hg, hT.mod hM fun k _ hk => hF k hk, fun k hk => ⟨Nat.lt_of_lt_of_le (h1 k hk).1 hM.size, (h1 k hk).2⟩, h2⟩
theorem Qr.ext {c : Cf} {g : Nat} {F : Nat → Prop} {w w' : World} {l : List (List Int)} {o : Bool} (h : Qr c g F w l o) (hE : Ext w w') : Qr c g F w' l o :=
  h.mod (S := fun _ => False) (Mod.of_ext hE) (fun h => h) (fun _ _ h => h)
theorem Qr.lt {c : Cf} {g : Nat} {F : Nat → Prop} {w : World} {l : List (List Int)} {o : Bool} (h : Qr c g F w l o) : ∀ k, F k → k < w.heap.size := by
  obtain ⟨_, _, _, h, _⟩ := h
  exact fun k hk => (h k hk).1
theorem Qr.lt_g {c : Cf} {g : Nat} {F : Nat → Prop} {w : World} {l : List (List Int)} {o : Bool} (h : Qr c g F w l o) : g < w.heap.size := by
  obtain ⟨_, h, _⟩ := h
  exact h.lt
def RNewPost (c : Cf) (w : World) (e : Ending) (w' : World) : Prop :=
  (¬ badC c ∧ ∃ g, w.heap.size ≤ g ∧ e = .returned (.tuple #[.pointer (some ⟨g, 0, none⟩), .int .i64 0]) ∧ Blk w' g 45 (rb c (.slice none 0 0) false) ∧ Ext w w') ∨
  (badC c ∧ e = .returned (.tuple #[.pointer none, .int .i64 2]) ∧ Ext w w')
set_option maxHeartbeats 400000 in
theorem rnew_any (B R H L : Int) (w : World) : Calls Try.prog 10 #[.int .i64 B, .int .i64 R, .int .i64 H, .int .i64 L] w (RNewPost ⟨B, R, H, L⟩ w) := by
  go_enter Try.func10, Try.ntmps10
  go_wp2
  all_goals
    go_ret2
    unfold RNewPost badC
    first
    | exact .inr ⟨by simp only; omega, rfl, (by repeat (first | with_reducible exact Ext.refl _ | refine Ext.drewN ?_ _ | refine Ext.drew ?_ | refine Ext.alloc ?_ _ | assumption | (refine Below.trans ?_ (by assumption)) | (refine Ext.trans ?_ (by assumption)) | (refine Below.trans ?_ (Below.mono (by assumption) (by omega)))))⟩
    | exact .inl ⟨by simp only; omega, _, Nat.le_refl _, rfl, Blk.at_ _ _ rfl, (by repeat (first | with_reducible exact Ext.refl _ | refine Ext.drewN ?_ _ | refine Ext.drew ?_ | refine Ext.alloc ?_ _ | assumption | (refine Below.trans ?_ (by assumption)) | (refine Ext.trans ?_ (by assumption)) | (refine Below.trans ?_ (Below.mono (by assumption) (by omega)))))⟩
theorem used_take {l : List (List Int)} {k : Nat} {b : List Int} (h : l[k]? = some b) : usedL (l.take (k + 1)) = usedL (l.take k) + b.length := by
  rw [List.take_add_one, h]; simp [usedL, List.sum_append]
theorem used_take_le (l : List (List Int)) (k : Nat) : usedL (l.take k) ≤ usedL l := by
  have h : usedL l = usedL (l.take k) + usedL (l.drop k) := by
    conv => lhs; rw [← List.take_append_drop k l]
    simp only [usedL, List.map_append, List.sum_append]
  have := usedL_nn (l.drop k)
  omega
theorem rc_at {A : Nat → Prop} {w : World} {Ad : Option Addr} {n c : Nat} {ds : List (List Int)} (h : RdY Rc A w (.slice Ad n c) ds) {j : Nat} (hj : j < n) :
    ∃ b off Ad' l c', Ad = some ⟨b, off, none⟩ ∧ w.cell? ⟨b, off + j, none⟩ = some (.slice Ad' l.length c') ∧ Hid (ds[j]? = some l) ∧ Hid (RdS Ub A w (.slice Ad' l.length c') l) ∧ l.length ≤ c' ∧ c' ≤ 9223372036854775807 := by
  obtain ⟨b, off, u, l, rfl, h1, hd, hr⟩ := h.at1 rfl hj
  obtain ⟨v, hv, h3⟩ := hr.out
  simp only [List.cons.injEq, and_true] at hv
  subst hv
  obtain ⟨Ad', c', rfl, h4, h5⟩ := h3.shape
  exact ⟨b, off, Ad', l, c', rfl, h1, hd, h3, h4, h5⟩
set_option maxHeartbeats 400000 in
theorem rused_q {c : Cf} {g : Nat} {F : Nat → Prop} {w : World} {l : List (List Int)} {o : Bool} {u : Int} (h : ∃ v, Blk w g 45 (rb c v o) ∧ RdS Rc F w v l) (hb : usedL l ≤ 1000000000) (hu : usedL l = u) :
    Calls Try.prog 16 #[.pointer (some ⟨g, 0, none⟩)] w fun e w' => e = .returned (.int .i64 u) ∧ Qt w w' := by
  obtain ⟨v, hB, hT⟩ := h
  obtain ⟨Ad, k0, rfl, hk1, hk2⟩ := hT.shape
  obtain ⟨c0, c1, c2, c3, c4, c5, cf⟩ := rb_cells hB
  have HT := Lib.hid hT
  have HU := Lib.hid hu
  obtain ⟨n, hn⟩ : ∃ n, l.length = n := ⟨_, rfl⟩
  rw [hn] at c4 hk1 HT
  have HN := Lib.hid hn
  clear hB hT hu hn
  go_enter Try.func16, Try.ntmps16
  go_wp2
  go_loopw [3, 11] (fun s i wr => ∃ k : Nat, k ≤ n ∧ i = .int .i64 k ∧ s = .int .i64 (usedL (l.take k)) ∧ Qt w wr) (fun _ i _ => n - (intOf i).toNat)
  case atStart => exact ⟨0, Nat.zero_le _, rfl, rfl, (by repeat (first | with_reducible exact Qt.refl _ | refine Qt.drewN ?_ _ | assumption | refine Qt.trans ?_ (by assumption)))⟩
  case round =>
    obtain ⟨k, hk, rfl, rfl, hq⟩ := hrel
    by_cases hlt : k < n
    · obtain ⟨b, off, Ad', x, c', rfl, hx, hd, hr, hl1, hl2⟩ := rc_at (HT.out.ext hq.ext).y hlt
      have hs := used_take hd.out
      have h1 := used_take_le l (k + 1)
      have h2 := usedL_nn (l.take k)
      have hw : IntKind.i64.wrap (usedL (l.take k) + x.length) = usedL (l.take k) + x.length := IntWalk.i64_in _ (by omega)
      have HS := Lib.hid hs
      clear hs
      go_wp2
      go_roundw
      case rel => exact ⟨k + 1, by omega, by go_num, by rw [HS.out], (by repeat (first | with_reducible exact Qt.refl _ | refine Qt.drewN ?_ _ | assumption | refine Qt.trans ?_ (by assumption)))⟩
      case measure => simp [intOf]; omega
    · go_wp2
      go_ret
      refine ⟨?_, (by repeat (first | with_reducible exact Qt.refl _ | refine Qt.drewN ?_ _ | assumption | refine Qt.trans ?_ (by assumption)))⟩
      have : k = l.length := by have := HN.out; omega
      rw [this, List.take_length, HU.out]
      rfl
theorem Qr.u {c : Cf} {g : Nat} {F : Nat → Prop} {w : World} {l : List (List Int)} {o : Bool} (h : Qr c g F w l o) : (∃ v, Blk w g 45 (rb c v o) ∧ RdS Rc F w v l) ∧ usedL l ≤ 1000000000 := by
  obtain ⟨v, hB, hT, _, _, h5, h6⟩ := h
  exact ⟨⟨v, hB, hT.rd rfl⟩, by unfold badC at h6; omega⟩
set_option maxHeartbeats 800000 in
theorem rfront_any {F : Nat → Prop} (c : Cf) (g : Nat) (w : World) (l : List (List Int)) (o : Bool) (h : Qr c g F w l o) :
    Calls Try.prog 25 #[.pointer (some ⟨g, 0, none⟩)] w fun e w' => (∃ Ad k, e = .returned (.tuple #[.slice Ad (frL l).length k, .bool (!l.isEmpty)]) ∧ RdS Ub F w' (.slice Ad (frL l).length k) (frL l)) ∧ Ext w w' := by
  obtain ⟨v, hB, hT, hF, hl, hu, hc⟩ := h
  obtain ⟨Ad, k0, rfl, hk1, hk2⟩ := hT.shape
  obtain ⟨c0, c1, c2, c3, c4, c5, cf⟩ := rb_cells hB
  have HT := Lib.hid hT
  clear hB hT hc
  rcases l with _ | ⟨b, r⟩
  · have h0 : ([] : List (List Int)).length = 0 := rfl
    simp only [h0] at c4 hk1 hl HT
    go_enter Try.func25, Try.ntmps25
    go_wp2
    go_ret2
    exact ⟨⟨_, _, rfl, RdS.nil _ _ _⟩, (by repeat (first | with_reducible exact Ext.refl _ | refine Ext.drewN ?_ _ | refine Ext.drew ?_ | refine Ext.alloc ?_ _ | assumption | (refine Below.trans ?_ (by assumption)) | (refine Ext.trans ?_ (by assumption)) | (refine Below.trans ?_ (Below.mono (by assumption) (by omega)))))⟩
  · have h0 : (b :: r).length = r.length + 1 := rfl
    simp only [h0] at c4 hk1 hl HT
    obtain ⟨g1, off, A2, d, k2, rfl, hx, hd, hr, hk3, hk4⟩ := rc_at (TailS.rd rfl HT.out).y (j := 0) (by omega)
    have hd0 := hd.out
    simp only [List.getElem?_cons_zero, Option.some.injEq] at hd0
    subst hd0
    rw [Nat.add_zero] at hx
    have hne : ¬ ((r.length : Int) + 1 = 0) := by omega
    have hpo : (0 : Int) < (r.length : Int) + 1 := by omega
    clear hd hu
    go_enter Try.func25, Try.ntmps25
    go_wp2
    go_ret2
    exact ⟨⟨_, _, rfl, hr.out.ext (by repeat (first | with_reducible exact Ext.refl _ | refine Ext.drewN ?_ _ | refine Ext.drew ?_ | refine Ext.alloc ?_ _ | assumption | (refine Below.trans ?_ (by assumption)) | (refine Ext.trans ?_ (by assumption)) | (refine Below.trans ?_ (Below.mono (by assumption) (by omega)))))⟩, (by repeat (first | with_reducible exact Ext.refl _ | refine Ext.drewN ?_ _ | refine Ext.drew ?_ | refine Ext.alloc ?_ _ | assumption | (refine Below.trans ?_ (by assumption)) | (refine Ext.trans ?_ (by assumption)) | (refine Below.trans ?_ (Below.mono (by assumption) (by omega)))))⟩
end Go.Proofs.Ytefcafohhppmbaa
