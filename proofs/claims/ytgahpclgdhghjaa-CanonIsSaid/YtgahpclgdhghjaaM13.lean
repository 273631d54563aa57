/- The lines that were typed: what is handed out can be written over: contracts. Conditions: lengths within the reach. -/
import Derived.Test.YtgahpclgdhghjaaE13
namespace Go.Proofs.Ytgahpclgdhghjaa
open Go.RowKit Go.Kb

/-- bytes that can be written over -/
def RdW (A : Nat → Prop) (w : World) (v : Value) (l : List Int) : Prop := RdS Ub A w v l ∧ ∀ k, 0 < l.length → v.ownBlock = some k → ∀ o, w.frozen? ⟨k, o, none⟩ = false
theorem frozen_of {w w' : World} {k : Nat} (h : w'.heap[k]? = w.heap[k]?) (o : Nat) : w'.frozen? ⟨k, o, none⟩ = w.frozen? ⟨k, o, none⟩ := by
  simp only [World.frozen?, h]
theorem RdW.keep {A B : Nat → Prop} {w w' : World} {v : Value} {l : List Int} (h : RdW A w v l) (hk : ∀ k, k < w.heap.size → A k → B k ∧ w'.heap[k]? = w.heap[k]?) : RdW B w' v l := by
  refine ⟨h.1.keep hk, fun k hn hv o => ?_⟩
  obtain ⟨us, hr, _⟩ := h.1.1
  have hlt := hr.lt_own hn Ub.pos k hv
  rw [frozen_of (hk k hlt (h.1.2 hn k hv)).2]
  exact h.2 k hn hv o
theorem RdW.ext {A : Nat → Prop} {w w' : World} {v : Value} {l : List Int} (h : RdW A w v l) (hE : Ext w w') : RdW A w' v l := h.keep fun k hk ha => ⟨ha, hE.block k hk⟩
theorem RdW.mod {A S : Nat → Prop} {w w' : World} {v : Value} {l : List Int} (h : RdW A w v l) (hM : Mod S w w') (hS : ∀ k, k < w.heap.size → A k → ¬ S k) : RdW A w' v l := h.keep fun k hk ha => ⟨ha, hM.block k hk (hS k hk ha)⟩
theorem RdW.mono {A B : Nat → Prop} {w : World} {v : Value} {l : List Int} (h : RdW A w v l) (hS : ∀ k, k < w.heap.size → A k → B k) : RdW B w v l := h.keep fun k hk ha => ⟨hS k hk ha, rfl⟩
theorem RdW.nil (A : Nat → Prop) (w : World) : RdW A w (.slice none 0 0) [] := ⟨RdS.nil _ _ _, fun _ h => absurd h (by simp)⟩
theorem own_w {T : TypeId} {base : Nat} {A B : Nat → Prop} {w : World} {v : Value} {l : List Int} (h : OwnS Ub T base B w v l) (hA : ∀ k, base ≤ k → A k) (hB : ∀ k, B k → A k) : RdW A w v l := by
  refine ⟨h.rd hA hB, fun k hn hv o => ?_⟩
  obtain ⟨Ad, c, rfl, _⟩ := h.shape
  obtain ⟨g, rfl, _, hf⟩ := h.addr hn
  simp only [Value.ownBlock, Option.some.injEq] at hv
  subst hv
  exact hf o
theorem RdW.to_cap {A : Nat → Prop} {w : World} {Ad : Option Addr} {n c k : Nat} {l : List Int} (h : RdW A w (.slice Ad n c) l) (hk : k ≤ n) : RdW A w (.slice Ad k k) (l.take k) := by
  obtain ⟨Ad', c', hv, h1, h2⟩ := h.1.shape
  simp only [Value.slice.injEq] at hv
  obtain ⟨rfl, rfl, rfl⟩ := hv
  refine ⟨(RdS.to_ h.1 hk).cap (Nat.le_refl _) (by omega), fun j hn hv o => h.2 j (by simp at hn; omega) ?_ o⟩
  cases Ad with
  | none => simp [Value.ownBlock] at hv
  | some a => exact hv
def Rep.wl : Rep (List Int) where
  size := 1
  pos := by decide
  rel := fun A w cs ds => ∃ v, cs = [v] ∧ RdW A w v ds
  len := fun ⟨v, h, _⟩ => by rw [h]; rfl
  one := fun ⟨v, h, h2⟩ u hu => by
    obtain ⟨Ad, c, rfl, _⟩ := h2.1.shape
    rw [h] at hu; simp at hu; subst hu; rfl
  keep := fun ⟨v, h, h2⟩ hk => ⟨v, h, h2.keep hk⟩
abbrev Lw : Rep (List Int × Bool) := Rep.pair Rep.wl Rep.bool
theorem lw_rel {A : Nat → Prop} {w : World} {u : Value} {l : List Int} {f : Bool} (h : RdW A w u l) : Lw.rel A w [u, .bool f] (l, f) := ⟨[u], [.bool f], rfl, ⟨u, rfl, h⟩, rfl⟩
theorem lw_cells {A : Nat → Prop} {w : World} {u u2 : Value} {d : List Int × Bool} (h : Lw.rel A w [u, u2] d) : RdW A w u d.1 ∧ u2 = .bool d.2 := by
  obtain ⟨us, vs, h0, ⟨v, rfl, h1⟩, h2⟩ := h
  have h2 : vs = [.bool d.2] := h2
  subst h2
  simp at h0
  obtain ⟨rfl, rfl⟩ := h0
  exact ⟨h1, rfl⟩
theorem lw_ln {A : Nat → Prop} {w : World} {cs : List Value} {d : List Int × Bool} (h : Lw.rel A w cs d) : Ln.rel A w cs d := by
  obtain ⟨us, vs, h0, ⟨v, h1, h2⟩, h3⟩ := h
  exact ⟨us, vs, h0, ⟨v, h1, h2.1⟩, h3⟩
theorem rds_ln {A : Nat → Prop} {w : World} {v : Value} {ds : List (List Int × Bool)} (h : RdS Lw A w v ds) : RdS Ln A w v ds := by
  obtain ⟨⟨us, hr, he⟩, ho⟩ := h
  exact ⟨⟨us, hr, he.1, fun j d hd => lw_ln (he.2 j d hd)⟩, ho⟩
theorem own_ln {T : TypeId} {base : Nat} {B : Nat → Prop} {w : World} {v : Value} {ds : List (List Int × Bool)} (h : OwnS Lw T base B w v ds) : OwnS Ln T base B w v ds := by
  obtain ⟨us, ho, he⟩ := h
  exact ⟨us, ho, he.1, fun j d hd => lw_ln (he.2 j d hd)⟩
theorem lw_at {A : Nat → Prop} {w : World} {Ad : Option Addr} {n c : Nat} {ds : List (List Int × Bool)} (h : RdY Lw A w (.slice Ad n c) ds) {j : Nat} (hj : j < n) :
    ∃ b off Ad' l f c', Ad = some ⟨b, off, none⟩ ∧ w.cell? ⟨b, off + j * 2, none⟩ = some (.slice Ad' l.length c') ∧ w.cell? ⟨b, off + j * 2 + 1, none⟩ = some (.bool f) ∧ Hid (ds[j]? = some (l, f)) ∧ Hid (RdW A w (.slice Ad' l.length c') l) ∧ l.length ≤ c' ∧ c' ≤ 9223372036854775807 := by
  obtain ⟨b, off, u, u2, ⟨l, f⟩, rfl, h1, h2, hd, hr⟩ := h.at2 rfl hj
  obtain ⟨h3, rfl⟩ := lw_cells hr.out
  obtain ⟨Ad', c', rfl, h4, h5⟩ := h3.1.shape
  exact ⟨b, off, Ad', l, f, c', rfl, h1, h2, hd, h3, h4, h5⟩
theorem info_cw : (Try.prog.info? 41).map (fun i => (i.zero, i.size, i.bytes)) = some (some (.agg #[.slice none 0 0, .bool false]), Lw.size, 32) := by kernel_rfl
set_option maxHeartbeats 800000 in
theorem twinW_any {A : Nat → Prop} (Ad : Option Addr) (l : List Int) (c : Nat) (f : Bool) (w : World) (h : RdS Ub A w (.slice Ad l.length c) l) (hn : l.length ≤ 140737488355328) :
    Calls Try.prog 27 #[.agg #[.slice Ad l.length c, .bool f]] w fun e w' => ∃ Ad' c', e = .returned (.agg #[.slice Ad' l.length c', .bool f]) ∧
      RdW (fun k => w.heap.size ≤ k) w' (.slice Ad' l.length c') l ∧ Ext w w' := by
  have H := Lib.hid h
  clear h
  go_enter Try.func27, Try.ntmps27
  go_wp2
  go_region_held3 (fun w' => w'.cell? ⟨w.heap.size, 0, none⟩ = some (.slice Ad l.length c) ∧ w'.cell? ⟨w.heap.size, 1, none⟩ = some (.bool f)) (go_keep) (first
    | (((go_at_call 23; refine (clone_u8 (A := fun _ => False) _ l _ (RI.y (RdS.ri (H.out.ext (by repeat (first | exact Ext.refl _ | refine Ext.drew ?_ | refine Ext.alloc ?_ _))))) (by omega)).mono ?_; rintro e w1 ⟨A1, c1, rfl, hown1, hE1⟩); have hc1 := Bc hE1; have hf1 := Bf hE1; have hz1 := Below.size hE1; (try simp at hz1); have hd1 := fun o => hc1 w.heap.size o (by simp; omega))))
  all_goals
    go_wp2
    have BW : Blk w1 (w.heap.size + 1) 41 #[.slice none 0 0, .bool false] := Blk.ext (Blk.drew (Blk.at_ (w := w.alloc (.cells #[.slice Ad l.length c, .bool f] 41)) _ _ (by simp))) hE1
    obtain ⟨q0, q1, _, _⟩ := (BW.put2 (.slice A1 l.length c1) (.bool f)).two
    have hW : Mod (fun k => k = w.heap.size + 1) w1 ((w1.setCell ⟨w.heap.size + 1, 0, none⟩ (.slice A1 l.length c1)).setCell ⟨w.heap.size + 1, 1, none⟩ (.bool f)) := (by repeat (first | with_reducible exact Mod.refl _ _ | refine Mod.drew ?_ | refine Mod.drewN ?_ _ | refine Mod.set1 ?_ _))
    refine bodyPost_ret (v := .agg #[.slice A1 l.length c1, .bool f]) (by simp [results, Try.results27, go_sem, q0, q1]) rfl ?_
    have hr := hown1.row
    refine ⟨_, _, rfl, own_w (hown1.mod hW (fun k hk => by have := (hr k hk).1; simp at this; omega) (fun k _ hk => hk.1.elim)) (fun k hk => by simp at hk; omega) (fun k hk => hk.1.elim), Mod.toExt (by repeat (first | with_reducible exact Ext.refl _ | refine Ext.drewN ?_ _ | refine Ext.drew ?_ | refine Ext.alloc ?_ _ | assumption | (refine Below.trans ?_ (by assumption)) | (refine Ext.trans ?_ (by assumption)) | (refine Below.trans ?_ (Below.mono (by assumption) (by omega))))) hW (by intro k hk; omega)⟩

set_option maxHeartbeats 800000 in
theorem twinsW_any {A : Nat → Prop} (v v2 : Value) (ls ms : List (List Int × Bool)) (w : World) (h : RdS Ln A w v ls) (h2 : RdS Ln A w v2 ms) (hn : usedL (ls ++ ms) ≤ 140737488355328) (hm : (ls ++ ms).length ≤ 100000000) :
    Calls Try.prog 22 #[v, v2] w fun e w' => ∃ Ad c, e = .returned (.slice Ad (ls ++ ms).length c) ∧ OwnS Lw 41 w.heap.size (fun k => w.heap.size ≤ k) w' (.slice Ad (ls ++ ms).length c) (ls ++ ms) ∧ Ext w w' := by
  obtain ⟨Ad, c, rfl, hc1, hc2⟩ := h.shape
  obtain ⟨Ad2, c2, rfl, hc3, hc4⟩ := h2.shape
  have H := Lib.hid h
  have H2 := Lib.hid h2
  have hm0 : ls.length + ms.length ≤ 100000000 := by simpa using hm
  obtain ⟨zs, hz⟩ : ∃ zs, zs = ls ++ ms := ⟨_, rfl⟩
  rw [← hz] at hn hm ⊢
  have HZ := Lib.hid hz
  clear h h2 hz
  go_enter Try.func22, Try.ntmps22
  go_wp2_with ((go_at_call 26; refine (concat_cl _ _ _ _ ls ms (RdN.twoB rfl _ _ _) (H.out.alloc _) (H2.out.alloc _) (by omega)).mono ?_; rintro e w1 ⟨A1, c1, rfl, hown1, hE1⟩); rw [← HZ.out] at hown1 ⊢)
  have E1 : Ext w w1 := (by repeat (first | with_reducible exact Ext.refl _ | refine Ext.drewN ?_ _ | refine Ext.drew ?_ | refine Ext.alloc ?_ _ | assumption | (refine Below.trans ?_ (by assumption)) | (refine Ext.trans ?_ (by assumption)) | (refine Below.trans ?_ (Below.mono (by assumption) (by omega)))))
  have H := Lib.hid (hown1.rd (A := fun _ => True) (fun _ _ => trivial) (fun _ _ => trivial)).y
  clear hown1 hE1 H2 hm0
  have hsz1 := E1.size
  go_loopw [5, 13] (fun s i wr => ∃ k : Nat, k ≤ zs.length ∧ i = .int .i64 k ∧ OwnS Lw 41 w1.heap.size (fun k => w1.heap.size ≤ k) wr s (zs.take k) ∧ Ext w1 wr) (fun _ i _ => zs.length - (intOf i).toNat)
  case atStart => exact ⟨0, Nat.zero_le _, rfl, OwnS.nil _ _ _ _ _, Ext.refl _⟩
  case round =>
    obtain ⟨k, hk, rfl, hO, hE⟩ := hrel
    have HO := Lib.hid hO
    have hsz := hE.size
    obtain ⟨Ao, co, rfl, _, _⟩ := hO.shapeN (n := k) (by simp; omega)
    clear hO
    by_cases hlt : k < zs.length
    · obtain ⟨b, off, Ad', l, f, c', rfl, hx, hy, hd, hr, hl1, hl2⟩ := ln_at (H.out.ext hE) hlt
      have h5 := ln_len hd.out hn
      go_wp2_with (first
        | ((go_at_call 27; refine (twinW_any _ l _ f _ (hr.out.ext (by repeat (first | exact Ext.refl _ | refine Ext.drew ?_ | refine Ext.alloc ?_ _))) h5).mono ?_; rintro e w2 ⟨A2, c2, rfl, hr2, hE2⟩))
        | ((at_builtin; refine wpList_app (e := Lw) (B := fun k => w1.heap.size ≤ k) (A := fun k => (wr.alloc (.cells #[.slice Ad' l.length c', .bool f] 41)).heap.size ≤ k) rfl (.tmp 17) (.tmp 20) rfl Try.underlying26 info_cw rfl (HO.out.ext (by repeat (first | with_reducible exact Ext.refl _ | refine Ext.drewN ?_ _ | refine Ext.drew ?_ | refine Ext.alloc ?_ _ | assumption | (refine Below.trans ?_ (by assumption)) | (refine Ext.trans ?_ (by assumption)) | (refine Below.trans ?_ (Below.mono (by assumption) (by omega)))))) rfl (RdY.singleB (lw_rel (hr2.ext (by repeat (first | exact Ext.refl _ | refine Ext.drew ?_ | refine Ext.alloc ?_ _)))) (by repeat (first | ((with_reducible refine Blk.at_ _ _ ?_); simp; done) | with_reducible refine Blk.drew ?_ | with_reducible refine Blk.alloc ?_ _ | refine Blk.ext ?_ (by assumption)))) rfl (fun k _ hk => ⟨by simp at hk; omega, HO.out.newer (by simp at hk; omega)⟩) (N := k + 1) (by simp; omega) (by simp [maxLen]; omega) (by omega) (by have := hE2.size; simp at this ⊢; omega) ?_; intro A3 c3 w3 hown3 hM3 hB3; clear hM3)))
      go_roundw
      case rel => exact ⟨k + 1, by omega, by go_num, by rw [ln_snoc hd.out]; exact hown3, (by repeat (first | with_reducible exact Ext.refl _ | refine Ext.drewN ?_ _ | refine Ext.drew ?_ | refine Ext.alloc ?_ _ | assumption | (refine Below.trans ?_ (by assumption)) | (refine Ext.trans ?_ (by assumption)) | (refine Below.trans ?_ (Below.mono (by assumption) (by omega)))))⟩
      case measure => simp [intOf]; omega
    · go_wp2
      go_ret
      have : k = zs.length := by omega
      subst this
      have h0 := HO.out
      rw [List.take_length] at h0
      exact ⟨_, _, rfl, (h0.lower hsz1).mono (fun k _ hk => by omega), E1.trans hE⟩

set_option maxHeartbeats 800000 in
theorem putW_any {A : Nat → Prop} (v v2 : Value) (ls : List (List Int × Bool)) (l : List Int) (f : Bool) (w : World) (h : RdS Ln A w v ls) (h2 : RdS Ub A w v2 l) (hn : usedL ls + szL (l, f) ≤ 140737488355328) (hm : ls.length ≤ 1000000) :
    Calls Try.prog 16 #[v, .agg #[v2, .bool f]] w fun e w' => ∃ Ad c, e = .returned (.tuple #[.slice Ad (putL ls (l, f)).1.length c, .bool (putL ls (l, f)).2]) ∧ OwnS Lw 41 w.heap.size (fun k => w.heap.size ≤ k) w' (.slice Ad (putL ls (l, f)).1.length c) (putL ls (l, f)).1 ∧ Ext w w' := by
  obtain ⟨Ad, c, rfl, hc1, hc2⟩ := h.shape
  obtain ⟨Ad2, c2, rfl, hc3, hc4⟩ := h2.shape
  have H := Lib.hid (h.mono (B := fun _ => True) fun _ _ _ => trivial)
  have H2 := Lib.hid (h2.mono (B := fun _ => True) fun _ _ _ => trivial)
  have h0 := usedL_nn ls
  have h1 := szL_nn (l, f)
  have h5 : l.length ≤ 140737488355328 := by
    have : (l.length : Int) ≤ szL (l, f) := by unfold szL; split <;> simp <;> omega
    omega
  have hU2 : usedL (ls ++ [(l, f)]) ≤ 140737488355328 := by rw [usedL_snoc]; exact hn
  have hw : IntKind.i64.wrap (usedL ls + szL (l, f)) = usedL ls + szL (l, f) := IntWalk.i64_in _ (by omega)
  clear h h2
  by_cases hp : usedL ls + szL (l, f) ≤ 1024
  · have HP : Hid (putL ls (l, f) = (ls ++ [(l, f)], true)) := Lib.hid (if_pos hp)
    rw [HP.out]
    go_enter Try.func16, Try.ntmps16
    go_wp2
    go_region_held3 (fun w' => w'.cell? ⟨w.heap.size, 0, none⟩ = some (.slice Ad2 l.length c2) ∧ w'.cell? ⟨w.heap.size, 1, none⟩ = some (.bool f)) (go_keep) (first
      | (((go_at_call 15; refine (used_any _ ls _ (H.out.y.ext (by repeat (first | with_reducible exact Ext.refl _ | refine Ext.drewN ?_ _ | refine Ext.drew ?_ | refine Ext.alloc ?_ _ | assumption | (refine Below.trans ?_ (by assumption)) | (refine Ext.trans ?_ (by assumption)) | (refine Below.trans ?_ (Below.mono (by assumption) (by omega)))))) (by omega)).mono ?_; rintro e w1 ⟨rfl, hE1⟩); have hc1 := Bc hE1; have hf1 := Bf hE1; have hz1 := Below.size hE1; (try simp at hz1); have hd1 := fun o => hc1 w.heap.size o (by (try simp) <;> omega)))
      | (((go_at_call 24; refine (size_any _ l _ _ _ h5).mono ?_; rintro e w2 ⟨rfl, hE2⟩); have hc2 := Bc hE2; have hf2 := Bf hE2; have hz2 := Below.size hE2; (try simp at hz2); have hd2 := fun o => hc2 w.heap.size o (by (try simp) <;> omega))))
    all_goals
      go_wp2_with ((go_at_call 22; refine (twinsW_any (A := fun _ => True) _ _ ls [(l, f)] _ (H.out.ext (by repeat (first | with_reducible exact Ext.refl _ | refine Ext.drewN ?_ _ | refine Ext.drew ?_ | refine Ext.alloc ?_ _ | assumption | (refine Below.trans ?_ (by assumption)) | (refine Ext.trans ?_ (by assumption)) | (refine Below.trans ?_ (Below.mono (by assumption) (by omega)))))) (ln_one (H2.out.ext (by repeat (first | with_reducible exact Ext.refl _ | refine Ext.drewN ?_ _ | refine Ext.drew ?_ | refine Ext.alloc ?_ _ | assumption | (refine Below.trans ?_ (by assumption)) | (refine Ext.trans ?_ (by assumption)) | (refine Below.trans ?_ (Below.mono (by assumption) (by omega)))))) (by repeat (first | ((with_reducible refine Blk.at_ _ _ ?_); simp; done) | with_reducible refine Blk.drew ?_ | with_reducible refine Blk.alloc ?_ _ | refine Blk.ext ?_ (by assumption)))) hU2 (by simp; omega)).mono ?_; rintro e w3 ⟨A3, c3, rfl, hown3, hE3⟩))
      go_ret2
      have hE : Ext w w3 := (by repeat (first | with_reducible exact Ext.refl _ | refine Ext.drewN ?_ _ | refine Ext.drew ?_ | refine Ext.alloc ?_ _ | assumption | (refine Below.trans ?_ (by assumption)) | (refine Ext.trans ?_ (by assumption)) | (refine Below.trans ?_ (Below.mono (by assumption) (by omega)))))
      exact ⟨A3, c3, by simp, (hown3.lower (by (try simp) <;> omega)).mono (fun k _ hk => Nat.le_trans (by (try simp) <;> omega) hk), hE⟩
  · have HP : Hid (putL ls (l, f) = (ls, false)) := Lib.hid (if_neg hp)
    rw [HP.out]
    go_enter Try.func16, Try.ntmps16
    go_wp2
    go_region_held3 (fun w' => w'.cell? ⟨w.heap.size, 0, none⟩ = some (.slice Ad2 l.length c2) ∧ w'.cell? ⟨w.heap.size, 1, none⟩ = some (.bool f)) (go_keep) (first
      | (((go_at_call 15; refine (used_any _ ls _ (H.out.y.ext (by repeat (first | with_reducible exact Ext.refl _ | refine Ext.drewN ?_ _ | refine Ext.drew ?_ | refine Ext.alloc ?_ _ | assumption | (refine Below.trans ?_ (by assumption)) | (refine Ext.trans ?_ (by assumption)) | (refine Below.trans ?_ (Below.mono (by assumption) (by omega)))))) (by omega)).mono ?_; rintro e w1 ⟨rfl, hE1⟩); have hc1 := Bc hE1; have hf1 := Bf hE1; have hz1 := Below.size hE1; (try simp at hz1); have hd1 := fun o => hc1 w.heap.size o (by (try simp) <;> omega)))
      | (((go_at_call 24; refine (size_any _ l _ _ _ h5).mono ?_; rintro e w2 ⟨rfl, hE2⟩); have hc2 := Bc hE2; have hf2 := Bf hE2; have hz2 := Below.size hE2; (try simp at hz2); have hd2 := fun o => hc2 w.heap.size o (by (try simp) <;> omega))))
    all_goals
      go_wp2_with ((go_at_call 22; refine (twinsW_any (A := fun _ => True) _ _ ls [] _ (H.out.ext (by repeat (first | with_reducible exact Ext.refl _ | refine Ext.drewN ?_ _ | refine Ext.drew ?_ | refine Ext.alloc ?_ _ | assumption | (refine Below.trans ?_ (by assumption)) | (refine Ext.trans ?_ (by assumption)) | (refine Below.trans ?_ (Below.mono (by assumption) (by omega)))))) (RdS.nil _ _ _) (by simp; omega) (by simp; omega)).mono ?_; rintro e w3 ⟨A3, c3, rfl, hown3, hE3⟩); rw [List.append_nil] at hown3 ⊢)
      go_ret2
      have hE : Ext w w3 := (by repeat (first | with_reducible exact Ext.refl _ | refine Ext.drewN ?_ _ | refine Ext.drew ?_ | refine Ext.alloc ?_ _ | assumption | (refine Below.trans ?_ (by assumption)) | (refine Ext.trans ?_ (by assumption)) | (refine Below.trans ?_ (Below.mono (by assumption) (by omega)))))
      exact ⟨A3, c3, by simp, (hown3.lower (by (try simp) <;> omega)).mono (fun k _ hk => Nat.le_trans (by (try simp) <;> omega) hk), hE⟩
/-- what the contracts of reads say -/
def ReadPostW (base : Nat) (r : List Int × List (List Int × Bool) × Bool) (w : World) (e : Ending) (w' : World) : Prop :=
  ∃ Ab cb Ar cr, e = .returned (.tuple #[.slice Ab r.1.length cb, .slice Ar r.2.1.length cr, .bool r.2.2]) ∧ RdW (fun k => base ≤ k) w' (.slice Ab r.1.length cb) r.1 ∧ RdS Lw (fun k => base ≤ k) w' (.slice Ar r.2.1.length cr) r.2.1 ∧ Ext w w'
set_option maxHeartbeats 800000 in
theorem readW_any {A : Nat → Prop} (v : Value) (ls : List (List Int × Bool)) (n : Int) (w : World) (h : RdS Ln A w v ls) (hn : usedL ls ≤ 140737488355328) (hm : ls.length ≤ 1000000) :
    Calls Try.prog 9 #[v, .int .i64 n] w (ReadPostW w.heap.size (readL ls n) w) := by
  obtain ⟨Ad, c, rfl, hc1, hc2⟩ := h.shape
  have H := Lib.hid (h.mono (B := fun _ => True) fun _ _ _ => trivial)
  clear h
  rcases ls with _ | ⟨⟨l, f⟩, t⟩
  · have HR : Hid (readL [] n = ([], [], false)) := Lib.hid rfl
    rw [HR.out]
    go_enter Try.func9, Try.ntmps9
    go_wp2
    refine bodyPost_ret (v := .tuple #[.slice none 0 0, .slice none 0 0, .bool false]) (by simp [results, Try.results9, go_sem]) rfl ?_
    exact ⟨_, _, _, _, rfl, RdW.nil _ _, RdS.nil _ _ _, (by repeat (first | with_reducible exact Ext.refl _ | refine Ext.drewN ?_ _ | refine Ext.drew ?_ | refine Ext.alloc ?_ _ | assumption | (refine Below.trans ?_ (by assumption)) | (refine Ext.trans ?_ (by assumption)) | (refine Below.trans ?_ (Below.mono (by assumption) (by omega)))))⟩
  · have hlen : ((l, f) :: t).length = t.length + 1 := rfl
    simp only [hlen] at hc1 hm
    have h1 := szL_nn (l, f)
    have h2 := usedL_nn t
    have h3 : szL (l, f) + usedL t ≤ 140737488355328 := by rw [← usedL_cons]; exact hn
    have h5 : l.length ≤ 140737488355328 := by
      have : (l.length : Int) ≤ szL (l, f) := by unfold szL; split <;> simp <;> omega
      omega
    obtain ⟨b, off, Ad', l', f', c', rfl, hx, hy, hd, hr, hl1, hl2⟩ := ln_at (H.out.y) (j := 0) (by simp)
    have hd0 := hd.out
    simp only [List.getElem?_cons_zero, Option.some.injEq, Prod.mk.injEq] at hd0
    obtain ⟨rfl, rfl⟩ := hd0
    rw [Nat.zero_mul, Nat.add_zero] at hx hy
    have hbl : b < w.heap.size := World.block_lt_of_cell? w _ hx
    clear hd
    by_cases hn0 : n ≤ 0
    · have HR : Hid (readL ((l, f) :: t) n = ([], (l, f) :: t, true)) := Lib.hid (by simp [readL, hn0])
      rw [HR.out]
      have hn1 := Lib.hid hn
      clear hn h1 h2 h3 h5
      go_enter Try.func9, Try.ntmps9
      go_wp2_with ((go_at_call 22; refine (twinsW_any (A := fun _ => True) _ _ ((l, f) :: t) [] _ (H.out.ext (by repeat (first | with_reducible exact Ext.refl _ | refine Ext.drewN ?_ _ | refine Ext.drew ?_ | refine Ext.alloc ?_ _ | assumption | (refine Below.trans ?_ (by assumption)) | (refine Ext.trans ?_ (by assumption)) | (refine Below.trans ?_ (Below.mono (by assumption) (by omega)))))) (RdS.nil _ _ _) (by rw [List.append_nil]; exact hn1.out) (by simp; omega)).mono ?_; rintro e w3 ⟨A3, c3, rfl, hown3, hE3⟩); rw [List.append_nil] at hown3 ⊢)
      refine bodyPost_ret (v := .tuple #[.slice none 0 0, .slice A3 (t.length + 1) c3, .bool true]) (by simp [results, Try.results9, go_sem]) rfl ?_
      exact ⟨_, _, _, _, rfl, RdW.nil _ _, hown3.rd (fun _ h => h) (fun _ h => h), (by repeat (first | with_reducible exact Ext.refl _ | refine Ext.drewN ?_ _ | refine Ext.drew ?_ | refine Ext.alloc ?_ _ | assumption | (refine Below.trans ?_ (by assumption)) | (refine Ext.trans ?_ (by assumption)) | (refine Below.trans ?_ (Below.mono (by assumption) (by omega)))))⟩
    · by_cases hle : (l.length : Int) ≤ n
      · have HR : Hid (readL ((l, f) :: t) n = (l, t, true)) := Lib.hid (by simp [readL, hn0, hle])
        rw [HR.out]
        have HT := Lib.hid (ln_tail H.out)
        have h6 := Lib.hid (show usedL (t ++ []) ≤ 140737488355328 by rw [List.append_nil]; omega)
        have h7 := Lib.hid (show (t ++ []).length ≤ 100000000 by simp; omega)
        have i1 : (1 : Int) ≤ (t.length : Int) + 1 := by omega
        clear h1 h2 h3 hn
        rcases Decidable.em (c = 1) with hc | hc
        all_goals
          simp only [hc, if_true, if_false] at HT
          go_enter Try.func9, Try.ntmps9
          go_wp2
          go_region_held3 (fun w' => w'.cell? ⟨b, off, none⟩ = some (.slice Ad' l.length c')) (go_keep) (first
            | (((go_at_call 23; refine (clone_u8 (A := fun _ => False) _ l _ (RI.y (RdS.ri (hr.out.ext (by repeat (first | with_reducible exact Ext.refl _ | refine Ext.drewN ?_ _ | refine Ext.drew ?_ | refine Ext.alloc ?_ _ | assumption | (refine Below.trans ?_ (by assumption)) | (refine Ext.trans ?_ (by assumption)) | (refine Below.trans ?_ (Below.mono (by assumption) (by omega)))))))) (by omega)).mono ?_; rintro e w1 ⟨A1, c1, rfl, hown1, hE1⟩); have hc1 := Bc hE1; have hf1 := Bf hE1; have hz1 := Below.size hE1; (try simp at hz1); have hd1 := hc1 b off (by (try simp) <;> omega)))
            | (((go_at_call 22; refine (twinsW_any (A := fun _ => True) _ _ t [] _ (HT.out.ext (by repeat (first | with_reducible exact Ext.refl _ | refine Ext.drewN ?_ _ | refine Ext.drew ?_ | refine Ext.alloc ?_ _ | assumption | (refine Below.trans ?_ (by assumption)) | (refine Ext.trans ?_ (by assumption)) | (refine Below.trans ?_ (Below.mono (by assumption) (by omega)))))) (RdS.nil _ _ _) h6.out h7.out).mono ?_; rintro e w3 ⟨A3, c3, rfl, hown3, hE3⟩); have hc3 := Bc hE3; have hf3 := Bf hE3; have hz3 := Below.size hE3; (try simp at hz3); have hd3 := hc3 b off (by (try simp) <;> omega); rw [List.append_nil] at hown3 ⊢)))
          all_goals
            go_wp2
            refine bodyPost_ret (v := .tuple #[.slice A1 l.length c1, .slice A3 t.length c3, .bool true]) (by simp [results, Try.results9, go_sem]) rfl ?_
            first
              | exact ⟨_, _, _, _, rfl, own_w (hown1.ext hE3) (fun k hk => Nat.le_trans (by (try simp) <;> omega) hk) (fun k hk => hk.1.elim), hown3.rd (fun k hk => Nat.le_trans (by (try simp) <;> omega) hk) (fun k hk => Nat.le_trans (by (try simp) <;> omega) hk), (by repeat (first | with_reducible exact Ext.refl _ | refine Ext.drewN ?_ _ | refine Ext.drew ?_ | refine Ext.alloc ?_ _ | assumption | (refine Below.trans ?_ (by assumption)) | (refine Ext.trans ?_ (by assumption)) | (refine Below.trans ?_ (Below.mono (by assumption) (by omega)))))⟩
              | exact ⟨_, _, _, _, rfl, own_w hown1 (fun k hk => Nat.le_trans (by (try simp) <;> omega) hk) (fun k hk => hk.1.elim), (hown3.ext hE1).rd (fun k hk => Nat.le_trans (by (try simp) <;> omega) hk) (fun k hk => Nat.le_trans (by (try simp) <;> omega) hk), (by repeat (first | with_reducible exact Ext.refl _ | refine Ext.drewN ?_ _ | refine Ext.drew ?_ | refine Ext.alloc ?_ _ | assumption | (refine Below.trans ?_ (by assumption)) | (refine Ext.trans ?_ (by assumption)) | (refine Below.trans ?_ (Below.mono (by assumption) (by omega)))))⟩
      · have HR : Hid (readL ((l, f) :: t) n = (l.take n.toNat, (l.drop n.toNat, f) :: t, true)) := Lib.hid (by simp [readL, hn0, hle])
        rw [HR.out]
        obtain ⟨m, rfl⟩ := Int.eq_ofNat_of_zero_le (show 0 ≤ n by omega)
        have hm1 : 0 < m := by omega
        have hm2 : m < l.length := by omega
        have hn1 := Lib.hid (show usedL ((l, f) :: t ++ []) ≤ 140737488355328 by rw [List.append_nil]; exact hn)
        have h7 := Lib.hid (show ((l, f) :: t ++ []).length ≤ 100000000 by simp; omega)
        clear h1 h2 h3 hn
        go_enter Try.func9, Try.ntmps9
        go_wp2_with fail
        refine (twinsW_any (A := fun _ => True) _ _ ((l, f) :: t) [] _ (H.out.ext (by repeat (first | with_reducible exact Ext.refl _ | refine Ext.drewN ?_ _ | refine Ext.drew ?_ | refine Ext.alloc ?_ _ | assumption | (refine Below.trans ?_ (by assumption)) | (refine Ext.trans ?_ (by assumption)) | (refine Below.trans ?_ (Below.mono (by assumption) (by omega)))))) (RdS.nil _ _ _) hn1.out h7.out).mono ?_
        rintro e w3 ⟨A3, c3, rfl, hown3, hE3⟩
        rw [List.append_nil] at hown3 ⊢
        obtain ⟨g, rfl, hg, hfr⟩ := hown3.addr (by simp)
        obtain ⟨b3, off3, A4, l4, f4, c4, hb3, hx3, hy3, hd3, hr3, hl3, hl4⟩ := lw_at hown3.y (j := 0) (by simp)
        have hd0 := hd3.out
        simp only [List.getElem?_cons_zero, Option.some.injEq, Prod.mk.injEq] at hd0
        obtain ⟨rfl, rfl⟩ := hd0
        simp only [Option.some.injEq, Addr.mk.injEq, and_true] at hb3
        obtain ⟨rfl, rfl⟩ := hb3
        simp only [Nat.zero_mul, Nat.add_zero] at hx3 hy3
        have hf0 := hfr 0
        have HO := Lib.hid hown3
        have hrow := (hown3.row g rfl).2
        clear hd3 hown3 hfr
        rcases Decidable.em (c4 = m) with hc | hc
        · omega
        have HF := Lib.hid (RI.fromB (hr3.out.1.ri) (lo := m) (by omega))
        simp only [hc, if_false] at HF
        go_wp2_with ((go_at_call 23; refine (clone_u8 (A := fun _ => False) _ (l.drop m) _ (RI.y HF.out) (by simp; omega)).mono ?_; rintro e w4 ⟨A5, c5, rfl, hown5, hE5⟩); have hc5 := Bc hE5; have hf5 := Bf hE5; have hz5 := Below.size hE5; (try simp at hz5); have hd5 := hc5 g 0 hrow; have he5 := hf5 g 0 hrow)
        refine bodyPost_ret (v := .tuple #[.slice A4 m m, .slice (some ⟨g, 0, none⟩) (t.length + 1) c3, .bool true]) (by simp [results, Try.results9, go_sem]) rfl ?_
        have hM : Mod (fun k => k = g) w4 (w4.setCell ⟨g, 0, none⟩ (.slice A5 (l.length - m) c5)) := (by repeat (first | with_reducible exact Mod.refl _ _ | refine Mod.drew ?_ | refine Mod.drewN ?_ _ | refine Mod.set1 ?_ _))
        have hl : (l.drop m).length = l.length - m := by simp
        rw [hl] at hown5
        have hO := (HO.out.ext hE5).store (j := 0) (i := 0) (x := .slice A5 (l.length - m) c5) (d' := (l.drop m, f)) (by simp) (by decide) (fun cs d hd hrel => by
          simp only [List.getElem?_cons_zero, Option.some.injEq] at hd
          subst hd
          have hln := Lw.len hrel
          match cs, hln with
          | [u, u2], _ =>
            obtain ⟨_, rfl⟩ := lw_cells hrel
            exact lw_rel (own_w hown5 (fun k hk => ⟨by omega, by omega⟩) (fun k hk => hk.1.elim)))
        refine ⟨A4, m, some ⟨g, 0, none⟩, c3, by simp; omega, ?_, hO.rd (fun _ h => h) (fun _ h => h), ?_⟩
        · have h1 := (((hr3.out.to_cap (k := m) (by omega)).ext hE5).mod hM (fun k _ hk => by have := hk.2; simp [Value.ownBlock] at this; omega)).mono (B := fun k => w.heap.size ≤ k) (fun k _ hk => hk.1)
          have h2 : (l.take m).length = m := by simp; omega
          simpa [h2] using h1
        · exact Mod.toExt (by repeat (first | with_reducible exact Ext.refl _ | refine Ext.drewN ?_ _ | refine Ext.drew ?_ | refine Ext.alloc ?_ _ | assumption | (refine Below.trans ?_ (by assumption)) | (refine Ext.trans ?_ (by assumption)) | (refine Below.trans ?_ (Below.mono (by assumption) (by omega))))) hM (by intro k hk; omega)
end Go.Proofs.Ytgahpclgdhghjaa
