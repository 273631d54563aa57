/- Lines cut, characters, a line with a byte more: what is handed out can be written over: contracts. Conditions: the setting is one, bytes are bytes, lengths below 10^8. -/
import Derived.Test.YtilmkghopeoipaaJ10
namespace Go.Proofs.Ytilmkghopeoipaa
open Go.RowKit Go.Kb

/-- bytes that can be written over -/
def RdW (A : Nat → Prop) (w : World) (v : Value) (l : List Int) : Prop := RdS Ub A w v l ∧ ∀ k, 0 < l.length → v.ownBlock = some k → ∀ o, w.frozen? ⟨k, o, none⟩ = false
theorem frozen_of {w w' : World} {k : Nat} (h : w'.heap[k]? = w.heap[k]?) (o : Nat) : w'.frozen? ⟨k, o, none⟩ = w.frozen? ⟨k, o, none⟩ := by
  simp only [World.frozen?, h]
theorem RdW.keep {A B : Nat → Prop} {w w' : World} {v : Value} {l : List Int} (h : RdW A w v l) (hk : ∀ k, k < w.heap.size → A k → B k ∧ w'.heap[k]? = w.heap[k]?) : RdW B w' v l := by
  refine ⟨h.1.keep hk, fun k hn hv o => ?_⟩
  obtain ⟨us, hr, _⟩ := h.1.1
  have hlt := hr.lt_own hn Ub.pos k hv
  rw [frozen_of (hk k hlt (h.1.2 hn k hv)).2]
  exact h.2 k hn hv o
theorem RdW.ext {A : Nat → Prop} {w w' : World} {v : Value} {l : List Int} (h : RdW A w v l) (hE : Ext w w') : RdW A w' v l := h.keep fun k hk ha => ⟨ha, hE.block k hk⟩
theorem RdW.mod {A S : Nat → Prop} {w w' : World} {v : Value} {l : List Int} (h : RdW A w v l) (hM : Mod S w w') (hS : ∀ k, k < w.heap.size → A k → ¬ S k) : RdW A w' v l := h.keep fun k hk ha => ⟨ha, hM.block k hk (hS k hk ha)⟩
theorem RdW.mono {A B : Nat → Prop} {w : World} {v : Value} {l : List Int} (h : RdW A w v l) (hS : ∀ k, k < w.heap.size → A k → B k) : RdW B w v l := h.keep fun k hk ha => ⟨hS k hk ha, rfl⟩
theorem RdW.nil (A : Nat → Prop) (w : World) : RdW A w (.slice none 0 0) [] := ⟨RdS.nil _ _ _, fun _ h => absurd h (by simp)⟩
theorem own_w {T : TypeId} {base : Nat} {A B : Nat → Prop} {w : World} {v : Value} {l : List Int} (h : OwnS Ub T base B w v l) (hA : ∀ k, base ≤ k → A k) (hB : ∀ k, B k → A k) : RdW A w v l := by
  refine ⟨h.rd hA hB, fun k hn hv o => ?_⟩
  obtain ⟨Ad, c, rfl, _⟩ := h.shape
  obtain ⟨g, rfl, _, hf⟩ := h.addr hn
  simp only [Value.ownBlock, Option.some.injEq] at hv
  subst hv
  exact hf o
theorem RdW.to_cap {A : Nat → Prop} {w : World} {Ad : Option Addr} {n c k : Nat} {l : List Int} (h : RdW A w (.slice Ad n c) l) (hk : k ≤ n) : RdW A w (.slice Ad k k) (l.take k) := by
  obtain ⟨Ad', c', hv, h1, h2⟩ := h.1.shape
  simp only [Value.slice.injEq] at hv
  obtain ⟨rfl, rfl, rfl⟩ := hv
  refine ⟨(RdS.to_ h.1 hk).cap (Nat.le_refl _) (by omega), fun j hn hv o => h.2 j (by simp at hn; omega) ?_ o⟩
  cases Ad with
  | none => simp [Value.ownBlock] at hv
  | some a => exact hv
def Rep.wl : Rep (List Int) where
  size := 1
  pos := by decide
  rel := fun A w cs ds => ∃ v, cs = [v] ∧ RdW A w v ds
  len := fun ⟨v, h, _⟩ => by rw [h]; rfl
  one := fun ⟨v, h, h2⟩ u hu => by
    obtain ⟨Ad, c, rfl, _⟩ := h2.1.shape
    rw [h] at hu; simp at hu; subst hu; rfl
  keep := fun ⟨v, h, h2⟩ hk => ⟨v, h, h2.keep hk⟩
abbrev NewW (w0 w : World) (v : Value) (l : List Int) : Prop := RdW (fun k => w0.heap.size ≤ k) w v l
theorem own_newW {w0 w : World} {T : TypeId} {base : Nat} {B : Nat → Prop} {v : Value} {l : List Int} (h : OwnS Ub T base B w v l) (hb : w0.heap.size ≤ base) : NewW w0 w v l :=
  own_w (OwnS.of_ints (B := fun _ => False) h.ints) (fun _ hk => Nat.le_trans hb hk) (fun _ h => h.elim)
theorem NewW.ext_ {w0 w w' : World} {v : Value} {l : List Int} (h : NewW w0 w v l) (hE : Ext w w') : NewW w0 w' v l := RdW.ext h hE
theorem NewW.low {w0 w1 w : World} {v : Value} {l : List Int} (h : NewW w1 w v l) (hE : Ext w0 w1) : NewW w0 w v l := RdW.mono h fun _ _ hk => Nat.le_trans hE.size hk
abbrev Lbw : Rep (List Int) := Rep.wl
theorem info_lbw : (Try.prog.info? 27).map (fun i => (i.zero, i.size, i.bytes)) = some (some (.slice none 0 0), Lbw.size, 24) := by kernel_rfl
theorem lbw_rel {A : Nat → Prop} {w : World} {v : Value} {d : List Int} (h : RdW A w v d) : Lbw.rel A w [v] d := ⟨v, rfl, h⟩
theorem RdW.lt {A : Nat → Prop} {w : World} {v : Value} {l : List Int} (h : RdW A w v l) : RdW (fun k => A k ∧ k < w.heap.size) w v l := h.mono fun _ hk ha => ⟨ha, hk⟩
theorem RdW.shape {A : Nat → Prop} {w : World} {v : Value} {l : List Int} (h : RdW A w v l) : ∃ Ad c, v = .slice Ad l.length c ∧ l.length ≤ c ∧ c ≤ 9223372036854775807 := h.1.shape
theorem RdW.ri {A : Nat → Prop} {w : World} {v : Value} {l : List Int} (h : RdW A w v l) : RI .u8 w v l := h.1.ri
set_option maxHeartbeats 400000 in
theorem partW_any (v : Value) (l : List Int) (k : Nat) (w : World) (h : RI .u8 w v l) (hk : k ≤ l.length) (hn : l.length ≤ 100000000) : Calls Try.prog 24 #[v, .int .i64 k] w fun e w' =>
    ∃ A c B d, e = .returned (.tuple #[.slice A k c, .slice B (l.length - k) d]) ∧ NewW w w' (.slice A k c) (l.take k) ∧ NewW w w' (.slice B (l.length - k) d) (l.drop k) ∧ Ext w w' := by
  obtain ⟨Ad, c, rfl, h1, h2⟩ := h.shape
  have H := Lib.hid h
  have H1 := Lib.hid (h.toA hk)
  have H2 := Lib.hid (h.fromB hk)
  clear h
  have e1 : (l.take k).length = k := by rw [List.length_take]; omega
  have e2 : (l.drop k).length = l.length - k := List.length_drop
  have i1 : (0 : Int) ≤ (k : Int) := by omega
  have i2 : (k : Int) ≤ (l.length : Int) := by omega
  have i3 : (k : Int) ≤ (c : Int) := by omega
  have i4 : (l.length : Int) ≤ (c : Int) := by omega
  go_enter Try.func24, Try.ntmps24
  go_wp2
  refine wp_region_held_drew (S := fun w' => Ext w w') (by kernel_rfl) (by repeat (first | with_reducible exact Ext.refl _ | refine Ext.drewN ?_ _ | refine Ext.drew ?_ | refine Ext.alloc ?_ _ | assumption | (refine Below.trans ?_ (by assumption)) | (refine Ext.trans ?_ (by assumption)) | (refine Below.trans ?_ (Below.mono (by assumption) (by omega))))) (fun hHeld => ?_)
  (refine wpAnyH_take (i := 0) (v := ?_) rfl (by kernel_rfl) (by kernel_rfl) (by kernel_rfl) (fun _ _ _ h => h) (Or.inl ⟨by rfl, ?_⟩) (by assumption) ?_; rotate_left; focus (intro w' hSw; go_simp; try with_reducible rfl); (try simp only [Act.put]); (try simp only [List.getElem_toArray]); (try simp only [List.getElem_cons_succ]); (try simp only [List.getElem_cons_zero]); (try simp only [List.setIfInBounds_toArray]); (try simp only [List.set_cons_succ]); (try simp only [List.set_cons_zero]))
  (refine wpAnyH_take (i := 1) (v := ?_) rfl (by kernel_rfl) (by kernel_rfl) (by kernel_rfl) (fun _ _ _ h => h) (Or.inl ⟨by rfl, ?_⟩) (by assumption) ?_; rotate_left; focus (intro w' hSw; go_simp; try with_reducible rfl); (try simp only [Act.put]); (try simp only [List.getElem_toArray]); (try simp only [List.getElem_cons_succ]); (try simp only [List.getElem_cons_zero]); (try simp only [List.setIfInBounds_toArray]); (try simp only [List.set_cons_succ]); (try simp only [List.set_cons_zero]))
  (refine wpAnyH_take (i := 2) (v := ?_) rfl (by kernel_rfl) (by kernel_rfl) (by kernel_rfl) (fun _ _ _ h => h) (Or.inl ⟨by rfl, ?_⟩) (by assumption) ?_; rotate_left; focus (intro w' hSw; go_simp; try with_reducible rfl); (try simp only [Act.put]); (try simp only [List.getElem_toArray]); (try simp only [List.getElem_cons_succ]); (try simp only [List.getElem_cons_zero]); (try simp only [List.setIfInBounds_toArray]); (try simp only [List.set_cons_succ]); (try simp only [List.set_cons_zero]))
  (refine wpAnyH_take (i := 4) (v := ?_) rfl (by kernel_rfl) (by kernel_rfl) (by kernel_rfl) (fun _ _ _ h => h) (Or.inl ⟨by rfl, ?_⟩) (by assumption) ?_; rotate_left; focus (intro w' hSw; go_simp; try with_reducible rfl); (try simp only [Act.put]); (try simp only [List.getElem_toArray]); (try simp only [List.getElem_cons_succ]); (try simp only [List.getElem_cons_zero]); (try simp only [List.setIfInBounds_toArray]); (try simp only [List.set_cons_succ]); (try simp only [List.set_cons_zero]))
  (refine wpAnyH_take (i := 5) (v := ?_) rfl (by kernel_rfl) (by kernel_rfl) (by kernel_rfl) (fun _ _ _ h => h) (Or.inl ⟨by rfl, ?_⟩) (by assumption) ?_; rotate_left; focus (intro w' hSw; go_simp; try with_reducible rfl); (try simp only [Act.put]); (try simp only [List.getElem_toArray]); (try simp only [List.getElem_cons_succ]); (try simp only [List.getElem_cons_zero]); (try simp only [List.setIfInBounds_toArray]); (try simp only [List.set_cons_succ]); (try simp only [List.set_cons_zero]))
  (refine wpAnyH_take (i := 6) (v := ?_) rfl (by kernel_rfl) (by kernel_rfl) (by kernel_rfl) (fun _ _ _ h => h) (Or.inl ⟨by rfl, ?_⟩) (by assumption) ?_; rotate_left; focus (intro w' hSw; go_simp; try with_reducible rfl); (try simp only [Act.put]); (try simp only [List.getElem_toArray]); (try simp only [List.getElem_cons_succ]); (try simp only [List.getElem_cons_zero]); (try simp only [List.setIfInBounds_toArray]); (try simp only [List.set_cons_succ]); (try simp only [List.set_cons_zero]))
  (refine wpAnyH_ready (rs := [3]) (by kernel_rfl) (by simp) ?_; refine AllReadyH.cons rfl (fun K hK => ?_) AllReadyH.nil; go_simp; go_at_call 27; refine (clone_u8 _ (l.take k) _ (RI.y (A := fun _ => True) (H1.out.ext (by repeat (first | with_reducible exact Ext.refl _ | refine Ext.drewN ?_ _ | refine Ext.drew ?_ | refine Ext.alloc ?_ _ | assumption | (refine Below.trans ?_ (by assumption)) | (refine Ext.trans ?_ (by assumption)) | (refine Below.trans ?_ (Below.mono (by assumption) (by omega))))))) (by rw [e1]; omega)).mono ?_; rintro e w1 ⟨A1, c1, rfl, o1, E1⟩; (try dsimp only); refine hK.out _ _ (by repeat (first | with_reducible exact Ext.refl _ | refine Ext.drewN ?_ _ | refine Ext.drew ?_ | refine Ext.alloc ?_ _ | assumption | (refine Below.trans ?_ (by assumption)) | (refine Ext.trans ?_ (by assumption)) | (refine Below.trans ?_ (Below.mono (by assumption) (by omega))))) (fun hHeld => ?_); clear hK K; (try simp only [Act.put]); (try simp only [List.getElem_toArray]); (try simp only [List.getElem_cons_succ]); (try simp only [List.getElem_cons_zero]); (try simp only [List.setIfInBounds_toArray]); (try simp only [List.set_cons_succ]); (try simp only [List.set_cons_zero]))
  (refine wpAnyH_ready (rs := [7]) (by kernel_rfl) (by simp) ?_; refine AllReadyH.cons rfl (fun K hK => ?_) AllReadyH.nil; go_simp; go_at_call 27; refine (clone_u8 _ (l.drop k) _ (RI.y (A := fun _ => True) (H2.out.ext (by repeat (first | with_reducible exact Ext.refl _ | refine Ext.drewN ?_ _ | refine Ext.drew ?_ | refine Ext.alloc ?_ _ | assumption | (refine Below.trans ?_ (by assumption)) | (refine Ext.trans ?_ (by assumption)) | (refine Below.trans ?_ (Below.mono (by assumption) (by omega))))))) (by rw [e2]; omega)).mono ?_; rintro e w2 ⟨A2, c2, rfl, o2, E2⟩; (try dsimp only); refine hK.out _ _ (by repeat (first | with_reducible exact Ext.refl _ | refine Ext.drewN ?_ _ | refine Ext.drew ?_ | refine Ext.alloc ?_ _ | assumption | (refine Below.trans ?_ (by assumption)) | (refine Ext.trans ?_ (by assumption)) | (refine Below.trans ?_ (Below.mono (by assumption) (by omega))))) (fun hHeld => ?_); clear hK K; (try simp only [Act.put]); (try simp only [List.getElem_toArray]); (try simp only [List.getElem_cons_succ]); (try simp only [List.getElem_cons_zero]); (try simp only [List.setIfInBounds_toArray]); (try simp only [List.set_cons_succ]); (try simp only [List.set_cons_zero]))
  (refine wpAnyH_take (i := 8) (v := ?_) rfl (by kernel_rfl) (by kernel_rfl) (by kernel_rfl) (fun _ _ _ h => h) (Or.inl ⟨by rfl, ?_⟩) (by assumption) ?_; rotate_left; focus (intro w' hSw; go_simp; try with_reducible rfl); (try simp only [Act.put]); (try simp only [List.getElem_toArray]); (try simp only [List.getElem_cons_succ]); (try simp only [List.getElem_cons_zero]); (try simp only [List.setIfInBounds_toArray]); (try simp only [List.set_cons_succ]); (try simp only [List.set_cons_zero]))
  (refine wpAnyH_take (i := 9) (v := ?_) rfl (by kernel_rfl) (by kernel_rfl) (by kernel_rfl) (fun _ _ _ h => h) (Or.inl ⟨by rfl, ?_⟩) (by assumption) ?_; rotate_left; focus (intro w' hSw; go_simp; try with_reducible rfl); (try simp only [Act.put]); (try simp only [List.getElem_toArray]); (try simp only [List.getElem_cons_succ]); (try simp only [List.getElem_cons_zero]); (try simp only [List.setIfInBounds_toArray]); (try simp only [List.set_cons_succ]); (try simp only [List.set_cons_zero]))
  generalize (if c = k then Ad else Option.map (fun x => x.add k) Ad) = Bd at H2 ⊢
  rw [e1] at o1
  rw [e2] at o2
  try simp only [e2]
  refine wpAnyH_done (by kernel_rfl) ?_ _
  go_wp2
  refine bodyPost_ret (v := .tuple #[.slice A1 k c1, .slice A2 (l.length - k) c2]) (by simp [results, Try.results24, go_sem]) rfl ?_
  exact ⟨A1, c1, A2, c2, rfl, (own_newW o1 (by simp)).ext E2, own_newW o2 E1.size, (by repeat (first | with_reducible exact Ext.refl _ | refine Ext.drewN ?_ _ | refine Ext.drew ?_ | refine Ext.alloc ?_ _ | assumption | (refine Below.trans ?_ (by assumption)) | (refine Ext.trans ?_ (by assumption)) | (refine Below.trans ?_ (Below.mono (by assumption) (by omega)))))⟩
def PartPostW (w : World) (l : List Int) (k : Nat) (e : Ending) (w' : World) : Prop :=
  ∃ A c B d, e = .returned (.tuple #[.slice A k c, .slice B (l.length - k) d]) ∧ NewW w w' (.slice A k c) (l.take k) ∧ NewW w w' (.slice B (l.length - k) d) (l.drop k) ∧ Ext w w'
set_option maxHeartbeats 400000 in
theorem eraseW_any (t : Tm) (v : Value) (l : List Int) (w : World) (h : t.Ok) (hl : RI .u8 w v l) (hB : Bs l) (hn : l.length ≤ 100000000) : Calls Try.prog 10 #[.agg t.arr, v] w (PartPostW w l (startL (hasL t 42) l)) := by
  have hsz := t.size h
  have hS := fun w' hr => start_any t v l w' h hr hB
  have hle := startL_le (hasL t 42) l
  generalize startL (hasL t 42) l = s at hS hle ⊢
  generalize t.arr = cs at hS hsz ⊢
  clear h hB
  have H := Lib.hid hl
  clear hl
  have hi : (Try.prog.info? 26).map (·.size) = some cs.size := by rw [hsz]; kernel_rfl
  have hA := Blk.new w 26 cs
  go_enter Try.func10, Try.ntmps10
  go_wp2_with (first | (refine wpList_load_row rfl 26 _ rfl _ rfl 26 _ _ _ hA Try.underlying26 rfl hi ?_) | (go_at_call 22; refine (hS _ (H.out.ext (by repeat (first | with_reducible exact Ext.refl _ | refine Ext.drewN ?_ _ | refine Ext.drew ?_ | refine Ext.alloc ?_ _ | assumption | (refine Below.trans ?_ (by assumption)) | (refine Ext.trans ?_ (by assumption)) | (refine Below.trans ?_ (Below.mono (by assumption) (by omega))))))).mono ?_; rintro e w1 ⟨rfl, E1⟩) | (go_at_call 24; refine (partW_any _ l s _ (H.out.ext (by repeat (first | with_reducible exact Ext.refl _ | refine Ext.drewN ?_ _ | refine Ext.drew ?_ | refine Ext.alloc ?_ _ | assumption | (refine Below.trans ?_ (by assumption)) | (refine Ext.trans ?_ (by assumption)) | (refine Below.trans ?_ (Below.mono (by assumption) (by omega)))))) hle hn).mono ?_; rintro e w2 ⟨A, c, B, d, rfl, r1, r2, E2⟩))
  refine bodyPost_ret (v := .tuple #[.slice A s c, .slice B (l.length - s) d]) (by simp [results, Try.results10, go_sem]) rfl ?_
  have E01 : Ext w w1 := (by repeat (first | with_reducible exact Ext.refl _ | refine Ext.drewN ?_ _ | refine Ext.drew ?_ | refine Ext.alloc ?_ _ | assumption | (refine Below.trans ?_ (by assumption)) | (refine Ext.trans ?_ (by assumption)) | (refine Below.trans ?_ (Below.mono (by assumption) (by omega)))))
  exact ⟨A, c, B, d, rfl, NewW.low r1 E01, NewW.low r2 E01, (by repeat (first | with_reducible exact Ext.refl _ | refine Ext.drewN ?_ _ | refine Ext.drew ?_ | refine Ext.alloc ?_ _ | assumption | (refine Below.trans ?_ (by assumption)) | (refine Ext.trans ?_ (by assumption)) | (refine Below.trans ?_ (Below.mono (by assumption) (by omega)))))⟩
set_option maxHeartbeats 800000 in
theorem wordW_any (t : Tm) (v : Value) (l : List Int) (w : World) (h : t.Ok) (hl : RI .u8 w v l) (hB : Bs l) (hn : l.length ≤ 100000000) : Calls Try.prog 8 #[.agg t.arr, v] w (PartPostW w l (wordL (hasL t 42) l)) := by
  have hsz := t.size h
  have hS := fun v l w' hr hB => start_any t v l w' h hr hB
  have hle := wordL_le (hasL t 42) l
  generalize hasL t 42 = u at hS hle ⊢
  generalize t.arr = cs at hS hsz ⊢
  clear h
  obtain ⟨Ad, c, rfl, h1, h2⟩ := hl.shape
  have H := Lib.hid hl
  have HB := Lib.hid hB
  clear hl hB
  have HW : Hid (wordF u l l.length l.length false = wordL u l) := Lib.hid rfl
  generalize wordL u l = z at HW hle ⊢
  have hi : (Try.prog.info? 26).map (·.size) = some cs.size := by rw [hsz]; kernel_rfl
  have hA := Lib.hid (Blk.new w 26 cs)
  go_enter Try.func8, Try.ntmps8
  go_wp2
  go_step3
  go_wp2
  go_step3
  go_wp2
  go_loopw [6, 7] (fun a b wr => ∃ (p n : Nat) (wi : Bool), a = .int .i64 p ∧ b = .bool wi ∧ p ≤ l.length ∧ p ≤ n ∧ Hid (wordF u l n p wi = z) ∧ Hid (Blk wr w.heap.size 26 cs) ∧ Ext w wr) (fun a _ _ => (intOf a).toNat)
  case atStart => exact ⟨l.length, l.length, false, rfl, rfl, Nat.le_refl _, Nat.le_refl _, HW, hA, (by repeat (first | with_reducible exact Ext.refl _ | refine Ext.drewN ?_ _ | refine Ext.drew ?_ | refine Ext.alloc ?_ _ | assumption | (refine Below.trans ?_ (by assumption)) | (refine Ext.trans ?_ (by assumption)) | (refine Below.trans ?_ (Below.mono (by assumption) (by omega)))))⟩
  case round =>
    clear HW hA
    obtain ⟨p, n, wi, rfl, rfl, hp, hpn, HW, HA, hE⟩ := hrel
    by_cases h0 : p = 0
    · subst h0
      have hz : z = 0 := by rw [← HW.out]; exact wordF_stop (Nat.zero_le _) (.inl rfl)
      subst hz
      go_wp2_with ((go_at_call 24; refine (partW_any _ l 0 _ (H.out.ext (by repeat (first | with_reducible exact Ext.refl _ | refine Ext.drewN ?_ _ | refine Ext.drew ?_ | refine Ext.alloc ?_ _ | assumption | (refine Below.trans ?_ (by assumption)) | (refine Ext.trans ?_ (by assumption)) | (refine Below.trans ?_ (Below.mono (by assumption) (by omega)))))) hle hn).mono ?_; rintro e w2 ⟨A, c2, B, d, rfl, r1, r2, E2⟩))
      rw [Exit.noGoto_ret]
      refine bodyPost_ret (v := .tuple #[.slice A 0 c2, .slice B (l.length - 0) d]) (by simp [results, Try.results8, go_sem]) rfl ?_
      exact ⟨A, c2, B, d, rfl, NewW.low r1 hE, NewW.low r2 hE, (by repeat (first | with_reducible exact Ext.refl _ | refine Ext.drewN ?_ _ | refine Ext.drew ?_ | refine Ext.alloc ?_ _ | assumption | (refine Below.trans ?_ (by assumption)) | (refine Ext.trans ?_ (by assumption)) | (refine Below.trans ?_ (Below.mono (by assumption) (by omega)))))⟩
    · have d0 : (0 : Int) < p := by omega
      have hq := start_take (u := u) (l := l) (show 0 < p by omega) hp
      have HR := Lib.hid (H.out.toA hp)
      have HS := Lib.hid fun w' (hr : RI .u8 w' (.slice Ad p c) (l.take p)) => hS _ _ w' hr (Bs.take HB.out p)
      have HF := Lib.hid fun hb => wordF_step (u := u) (l := l) (n := n) (wi := wi) (show 0 < p by omega) hpn hp hb
      have HG := Lib.hid fun hb => wordF_stop (u := u) (l := l) (n := n) (wi := wi) hpn (.inr hb)
      have hcq : ¬ c = startL u (l.take p) := by omega
      have HQ := HR.out.fromB (Nat.le_of_lt hq)
      rw [if_neg hcq] at HQ
      have HQ := Lib.hid HQ
      generalize startL u (l.take p) = q at hq HS HF HG HQ hcq
      have i1 : (0 : Int) ≤ (p : Int) := by omega
      have i2 : (p : Int) ≤ (l.length : Int) := by omega
      have i3 : (p : Int) ≤ (c : Int) := by omega
      have i4 : (0 : Int) ≤ (q : Int) := by omega
      have i5 : (q : Int) ≤ (p : Int) := by omega
      clear hS
      go_wp2
      refine wp_region_held_drew (S := fun w' => Ext wr w') (by kernel_rfl) (by repeat (first | with_reducible exact Ext.refl _ | refine Ext.drewN ?_ _ | refine Ext.drew ?_ | refine Ext.alloc ?_ _ | assumption | (refine Below.trans ?_ (by assumption)) | (refine Ext.trans ?_ (by assumption)) | (refine Below.trans ?_ (Below.mono (by assumption) (by omega))))) (fun hHeld => ?_)
      (refine wpAnyH_take (i := 0) (v := .agg cs) rfl (by kernel_rfl) (by kernel_rfl) (by kernel_rfl) (fun _ _ _ h => h) (yieldsIf_load_row (by rfl) 26 _ rfl _ rfl 26 cs _ _ (fun w' hw' => Blk.ext HA.out hw') Try.underlying26 rfl hi) (by assumption) ?_; (try simp only [Act.put]); (try simp only [List.getElem_toArray]); (try simp only [List.getElem_cons_succ]); (try simp only [List.getElem_cons_zero]); (try simp only [List.setIfInBounds_toArray]); (try simp only [List.set_cons_succ]); (try simp only [List.set_cons_zero]))
      (refine wpAnyH_take (i := 1) (v := ?_) rfl (by kernel_rfl) (by kernel_rfl) (by kernel_rfl) (fun _ _ _ h => h) (Or.inl ⟨by rfl, ?_⟩) (by assumption) ?_; rotate_left; focus (intro w' hSw; go_simp; try with_reducible rfl); (try simp only [Act.put]); (try simp only [List.getElem_toArray]); (try simp only [List.getElem_cons_succ]); (try simp only [List.getElem_cons_zero]); (try simp only [List.setIfInBounds_toArray]); (try simp only [List.set_cons_succ]); (try simp only [List.set_cons_zero]))
      (refine wpAnyH_take (i := 2) (v := ?_) rfl (by kernel_rfl) (by kernel_rfl) (by kernel_rfl) (fun _ _ _ h => h) (Or.inl ⟨by rfl, ?_⟩) (by assumption) ?_; rotate_left; focus (intro w' hSw; go_simp; try with_reducible rfl); (try simp only [Act.put]); (try simp only [List.getElem_toArray]); (try simp only [List.getElem_cons_succ]); (try simp only [List.getElem_cons_zero]); (try simp only [List.setIfInBounds_toArray]); (try simp only [List.set_cons_succ]); (try simp only [List.set_cons_zero]))
      (refine wpAnyH_take (i := 3) (v := ?_) rfl (by kernel_rfl) (by kernel_rfl) (by kernel_rfl) (fun _ _ _ h => h) (Or.inl ⟨by rfl, ?_⟩) (by assumption) ?_; rotate_left; focus (intro w' hSw; go_simp; try with_reducible rfl); (try simp only [Act.put]); (try simp only [List.getElem_toArray]); (try simp only [List.getElem_cons_succ]); (try simp only [List.getElem_cons_zero]); (try simp only [List.setIfInBounds_toArray]); (try simp only [List.set_cons_succ]); (try simp only [List.set_cons_zero]))
      (refine wpAnyH_ready (rs := [4]) (by kernel_rfl) (by simp) ?_; refine AllReadyH.cons rfl (fun K hK => ?_) AllReadyH.nil; go_simp; go_at_call 22; refine (HS.out _ (HR.out.ext (by repeat (first | with_reducible exact Ext.refl _ | refine Ext.drewN ?_ _ | refine Ext.drew ?_ | refine Ext.alloc ?_ _ | assumption | (refine Below.trans ?_ (by assumption)) | (refine Ext.trans ?_ (by assumption)) | (refine Below.trans ?_ (Below.mono (by assumption) (by omega))))))).mono ?_; rintro e w1 ⟨rfl, E1⟩; (try dsimp only); refine hK.out _ _ (by repeat (first | with_reducible exact Ext.refl _ | refine Ext.drewN ?_ _ | refine Ext.drew ?_ | refine Ext.alloc ?_ _ | assumption | (refine Below.trans ?_ (by assumption)) | (refine Ext.trans ?_ (by assumption)) | (refine Below.trans ?_ (Below.mono (by assumption) (by omega))))) (fun hHeld => ?_); clear hK K; (try simp only [Act.put]); (try simp only [List.getElem_toArray]); (try simp only [List.getElem_cons_succ]); (try simp only [List.getElem_cons_zero]); (try simp only [List.setIfInBounds_toArray]); (try simp only [List.set_cons_succ]); (try simp only [List.set_cons_zero]))
      (refine wpAnyH_take (i := 5) (v := ?_) rfl (by kernel_rfl) (by kernel_rfl) (by kernel_rfl) (fun _ _ _ h => h) (Or.inl ⟨by rfl, ?_⟩) (by assumption) ?_; rotate_left; focus (intro w' hSw; go_simp; try with_reducible rfl); (try simp only [Act.put]); (try simp only [List.getElem_toArray]); (try simp only [List.getElem_cons_succ]); (try simp only [List.getElem_cons_zero]); (try simp only [List.setIfInBounds_toArray]); (try simp only [List.set_cons_succ]); (try simp only [List.set_cons_zero]))
      refine wpAnyH_done (by kernel_rfl) ?_ _
      have E01 : Ext wr w1 := (by repeat (first | with_reducible exact Ext.refl _ | refine Ext.drewN ?_ _ | refine Ext.drew ?_ | refine Ext.alloc ?_ _ | assumption | (refine Below.trans ?_ (by assumption)) | (refine Ext.trans ?_ (by assumption)) | (refine Below.trans ?_ (Below.mono (by assumption) (by omega)))))
      have Ew1 : Ext w w1 := (by repeat (first | with_reducible exact Ext.refl _ | refine Ext.drewN ?_ _ | refine Ext.drew ?_ | refine Ext.alloc ?_ _ | assumption | (refine Below.trans ?_ (by assumption)) | (refine Ext.trans ?_ (by assumption)) | (refine Below.trans ?_ (Below.mono (by assumption) (by omega)))))
      clear E1
      have HQ1 : RI .u8 w1 (.slice (Option.map (fun x => x.add q) Ad) (p - q) (c - q)) ((l.take p).drop q) := RdN.ext HQ.out Ew1
      rcases Bool.eq_false_or_eq_true (blankL ((l.take p).drop q)) with hb | hb
      · have hbl := blank_any _ ((l.take p).drop q) w1 HQ1
        rw [hb] at hbl HF HG
        cases wi
        · go_wp2_with (go_at_call 23; refine hbl.mono ?_; rintro e w2 ⟨rfl, E2⟩)
          obtain ⟨f1, f2⟩ := HF.out rfl
          go_roundw
          case rel => exact ⟨q, n - 1, false, rfl, rfl, by omega, f1, Lib.hid (by rw [← HW.out, f2]; rfl), Lib.hid ((HA.out.ext E01).ext E2), Ew1.trans E2⟩
          case measure => simp [intOf]; omega
        · have hz : p = z := by rw [← HW.out]; exact (HG.out rfl).symm
          subst hz
          go_wp2_with (first
            | (go_at_call 23; refine hbl.mono ?_; rintro e w2 ⟨rfl, E2⟩; have Ew2 := Ew1.trans E2)
            | (go_at_call 24; refine (partW_any _ l p _ (H.out.ext (by repeat (first | with_reducible exact Ext.refl _ | refine Ext.drewN ?_ _ | refine Ext.drew ?_ | refine Ext.alloc ?_ _ | assumption | (refine Below.trans ?_ (by assumption)) | (refine Ext.trans ?_ (by assumption)) | (refine Below.trans ?_ (Below.mono (by assumption) (by omega)))))) hle hn).mono ?_; rintro e w3 ⟨A, c2, B, d, rfl, r1, r2, E3⟩))
          rw [Exit.noGoto_ret]
          refine bodyPost_ret (v := .tuple #[.slice A p c2, .slice B (l.length - p) d]) (by simp [results, Try.results8, go_sem]) rfl ?_
          exact ⟨A, c2, B, d, rfl, NewW.low r1 Ew2, NewW.low r2 Ew2, Ew2.trans E3⟩
      · have hbl := blank_any _ ((l.take p).drop q) w1 HQ1
        rw [hb] at hbl HF
        obtain ⟨f1, f2⟩ := HF.out (by simp)
        have F := Lib.hid (show wordF u l (n - 1) q true = z by rw [← HW.out, f2]; simp)
        clear f2 hb
        go_wp2_with (go_at_call 23; refine hbl.mono ?_; rintro e w2 ⟨rfl, E2⟩)
        all_goals
          go_roundw
          case rel => exact ⟨q, n - 1, true, rfl, rfl, by omega, f1, F, Lib.hid ((HA.out.ext E01).ext E2), Ew1.trans E2⟩
          case measure => simp [intOf]; omega
set_option maxHeartbeats 800000 in
theorem reverseW_any {B : Nat → Prop} {base : Nat} (v : Value) (ds : List (List Int)) (w : World) (h : OwnS Lbw 27 base B w v ds) (hn : ds.length ≤ 100000000) :
    Calls Try.prog 28 #[v] w fun e w' => e = .returned (.tuple #[]) ∧ OwnS Lbw 27 base B w' v ds.reverse ∧ Mod (fun k => v.ownBlock = some k) w w' := by
  obtain ⟨Ad, c, rfl, h1, h2⟩ := h.shape
  have H := Lib.hid h
  clear h
  have hw0 : IntKind.i64.wrap ((ds.length : Int) - 1) = (ds.length : Int) - 1 := IntWalk.i64_in _ (by omega)
  go_enter Try.func28, Try.ntmps28
  go_wp2
  go_loopw [2, 3] (fun i j wr => ∃ (k : Nat) (ds' : List (List Int)), i = .int .i64 k ∧ j = .int .i64 ((ds.length : Int) - 1 - k) ∧ k ≤ ds.length ∧ Hid (revM ds ds' k) ∧ Hid (OwnS Lbw 27 base B wr (.slice Ad ds.length c) ds') ∧ Hid (Mod (fun k => (Value.slice Ad ds.length c).ownBlock = some k) w wr)) (fun _ j _ => (intOf j + 1).toNat)
  case atStart => exact ⟨0, ds, rfl, by simp, Nat.zero_le _, Lib.hid (revM.zero ds), H, Lib.hid (Mod.refl _ _)⟩
  case round =>
    clear H hw0
    obtain ⟨k, ds', rfl, rfl, hk, HR, HO, HM⟩ := hrel
    have hl := HR.out.1
    by_cases hlt : 2 * k + 1 < ds.length
    · obtain ⟨m, hm⟩ : ∃ m : Nat, m + 1 + k = ds.length := ⟨ds.length - 1 - k, by omega⟩
      have hmi : (ds.length : Int) - 1 - k = (m : Int) := by omega
      rw [hmi]
      have d1 : (k : Int) < (m : Int) := by omega
      have n1 : ¬ m = k := by omega
      have n2 : ¬ k = m := by omega
      have d2 : (k : Int) < (ds.length : Int) := by omega
      have d3 : (m : Int) < (ds.length : Int) := by omega
      have hw1 : IntKind.i64.wrap ((k : Int) + 1) = (k : Int) + 1 := IntWalk.i64_in _ (by omega)
      have hw2 : IntKind.i64.wrap ((m : Int) - 1) = (m : Int) - 1 := IntWalk.i64_in _ (by omega)
      obtain ⟨b1, o1, u1, x1, hA1, q1, y1, r1⟩ := HO.out.y.at1 rfl (show k < ds.length by omega)
      obtain ⟨b2, o2, u2, x2, hA2, q2, y2, r2⟩ := HO.out.y.at1 rfl (show m < ds.length by omega)
      obtain ⟨g, hg, -, hfr⟩ := HO.out.addr (by omega)
      subst hg
      simp only [Option.some.injEq, Addr.mk.injEq] at hA1 hA2
      obtain ⟨rfl, rfl, -⟩ := hA1
      obtain ⟨rfl, rfl, -⟩ := hA2
      rw [Nat.zero_add] at q1 q2
      have f1 := hfr k
      have f2 := hfr m
      have SW := Lib.hid (swap1 rfl HO.out (i := k) (j := m) (by omega) (by omega) r1.out r2.out)
      have hm2 : ds.length - 1 - k = m := by omega
      have RS := Lib.hid (HR.out.step hlt y1.out (by rw [hm2]; exact y2.out))
      rw [hm2] at RS
      obtain ⟨v1, e1, s1⟩ := r1.out
      obtain ⟨v2, e2, s2⟩ := r2.out
      simp only [List.cons.injEq, and_true] at e1 e2
      subst e1 e2
      obtain ⟨a1, c1, rfl, -, -⟩ := s1.shape
      obtain ⟨a2, c2, rfl, -, -⟩ := s2.shape
      clear hfr y1 y2 r1 r2 s1 s2
      go_wp2
      go_region_law (fail)
      all_goals go_wp2
      all_goals
        go_roundw
        case rel => exact ⟨k + 1, _, by go_num, by congr 1; omega, by omega, RS, SW, Lib.hid (Mod.drew (Mod.set_ (Mod.set_ HM.out (.inr (by simp [Value.ownBlock])) _) (.inr (by simp [Value.ownBlock])) _))⟩
        case measure => simp [intOf] <;> omega
    · have d1 : ¬ ((k : Int) < (ds.length : Int) - 1 - k) := by omega
      go_wp2
      go_end0
      exact ⟨rfl, by rw [← HR.out.done (by omega)]; exact HO.out, HM.out⟩
set_option maxHeartbeats 800000 in
theorem unitsW_any (t : Tm) (v : Value) (l : List Int) (w : World) (h : t.Ok) (hl : RI .u8 w v l) (hB : Bs l) (hn : l.length ≤ 100000000) : Calls Try.prog 13 #[.agg t.arr, v] w fun e w' =>
    ∃ A c, e = .returned (.slice A (unitsL (hasL t 42) l).length c) ∧ OwnS Lbw 27 (w.heap.size + 1) (fun k => w.heap.size + 1 ≤ k) w' (.slice A (unitsL (hasL t 42) l).length c) (unitsL (hasL t 42) l) ∧ Ext w w' := by
  have hsz := t.size h
  have hS := fun v l w' hr hB => start_any t v l w' h hr hB
  generalize hasL t 42 = u at hS ⊢
  generalize t.arr = cs at hS hsz ⊢
  clear h
  obtain ⟨Ad, c, rfl, h1, h2⟩ := hl.shape
  have H := Lib.hid hl
  have HB := Lib.hid hB
  clear hl hB
  have HU : Hid ([] ++ unitsR u l l.length l.length = unitsR u l l.length l.length) := Lib.hid rfl
  have HL : Hid (unitsL u l = (unitsR u l l.length l.length).reverse) := Lib.hid rfl
  generalize unitsL u l = U at HL ⊢
  generalize hz : unitsR u l l.length l.length = z at HL
  have HZ := Lib.hid hz
  clear hz
  have hi : (Try.prog.info? 26).map (·.size) = some cs.size := by rw [hsz]; kernel_rfl
  have hA := Lib.hid (Blk.new w 26 cs)
  go_enter Try.func13, Try.ntmps13
  go_wp2
  go_loopw [5, 6] (fun s a wr => ∃ (acc : List (List Int)) (p n : Nat) (Ao : Option Addr) (co : Nat), s = .slice Ao acc.length co ∧ a = .int .i64 p ∧ p ≤ l.length ∧ p ≤ n ∧ acc.length + p ≤ l.length ∧ Hid (acc ++ unitsR u l n p = z) ∧ Hid (OwnS Lbw 27 (w.heap.size + 1) (fun k => w.heap.size + 1 ≤ k) wr (.slice Ao acc.length co) acc) ∧ Hid (Blk wr w.heap.size 26 cs) ∧ Ext w wr) (fun _ a _ => (intOf a).toNat)
  case atStart => exact ⟨[], l.length, l.length, none, 0, rfl, rfl, Nat.le_refl _, Nat.le_refl _, by simp, Lib.hid (by rw [HZ.out]; rfl), Lib.hid (OwnS.nil _ _ _ _ _), hA, (by repeat (first | with_reducible exact Ext.refl _ | refine Ext.drewN ?_ _ | refine Ext.drew ?_ | refine Ext.alloc ?_ _ | assumption | (refine Below.trans ?_ (by assumption)) | (refine Ext.trans ?_ (by assumption)) | (refine Below.trans ?_ (Below.mono (by assumption) (by omega)))))⟩
  case round =>
    clear HU HZ hA
    obtain ⟨acc, p, n, Ao, co, rfl, rfl, hp, hpn, hac, HQ, HO, HA, hE⟩ := hrel
    by_cases h0 : p = 0
    · subst h0
      have hq := HQ.out
      rw [unitsR_zero, List.append_nil] at hq
      subst hq
      go_wp2_with fail
      refine (reverseW_any _ acc _ HO.out (by omega)).mono ?_
      rintro e w2 ⟨rfl, O2, M2⟩
      have hr : U = acc.reverse := HL.out
      subst hr
      have hlr : acc.reverse.length = acc.length := List.length_reverse
      have O2 := Lib.hid O2
      have E2 : Ext w w2 := Mod.toExt hE M2 fun k hk he => by have := (HO.out.row k he).1; omega
      clear HL M2
      go_wp2
      go_ret
      exact ⟨Ao, co, by rw [hlr]; rfl, by rw [hlr]; exact O2.out, E2⟩
    · have d0 : (0 : Int) < p := by omega
      have hq := start_take (u := u) (l := l) (show 0 < p by omega) hp
      obtain ⟨f1, f2⟩ := unitsR_step (u := u) (l := l) (show 0 < p by omega) hpn hp
      have HR := Lib.hid (H.out.toA hp)
      have HS := Lib.hid fun w' (hr : RI .u8 w' (.slice Ad p c) (l.take p)) => hS _ _ w' hr (Bs.take HB.out p)
      have hcq : ¬ c = startL u (l.take p) := by omega
      have HF := HR.out.fromB (Nat.le_of_lt hq)
      rw [if_neg hcq] at HF
      have HF := Lib.hid HF
      have F2 := Lib.hid f2
      clear f2
      generalize startL u (l.take p) = q at hq HS HF F2 f1 hcq
      have i1 : (0 : Int) ≤ (p : Int) := by omega
      have i2 : (p : Int) ≤ (l.length : Int) := by omega
      have i3 : (p : Int) ≤ (c : Int) := by omega
      have i4 : (0 : Int) ≤ (q : Int) := by omega
      have i5 : (q : Int) ≤ (p : Int) := by omega
      have hdl : ((l.take p).drop q).length = p - q := by rw [List.length_drop, List.length_take]; omega
      clear hS
      go_wp2
      refine wp_region_held_drew (S := fun w' => Ext wr w') (by kernel_rfl) (by repeat (first | with_reducible exact Ext.refl _ | refine Ext.drewN ?_ _ | refine Ext.drew ?_ | refine Ext.alloc ?_ _ | assumption | (refine Below.trans ?_ (by assumption)) | (refine Ext.trans ?_ (by assumption)) | (refine Below.trans ?_ (Below.mono (by assumption) (by omega))))) (fun hHeld => ?_)
      (refine wpAnyH_take (i := 0) (v := .agg cs) rfl (by kernel_rfl) (by kernel_rfl) (by kernel_rfl) (fun _ _ _ h => h) (yieldsIf_load_row (by rfl) 26 _ rfl _ rfl 26 cs _ _ (fun w' hw' => Blk.ext HA.out hw') Try.underlying26 rfl hi) (by assumption) ?_; (try simp only [Act.put]); (try simp only [List.getElem_toArray]); (try simp only [List.getElem_cons_succ]); (try simp only [List.getElem_cons_zero]); (try simp only [List.setIfInBounds_toArray]); (try simp only [List.set_cons_succ]); (try simp only [List.set_cons_zero]))
      (refine wpAnyH_take (i := 1) (v := ?_) rfl (by kernel_rfl) (by kernel_rfl) (by kernel_rfl) (fun _ _ _ h => h) (Or.inl ⟨by rfl, ?_⟩) (by assumption) ?_; rotate_left; focus (intro w' hSw; go_simp; try with_reducible rfl); (try simp only [Act.put]); (try simp only [List.getElem_toArray]); (try simp only [List.getElem_cons_succ]); (try simp only [List.getElem_cons_zero]); (try simp only [List.setIfInBounds_toArray]); (try simp only [List.set_cons_succ]); (try simp only [List.set_cons_zero]))
      (refine wpAnyH_take (i := 2) (v := ?_) rfl (by kernel_rfl) (by kernel_rfl) (by kernel_rfl) (fun _ _ _ h => h) (Or.inl ⟨by rfl, ?_⟩) (by assumption) ?_; rotate_left; focus (intro w' hSw; go_simp; try with_reducible rfl); (try simp only [Act.put]); (try simp only [List.getElem_toArray]); (try simp only [List.getElem_cons_succ]); (try simp only [List.getElem_cons_zero]); (try simp only [List.setIfInBounds_toArray]); (try simp only [List.set_cons_succ]); (try simp only [List.set_cons_zero]))
      (refine wpAnyH_take (i := 3) (v := ?_) rfl (by kernel_rfl) (by kernel_rfl) (by kernel_rfl) (fun _ _ _ h => h) (Or.inl ⟨by rfl, ?_⟩) (by assumption) ?_; rotate_left; focus (intro w' hSw; go_simp; try with_reducible rfl); (try simp only [Act.put]); (try simp only [List.getElem_toArray]); (try simp only [List.getElem_cons_succ]); (try simp only [List.getElem_cons_zero]); (try simp only [List.setIfInBounds_toArray]); (try simp only [List.set_cons_succ]); (try simp only [List.set_cons_zero]))
      (refine wpAnyH_ready (rs := [4]) (by kernel_rfl) (by simp) ?_; refine AllReadyH.cons rfl (fun K hK => ?_) AllReadyH.nil; go_simp; go_at_call 22; refine (HS.out _ (HR.out.ext (by repeat (first | with_reducible exact Ext.refl _ | refine Ext.drewN ?_ _ | refine Ext.drew ?_ | refine Ext.alloc ?_ _ | assumption | (refine Below.trans ?_ (by assumption)) | (refine Ext.trans ?_ (by assumption)) | (refine Below.trans ?_ (Below.mono (by assumption) (by omega))))))).mono ?_; rintro e w1 ⟨rfl, E1⟩; (try dsimp only); refine hK.out _ _ (by repeat (first | with_reducible exact Ext.refl _ | refine Ext.drewN ?_ _ | refine Ext.drew ?_ | refine Ext.alloc ?_ _ | assumption | (refine Below.trans ?_ (by assumption)) | (refine Ext.trans ?_ (by assumption)) | (refine Below.trans ?_ (Below.mono (by assumption) (by omega))))) (fun hHeld => ?_); clear hK K; (try simp only [Act.put]); (try simp only [List.getElem_toArray]); (try simp only [List.getElem_cons_succ]); (try simp only [List.getElem_cons_zero]); (try simp only [List.setIfInBounds_toArray]); (try simp only [List.set_cons_succ]); (try simp only [List.set_cons_zero]))
      (refine wpAnyH_take (i := 5) (v := ?_) rfl (by kernel_rfl) (by kernel_rfl) (by kernel_rfl) (fun _ _ _ h => h) (Or.inl ⟨by rfl, ?_⟩) (by assumption) ?_; rotate_left; focus (intro w' hSw; go_simp; try with_reducible rfl); (try simp only [Act.put]); (try simp only [List.getElem_toArray]); (try simp only [List.getElem_cons_succ]); (try simp only [List.getElem_cons_zero]); (try simp only [List.setIfInBounds_toArray]); (try simp only [List.set_cons_succ]); (try simp only [List.set_cons_zero]))
      refine wpAnyH_done (by kernel_rfl) ?_ _
      have E01 : Ext wr w1 := (by repeat (first | with_reducible exact Ext.refl _ | refine Ext.drewN ?_ _ | refine Ext.drew ?_ | refine Ext.alloc ?_ _ | assumption | (refine Below.trans ?_ (by assumption)) | (refine Ext.trans ?_ (by assumption)) | (refine Below.trans ?_ (Below.mono (by assumption) (by omega)))))
      have Ew1 : Ext w w1 := hE.trans E01
      have HA1 := Lib.hid (HA.out.ext E01)
      have HO1 := Lib.hid (HO.out.ext E01)
      have hg := HA1.out.lt
      have HF1 : RI .u8 w1 (.slice (Option.map (fun x => x.add q) Ad) (p - q) (c - q)) ((l.take p).drop q) := RdN.ext HF.out Ew1
      have hcl := clone_u8 _ ((l.take p).drop q) w1 (RI.y (A := fun _ => True) HF1) (by rw [hdl]; omega)
      rw [hdl] at hcl
      have HN : ∀ k, w1.heap.size ≤ k → (Value.slice Ao acc.length co).ownBlock ≠ some k := fun k hk => HO1.out.newer hk
      clear E1 hHeld HA HO HF1
      go_wp2_with fail
      refine hcl.mono ?_
      rintro e w2 ⟨A2, c2, rfl, o2, E2⟩
      have N2 := Lib.hid (own_newW (w0 := w1) o2 (Nat.le_refl _))
      clear o2 hcl
      have HO2 := Lib.hid (HO1.out.ext E2)
      have HA2 := Lib.hid (HA1.out.ext E2)
      have Ew2 := Ew1.trans E2
      have hs12 := E2.size
      go_wp2_with (at_builtin; refine wpList_app (e := Lbw) (base := w.heap.size + 1) (B := fun k => w.heap.size + 1 ≤ k) (A := fun k => w1.heap.size ≤ k) rfl (.tmp 17) (.tmp 23) rfl Try.underlying35 info_lbw rfl (HO2.out.alloc _) rfl (RdY.singleB (cs := [.slice A2 (p - q) c2]) (lbw_rel (RdW.ext N2.out ((Ext.refl _).alloc _))) (Blk.new _ _ _)) rfl (fun k _ hk => ⟨by omega, HN k hk⟩) (N := acc.length + 1) (by simp) (by simp [maxLen]; omega) (by omega) (by simp; omega) ?_; intro A3 c3 w3 o3 M3 B3)
      have HA3 := Lib.hid (Blk.below (HA2.out.alloc _) B3 (by omega))
      have F3 : Hid ((acc ++ [(l.take p).drop q]) ++ unitsR u l (n - 1) q = z) := Lib.hid (by rw [← HQ.out, F2.out]; simp)
      have E3 : Ext w w3 := Below.trans (Ew2.alloc _) (B3.mono (by omega))
      have o3 := Lib.hid o3
      have hl3 : (acc ++ [(l.take p).drop q]).length = acc.length + 1 := by simp
      clear M3 B3 HN
      go_roundw
      case rel => exact ⟨acc ++ [(l.take p).drop q], q, n - 1, A3, c3, by rw [hl3], rfl, by omega, f1, by rw [hl3]; omega, F3, by rw [hl3]; exact o3, HA3, E3⟩
      case measure => simp [intOf]; omega
def PutPostW (w : World) (r : List Int × Bool) (e : Ending) (w' : World) : Prop :=
  ∃ A c, e = .returned (.tuple #[.slice A r.1.length c, .bool r.2]) ∧ NewW w w' (.slice A r.1.length c) r.1 ∧ Ext w w'
set_option maxRecDepth 100000 in
set_option maxHeartbeats 400000 in
theorem putW_any (v : Value) (l : List Int) (x : Int) (w : World) (hl : RI .u8 w v l) (hn : l.length ≤ 100000000) : Calls Try.prog 16 #[v, .int .u8 x] w (PutPostW w (putE l x)) := by
  obtain ⟨Ad, c, rfl, h1, h2⟩ := hl.shape
  have H := Lib.hid hl
  clear hl
  by_cases hbig : 254 ≤ l.length
  · have e : putE l x = (l, false) := if_pos hbig
    rw [e]
    have hb : (254 : Int) ≤ l.length := by omega
    clear e hbig
    go_enter Try.func16, Try.ntmps16
    (go_wp2_with fail; refine (clone_u8 _ l _ (RI.y (A := fun _ => True) H.out) (by omega)).mono ?_; rintro e w1 ⟨A1, c1, rfl, o1, E1⟩)
    go_wp2
    refine bodyPost_ret (v := .tuple #[.slice A1 l.length c1, .bool false]) (by simp [results, Try.results16, go_sem]) rfl ?_
    exact ⟨A1, c1, rfl, own_newW o1 (Nat.le_refl _), E1⟩
  · have e : putE l x = (l ++ [x], true) := if_neg hbig
    rw [e]
    have hb : ¬ ((254 : Int) ≤ l.length) := by omega
    have hl1 : (l ++ [x]).length = l.length + 1 := by simp
    clear e hbig
    go_enter Try.func16, Try.ntmps16
    (go_wp2_with fail; refine (clone_u8 _ l _ (RI.y (A := fun _ => True) H.out) (by omega)).mono ?_; rintro e w1 ⟨A1, c1, rfl, o1, E1⟩)
    have o1 := OwnS.of_ints (B := fun _ => False) o1.ints
    go_wp2_with (at_builtin; refine wpList_app (e := Ub) (base := w.heap.size) (B := fun _ => False) (A := fun _ => False) rfl (.tmp 13) (.tmp 15) rfl Try.underlying27 info_u8 rfl (o1.alloc _) rfl (RI.y (RI.lit .u8 [x] _ rfl (by simp))) rfl (fun _ _ h => h.elim) (N := l.length + 1) (by simp) (by simp [maxLen]; omega) (by omega) (by have := E1.size; simp; omega) ?_; intro A2 c2 w2 o2 M2 E2)
    refine bodyPost_ret (v := .tuple #[.slice A2 (l.length + 1) c2, .bool true]) (by simp [results, Try.results16, go_sem]) rfl ?_
    exact ⟨A2, c2, by rw [hl1], by rw [hl1]; exact own_newW o2 (Nat.le_refl _), Below.trans (E1.alloc _) E2⟩
end Go.Proofs.Ytilmkghopeoipaa
