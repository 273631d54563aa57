/- CanonRoom, walked where there is too much: the law answers true. Condition: there is too much. -/
import Derived.Test.YtgahpclgdhghjaaH13
import Derived.Deep.DeepCutAuto
import Derived.IntWalk
import Derived.Deep.RegionHeld3
namespace Go.Proofs.Ytgahpclgdhghjaa
open Go.RowKit Go.Kb Go.ChangeShapes Go.WideShapes Go.ChangeAt

theorem info_ll : (Try.prog.info? 35).map (fun i => (i.zero, i.size, i.bytes)) = some (some (.agg #[.slice none 0 0, .bool false]), Ln.size, 32) := by kernel_rfl
theorem ln_oneF {A : Nat → Prop} {w : World} {u : Value} {l : List Int} {f : Bool} {n : Nat} {t : TypeId} (h : RdS Ub A w u l) (hn : Blk w n t #[u, .bool f]) : RdY Ln A w (.slice (some ⟨n, 0, none⟩) 1 1) [(l, f)] := RdY.singleB (ln_rel h) hn
theorem ln_from {A : Nat → Prop} {w : World} {b off n c k : Nat} {ds : List (List Int × Bool)} (h : RdS Ln A w (.slice (some ⟨b, off, none⟩) n c) ds) (hk : k ≤ n) (hc : ¬ c = k) : RdS Ln A w (.slice (some ⟨b, off + k * 2, none⟩) (n - k) (c - k)) (ds.drop k) := by
  have h1 := h.from_ hk
  rw [if_neg hc] at h1
  simp only [Option.map_some] at h1
  rw [Addr.add_lit] at h1
  exact h1
theorem ks_ext {w0 w w' : World} {a b : Addr} {u x : Value} (h : Ext w0 w ∧ w.cell? a = some u ∧ w.cell? b = some x) (hE : Ext w w') : Ext w0 w' ∧ w'.cell? a = some u ∧ w'.cell? b = some x := ⟨h.1.trans hE, cell_ext hE h.2.1, cell_ext hE h.2.2⟩
theorem ln_all {l : List Int} {f : Bool} {ls : List (List Int × Bool)} {M : Nat} (h1 : l.length ≤ M) (h2 : ∀ x ∈ ls, x.1.length ≤ M) : ∀ x ∈ [(l, f)] ++ ls, x.1.length ≤ M := by
  intro x hx
  rcases List.mem_append.1 hx with hx | hx
  · simp at hx
    subst hx
    exact h1
  · exact h2 x hx
set_option maxRecDepth 100000 in
set_option maxHeartbeats 800000 in
theorem canonRoom_great (v v2 : Value) (ls : List (List Int × Bool)) (l : List Int) (f : Bool) (w : World) (h : RdS Ln (fun _ => True) w v ls) (h2 : RdS Ub (fun _ => True) w v2 l) (hll : ls.length ≤ 4398046510976) (hg : greatL ([(l, f)] ++ ls) = true) :
    Calls Try.prog 4 #[v, .agg #[v2, .bool f]] w fun e w' => e = .returned (.bool true) ∧ Ext w w' := by
  obtain ⟨Ad, c, rfl, hc1, hc2⟩ := h.shape
  obtain ⟨Ad2, c2, rfl, hc3, hc4⟩ := h2.shape
  have H := Lib.hid h
  have H2 := Lib.hid h2
  have hbox : Hid (Blk (w.alloc (.cells #[.slice Ad2 l.length c2, .bool f] 35)) w.heap.size 35 #[.slice Ad2 l.length c2, .bool f]) := Lib.hid (by repeat (first | ((with_reducible refine Blk.at_ _ _ ?_); simp; done) | with_reducible refine Blk.drew ?_ | with_reducible refine Blk.alloc ?_ _ | refine Blk.ext ?_ (by assumption)))
  clear h h2
  have HG := Lib.hid hg
  clear hg
  go_enter Try.func4, Try.ntmps4
  (go_wp2_with fail; refine (alive_any _).mono ?_; rintro e w1 ⟨rfl, E1⟩)
  obtain ⟨q0, q1, _, _⟩ := (hbox.out.ext E1).two
  have hs0 := Below.size E1
  have hs1 := Below.size E1
  simp at hs1
  go_wp2_with (first
    | ((at_builtin; refine wpList_app (A := fun k => k < w.heap.size) (B := fun k => k < w.heap.size) (base := w1.heap.size) rfl (.tmp 12) (.tmp 13) rfl Try.underlying22 info_ll rfl (OwnS.litB (A := fun k => k < w.heap.size) (RdE.single (ln_rel (f := f) ((H2.out.lt.mono (fun k _ hk => hk.2)).ext (by repeat (first | with_reducible exact Ext.refl _ | refine Ext.drewN ?_ _ | refine Ext.drew ?_ | refine Ext.alloc ?_ _ | assumption | (refine Below.trans ?_ (by assumption)) | (refine Ext.trans ?_ (by assumption)) | (refine Below.trans ?_ (Below.mono (by assumption) (by omega)))))))) (by repeat (first | ((with_reducible refine Blk.at_ _ _ ?_); simp; done) | with_reducible refine Blk.drew ?_ | with_reducible refine Blk.alloc ?_ _ | refine Blk.ext ?_ (by assumption))) (fun k _ hk => ⟨hk, by have := E1.size; simp at this; omega⟩) (Nat.le_refl _) (m := 1) rfl (by decide)) rfl (RdY.ext (H.out.lt.mono (fun k _ hk => hk.2)).y (by repeat (first | with_reducible exact Ext.refl _ | refine Ext.drewN ?_ _ | refine Ext.drew ?_ | refine Ext.alloc ?_ _ | assumption | (refine Below.trans ?_ (by assumption)) | (refine Ext.trans ?_ (by assumption)) | (refine Below.trans ?_ (Below.mono (by assumption) (by omega)))))) rfl (fun k _ hk => ⟨hk, fun h => by simp [Value.ownBlock] at h; have := E1.size; simp at this; omega⟩) (N := 1 + ls.length) rfl (by simp [maxLen]; omega) (by omega) (by simp) ?_; intro A3 c3 w3 o3 M3 B3; clear M3))
    | ((go_at_call 8; refine (great_any _ ([(l, f)] ++ ls) _ o3.rdT.y).mono ?_; rintro e w2 ⟨rfl, E2⟩); rw [HG.out]))
  go_ret
  exact ⟨rfl, (by repeat (first | with_reducible exact Ext.refl _ | refine Ext.drewN ?_ _ | refine Ext.drew ?_ | refine Ext.alloc ?_ _ | assumption | (refine Below.trans ?_ (by assumption)) | (refine Ext.trans ?_ (by assumption)) | (refine Below.trans ?_ (Below.mono (by assumption) (by omega)))))⟩
end Go.Proofs.Ytgahpclgdhghjaa
