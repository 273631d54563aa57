/- A line's characters, by contract. Conditions: the setting is one, bytes are bytes, the length below 10^8. -/
import Derived.Test.YtilmkghopeoipaaF10
namespace Go.Proofs.Ytilmkghopeoipaa
open Go.RowKit Go.Kb

/-- the characters of a line's first p bytes, the last one first -/
def unitsR (u : Bool) (l : List Int) : Nat → Nat → List (List Int)
  | 0, _ => []
  | n + 1, p => if p = 0 then [] else (l.take p).drop (startL u (l.take p)) :: unitsR u l n (startL u (l.take p))
def unitsL (u : Bool) (l : List Int) : List (List Int) := (unitsR u l l.length l.length).reverse
theorem unitsR_zero (u : Bool) (l : List Int) (n : Nat) : unitsR u l n 0 = [] := by
  cases n <;> simp [unitsR]
theorem unitsR_step {u : Bool} {l : List Int} {n p : Nat} (hp : 0 < p) (hn : p ≤ n) (hl : p ≤ l.length) :
    startL u (l.take p) ≤ n - 1 ∧ unitsR u l n p = (l.take p).drop (startL u (l.take p)) :: unitsR u l (n - 1) (startL u (l.take p)) := by
  have h1 := start_take (u := u) hp hl
  obtain ⟨m, rfl⟩ : ∃ m, n = m + 1 := ⟨n - 1, by omega⟩
  refine ⟨by omega, ?_⟩
  simp only [unitsR, Nat.add_sub_cancel]
  rw [if_neg (by omega)]
theorem Blk.below {w w' : World} {B g : Nat} {t : TypeId} {cs : Array Value} (h : Blk w g t cs) (hb : Below B w w') (hg : g < B) : Blk w' g t cs := (hb.block g hg).trans h
theorem info_lb : (Try.prog.info? 27).map (fun i => (i.zero, i.size, i.bytes)) = some (some (.slice none 0 0), Lb.size, 24) := by kernel_rfl
theorem lb_rel {A : Nat → Prop} {w : World} {v : Value} {d : List Int} (h : RdS Ub A w v d) : Lb.rel A w [v] d := ⟨v, rfl, h⟩
set_option maxHeartbeats 800000 in
theorem units_any (t : Tm) (v : Value) (l : List Int) (w : World) (h : t.Ok) (hl : RI .u8 w v l) (hB : Bs l) (hn : l.length ≤ 100000000) : Calls Try.prog 13 #[.agg t.arr, v] w fun e w' =>
    ∃ A c, e = .returned (.slice A (unitsL (hasL t 42) l).length c) ∧ OwnS Lb 27 (w.heap.size + 1) (fun k => w.heap.size + 1 ≤ k) w' (.slice A (unitsL (hasL t 42) l).length c) (unitsL (hasL t 42) l) ∧ Ext w w' := by
  have hsz := t.size h
  have hS := fun v l w' hr hB => start_any t v l w' h hr hB
  generalize hasL t 42 = u at hS ⊢
  generalize t.arr = cs at hS hsz ⊢
  clear h
  obtain ⟨Ad, c, rfl, h1, h2⟩ := hl.shape
  have H := Lib.hid hl
  have HB := Lib.hid hB
  clear hl hB
  have HU : Hid ([] ++ unitsR u l l.length l.length = unitsR u l l.length l.length) := Lib.hid rfl
  have HL : Hid (unitsL u l = (unitsR u l l.length l.length).reverse) := Lib.hid rfl
  generalize unitsL u l = U at HL ⊢
  generalize hz : unitsR u l l.length l.length = z at HL
  have HZ := Lib.hid hz
  clear hz
  have hi : (Try.prog.info? 26).map (·.size) = some cs.size := by rw [hsz]; kernel_rfl
  have hA := Lib.hid (Blk.new w 26 cs)
  go_enter Try.func13, Try.ntmps13
  go_wp2
  go_loopw [5, 6] (fun s a wr => ∃ (acc : List (List Int)) (p n : Nat) (Ao : Option Addr) (co : Nat), s = .slice Ao acc.length co ∧ a = .int .i64 p ∧ p ≤ l.length ∧ p ≤ n ∧ acc.length + p ≤ l.length ∧ Hid (acc ++ unitsR u l n p = z) ∧ Hid (OwnS Lb 27 (w.heap.size + 1) (fun k => w.heap.size + 1 ≤ k) wr (.slice Ao acc.length co) acc) ∧ Hid (Blk wr w.heap.size 26 cs) ∧ Ext w wr) (fun _ a _ => (intOf a).toNat)
  case atStart => exact ⟨[], l.length, l.length, none, 0, rfl, rfl, Nat.le_refl _, Nat.le_refl _, by simp, Lib.hid (by rw [HZ.out]; rfl), Lib.hid (OwnS.nil _ _ _ _ _), hA, (by repeat (first | with_reducible exact Ext.refl _ | refine Ext.drewN ?_ _ | refine Ext.drew ?_ | refine Ext.alloc ?_ _ | assumption | (refine Below.trans ?_ (by assumption)) | (refine Ext.trans ?_ (by assumption)) | (refine Below.trans ?_ (Below.mono (by assumption) (by omega)))))⟩
  case round =>
    clear HU HZ hA
    obtain ⟨acc, p, n, Ao, co, rfl, rfl, hp, hpn, hac, HQ, HO, HA, hE⟩ := hrel
    by_cases h0 : p = 0
    · subst h0
      have hq := HQ.out
      rw [unitsR_zero, List.append_nil] at hq
      subst hq
      go_wp2_with fail
      refine (reverse_any _ acc _ HO.out (by omega)).mono ?_
      rintro e w2 ⟨rfl, O2, M2⟩
      have hr : U = acc.reverse := HL.out
      subst hr
      have hlr : acc.reverse.length = acc.length := List.length_reverse
      have O2 := Lib.hid O2
      have E2 : Ext w w2 := Mod.toExt hE M2 fun k hk he => by have := (HO.out.row k he).1; omega
      clear HL M2
      go_wp2
      go_ret
      exact ⟨Ao, co, by rw [hlr]; rfl, by rw [hlr]; exact O2.out, E2⟩
    · have d0 : (0 : Int) < p := by omega
      have hq := start_take (u := u) (l := l) (show 0 < p by omega) hp
      obtain ⟨f1, f2⟩ := unitsR_step (u := u) (l := l) (show 0 < p by omega) hpn hp
      have HR := Lib.hid (H.out.toA hp)
      have HS := Lib.hid fun w' (hr : RI .u8 w' (.slice Ad p c) (l.take p)) => hS _ _ w' hr (Bs.take HB.out p)
      have hcq : ¬ c = startL u (l.take p) := by omega
      have HF := HR.out.fromB (Nat.le_of_lt hq)
      rw [if_neg hcq] at HF
      have HF := Lib.hid HF
      have F2 := Lib.hid f2
      clear f2
      generalize startL u (l.take p) = q at hq HS HF F2 f1 hcq
      have i1 : (0 : Int) ≤ (p : Int) := by omega
      have i2 : (p : Int) ≤ (l.length : Int) := by omega
      have i3 : (p : Int) ≤ (c : Int) := by omega
      have i4 : (0 : Int) ≤ (q : Int) := by omega
      have i5 : (q : Int) ≤ (p : Int) := by omega
      have hdl : ((l.take p).drop q).length = p - q := by rw [List.length_drop, List.length_take]; omega
      clear hS
      go_wp2
      refine wp_region_held_drew (S := fun w' => Ext wr w') (by kernel_rfl) (by repeat (first | with_reducible exact Ext.refl _ | refine Ext.drewN ?_ _ | refine Ext.drew ?_ | refine Ext.alloc ?_ _ | assumption | (refine Below.trans ?_ (by assumption)) | (refine Ext.trans ?_ (by assumption)) | (refine Below.trans ?_ (Below.mono (by assumption) (by omega))))) (fun hHeld => ?_)
      (refine wpAnyH_take (i := 0) (v := .agg cs) rfl (by kernel_rfl) (by kernel_rfl) (by kernel_rfl) (fun _ _ _ h => h) (yieldsIf_load_row (by rfl) 26 _ rfl _ rfl 26 cs _ _ (fun w' hw' => Blk.ext HA.out hw') Try.underlying26 rfl hi) (by assumption) ?_; (try simp only [Act.put]); (try simp only [List.getElem_toArray]); (try simp only [List.getElem_cons_succ]); (try simp only [List.getElem_cons_zero]); (try simp only [List.setIfInBounds_toArray]); (try simp only [List.set_cons_succ]); (try simp only [List.set_cons_zero]))
      (refine wpAnyH_take (i := 1) (v := ?_) rfl (by kernel_rfl) (by kernel_rfl) (by kernel_rfl) (fun _ _ _ h => h) (Or.inl ⟨by rfl, ?_⟩) (by assumption) ?_; rotate_left; focus (intro w' hSw; go_simp; try with_reducible rfl); (try simp only [Act.put]); (try simp only [List.getElem_toArray]); (try simp only [List.getElem_cons_succ]); (try simp only [List.getElem_cons_zero]); (try simp only [List.setIfInBounds_toArray]); (try simp only [List.set_cons_succ]); (try simp only [List.set_cons_zero]))
      (refine wpAnyH_take (i := 2) (v := ?_) rfl (by kernel_rfl) (by kernel_rfl) (by kernel_rfl) (fun _ _ _ h => h) (Or.inl ⟨by rfl, ?_⟩) (by assumption) ?_; rotate_left; focus (intro w' hSw; go_simp; try with_reducible rfl); (try simp only [Act.put]); (try simp only [List.getElem_toArray]); (try simp only [List.getElem_cons_succ]); (try simp only [List.getElem_cons_zero]); (try simp only [List.setIfInBounds_toArray]); (try simp only [List.set_cons_succ]); (try simp only [List.set_cons_zero]))
      (refine wpAnyH_take (i := 3) (v := ?_) rfl (by kernel_rfl) (by kernel_rfl) (by kernel_rfl) (fun _ _ _ h => h) (Or.inl ⟨by rfl, ?_⟩) (by assumption) ?_; rotate_left; focus (intro w' hSw; go_simp; try with_reducible rfl); (try simp only [Act.put]); (try simp only [List.getElem_toArray]); (try simp only [List.getElem_cons_succ]); (try simp only [List.getElem_cons_zero]); (try simp only [List.setIfInBounds_toArray]); (try simp only [List.set_cons_succ]); (try simp only [List.set_cons_zero]))
      (refine wpAnyH_ready (rs := [4]) (by kernel_rfl) (by simp) ?_; refine AllReadyH.cons rfl (fun K hK => ?_) AllReadyH.nil; go_simp; go_at_call 22; refine (HS.out _ (HR.out.ext (by repeat (first | with_reducible exact Ext.refl _ | refine Ext.drewN ?_ _ | refine Ext.drew ?_ | refine Ext.alloc ?_ _ | assumption | (refine Below.trans ?_ (by assumption)) | (refine Ext.trans ?_ (by assumption)) | (refine Below.trans ?_ (Below.mono (by assumption) (by omega))))))).mono ?_; rintro e w1 ⟨rfl, E1⟩; (try dsimp only); refine hK.out _ _ (by repeat (first | with_reducible exact Ext.refl _ | refine Ext.drewN ?_ _ | refine Ext.drew ?_ | refine Ext.alloc ?_ _ | assumption | (refine Below.trans ?_ (by assumption)) | (refine Ext.trans ?_ (by assumption)) | (refine Below.trans ?_ (Below.mono (by assumption) (by omega))))) (fun hHeld => ?_); clear hK K; (try simp only [Act.put]); (try simp only [List.getElem_toArray]); (try simp only [List.getElem_cons_succ]); (try simp only [List.getElem_cons_zero]); (try simp only [List.setIfInBounds_toArray]); (try simp only [List.set_cons_succ]); (try simp only [List.set_cons_zero]))
      (refine wpAnyH_take (i := 5) (v := ?_) rfl (by kernel_rfl) (by kernel_rfl) (by kernel_rfl) (fun _ _ _ h => h) (Or.inl ⟨by rfl, ?_⟩) (by assumption) ?_; rotate_left; focus (intro w' hSw; go_simp; try with_reducible rfl); (try simp only [Act.put]); (try simp only [List.getElem_toArray]); (try simp only [List.getElem_cons_succ]); (try simp only [List.getElem_cons_zero]); (try simp only [List.setIfInBounds_toArray]); (try simp only [List.set_cons_succ]); (try simp only [List.set_cons_zero]))
      refine wpAnyH_done (by kernel_rfl) ?_ _
      have E01 : Ext wr w1 := (by repeat (first | with_reducible exact Ext.refl _ | refine Ext.drewN ?_ _ | refine Ext.drew ?_ | refine Ext.alloc ?_ _ | assumption | (refine Below.trans ?_ (by assumption)) | (refine Ext.trans ?_ (by assumption)) | (refine Below.trans ?_ (Below.mono (by assumption) (by omega)))))
      have Ew1 : Ext w w1 := hE.trans E01
      have HA1 := Lib.hid (HA.out.ext E01)
      have HO1 := Lib.hid (HO.out.ext E01)
      have hg := HA1.out.lt
      have HF1 : RI .u8 w1 (.slice (Option.map (fun x => x.add q) Ad) (p - q) (c - q)) ((l.take p).drop q) := RdN.ext HF.out Ew1
      have hcl := clone_u8 _ ((l.take p).drop q) w1 (RI.y (A := fun _ => True) HF1) (by rw [hdl]; omega)
      rw [hdl] at hcl
      have HN : ∀ k, w1.heap.size ≤ k → (Value.slice Ao acc.length co).ownBlock ≠ some k := fun k hk => HO1.out.newer hk
      clear E1 hHeld HA HO HF1
      go_wp2_with fail
      refine hcl.mono ?_
      rintro e w2 ⟨A2, c2, rfl, o2, E2⟩
      have N2 := Lib.hid (own_new (w0 := w1) o2 (Nat.le_refl _))
      clear o2 hcl
      have HO2 := Lib.hid (HO1.out.ext E2)
      have HA2 := Lib.hid (HA1.out.ext E2)
      have Ew2 := Ew1.trans E2
      have hs12 := E2.size
      go_wp2_with (at_builtin; refine wpList_app (e := Lb) (base := w.heap.size + 1) (B := fun k => w.heap.size + 1 ≤ k) (A := fun k => w1.heap.size ≤ k) rfl (.tmp 17) (.tmp 23) rfl Try.underlying35 info_lb rfl (HO2.out.alloc _) rfl (RdY.singleB (cs := [.slice A2 (p - q) c2]) (lb_rel (RdS.alloc N2.out _)) (Blk.new _ _ _)) rfl (fun k _ hk => ⟨by omega, HN k hk⟩) (N := acc.length + 1) (by simp) (by simp [maxLen]; omega) (by omega) (by simp; omega) ?_; intro A3 c3 w3 o3 M3 B3)
      have HA3 := Lib.hid (Blk.below (HA2.out.alloc _) B3 (by omega))
      have F3 : Hid ((acc ++ [(l.take p).drop q]) ++ unitsR u l (n - 1) q = z) := Lib.hid (by rw [← HQ.out, F2.out]; simp)
      have E3 : Ext w w3 := Below.trans (Ew2.alloc _) (B3.mono (by omega))
      have o3 := Lib.hid o3
      have hl3 : (acc ++ [(l.take p).drop q]).length = acc.length + 1 := by simp
      clear M3 B3 HN
      go_roundw
      case rel => exact ⟨acc ++ [(l.take p).drop q], q, n - 1, A3, c3, by rw [hl3], rfl, by omega, f1, by rw [hl3]; omega, F3, by rw [hl3]; exact o3, HA3, E3⟩
      case measure => simp [intOf]; omega
end Go.Proofs.Ytilmkghopeoipaa
