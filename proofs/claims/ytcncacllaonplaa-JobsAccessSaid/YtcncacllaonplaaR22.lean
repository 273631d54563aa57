/- Ask, by contract. Conditions: sets have 64 bits. -/
import Derived.Test.YtcncacllaonplaaQ22
import Derived.Test.YtcncacllaonplaaI22
namespace Go.Proofs.Ytcncacllaonplaa
open Go.RowKit Go.Kb

theorem acc_sig {l : List Pr} {nx s g : Int} {ts : Bool} {pid : Int} {wr : Bool} : (accL l nx s g ts pid wr).1 = 2 → (accL l nx s g ts pid wr).2 = 1 ∨ (accL l nx s g ts pid wr).2 = 21 ∨ (accL l nx s g ts pid wr).2 = 22 := by
  unfold accL
  cases wr
  all_goals
    simp only [Bool.false_eq_true, if_false, if_true]
    repeat' split
    all_goals first
      | (intro h; exact absurd h (by decide))
      | (intro _; exact .inr (.inl rfl))
      | (intro _; exact .inr (.inr rfl))
/-- the table behind an Ask -/
def askT (l : List Pr) (nx s g : Int) (ts : Bool) (pid : Int) (wr : Bool) : List Pr :=
  if (accL l nx s g ts pid wr).1 = 2 then groupL l nx (getL l nx pid).1.group (accL l nx s g ts pid wr).2 else l
theorem enters_fellows (args : Array Value) (w : World) : (callFunc 48 args).run Try.prog w = .ok (.enter 48 args) w := by kernel_rfl
set_option maxRecDepth 100000 in
set_option maxHeartbeats 3000000 in
theorem askT_any {A : Nat → Prop} (Ad : Option Addr) (c : Nat) (l : List Pr) (nx s g0 : Int) (ts : Bool) (pid : Int) (wr : Bool) (w : World) (h : RdY Rp A w (.slice Ad l.length c) l) (hm : ∀ p ∈ l, Sig.U64 p.mask) (hb : ∀ p ∈ l, Sig.U64 p.pending) :
    Calls Try.prog 18 #[tv Ad l.length c nx, .agg #[.int .i64 s, .int .i64 g0, .bool ts], .int .i64 pid, .bool wr] w fun e w' => ∃ A' c', e = .returned (.tuple #[tv A' l.length c' nx, .int .i64 (accL l nx s g0 ts pid wr).1]) ∧ TabS 40 Ad c l w.heap.size w' A' c' (askT l nx s g0 ts pid wr) ∧ Ext w w' := by
  have H := Lib.hid (rdy_pr (B := fun _ => False) h)
  obtain ⟨N, hN⟩ : ∃ N, l.length = N := ⟨_, rfl⟩
  obtain ⟨W, hW⟩ : ∃ W, W = (((w.alloc (.cells #[.slice Ad N c, .int .i64 nx] 28)).alloc (.cells #[.int .i64 s, .int .i64 g0, .bool ts] 33)).alloc (.cells #[.slice none 0 0, .int .i64 0] 28)).alloc (.cells #[.slice Ad N c, .int .i64 nx] 93) := ⟨_, rfl⟩
  have hsnd := Lib.hid (show Blk W (w.heap.size + 3) 93 #[.slice Ad N c, .int .i64 nx] by rw [hW]; exact Blk.at_ _ _ (by simp))
  have hres := Lib.hid (show Blk W (w.heap.size + 2) 28 #[.slice none 0 0, .int .i64 0] by rw [hW]; exact (Blk.at_ _ _ (by simp)).alloc _)
  have hty := Lib.hid (show Blk W (w.heap.size + 1) 33 #[.int .i64 s, .int .i64 g0, .bool ts] by rw [hW]; exact ((Blk.at_ _ _ (by simp)).alloc _).alloc _)
  have hbox := Lib.hid (show Blk W w.heap.size 28 #[.slice Ad N c, .int .i64 nx] by rw [hW]; exact (((Blk.new w _ _).alloc _).alloc _).alloc _)
  have E0 : Ext w W := by rw [hW]; exact (by repeat (first | with_reducible exact Ext.refl _ | refine Ext.drewN ?_ _ | refine Ext.drew ?_ | refine Ext.alloc ?_ _ | assumption | (refine Below.trans ?_ (by assumption)) | (refine Ext.trans ?_ (by assumption)) | (refine Below.trans ?_ (Below.mono (by assumption) (by omega)))))
  have hacc := access_any (A := fun _ => False) Ad c l nx s g0 ts pid wr W (by exact H.out.ext E0) hm
  have hsg := acc_sig (l := l) (nx := nx) (s := s) (g := g0) (ts := ts) (pid := pid) (wr := wr)
  have hfl := fun sig hs n w h hB => fellows_any (A := fun _ => False) Ad c l nx pid sig hs n w h hb hB
  have hat : askT l nx s g0 ts pid wr = if (accL l nx s g0 ts pid wr).1 = 2 then groupL l nx (getL l nx pid).1.group (accL l nx s g0 ts pid wr).2 else l := rfl
  rw [hN] at H hacc hfl ⊢
  obtain ⟨⟨v, x⟩, hac⟩ : ∃ a, accL l nx s g0 ts pid wr = a := ⟨_, rfl⟩
  rw [hac] at hacc hsg hat ⊢
  simp only [] at hacc hsg hat ⊢
  have HACC := Lib.hid hacc
  have HSG := Lib.hid hsg
  have HFL := Lib.hid hfl
  have HAT := Lib.hid hat
  have HW := Lib.hid hW
  have HN := Lib.hid hN
  clear h hm hb hacc hsg hfl hat hac hW hN
  go_enter Try.func18, Try.ntmps18
  go_wp2_with fail
  rw [← HW.out]
  have kb := hbox.out.two
  have y0 := hty.out.cell 0
  have y1 := hty.out.cell 1
  have y2 := hty.out.cell 2
  go_wp2_with fail
  refine HACC.out.mono ?_
  rintro e w1 ⟨rfl, E1⟩
  have E01 := E0.trans E1
  have hsnd := Lib.hid (hsnd.out.ext E1)
  have hres := Lib.hid (hres.out.ext E1)
  clear kb y0 y1 y2 hbox hty HACC
  by_cases hv : v = 2
  · have hvb : (v == 2) = true := by simpa using hv
    have HAT := Lib.hid (HAT.out.trans (if_pos hv))
    have HS := Lib.hid (HSG.out hv)
    clear HSG
    subst hv
    go_wp2_with fail
    refine (HFL.out x HS.out (w.heap.size + 1 + 1 + 1) w1 (H.out.ext E01) hsnd.out).mono ?_
    rintro e w2 ⟨rfl, ⟨A2, c2, B2, T2⟩, M2⟩
    rw [HN.out] at B2
    have hlt := hres.out.lt
    have hres := Lib.hid (hres.out.mod M2 (by omega))
    have E02 : Ext w w2 := Mod.toExt E01 M2 (by intro k hk he; omega)
    have T2 := Lib.hid (T2.lower E01.size)
    have ks := B2.two
    have kr := hres.out.two
    have hM7 : Mod (fun k => k = w.heap.size + 2) w2 _ := ((Mod.refl _ w2).set1 (.slice A2 N c2) (o := 0)).set1 (.int .i64 nx) (o := 1)
    obtain ⟨q0, q1, _, _⟩ := (hres.out.put2 (.slice A2 N c2) (.int .i64 nx)).two
    clear hlt
    go_wp2
    refine bodyPost_ret (v := .tuple #[tv A2 N c2 nx, .int .i64 2]) (by simp [results, Try.results18, go_sem, q0, q1]) rfl ?_
    rw [HAT.out]
    exact ⟨A2, c2, rfl, T2.out.mod hM7 hres.out (by decide), Mod.toExt E02 hM7 (by intro k hk he; omega)⟩
  · have hvb : (v == 2) = false := by simpa using hv
    have HAT := Lib.hid (HAT.out.trans (if_neg hv))
    have ks := hsnd.out.two
    have hM7 : Mod (fun k => k = w.heap.size + 2) w1 _ := ((Mod.refl _ w1).set1 (.slice Ad N c) (o := 0)).set1 (.int .i64 nx) (o := 1)
    obtain ⟨q0, q1, _, _⟩ := (hres.out.put2 (.slice Ad N c) (.int .i64 nx)).two
    have kr := hres.out.two
    go_wp2
    refine bodyPost_ret (v := .tuple #[tv Ad N c nx, .int .i64 v]) (by simp [results, Try.results18, go_sem, q0, q1]) rfl ?_
    rw [HAT.out]
    exact ⟨Ad, c, rfl, .inl ⟨rfl, rfl, rfl⟩, Mod.toExt E01 hM7 (by intro k hk he; omega)⟩
end Go.Proofs.Ytcncacllaonplaa
