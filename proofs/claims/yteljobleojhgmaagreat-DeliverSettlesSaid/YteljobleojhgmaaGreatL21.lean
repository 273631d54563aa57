/- A process of a table is sent any signal, by contract. Condition: pending signals have 64 bits. -/
import Derived.Test.YteljobleojhgmaaGreatK21
namespace Go.Proofs.YteljobleojhgmaaGreat
open Go.RowKit Go.Kb

theorem sentP_pid {sig : Int} {p : Pr} : (sentP sig p).pid = p.pid := by
  unfold sentP preP contP fallP wakeP
  repeat' split
  all_goals rfl
/-- a table one of whose processes is sent any signal -/
def sentL (l : List Pr) (nx pid sig : Int) : List Pr × Int := if rightL l nx = true then if Sig.isL sig = true then if liveL l nx pid = true then (changeL (fun _ => sentP sig (getL l nx pid).1) (getL l nx pid).1.pid l, 0) else (l, 8) else (l, 2) else (l, 4)
theorem sentL_len {l : List Pr} {nx pid sig : Int} : (sentL l nx pid sig).1.length = l.length := by
  unfold sentL
  split
  · split
    · split
      · exact changeL_len
      · rfl
    · rfl
  · rfl
def SentPost (Ad : Option Addr) (c : Nat) (l : List Pr) (nx pid sig : Int) (w : World) (e : Ending) (w' : World) : Prop :=
  ∃ A' c', e = .returned (.tuple #[tv A' l.length c' nx, .int .i64 (sentL l nx pid sig).2]) ∧ TabS 42 Ad c l w.heap.size w' A' c' (sentL l nx pid sig).1 ∧ Ext w w'
set_option maxRecDepth 100000 in
set_option maxHeartbeats 800000 in
theorem sent_to {A : Nat → Prop} (Ad : Option Addr) (c : Nat) (l : List Pr) (nx pid sig : Int) (w : World) (h : RdY Rp A w (.slice Ad l.length c) l) (hb : ∀ p ∈ l, Sig.U64 p.pending) :
    Calls Tryz.prog 17 #[tv Ad l.length c nx, .int .i64 pid, .int .i64 sig] w (SentPost Ad c l nx pid sig w) := by
  have H := Lib.hid (rdy_pr (B := fun _ => False) h)
  have hoks := Lib.hid (RdY.oks h)
  obtain ⟨W, hW⟩ : ∃ W, W = (w.alloc (.cells #[.slice Ad l.length c, .int .i64 nx] 29)).alloc (.cells #[.slice none 0 0, .int .i64 0] 29) := ⟨_, rfl⟩
  have hres := Lib.hid (show Blk W (w.heap.size + 1) 29 #[.slice none 0 0, .int .i64 0] by rw [hW]; exact Blk.at_ _ _ (by simp))
  have hbox := Lib.hid (show Blk W w.heap.size 29 #[.slice Ad l.length c, .int .i64 nx] by rw [hW]; exact (Blk.new w _ _).alloc _)
  have E0 : Ext w W := by rw [hW]; exact (by repeat (first | with_reducible exact Ext.refl _ | refine Ext.drewN ?_ _ | refine Ext.drew ?_ | refine Ext.alloc ?_ _ | assumption | (refine Below.trans ?_ (by assumption)) | (refine Ext.trans ?_ (by assumption)) | (refine Below.trans ?_ (Below.mono (by assumption) (by omega)))))
  have HW := Lib.hid hW
  have HB := Lib.hid hb
  obtain ⟨kn, hkn⟩ : ∃ kn, Sig.isL sig = kn := ⟨_, rfl⟩
  have HNM := Lib.hid fun w' => Sig.name_any sig w'
  rw [hkn] at HNM
  have hsl : sentL l nx pid sig = if rightL l nx = true then if kn = true then if liveL l nx pid = true then (changeL (fun _ => sentP sig (getL l nx pid).1) (getL l nx pid).1.pid l, 0) else (l, 8) else (l, 2) else (l, 4) := by rw [← hkn]; rfl
  have HSL := Lib.hid hsl
  clear h hW hb hkn hsl
  unfold SentPost
  go_enter Tryz.func17, Tryz.ntmps17
  go_wp2_with fail
  rw [← HW.out]
  refine (HNM.out _).mono ?_
  rintro e w1 ⟨rfl, E1⟩
  generalize (if kn = true then Sig.nameB sig.toNat else ⟨#[]⟩ : ByteArray) = nm at *
  have kb := (hbox.out.ext E1).two
  have E01 := E0.trans E1
  have HR := Lib.hid (dright_any (A := fun _ => False) Ad c l nx w1 (H.out.ext E01))
  clear HNM
  go_wp2_with fail
  refine HR.out.mono ?_
  rintro e w2 ⟨rfl, E2⟩
  have E12 := E1.trans E2
  have E02 := E01.trans E2
  have kb := (hbox.out.ext E12).two
  have ks := (hres.out.ext E12).two
  clear HR E2
  cases hr : rightL l nx
  · have HR := Lib.hid hr
    clear hr
    have hM8 : Mod (fun k => k = w.heap.size + 1) w2 _ := ((Mod.refl _ w2).set1 (.slice Ad l.length c) (o := 0)).set1 (.int .i64 nx) (o := 1)
    obtain ⟨q0, q1, _, _⟩ := ((hres.out.ext E12).put2 (.slice Ad l.length c) (.int .i64 nx)).two
    go_wp2
    refine bodyPost_ret (v := .tuple #[tv Ad l.length c nx, .int .i64 4]) (by simp [results, Tryz.results17, go_sem, q0, q1]) rfl ?_
    rw [HSL.out, HR.out]
    have EE : Ext w _ := Mod.toExt E02 hM8 (by intro k hk he; omega)
    exact ⟨Ad, c, rfl, .inl ⟨rfl, rfl, rfl⟩, EE⟩
  · have HR := Lib.hid hr
    clear hr
    rcases Bool.eq_false_or_eq_true kn with hk | hk
    case inr =>
      subst hk
      have HK := Lib.hid (show false = false from rfl)
      have hM8 : Mod (fun k => k = w.heap.size + 1) w2 _ := ((Mod.refl _ w2).set1 (.slice Ad l.length c) (o := 0)).set1 (.int .i64 nx) (o := 1)
      obtain ⟨q0, q1, _, _⟩ := ((hres.out.ext E12).put2 (.slice Ad l.length c) (.int .i64 nx)).two
      go_wp2
      refine bodyPost_ret (v := .tuple #[tv Ad l.length c nx, .int .i64 2]) (by simp [results, Tryz.results17, go_sem, q0, q1]) rfl ?_
      rw [HSL.out, HR.out]
      have EE : Ext w _ := Mod.toExt E02 hM8 (by intro k hk he; omega)
      exact ⟨Ad, c, rfl, .inl ⟨rfl, rfl, rfl⟩, EE⟩
    subst hk
    have HL := Lib.hid (live_any (A := fun _ => False) Ad c l nx pid w2 (H.out.ext E02))
    clear ks
    go_wp2_with fail
    refine HL.out.mono ?_
    rintro e w3 ⟨rfl, E3⟩
    have E13 := E12.trans E3
    have E03 := E02.trans E3
    have kb := (hbox.out.ext E13).two
    have ks := (hres.out.ext E13).two
    clear HL E3
    cases hl : liveL l nx pid
    · have HL := Lib.hid hl
      clear hl
      have hM8 : Mod (fun k => k = w.heap.size + 1) w3 _ := ((Mod.refl _ w3).set1 (.slice Ad l.length c) (o := 0)).set1 (.int .i64 nx) (o := 1)
      obtain ⟨q0, q1, _, _⟩ := ((hres.out.ext E13).put2 (.slice Ad l.length c) (.int .i64 nx)).two
      go_wp2
      refine bodyPost_ret (v := .tuple #[tv Ad l.length c nx, .int .i64 8]) (by simp [results, Tryz.results17, go_sem, q0, q1]) rfl ?_
      rw [HSL.out, HR.out, HL.out]
      have EE : Ext w _ := Mod.toExt E03 hM8 (by intro k hk he; omega)
      exact ⟨Ad, c, rfl, .inl ⟨rfl, rfl, rfl⟩, EE⟩
    · obtain ⟨_, p, hgp, hpl, _⟩ := askL_live (live_ask hl)
      have HL := Lib.hid hl
      have hpok := hoks.out p hpl
      have hpp := HB.out p hpl
      have hG := get_any (A := fun _ => False) Ad c l nx pid w3 (H.out.ext E03)
      rw [hgp] at hG
      have HG := Lib.hid hG
      have HSL := Lib.hid (HSL.out.trans (by rw [HR.out, HL.out, hgp]; rfl) : sentL l nx pid sig = (changeL (fun _ => sentP sig p) p.pid l, 0))
      have HPP := Lib.hid hpp
      clear hl hgp hG ks hpp hpl
      go_wp2_with fail
      refine HG.out.mono ?_
      rintro e w4 ⟨rfl, E4⟩
      have E14 := E13.trans E4
      have E04 := E03.trans E4
      obtain ⟨n10, hn10⟩ : ∃ n10, w4.heap.size = n10 := ⟨_, rfl⟩
      clear kb HG E4
      go_wp2_with ((refine wpList_store_A rfl 42 _ _ rfl (n10) _ rfl rfl 42 _ (zero_row w4 n10 hn10) (by rw [List.size_toArray]; exact i43' hpok) (Eq.trans (b := 43) (by rfl) (Eq.symm (show (p).cells.toArray.size = 43 from Pr.size hpok))) (Pr.one hpok) ?_); intro w5 H5 E5; have E45 : Ext w4 w5 := E5 w4.heap.size w4 ((Ext.refl w4).alloc _) (by omega); have b10 := Lib.hid H5; clear E5 H5)
      have E15 := E14.trans E45
      have E05 := E04.trans E45
      refine (sent_any p sig n10 w5 b10.out hpok HPP.out).mono ?_
      rintro e w6 ⟨rfl, B6, M6⟩
      have hn1 := (hres.out.ext E14).lt
      have hz0 := E0.size
      have B6 := Lib.hid B6
      have hbox6 := Lib.hid ((hbox.out.ext E15).mod M6 (by omega))
      have hres6 := Lib.hid ((hres.out.ext E15).mod M6 (by omega))
      have E06 : Ext w w6 := Mod.toExt E05 M6 (by intro k hk he; have := E04.size; omega)
      have R6 := Lib.hid ((H.out.ext E04).ext (Mod.toExt E45 M6 (by intro k hk he; omega)))
      have hqok : (sentP sig p).ok := preP_ok hpok
      have hqp : (sentP sig p).pid = p.pid := sentP_pid
      generalize sentP sig p = q at *
      have kb := hbox6.out.two
      clear b10 M6 hn10 E45 E15 E05 hz0
      go_wp2_with (refine wpList_load_row rfl 42 _ rfl _ rfl 42 _ _ _ B6.out Tryz.underlying42 rfl (by rw [List.size_toArray]; exact i43' hqok) ?_)
      refine (set_any Ad c l nx q _ R6.out hqok).mono ?_
      rintro e w7 ⟨E7, ⟨hr, _⟩ | ⟨_, A7, c7, rfl, O7⟩⟩
      · rw [HR.out] at hr; cases hr
      rw [hqp] at O7
      have E07 := E06.trans E7
      have ks := (hres6.out.ext E7).two
      have hM8 : Mod (fun k => k = w.heap.size + 1) w7 _ := ((Mod.refl _ w7).set1 (.slice A7 l.length c7) (o := 0)).set1 (.int .i64 nx) (o := 1)
      obtain ⟨q0, q1, _, _⟩ := ((hres6.out.ext E7).put2 (.slice A7 l.length c7) (.int .i64 nx)).two
      have hz6 : w.heap.size + 1 < w6.heap.size := hres6.out.lt
      have O8 := Lib.hid (O7.mod hM8 (fun k hk he => by have := (O7.row k hk).1; omega) (fun k _ hk _ => hk))
      clear O7 kb hz6
      go_wp2
      refine bodyPost_ret (v := .tuple #[tv A7 l.length c7 nx, .int .i64 0]) (by simp [results, Tryz.results17, go_sem, q0, q1]) rfl ?_
      rw [HSL.out]
      exact ⟨A7, c7, rfl, .inr (O8.out.lower E06.size), Mod.toExt E07 hM8 (by intro k hk he; omega)⟩
end Go.Proofs.YteljobleojhgmaaGreat
