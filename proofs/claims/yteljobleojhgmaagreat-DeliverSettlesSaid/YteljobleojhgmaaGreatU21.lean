/- Finish, by contract. Condition: pending signals have 64 bits. -/
import Derived.Test.YteljobleojhgmaaGreatT21
namespace Go.Proofs.YteljobleojhgmaaGreat
open Go.RowKit Go.Kb

/-- a group that nobody sees to any more, and that has a stopped process -/
def newP (l u : List Pr) (nx g : Int) : Bool := seenL l nx g && (orphL u nx g && u.any (haltP g))
/-- a group is sent signals -/
def grpsL (l : List Pr) (nx g : Int) (ss : List Int) : List Pr := ss.foldl (fun l s => sgrpL l nx g s) l
theorem grpsL_len {nx g : Int} : ∀ {ss : List Int} {l : List Pr}, (grpsL l nx g ss).length = l.length
  | [], _ => rfl
  | s :: ss, l => by
    show (grpsL (sgrpL l nx g s) nx g ss).length = l.length
    rw [grpsL_len, sgrpL_len]
theorem grpsL_take {l : List Pr} {nx g : Int} {ss : List Int} {m : Nat} {x : Int} (h : ss[m]? = some x) : grpsL l nx g (ss.take (m + 1)) = sgrpL (grpsL l nx g (ss.take m)) nx g x := by
  unfold grpsL
  rw [List.take_add_one, h, List.foldl_append]
  rfl
theorem sgrpL_bd {l : List Pr} {nx g s : Int} (h : ∀ p ∈ l, Sig.U64 p.pending) : ∀ p ∈ sgrpL l nx g s, Sig.U64 p.pending := sentsL_bd h
theorem grpsL_bd {nx g : Int} : ∀ {ss : List Int} {l : List Pr}, (∀ p ∈ l, Sig.U64 p.pending) → ∀ p ∈ grpsL l nx g ss, Sig.U64 p.pending
  | [], _, h => h
  | s :: ss, l, h => grpsL_bd (ss := ss) (l := sgrpL l nx g s) (sgrpL_bd h)
def hupS : List Int := [1, 18]
def tellL (l u : List Pr) (nx : Int) (out : List Pr) (gs : List Int) : List Pr := gs.foldl (fun out g => if newP l u nx g = true then grpsL out nx g hupS else out) out
theorem tellL_len {l u : List Pr} {nx : Int} : ∀ {gs : List Int} {out : List Pr}, (tellL l u nx out gs).length = out.length
  | [], _ => rfl
  | g :: gs, out => by
    show (tellL l u nx (if newP l u nx g = true then grpsL out nx g hupS else out) gs).length = out.length
    rw [tellL_len]
    split
    · exact grpsL_len
    · rfl
theorem tellL_take {l u : List Pr} {nx : Int} {out : List Pr} {gs : List Int} {m : Nat} {x : Int} (h : gs[m]? = some x) :
    tellL l u nx out (gs.take (m + 1)) = if newP l u nx x = true then grpsL (tellL l u nx out (gs.take m)) nx x hupS else tellL l u nx out (gs.take m) := by
  unfold tellL
  rw [List.take_add_one, h, List.foldl_append]
  rfl
theorem tellL_bd {l u : List Pr} {nx : Int} : ∀ {gs : List Int} {out : List Pr}, (∀ p ∈ out, Sig.U64 p.pending) → ∀ p ∈ tellL l u nx out gs, Sig.U64 p.pending
  | [], _, h => h
  | g :: gs, out, h => by
    show ∀ p ∈ tellL l u nx (if newP l u nx g = true then grpsL out nx g hupS else out) gs, Sig.U64 p.pending
    refine tellL_bd ?_
    split
    · exact grpsL_bd h
    · exact h
theorem freeN_sub : ∀ (n : Nat) {l : List Pr} {p : Pr}, p ∈ freeN n l → p ∈ l
  | 0, _, _, h => h
  | n + 1, l, p, h => by
    unfold freeN at h
    split at h
    · exact h
    · exact List.mem_of_mem_eraseIdx (freeN_sub n h)
theorem endL_bd {l : List Pr} {pid st : Int} (h : ∀ p ∈ l, Sig.U64 p.pending) : ∀ p ∈ endL l pid st, Sig.U64 p.pending := by
  have h1 : ∀ p ∈ (changeL (endP st) pid l).map (orphan pid), Sig.U64 p.pending := by
    intro p hp
    obtain ⟨q, hq, rfl⟩ := List.mem_map.1 hp
    have e : (orphan pid q).pending = q.pending := by unfold orphan; split <;> rfl
    rw [e]
    rcases change_in hq with h2 | ⟨x, _, rfl⟩
    · exact h q h2
    · exact ⟨Int.le_refl 0, by show (0 : Int) < _; decide⟩
  have h2 : ∀ gp, ∀ p ∈ tellUp gp ((changeL (endP st) pid l).map (orphan pid)), Sig.U64 p.pending := by
    intro gp p hp
    unfold tellUp at hp
    split at hp
    · exact h1 p hp
    · split at hp
      · exact h1 p hp
      · rename_i k _ up hup
        rcases List.mem_or_eq_of_mem_set hp with h3 | rfl
        · exact h1 p h3
        · have h4 := h1 up (List.mem_of_getElem? hup)
          show Sig.U64 (orL up.pending 17)
          rw [orL_add h4]
          exact Sig.addL_bd h4 17
  intro p hp
  unfold endL at hp
  exact h2 _ p (freeN_sub _ hp)
/-- a table whose process has ended, and what comes of it -/
def finL (l : List Pr) (nx pid st : Int) : List Pr × Int := if askL l nx [pid] = 0 then (tellL l (endL l pid st) nx (endL l pid st) (groupsL l), 0) else (l, askL l nx [pid])
theorem finL_bd {l : List Pr} {nx pid st : Int} (h : ∀ p ∈ l, Sig.U64 p.pending) : ∀ p ∈ (finL l nx pid st).1, Sig.U64 p.pending := by
  unfold finL
  split
  · exact tellL_bd (endL_bd h)
  · exact h
/-- the slice that was handed in, or one in new memory, of whatever length -/
def TabN (T : TypeId) (Ad : Option Addr) (c : Nat) (l0 : List Pr) (base : Nat) (w : World) (A' : Option Addr) (c' : Nat) (l : List Pr) : Prop :=
  (A' = Ad ∧ c' = c ∧ l = l0) ∨ OwnS Rp T base (fun _ => False) w (.slice A' l.length c') l
theorem TabN.y {A : Nat → Prop} {T : TypeId} {Ad A' : Option Addr} {c c' base : Nat} {l0 l : List Pr} {w0 w : World} (h : TabN T Ad c l0 base w A' c' l) (hR : RdY Rp A w0 (.slice Ad l0.length c) l0) (E : Ext w0 w) : RdY Rp (fun _ => False) w (.slice A' l.length c') l := by
  rcases h with ⟨rfl, rfl, rfl⟩ | h
  · exact rdy_pr (hR.ext E)
  · exact rdy_pr h.y
def FinPost (Ad : Option Addr) (c : Nat) (l : List Pr) (nx pid st : Int) (w : World) (e : Ending) (w' : World) : Prop :=
  ∃ A' c', e = .returned (.tuple #[tv A' (finL l nx pid st).1.length c' nx, .int .i64 (finL l nx pid st).2]) ∧ TabN 42 Ad c l w.heap.size w' A' c' (finL l nx pid st).1 ∧ Ext w w'
set_option maxRecDepth 100000 in
set_option maxHeartbeats 3000000 in
theorem finish_any {A : Nat → Prop} (Ad : Option Addr) (c : Nat) (l : List Pr) (nx pid st : Int) (w : World) (h : RdY Rp A w (.slice Ad l.length c) l) (hb : ∀ p ∈ l, Sig.U64 p.pending) :
    Calls Tryz.prog 19 #[tv Ad l.length c nx, .int .i64 pid, .int .i64 st] w (FinPost Ad c l nx pid st w) := by
  have H := Lib.hid (rdy_pr (B := fun _ => False) h)
  obtain ⟨W, hW⟩ : ∃ W, W = (w.alloc (.cells #[.slice Ad l.length c, .int .i64 nx] 29)).alloc (.cells #[.slice none 0 0, .int .i64 0] 29) := ⟨_, rfl⟩
  have hres := Lib.hid (show Blk W (w.heap.size + 1) 29 #[.slice none 0 0, .int .i64 0] by rw [hW]; exact Blk.at_ _ _ (by simp))
  have hbox := Lib.hid (show Blk W w.heap.size 29 #[.slice Ad l.length c, .int .i64 nx] by rw [hW]; exact (Blk.new w _ _).alloc _)
  have E0 : Ext w W := by rw [hW]; exact (by repeat (first | with_reducible exact Ext.refl _ | refine Ext.drewN ?_ _ | refine Ext.drew ?_ | refine Ext.alloc ?_ _ | assumption | (refine Below.trans ?_ (by assumption)) | (refine Ext.trans ?_ (by assumption)) | (refine Below.trans ?_ (Below.mono (by assumption) (by omega)))))
  have HW2 := Lib.hid (show W.heap.size = w.heap.size + 2 by rw [hW]; simp)
  have HW := Lib.hid hW
  have HEND := Lib.hid (end_any (A := fun _ => False) Ad c l nx pid st W (H.out.ext E0))
  obtain ⟨e0, he0⟩ : ∃ e0, askL l nx [pid] = e0 := ⟨_, rfl⟩
  have HE := Lib.hid he0
  have HB := Lib.hid hb
  have HF := Lib.hid (show finL l nx pid st = if e0 = 0 then (tellL l (endL l pid st) nx (endL l pid st) (groupsL l), 0) else (l, e0) by unfold finL; rw [he0])
  obtain ⟨FL, hFL⟩ : ∃ FL, finL l nx pid st = FL := ⟨_, rfl⟩
  rw [hFL] at HF
  unfold FinPost
  rw [hFL]
  unfold EndPost at HEND
  rw [he0] at HEND
  clear h hW he0 hb hFL
  go_enter Tryz.func19, Tryz.ntmps19
  go_wp2_with fail
  rw [← HW.out]
  have kb := hbox.out.two
  go_wp2_with fail
  refine HEND.out.mono ?_
  rintro e w1 ⟨E1, (⟨hne, rfl⟩ | ⟨hz, A1, c1, rfl, O1⟩)⟩
  · have HF := Lib.hid (HF.out.trans (if_neg hne))
    have hnb : (e0 != 0) = true := by simpa using hne
    have E01 := E0.trans E1
    have kb := (hbox.out.ext E1).two
    have ks := (hres.out.ext E1).two
    clear HEND
    go_upto_region 2 with fail
    obtain ⟨W2, hW2⟩ : ∃ W2, W2 = w1.alloc (.cells #[.slice Ad l.length c, .int .i64 nx] 29) := ⟨_, rfl⟩
    rw [← hW2]
    have E12 : Ext w1 W2 := by rw [hW2]; exact (Ext.refl w1).alloc _
    have kb := ((hbox.out.ext E1).ext E12).two
    have ks := ((hres.out.ext E1).ext E12).two
    have hM8 : Mod (fun k => k = w.heap.size + 1) W2 _ := ((Mod.refl _ W2).set1 (.slice Ad l.length c) (o := 0)).set1 (.int .i64 nx) (o := 1)
    obtain ⟨q0, q1, _, _⟩ := (((hres.out.ext E1).ext E12).put2 (.slice Ad l.length c) (.int .i64 nx)).two
    have E02 := E01.trans E12
    have HX := Lib.hid hne
    clear hne hW2
    go_wp2
    refine bodyPost_ret (v := .tuple #[tv Ad l.length c nx, .int .i64 e0]) (by simp [results, Tryz.results19, go_sem, q0, q1]) rfl ?_
    rw [HF.out]
    have EE : Ext w _ := Mod.toExt E02 hM8 (by intro k hk he; omega)
    exact ⟨Ad, c, rfl, .inl ⟨rfl, rfl, rfl⟩, EE⟩
  subst hz
  have HF0 := Lib.hid (show FL = (tellL l (endL l pid st) nx (endL l pid st) (groupsL l), 0) from HF.out.trans (if_pos rfl))
  clear HF
  obtain ⟨hr, p0, h0g, hpl, h0p⟩ := askL_live HE.out
  have hl := Lib.hid (right_len hr).1
  have hl0 := Lib.hid (show 0 < l.length from List.length_pos_of_mem hpl)
  obtain ⟨U, hU⟩ : ∃ U, endL l pid st = U := ⟨_, rfl⟩
  have HUB := Lib.hid (show ∀ p ∈ U, Sig.U64 p.pending by rw [← hU]; exact endL_bd HB.out)
  rw [hU] at O1 HF0 ⊢
  obtain ⟨n, hn⟩ : ∃ n, U.length = n := ⟨_, rfl⟩
  rw [hn] at O1 ⊢
  have HN := Lib.hid hn
  have E01 := E0.trans E1
  have kb := (hbox.out.ext E1).two
  have O1 := Lib.hid O1
  clear HEND hr hpl h0g h0p p0 hU hn HB
  go_upto_region 2 with fail
  obtain ⟨W2, hW2⟩ : ∃ W2, W2 = w1.alloc (.cells #[.slice A1 n c1, .int .i64 nx] 29) := ⟨_, rfl⟩
  rw [← hW2]
  have E12 : Ext w1 W2 := by rw [hW2]; exact (Ext.refl w1).alloc _
  have B8 := Lib.hid (show Blk W2 w1.heap.size 29 #[.slice A1 n c1, .int .i64 nx] by rw [hW2]; exact Blk.at_ (w := w1) _ _ rfl)
  have E02 := E01.trans E12
  have EW2 := E1.trans E12
  have hbox2 := Lib.hid (hbox.out.ext EW2)
  have hres2 := Lib.hid (hres.out.ext EW2)
  have RL2 := Lib.hid (H.out.ext E02)
  have RU2 := Lib.hid (rdy_pr (B := fun _ => False) (O1.out.ext E12).y)
  have OU := Lib.hid (O1.out.ext E12)
  obtain ⟨n8, hn8⟩ : ∃ n8, w1.heap.size = n8 := ⟨_, rfl⟩
  rw [hn8] at B8 ⊢
  have k8 := B8.out.two
  clear hW2 O1 hn8 kb hbox hres HW
  go_upto_region 5 with fail
  obtain ⟨W4, hW4⟩ : ∃ W4, W4 = W2.alloc (.cells #[.slice A1 n c1, .int .i64 nx] 29) := ⟨_, rfl⟩
  rw [← hW4]
  have E24 : Ext W2 W4 := by rw [hW4]; exact (Ext.refl W2).alloc _
  have B10 := Lib.hid (show Blk W4 W2.heap.size 29 #[.slice A1 n c1, .int .i64 nx] by rw [hW4]; exact Blk.at_ (w := W2) _ _ rfl)
  obtain ⟨n10, hn10⟩ : ∃ n10, W2.heap.size = n10 := ⟨_, rfl⟩
  have HN10 := Lib.hid hn10
  rw [hn10] at B10 ⊢
  have HS4 := Lib.hid (show n10 < W4.heap.size from B10.out.lt)
  have kb := (hbox2.out.ext E24).two
  have HG := Lib.hid (groups_any (A := fun _ => False) Ad c l nx W4 (RL2.out.ext E24) (by have := hl.out; omega) hl0.out)
  obtain ⟨GS, hGS⟩ : ∃ GS, groupsL l = GS := ⟨_, rfl⟩
  rw [hGS] at HG HF0
  obtain ⟨K, hK⟩ : ∃ K, GS.length = K := ⟨_, rfl⟩
  rw [hK] at HG
  have HK32 := Lib.hid (show K ≤ 32 by rw [← hK, ← hGS]; exact Nat.le_trans (groupsL_len l) hl.out)
  have HK := Lib.hid hK
  clear hn10 hW4 k8 hGS hK
  go_wp2_with fail
  refine HG.out.mono ?_
  rintro e w5 ⟨A5, c5, rfl, O5, E5⟩
  have E25 := E24.trans E5
  have B10 := Lib.hid (B10.out.ext E5)
  have O5 := Lib.hid O5
  have HT5 : Hid (TabS 42 A1 c1 U n10 w5 A1 c1 U) := Lib.hid (.inl ⟨rfl, rfl, rfl⟩)
  have HKb := Lib.hid (show K ≤ 9223372036854775807 by have := HK32.out; omega)
  clear HG kb
  go_wp2
  go_loopw [30] (fun i wr => ∃ (m : Nat) (A' : Option Addr) (c' : Nat), m ≤ K ∧ i = .int .i64 m ∧ Hid (Blk wr n10 29 #[.slice A' n c', .int .i64 nx]) ∧ Hid (TabS 42 A1 c1 U n10 wr A' c' (tellL l U nx U (GS.take m))) ∧ Hid (Mod (fun k => k = n10) w5 wr)) (fun i _ => K - (intOf i).toNat)
  case atStart => exact ⟨0, A1, c1, Nat.zero_le _, rfl, B10, HT5, Lib.hid (Mod.refl _ _)⟩
  case round =>
    obtain ⟨m, A', c', hm, rfl, BR, HT, HM⟩ := hrel
    obtain ⟨wq, rfl⟩ : ∃ wq, wq = wr := ⟨_, rfl⟩
    have hkb := HKb.out
    have E2q : Ext W2 wq := Mod.toExt E25 HM.out (by intro k hk he; have := HN10.out; omega)
    have OQ := Lib.hid (O5.out.mod HM.out (fun k hk he => by have := (O5.out.row k hk).1; have := HS4.out; omega) (fun _ _ hk _ => hk))
    have HTL := Lib.hid (show (tellL l U nx U (GS.take m)).length = U.length from tellL_len)
    by_cases hmn : m < K
    · obtain ⟨b, off, u, x, rfl, hc, hd, hu⟩ := RdY.at1 OQ.out.y rfl hmn
      have hu : [u] = [Value.int .i64 x] := hu.out
      cases hu
      have kb := (hbox2.out.ext E2q).two
      have HNX := Lib.hid (tellL_take (l := l) (u := U) (nx := nx) (out := U) hd.out)
      have HTB := Lib.hid (show ∀ p ∈ tellL l U nx U (GS.take m), Sig.U64 p.pending from tellL_bd HUB.out)
      obtain ⟨OUT, hOUT⟩ : ∃ OUT, tellL l U nx U (GS.take m) = OUT := ⟨_, rfl⟩
      rw [hOUT] at HT HNX HTL HTB
      have HS := Lib.hid (seen_any (A := fun _ => False) Ad c l nx x wq (RL2.out.ext E2q))
      have HSN := Lib.hid (show newP l U nx x = (seenL l nx x && (orphL U nx x && U.any (haltP x))) from rfl)
      clear hd hOUT
      cases hs : seenL l nx x
      · rw [hs] at HS
        have HNX := Lib.hid (HNX.out.trans (if_neg (by rw [HSN.out, hs]; simp)))
        clear hs
        go_wp2_with fail
        refine HS.out.mono ?_
        rintro e w6 ⟨rfl, E6⟩
        go_wp2
        go_roundw
        case rel => exact ⟨m + 1, A', c', by omega, by go_num, Lib.hid (BR.out.ext E6), Lib.hid (by rw [HNX.out]; exact HT.out.ext E6), Lib.hid (HM.out.ext E6)⟩
        case measure => simp [intOf]; omega
      rw [hs] at HS
      go_wp2_with fail
      refine HS.out.mono ?_
      rintro e w6 ⟨rfl, E6⟩
      have k8 := (B8.out.ext (E2q.trans E6)).two
      have HO := Lib.hid (orphaned_any (A := fun _ => False) A1 c1 U nx x w6 (by rw [HN.out]; exact RU2.out.ext (E2q.trans E6)))
      rw [HN.out] at HO
      clear HS
      cases ho : orphL U nx x
      · rw [ho] at HO
        have HNX := Lib.hid (HNX.out.trans (if_neg (by rw [HSN.out, hs, ho]; simp)))
        clear hs ho
        go_wp2_with fail
        refine HO.out.mono ?_
        rintro e w7 ⟨rfl, E7⟩
        have E67 := E6.trans E7
        go_wp2
        go_roundw
        case rel => exact ⟨m + 1, A', c', by omega, by go_num, Lib.hid (BR.out.ext E67), Lib.hid (by rw [HNX.out]; exact HT.out.ext E67), Lib.hid (HM.out.ext E67)⟩
        case measure => simp [intOf]; omega
      rw [ho] at HO
      go_wp2_with fail
      refine HO.out.mono ?_
      rintro e w7 ⟨rfl, E7⟩
      have E67 := E6.trans E7
      have k8 := (B8.out.ext (E2q.trans E67)).two
      have HA := Lib.hid (halted_any (A := fun _ => False) A1 c1 U nx x w7 (by rw [HN.out]; exact RU2.out.ext (E2q.trans E67)))
      rw [HN.out] at HA
      clear HO E6 E7
      cases ha : U.any (haltP x)
      · rw [ha] at HA
        have HNX := Lib.hid (HNX.out.trans (if_neg (by rw [HSN.out, hs, ho, ha]; simp)))
        clear hs ho ha
        go_wp2_with fail
        refine HA.out.mono ?_
        rintro e w8 ⟨rfl, E8⟩
        have E68 := E67.trans E8
        go_wp2
        go_roundw
        case rel => exact ⟨m + 1, A', c', by omega, by go_num, Lib.hid (BR.out.ext E68), Lib.hid (by rw [HNX.out]; exact HT.out.ext E68), Lib.hid (HM.out.ext E68)⟩
        case measure => simp [intOf]; omega
      rw [ha] at HA
      have HNX := Lib.hid (HNX.out.trans (if_pos (by rw [HSN.out, hs, ho, ha]; rfl)))
      clear hs ho ha
      go_wp2_with fail
      refine HA.out.mono ?_
      rintro e w8 ⟨rfl, E8⟩
      have E68 := E67.trans E8
      have BR8 := Lib.hid (BR.out.ext E68)
      have HT8 := Lib.hid (HT.out.ext E68)
      have HM8 := Lib.hid (HM.out.ext E68)
      clear HA E67 E8 k8 kb BR HT HM
      go_wp2
      go_loopw [51] (fun j wr => ∃ (m2 : Nat) (A2 : Option Addr) (c2 : Nat), m2 ≤ 2 ∧ j = .int .i64 m2 ∧ Hid (Blk wr n10 29 #[.slice A2 n c2, .int .i64 nx]) ∧ Hid (TabS 42 A1 c1 U n10 wr A2 c2 (grpsL OUT nx x (hupS.take m2))) ∧ Hid (Mod (fun k => k = n10) w5 wr)) (fun j _ => 2 - (intOf j).toNat)
      case atStart => exact ⟨0, A', c', Nat.zero_le _, rfl, BR8, HT8, HM8⟩
      case round =>
        clear BR8 HT8 HM8 E68
        obtain ⟨m2, A2, c2, hm2, rfl, BR, HT, HM⟩ := hrel
        have E2r : Ext W2 wr := Mod.toExt E25 HM.out (by intro k hk he; have := HN10.out; omega)
        have k10 := BR.out.two
        by_cases hm3 : m2 < 2
        · obtain ⟨sg, hsg⟩ : ∃ sg, hupS[m2]? = some sg := ⟨_, List.getElem?_eq_getElem (by simpa [hupS] using hm3)⟩
          have ix : ∀ w, (Instr.index 88 (.agg #[.int .i64 1, .int .i64 18]) (.int .i64 m2)).run Tryz.prog w = .ok (.int .i64 sg) w := by
            obtain rfl | rfl : m2 = 0 ∨ m2 = 1 := by omega
            · cases hsg; exact fun _ => by kernel_rfl
            · cases hsg; exact fun _ => by kernel_rfl
          have HGT := Lib.hid (grpsL_take (l := OUT) (nx := nx) (g := x) hsg)
          have HGB := Lib.hid (show ∀ p ∈ grpsL OUT nx x (hupS.take m2), Sig.U64 p.pending from grpsL_bd HTB.out)
          have hgl : (grpsL OUT nx x (hupS.take m2)).length = n := by rw [grpsL_len, HTL.out, HN.out]
          obtain ⟨O2, hO2⟩ : ∃ O2, grpsL OUT nx x (hupS.take m2) = O2 := ⟨_, rfl⟩
          rw [hO2] at HT HGT HGB hgl
          have hsd := sentgroup_any (A := fun _ => False) A2 c2 O2 nx x sg wr (by rw [hgl, ← HN.out]; exact HT.out.y (by rw [HN.out]; exact RU2.out) E2r) HGB.out
          rw [hgl] at hsd
          have HSD := Lib.hid hsd
          have HGL := Lib.hid hgl
          clear hsd hgl hO2 hsg
          go_wp2_with fail
          refine HSD.out.mono ?_
          rintro e w9 ⟨A3, c3, k3, rfl, R9, E9⟩
          rw [← HGT.out] at R9
          have B9 := BR.out.ext E9
          have M9 : Mod (fun k => k = n10) w9 _ := ((Mod.refl _ w9).set1 (.slice A3 n c3) (o := 0)).set1 (.int .i64 nx) (o := 1)
          have HT9 := Lib.hid ((HT.out.trans R9 (by rw [HGL.out, HN.out]) E9 (by have := HS4.out; have := E5.size; have := HM.out.size; omega)).mod M9 B9 (by decide))
          have k10 := B9.two
          have B9 := Lib.hid (B9.put2 (.slice A3 n c3) (.int .i64 nx))
          have HM9 := Lib.hid ((HM.out.ext E9).trans M9)
          clear HSD R9 M9
          go_wp2
          go_roundw
          case rel => exact ⟨m2 + 1, A3, c3, by omega, by go_num, B9, HT9, HM9⟩
          case measure => simp [intOf]; omega
        · obtain rfl : m2 = 2 := by omega
          have HNX := Lib.hid (HNX.out.trans (show grpsL OUT nx x hupS = grpsL OUT nx x (hupS.take 2) from rfl))
          go_wp2
          go_roundw
          case rel => exact ⟨m + 1, A2, c2, by omega, by go_num, BR, Lib.hid (by rw [HNX.out]; exact HT.out), HM⟩
          case measure => simp [intOf]; omega
    · obtain rfl : m = K := by omega
      have k10 := BR.out.two
      have ks := (hres2.out.ext E2q).two
      have hM7 : Mod (fun k => k = w.heap.size + 1) wq _ := ((Mod.refl _ wq).set1 (.slice A' n c') (o := 0)).set1 (.int .i64 nx) (o := 1)
      obtain ⟨q0, q1, _, _⟩ := ((hres2.out.ext E2q).put2 (.slice A' n c') (.int .i64 nx)).two
      have HF := Lib.hid (show FL = (tellL l U nx U (GS.take m), 0) by rw [HF0.out, List.take_of_length_le (by have := HK.out; omega)])
      go_wp2
      refine bodyPost_ret (v := .tuple #[tv A' n c' nx, .int .i64 0]) (by simp [results, Tryz.results19, go_sem, q0, q1]) rfl ?_
      have EE : Ext w _ := Mod.toExt (E02.trans E2q) hM7 (by intro k hk he; omega)
      rw [HF.out]
      have hlen : (tellL l U nx U (GS.take m)).length = n := by rw [HTL.out, HN.out]
      refine ⟨A', c', by rw [hlen], .inr ?_, EE⟩
      rw [hlen]
      have hw2 := HW2.out
      rcases HT.out with ⟨rfl, rfl, h3⟩ | h3
      · rw [h3]
        exact ((OU.out.ext E2q).mod hM7 (fun k hk he => by have := (OU.out.row k hk).1; omega) (fun _ _ hk _ => hk)).lower E0.size
      · rw [HN.out] at h3
        have hn10 := HN10.out
        have hlt := hres2.out.lt
        exact (h3.mod hM7 (fun k hk he => by have := (h3.row k hk).1; omega) (fun _ _ hk _ => hk)).lower (by have := E02.size; omega)
end Go.Proofs.YteljobleojhgmaaGreat
