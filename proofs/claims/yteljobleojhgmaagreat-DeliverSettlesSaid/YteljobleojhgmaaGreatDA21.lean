/- Settle, by contract. Condition: pending signals and masks have 64 bits. -/
import Derived.Test.YteljobleojhgmaaGreatCA21
namespace Go.Proofs.YteljobleojhgmaaGreat
open Go.RowKit Go.Kb

theorem endL_len {l : List Pr} {pid st : Int} : (endL l pid st).length ≤ l.length := by
  unfold endL
  refine Nat.le_trans (freeN_len _) ?_
  rw [tellUp_live.2, List.length_map, changeL_len]
  exact Nat.le_refl _
theorem finL_len {l : List Pr} {nx pid st : Int} : (finL l nx pid st).1.length ≤ l.length := by
  unfold finL
  split
  · show (tellL _ _ _ _ _).length ≤ _
    rw [tellL_len]; exact endL_len
  · exact Nat.le_refl _
theorem takeL_len {l : List Pr} {nx pid : Int} : (takeL l nx pid).1.length ≤ l.length := by
  unfold takeL
  split
  · show (doL _ _ _ _ _).1.length ≤ _
    obtain ⟨L, hL⟩ : ∃ L, tookL l (getL l nx pid).1 (sigL (getL l nx pid).1) = L := ⟨_, rfl⟩
    have h0 : L.length = l.length := by rw [← hL]; exact tookL_len
    rw [hL, ← h0]
    unfold doL
    split
    · exact finL_len
    · split
      · exact finL_len
      · split
        · split
          · exact Nat.le_refl _
          · show (stopL _ _ _ _).length ≤ _
            rw [stopL_len]; exact Nat.le_refl _
        · exact Nat.le_refl _
  · exact Nat.le_refl _
/-- a scope that begins with a label that is jumped to -/
theorem wp_scope_loop {P : Program} {a : Act} {w : World} {Q : Exit → Act → World → Prop} {rest : Code} (l : Nat) (J : Nat → Act → World → Prop) (first : ∃ g, J g a w)
    (pass : ∀ g a w, J g a w → rest.wp P (Exit.jump l (fun a' w' => ∃ g', g' < g ∧ J g' a' w') Q) a w) : (Code.scope ((Code.label l).seq rest)).wp P Q a w := by
  refine wp_scope_ghost l J (rest := Code.skip.seq rest) (by simp [findLabel]) ?_ (fun g a w hJ => wp_seq (wp_skip (pass g a w hJ)))
  obtain ⟨g, hJ⟩ := first
  refine wp_seq (wp_label ?_)
  refine wp_mono (pass g a w hJ) ?_
  intro e a' w' hq
  cases e with
  | goto l' =>
    obtain ⟨h1, g', _, hJ'⟩ := hq
    exact ⟨h1, g', hJ'⟩
  | normal => exact hq
  | exit id => exact hq
  | ret => exact hq
  | panic ch => exact hq
  | outgrown => exact hq
def SettI (Ad : Option Addr) (c : Nat) (l0 : List Pr) (nx : Int) (w : World) (g : Nat) (wr : World) : Prop :=
  ∃ (l : List Pr) (A' : Option Addr) (c' : Nat), muL l ≤ g ∧ Good l ∧ l.length ≤ l0.length ∧ Blk wr w.heap.size 29 #[.slice A' l.length c', .int .i64 nx] ∧ Blk wr (w.heap.size + 1) 29 #[.slice none 0 0, .int .i64 0] ∧
    TabN 42 Ad c l0 w.heap.size wr A' c' l ∧ Ext w wr ∧ (∀ l', Sett nx l l' → Sett nx l0 l')
def SettJ (Ad : Option Addr) (c : Nat) (l0 : List Pr) (nx : Int) (w : World) (N : Nat) (g : Nat) (a : Act) (wr : World) : Prop :=
  (∃ u3 u4 u5 u6 u7 u8 u9 u10 u11 u12 u13 u14 u15 u16 u17 u18 u19 u20 u21 u22 u23 u24 u25 u26 u27 u28 u29 u30 : Value, a = { tmps := #[tv Ad N c nx, .pointer (some ⟨w.heap.size, 0, none⟩), .pointer (some ⟨w.heap.size + 1, 0, none⟩), u3, u4, u5, u6, u7, u8, u9, u10, u11, u12, u13, u14, u15, u16, u17, u18, u19, u20, u21, u22, u23, u24, u25, u26, u27, u28, u29, u30], defers := [] }) ∧ SettI Ad c l0 nx w g wr
def SettPost (Ad : Option Addr) (c : Nat) (l : List Pr) (nx : Int) (w : World) (e : Ending) (w' : World) : Prop :=
  ∃ (l' : List Pr) (A' : Option Addr) (c' : Nat), Sett nx l l' ∧ e = .returned (tv A' l'.length c' nx) ∧ TabN 42 Ad c l w.heap.size w' A' c' l' ∧ Ext w w'
/-- what holds between two takes: the box of the table, and what is to be handed back -/
structure SetW (Ad : Option Addr) (c : Nat) (l0 : List Pr) (nx : Int) (w : World) (L : List Pr) (A1 : Option Addr) (N c1 : Nat) (l1 : List Pr) (A2 : Option Addr) (c2 : Nat) (wq : World) : Prop where
  box : Blk wq w.heap.size 29 #[.slice A2 l1.length c2, .int .i64 nx]
  res : Blk wq (w.heap.size + 1) 29 #[.slice none 0 0, .int .i64 0]
  tab : TabN 42 Ad c l0 w.heap.size wq A2 c2 l1
  good : Good l1
  len : l1.length ≤ l0.length
  own : OwnS Rp 42 w.heap.size (fun _ => False) wq (.slice A1 N c1) L
  ext : Ext w wq
theorem SetW.up {Ad : Option Addr} {c : Nat} {l0 : List Pr} {nx : Int} {w : World} {L : List Pr} {A1 : Option Addr} {N c1 : Nat} {l1 : List Pr} {A2 : Option Addr} {c2 : Nat} {wq w' : World} (h : SetW Ad c l0 nx w L A1 N c1 l1 A2 c2 wq) (E : Ext wq w') : SetW Ad c l0 nx w L A1 N c1 l1 A2 c2 w' :=
  ⟨h.box.ext E, h.res.ext E, h.tab.ext E, h.good, h.len, h.own.ext E, h.ext.trans E⟩
/-- a table put into the box -/
theorem SetW.put {Ad : Option Addr} {c : Nat} {l0 : List Pr} {nx pid : Int} {w : World} {L : List Pr} {A1 : Option Addr} {N c1 : Nat} {l1 : List Pr} {A2 : Option Addr} {c2 : Nat} {wq w5 w' : World} {A3 : Option Addr} {c3 : Nat} (h : SetW Ad c l0 nx w L A1 N c1 l1 A2 c2 wq)
    (T : TabN 42 A2 c2 l1 wq.heap.size w5 A3 c3 (takeL l1 nx pid).1) (E : Ext wq w5) (E2 : Ext w5 w') :
    SetW Ad c l0 nx w L A1 N c1 (takeL l1 nx pid).1 A3 c3 ((w'.setCell ⟨w.heap.size, 0, none⟩ (.slice A3 (takeL l1 nx pid).1.length c3)).setCell ⟨w.heap.size, 1, none⟩ (.int .i64 nx)) := by
  have h2 := h.up (E.trans E2)
  have M : Mod (fun k => k = w.heap.size) w' _ := ((Mod.refl _ w').set1 (.slice A3 (takeL l1 nx pid).1.length c3) (o := 0)).set1 (.int .i64 nx) (o := 1)
  refine ⟨h2.box.put2 _ _, h2.res.mod M (by show ¬ _ = _; omega), ?_, h.good.take, Nat.le_trans takeL_len h.len, ?_, Mod.toExt h2.ext M (by intro k hk he; omega)⟩
  · exact ((TabN.trans h.tab T E h.ext.size).ext E2).mod M h2.box (by decide)
  · exact h2.own.mod M (fun j hj he => own_blk_ne h2.own.choose_spec.1 h2.box (by decide) (by rw [← he]; exact hj)) (fun _ _ hk _ => hk)
set_option maxRecDepth 100000 in
set_option maxHeartbeats 3000000 in
theorem settle_any {A : Nat → Prop} (Ad : Option Addr) (c : Nat) (l : List Pr) (nx : Int) (w : World) (h : RdY Rp A w (.slice Ad l.length c) l) (hn : l.length ≤ 100000) (hg : Good l) :
    Calls Tryz.prog 6 #[tv Ad l.length c nx] w (SettPost Ad c l nx w) := by
  have H := Lib.hid (rdy_pr (B := fun _ => False) h)
  have HG := Lib.hid hg
  have HLN := Lib.hid hn
  have hbox := Lib.hid (show Blk ((w.alloc (.cells #[.slice Ad l.length c, .int .i64 nx] 29)).alloc (.cells #[.slice none 0 0, .int .i64 0] 29)) w.heap.size 29 #[.slice Ad l.length c, .int .i64 nx] from (Blk.new w _ _).alloc _)
  have hres := Lib.hid (show Blk ((w.alloc (.cells #[.slice Ad l.length c, .int .i64 nx] 29)).alloc (.cells #[.slice none 0 0, .int .i64 0] 29)) (w.heap.size + 1) 29 #[.slice none 0 0, .int .i64 0] from Blk.at_ _ _ (by simp))
  have E0 := Lib.hid (show Ext w ((w.alloc (.cells #[.slice Ad l.length c, .int .i64 nx] 29)).alloc (.cells #[.slice none 0 0, .int .i64 0] 29)) from (by repeat (first | with_reducible exact Ext.refl _ | refine Ext.drewN ?_ _ | refine Ext.drew ?_ | refine Ext.alloc ?_ _ | assumption | (refine Below.trans ?_ (by assumption)) | (refine Ext.trans ?_ (by assumption)) | (refine Below.trans ?_ (Below.mono (by assumption) (by omega))))))
  clear h hg hn
  go_enter Tryz.func6, Tryz.ntmps6
  go_wp2
  refine wp_scope_loop 0 (SettJ Ad c l nx w l.length) ?_ ?_
  · refine ⟨muL l, ⟨_, _, _, _, _, _, _, _, _, _, _, _, _, _, _, _, _, _, _, _, _, _, _, _, _, _, _, _, rfl⟩, l, Ad, c, Nat.le_refl _, HG.out, Nat.le_refl _, hbox.out, hres.out, .inl ⟨rfl, rfl, rfl⟩, E0.out, fun _ h => h⟩
  · rintro g a wr ⟨⟨u3, u4, u5, u6, u7, u8, u9, u10, u11, u12, u13, u14, u15, u16, u17, u18, u19, u20, u21, u22, u23, u24, u25, u26, u27, u28, u29, u30, rfl⟩, L, A', c', hmu, hgood, hlen, hB, hR, hT, hE, hS⟩
    obtain ⟨QQ, hQQ⟩ : ∃ QQ, QQ = Exit.jump 0 (fun a' w' => ∃ g', g' < g ∧ SettJ Ad c l nx w l.length g' a' w') (bodyPost Tryz.prog Tryz.f6 (SettPost Ad c l nx w)) := ⟨_, rfl⟩
    rw [← hQQ]
    have HQ := Lib.hid hQQ
    have HMU := Lib.hid hmu
    have HS := Lib.hid hS
    obtain ⟨N, hN⟩ : ∃ N, L.length = N := ⟨_, rfl⟩
    have HN := Lib.hid hN
    have HNL := Lib.hid (show N ≤ 100000 by have := HLN.out; omega)
    have RL := Lib.hid (rdy_pr (B := fun _ => False) (hT.y (rdy_pr (B := fun _ => False) H.out) hE))
    have HC := Lib.hid (clone_pr (A := fun _ => False) (.slice A' L.length c') L wr RL.out (by have := HLN.out; omega))
    have HB := Lib.hid hB
    have HR := Lib.hid hR
    have HT := Lib.hid hT
    have HE := Lib.hid hE
    have HGD := Lib.hid hgood
    have HLL := Lib.hid hlen
    rw [hN] at HC HB
    clear hQQ hmu hgood hlen hB hR hT hE hS hN RL
    go_upto_region 2 with fail
    have kb := HB.out.two
    go_wp2_with fail
    refine HC.out.mono ?_
    rintro e w1 ⟨A1, c1, rfl, O1, E1⟩
    have SW := Lib.hid (show SetW Ad c l nx w L A1 N c1 L A' c' w1 from ⟨by rw [HN.out]; exact HB.out.ext E1, HR.out.ext E1, HT.out.ext E1, HGD.out, HLL.out, O1.lower HE.out.size, HE.out.trans E1⟩)
    have HNb := Lib.hid (show (N : Int) ≤ 100000 by have := HNL.out; omega)
    clear HC HB HR HT HE HGD HLL kb O1 E1
    go_wp2
    go_loopw [3, 13] (fun tk i wq => ∃ (m : Nat) (l1 : List Pr) (A2 : Option Addr) (c2 : Nat) (b : Bool), m ≤ N ∧ i = .int .i64 m ∧ tk = .bool b ∧ Hid (SetW Ad c l nx w L A1 N c1 l1 A2 c2 wq) ∧ Hid (∀ l' b', Pass nx ((L.map (·.pid)).drop m) l1 l' b' → Pass nx (L.map (·.pid)) L l' (b' || b)) ∧ Hid (muL l1 ≤ muL L ∧ (b = true → muL l1 < muL L))) (fun _ i _ => N - (intOf i).toNat)
    case atStart => exact ⟨0, L, A', c', false, Nat.zero_le _, rfl, rfl, SW, Lib.hid (fun _ b' h => by simpa using h), Lib.hid ⟨Nat.le_refl _, fun h => by cases h⟩⟩
    case round =>
      clear SW
      obtain ⟨m, l1, A2, c2, b, hm, rfl, rfl, SW, FW, LE⟩ := hrel
      obtain ⟨wq, rfl⟩ : ∃ wq, wq = wr := ⟨_, rfl⟩
      have hnb := HNb.out
      by_cases hmn : m < N
      · obtain ⟨bk, off, p, rfl, hd, hok, hcell⟩ := pr_at SW.out.own.y hmn
        have HKS := Lib.hid (show (L.map (·.pid)).drop m = p.pid :: (L.map (·.pid)).drop (m + 1) by
          have h1 : (L.map (·.pid))[m]? = some p.pid := by rw [List.getElem?_map, hd.out]; rfl
          obtain ⟨hlt, h2⟩ := List.getElem?_eq_some_iff.1 h1
          rw [List.drop_eq_getElem_cons hlt, h2])
        have hws := SW.out.ext.size
        obtain ⟨n5, hn5⟩ : ∃ n5, wq.heap.size = n5 := ⟨_, rfl⟩
        go_upto_region 5 with (first
          | (refine wpList_load_mid rfl 42 _ rfl bk (off + m * 43) rfl p.cells _ hcell.out Tryz.underlying42 rfl (i43' hok) ?_)
          | ((refine wpList_store_A rfl 42 _ _ rfl (n5) _ rfl rfl 42 _ (zero_row wq _ hn5) (by rw [List.size_toArray]; exact i43' hok) (Eq.trans (b := 43) (by rfl) (Eq.symm (show (p).cells.toArray.size = 43 from Pr.size hok))) (Pr.one hok) ?_); intro w4 H4 E4; have E4 : Ext wq w4 := E4 wq.heap.size wq ((Ext.refl wq).alloc _) (by omega); have BP := Lib.hid H4))
        have SW4 := Lib.hid (SW.out.up E4)
        have HN5 := Lib.hid (show ¬ (n5 = w.heap.size) by have := SW.out.box.lt; omega)
        clear hd hcell hws hn5 E4 SW
        go_loopg [3] (muL l1) (fun g tk wr => ∃ (l2 : List Pr) (A3 : Option Addr) (c3 : Nat) (t1 : Bool), muL l2 ≤ g ∧ tk = .bool (b || t1) ∧ Hid (SetW Ad c l nx w L (some ⟨bk, off, none⟩) N c1 l2 A3 c3 wr) ∧ Hid (Blk wr n5 42 p.cells.toArray) ∧ Hid (∀ l' b', Drain nx p.pid l2 l' b' → Drain nx p.pid l1 l' (b' || t1)) ∧ Hid (muL l2 ≤ muL l1 ∧ (t1 = true → muL l2 < muL l1)))
        case atStart => exact ⟨l1, A2, c2, false, Nat.le_refl _, by simp, SW4, BP, Lib.hid (fun _ b' h => by simpa using h), Lib.hid ⟨Nat.le_refl _, fun h => by cases h⟩⟩
        case round =>
          clear SW4 BP
          obtain ⟨l2, A3, c3, t1, hgk, rfl, SW, BP, FD, LD⟩ := hrel
          have HGK := Lib.hid hgk
          have HTK := Lib.hid (take_any (A := fun _ => False) A3 c3 l2 nx p.pid wr (SW.out.tab.y (rdy_pr (B := fun _ => False) H.out) SW.out.ext) SW.out.good.1 SW.out.good.2)
          unfold TakePost at HTK
          have HLS := Lib.hid fun h => takeL_less (l := l2) (nx := nx) (pid := p.pid) SW.out.good.1 h
          have HDS := Lib.hid (@Drain.stop nx p.pid l2)
          have HDG := Lib.hid (fun l' bb h1 h2 => Drain.go (nx := nx) (pid := p.pid) (l := l2) (l' := l') (b := bb) h1 h2)
          have HPUT := Lib.hid (fun A4 c4 w5 w' T4 E5 E6 => SetW.put (pid := p.pid) (w5 := w5) (w' := w') (A3 := A4) (c3 := c4) SW.out T4 E5 E6)
          obtain ⟨l3, hl3⟩ : ∃ l3, (takeL l2 nx p.pid).1 = l3 := ⟨_, rfl⟩
          obtain ⟨sg, hsg⟩ : ∃ sg, (takeL l2 nx p.pid).2.1 = sg := ⟨_, rfl⟩
          rw [hl3, hsg] at HTK HLS HDG
          rw [hsg] at HDS
          rw [hl3] at HPUT
          generalize (takeL l2 nx p.pid).2.2 = ef at HTK
          have kb := SW.out.box.two
          have c0 := (prAt_blk hok BP.out).c0
          clear hgk hl3 hsg
          go_wp2_with fail
          refine HTK.out.mono ?_
          rintro e w5 ⟨A4, c4, rfl, T4, E5⟩
          obtain ⟨N3, hN3⟩ : ∃ N3, l3.length = N3 := ⟨_, rfl⟩
          have HN3 := Lib.hid hN3
          rw [hN3]
          clear HTK kb c0 hN3
          go_upto_region 6 with fail
          obtain ⟨n6, hn6⟩ : ∃ n6, w5.heap.size = n6 := ⟨_, rfl⟩
          have b6 := Blk.at_ (w := w5) 29 #[.slice A4 N3 c4, .int .i64 nx] hn6
          have E56 : Ext w5 (w5.alloc (.cells #[.slice A4 N3 c4, .int .i64 nx] 29)) := (Ext.refl _).alloc _
          rw [hn6]
          clear hn6
          generalize w5.alloc _ = W6 at *
          have SW6 := Lib.hid (SW.out.up (E5.trans E56))
          have BP6 := Lib.hid (BP.out.ext (E5.trans E56))
          by_cases hs : sg = 0
          · have hsb : (sg == 0) = true := by simpa using hs
            have HD0 := Lib.hid (HDS.out hs)
            clear hs b6
            go_wp2
            go_roundw
            case rel =>
              refine ⟨m + 1, l2, A3, c3, b || t1, by omega, by go_num, rfl, SW6, Lib.hid (fun l' bb hp => ?_), Lib.hid ⟨Nat.le_trans LD.out.1 LE.out.1, fun h => ?_⟩⟩
              · have h1 := FW.out l' (t1 || bb) (by rw [HKS.out]; exact Pass.cons (by simpa using FD.out _ _ HD0.out) hp)
                have e : (bb || (b || t1)) = ((t1 || bb) || b) := by cases bb <;> cases b <;> cases t1 <;> rfl
                rw [e]; exact h1
              · rw [Bool.or_eq_true] at h
                rcases h with h | h
                · exact Nat.lt_of_le_of_lt LD.out.1 (LE.out.2 h)
                · exact Nat.lt_of_lt_of_le (LD.out.2 h) LE.out.1
            case measure => simp [intOf]; omega
          · have hsb : (sg == 0) = false := by simpa using hs
            have HLS := Lib.hid (HLS.out hs)
            have HDG := Lib.hid (fun l' bb => HDG.out l' bb hs)
            have kb := SW6.out.box.two
            have k6 := b6.two
            have SW7 := Lib.hid (HPUT.out A4 c4 w5 W6 T4 E5 E56)
            rw [HN3.out] at SW7
            have M7 : Mod (fun k => k = w.heap.size) W6 _ := ((Mod.refl _ W6).set1 (.slice A4 N3 c4) (o := 0)).set1 (.int .i64 nx) (o := 1)
            have BP7 := Lib.hid (BP6.out.mod M7 HN5.out)
            clear hs M7 HPUT SW6 BP6 b6 T4 E5 E56
            go_wp2
            go_roundg (muL l3)
            case rel => exact ⟨l3, A4, c4, true, Nat.le_refl _, by simp, SW7, BP7, Lib.hid (fun l' bb hp => by have := FD.out _ _ (HDG.out _ _ hp); simpa using this), Lib.hid ⟨Nat.le_of_lt (Nat.lt_of_lt_of_le HLS.out LD.out.1), fun _ => Nat.lt_of_lt_of_le HLS.out LD.out.1⟩⟩
            case measure => exact Nat.lt_of_lt_of_le HLS.out HGK.out
      · obtain rfl : m = N := by omega
        have HP := Lib.hid (show Pass nx (L.map (·.pid)) L l1 b by
          have h1 := FW.out l1 false (by rw [List.drop_of_length_le (by rw [List.length_map, HN.out]; exact Nat.le_refl _)]; exact Pass.nil)
          simpa using h1)
        have kb := SW.out.box.two
        have ks := SW.out.res.two
        cases b
        · have HST := Lib.hid (HS.out l1 (Sett.done HP.out))
          obtain ⟨N1, hN1⟩ : ∃ N1, l1.length = N1 := ⟨_, rfl⟩
          have HN1 := Lib.hid hN1
          rw [hN1] at kb
          have hM7 : Mod (fun k => k = w.heap.size + 1) wq _ := ((Mod.refl _ wq).set1 (.slice A2 N1 c2) (o := 0)).set1 (.int .i64 nx) (o := 1)
          obtain ⟨q0, q1, _, _⟩ := (SW.out.res.put2 (.slice A2 N1 c2) (.int .i64 nx)).two
          have HT7 := Lib.hid (SW.out.tab.mod hM7 SW.out.res (by decide))
          have EE := Lib.hid (Mod.toExt SW.out.ext hM7 (by intro k hk he; omega))
          clear hM7 SW HP hN1
          go_wp2
          rw [HQ.out]
          simp only [Exit.jump]
          refine bodyPost_ret (v := tv A2 N1 c2 nx) (by simp [results, Tryz.results6, go_sem, q0, q1]) rfl ?_
          exact ⟨l1, A2, c2, HST.out, by rw [HN1.out], HT7.out, EE.out⟩
        · have HST := Lib.hid (fun l' h => HS.out l' (Sett.again HP.out h))
          have HLT := Lib.hid (Nat.lt_of_lt_of_le (LE.out.2 rfl) HMU.out)
          clear kb ks HP
          go_wp2
          go_step3
          rw [HQ.out]
          exact ⟨rfl, muL l1, HLT.out, ⟨_, _, _, _, _, _, _, _, _, _, _, _, _, _, _, _, _, _, _, _, _, _, _, _, _, _, _, _, rfl⟩, l1, A2, c2, Nat.le_refl _, SW.out.good, SW.out.len, SW.out.box, SW.out.res, SW.out.tab, SW.out.ext, HST.out⟩
end Go.Proofs.YteljobleojhgmaaGreat
