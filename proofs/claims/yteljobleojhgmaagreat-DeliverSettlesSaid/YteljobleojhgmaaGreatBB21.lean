/- The document's Settle, by contract. Condition: pending signals and masks have 64 bits. -/
import Derived.Test.YteljobleojhgmaaGreatAB21
import Derived.Test.YteljobleojhgmaaGreatDA21
namespace Go.Proofs.YteljobleojhgmaaGreat
open Go.RowKit Go.Kb

def RSettPost (Ad : Option Addr) (c : Nat) (l : List Pr) (nx : Int) (w : World) (e : Ending) (w' : World) : Prop :=
  ∃ (l' : List Pr) (A' : Option Addr) (c' : Nat), Sett nx l l' ∧ e = .returned (tv A' l'.length c' nx) ∧ TabN 64 Ad c l w.heap.size w' A' c' l' ∧ Ext w w'
/-- what holds between two takes -/
structure SetR (Ad : Option Addr) (c : Nat) (l0 : List Pr) (nx : Int) (w : World) (l1 : List Pr) (A2 : Option Addr) (c2 : Nat) (wq : World) : Prop where
  box : Blk wq w.heap.size 33 #[.slice A2 l1.length c2, .int .i64 nx]
  res : Blk wq (w.heap.size + 1) 33 #[.slice none 0 0, .int .i64 0]
  tab : TabN 64 Ad c l0 w.heap.size wq A2 c2 l1
  good : Good l1
  len : l1.length ≤ l0.length
  ext : Ext w wq
theorem SetR.up {Ad : Option Addr} {c : Nat} {l0 : List Pr} {nx : Int} {w : World} {l1 : List Pr} {A2 : Option Addr} {c2 : Nat} {wq w' : World} (h : SetR Ad c l0 nx w l1 A2 c2 wq) (E : Ext wq w') : SetR Ad c l0 nx w l1 A2 c2 w' :=
  ⟨h.box.ext E, h.res.ext E, h.tab.ext E, h.good, h.len, h.ext.trans E⟩
/-- a table put into the box -/
theorem SetR.put {Ad : Option Addr} {c : Nat} {l0 : List Pr} {nx pid : Int} {w : World} {l1 : List Pr} {A2 : Option Addr} {c2 : Nat} {wq w5 w' : World} {A3 : Option Addr} {c3 : Nat} (h : SetR Ad c l0 nx w l1 A2 c2 wq)
    (T : TabN 64 A2 c2 l1 wq.heap.size w5 A3 c3 (takeL l1 nx pid).1) (E : Ext wq w5) (E2 : Ext w5 w') :
    SetR Ad c l0 nx w (takeL l1 nx pid).1 A3 c3 ((w'.setCell ⟨w.heap.size, 0, none⟩ (.slice A3 (takeL l1 nx pid).1.length c3)).setCell ⟨w.heap.size, 1, none⟩ (.int .i64 nx)) := by
  have h2 := h.up (E.trans E2)
  have M : Mod (fun k => k = w.heap.size) w' _ := ((Mod.refl _ w').set1 (.slice A3 (takeL l1 nx pid).1.length c3) (o := 0)).set1 (.int .i64 nx) (o := 1)
  refine ⟨h2.box.put2 _ _, h2.res.mod M (by show ¬ _ = _; omega), ?_, h.good.take, Nat.le_trans takeL_len h.len, Mod.toExt h2.ext M (by intro k hk he; omega)⟩
  exact ((TabN.trans h.tab T E h.ext.size).ext E2).mod M h2.box (by decide)
set_option maxRecDepth 100000 in
set_option maxHeartbeats 3000000 in
theorem rsettle_any {A : Nat → Prop} (Ad : Option Addr) (c : Nat) (l : List Pr) (nx : Int) (w : World) (h : RdY Rp A w (.slice Ad l.length c) l) (hn : l.length ≤ 100000) (hg : Good l) :
    Calls Tryz.prog 9 #[tv Ad l.length c nx] w (RSettPost Ad c l nx w) := by
  have H := Lib.hid (rdy_pr (B := fun _ => False) h)
  have HG := Lib.hid hg
  have HLN := Lib.hid hn
  obtain ⟨W, hW⟩ : ∃ W, W = (w.alloc (.cells #[.slice Ad l.length c, .int .i64 nx] 33)).alloc (.cells #[.slice none 0 0, .int .i64 0] 33) := ⟨_, rfl⟩
  have hres := Lib.hid (show Blk W (w.heap.size + 1) 33 #[.slice none 0 0, .int .i64 0] by rw [hW]; exact Blk.at_ _ _ (by simp))
  have hbox := Lib.hid (show Blk W w.heap.size 33 #[.slice Ad l.length c, .int .i64 nx] by rw [hW]; exact (Blk.new w _ _).alloc _)
  have E0 : Ext w W := by rw [hW]; exact (by repeat (first | with_reducible exact Ext.refl _ | refine Ext.drewN ?_ _ | refine Ext.drew ?_ | refine Ext.alloc ?_ _ | assumption | (refine Below.trans ?_ (by assumption)) | (refine Ext.trans ?_ (by assumption)) | (refine Below.trans ?_ (Below.mono (by assumption) (by omega)))))
  have HW := Lib.hid hW
  have SR0 := Lib.hid (show SetR Ad c l nx w l Ad c W from ⟨hbox.out, hres.out, .inl ⟨rfl, rfl, rfl⟩, HG.out, Nat.le_refl _, E0⟩)
  clear h hn hg hW hbox hres E0
  go_enter Tryz.func9, Tryz.ntmps9
  go_upto_block 0 with fail
  rw [← HW.out]
  clear HW
  go_wp2
  go_loopg [3] (muL l + 1) (fun g mo wr => ∃ (L : List Pr) (A' : Option Addr) (c' : Nat) (b : Bool), muL L + (if b = true then 1 else 0) ≤ g ∧ mo = .bool b ∧ Hid (SetR Ad c l nx w L A' c' wr) ∧ Hid (b = true → ∀ l', Sett nx L l' → Sett nx l l') ∧ Hid (b = false → Sett nx l L))
  case atStart => exact ⟨l, Ad, c, true, Nat.le_refl _, rfl, SR0, Lib.hid (fun _ _ h => h), Lib.hid (fun h => by cases h)⟩
  case round =>
    clear SR0
    obtain ⟨L, A', c', b, hmu, rfl, SR, HT, HF⟩ := hrel
    obtain ⟨wz, rfl⟩ : ∃ wz, wz = wr := ⟨_, rfl⟩
    cases b
    · have HST := Lib.hid (HF.out rfl)
      have kb := SR.out.box.two
      have ks := SR.out.res.two
      obtain ⟨N1, hN1⟩ : ∃ N1, L.length = N1 := ⟨_, rfl⟩
      have HN1 := Lib.hid hN1
      rw [hN1] at kb
      have hM7 : Mod (fun k => k = w.heap.size + 1) wz _ := ((Mod.refl _ wz).set1 (.slice A' N1 c') (o := 0)).set1 (.int .i64 nx) (o := 1)
      obtain ⟨q0, q1, _, _⟩ := (SR.out.res.put2 (.slice A' N1 c') (.int .i64 nx)).two
      have HT7 := Lib.hid (SR.out.tab.mod hM7 SR.out.res (by decide))
      have EE := Lib.hid (Mod.toExt SR.out.ext hM7 (by intro k hk he; omega))
      clear hM7 SR hN1 HT HF hmu
      go_wp2
      refine bodyPost_ret (v := tv A' N1 c' nx) (by simp [results, Tryz.results9, go_sem, q0, q1]) rfl ?_
      exact ⟨L, A', c', HST.out, by rw [HN1.out], HT7.out, EE.out⟩
    · have HS := Lib.hid (HT.out rfl)
      rw [if_pos rfl] at hmu
      have HMU := Lib.hid hmu
      obtain ⟨N, hN⟩ : ∃ N, L.length = N := ⟨_, rfl⟩
      have HN := Lib.hid hN
      have RL := Lib.hid (rdy_pr (B := fun _ => False) (SR.out.tab.y (rdy_pr (B := fun _ => False) H.out) SR.out.ext))
      have HNb := Lib.hid (show (N : Int) ≤ 100000 by have := HLN.out; have := SR.out.len; omega)
      have kb := SR.out.box.two
      rw [hN] at RL kb
      have HKL := Lib.hid (show (L.map (·.pid)).length = N by rw [List.length_map]; exact hN)
      clear hmu hN HT HF
      go_wp2
      clear kb
      go_loopw [4, 16] (fun o i wx => ∃ (m c2 : Nat) (A2 : Option Addr), m ≤ N ∧ i = .int .i64 m ∧ o = .slice A2 m c2 ∧ Hid (OwnS Ib 3 wz.heap.size (fun _ => False) wx (.slice A2 m c2) ((L.take m).map (·.pid))) ∧ Hid (Ext wz wx)) (fun _ i _ => N - (intOf i).toNat)
      case atStart => exact ⟨0, 0, none, Nat.zero_le _, rfl, rfl, Lib.hid (OwnS.nil _ _ _ _ _), Lib.hid (Ext.refl _)⟩
      case round =>
        obtain ⟨m, c2, A2, hm, rfl, rfl, O, hE⟩ := hrel
        have hnb := HNb.out
        by_cases hmn : m < N
        · obtain ⟨bp, off, p, rfl, hd, hok, hcell⟩ := pr_at (RL.out.ext hE.out) hmn
          have hws := hE.out.size
          have HY := Lib.hid (show (L.take (m + 1)).map (·.pid) = (L.take m).map (·.pid) ++ [p.pid] by rw [List.take_add_one, hd.out]; simp)
          have HZ := Lib.hid (show ((L.take m).map (·.pid)).length = m by rw [List.length_map, List.length_take]; have := HN.out; omega)
          obtain ⟨n6, hn6⟩ : ∃ n6, wr.heap.size = n6 := ⟨_, rfl⟩
          clear hd
          go_wp2_with (first
            | (refine wpList_load_mid rfl 64 _ rfl bp (off + m * 43) rfl p.cells _ hcell.out Tryz.underlying64 rfl (i43r' hok) ?_)
            | ((refine wpList_store_A rfl 64 _ _ rfl (n6) _ rfl rfl 64 _ (zero_rowR wr n6 hn6) (by rw [List.size_toArray]; exact i43r' hok) (Eq.trans (b := 43) (by rfl) (Eq.symm (show (p).cells.toArray.size = 43 from Pr.size hok))) (Pr.one hok) ?_); intro w4 H2 E4; have E4 : Ext wr w4 := E4 wr.heap.size wr ((Ext.refl wr).alloc _) (by omega); have c0 := (prAt_blk hok H2).c0; have hws4 := E4.size)
            | (at_builtin; refine wpList_app (e := Ib) (base := wz.heap.size) (B := fun _ => False) (A := fun _ => False) rfl (.tmp 20) (.tmp 23) rfl Tryz.underlying62 info_i64 rfl ((O.out.ext E4).alloc _) rfl (RdY.singleB (e := Ib) (cs := [.int .i64 p.pid]) (d := p.pid) rfl (Blk.at_ _ _ rfl)) rfl (fun _ _ h => h.elim) (N := m + 1) (by rw [HZ.out]; rfl) (by simp [maxLen]; omega) (by omega) (by simp; omega) ?_; intro A5 c5 w5 o5 M5 D5))
          have E5 : Hid (Ext wz w5) := Lib.hid (Below.trans ((hE.out.trans E4).alloc _) D5)
          have o5 := Lib.hid o5
          clear M5 D5
          go_roundw
          case rel => exact ⟨m + 1, c5, A5, by omega, by go_num, rfl, Lib.hid (by rw [HY.out]; exact o5.out), E5⟩
          case measure => simp [intOf]; omega
        · obtain rfl : m = N := by omega
          have hO := O.out
          rw [show L.take m = L from List.take_of_length_le (by have := HN.out; omega)] at hO
          have OK := Lib.hid hO
          have SW := Lib.hid (SR.out.up hE.out)
          have HZ := Lib.hid (show wz.heap.size ≥ w.heap.size + 2 by have := SR.out.res.lt; omega)
          clear hO O SR hmn
          go_wp2
          go_loopw [3, 28] (fun tk i wq => ∃ (m2 : Nat) (l1 : List Pr) (A3 : Option Addr) (c3 : Nat) (b : Bool), m2 ≤ m ∧ i = .int .i64 m2 ∧ tk = .bool b ∧ Hid (SetR Ad c l nx w l1 A3 c3 wq) ∧ Hid (OwnS Ib 3 wz.heap.size (fun _ => False) wq (.slice A2 m c2) (L.map (·.pid))) ∧ Hid (∀ l' b', Pass nx ((L.map (·.pid)).drop m2) l1 l' b' → Pass nx (L.map (·.pid)) L l' (b' || b)) ∧ Hid (muL l1 ≤ muL L ∧ (b = true → muL l1 < muL L))) (fun _ i _ => m - (intOf i).toNat)
          case atStart => exact ⟨0, L, A', c', false, Nat.zero_le _, rfl, rfl, SW, OK, Lib.hid (fun _ b' h => by simpa using h), Lib.hid ⟨Nat.le_refl _, fun h => by cases h⟩⟩
          case round =>
            clear SW OK
            obtain ⟨m2, l1, A3, c3, b, hm2, rfl, rfl, SW, OK, FW, LE⟩ := hrel
            have hnb := HNb.out
            by_cases hmn : m2 < m
            · obtain ⟨bg, og, u, x, rfl, hc, hd, hu⟩ := RdY.at1 OK.out.y rfl hmn
              have hu : [u] = [Value.int .i64 x] := hu.out
              cases hu
              have HKS := Lib.hid (show (L.map (·.pid)).drop m2 = x :: (L.map (·.pid)).drop (m2 + 1) by
                obtain ⟨hlt, h2⟩ := List.getElem?_eq_some_iff.1 hd.out
                rw [List.drop_eq_getElem_cons hlt, h2])
              clear hd
              go_upto_block 6 with fail
              go_wp2
              go_loopg [3] (muL l1) (fun g tk wr => ∃ (l2 : List Pr) (A4 : Option Addr) (c4 : Nat) (t1 : Bool), muL l2 ≤ g ∧ tk = .bool (b || t1) ∧ Hid (SetR Ad c l nx w l2 A4 c4 wr) ∧ Hid (OwnS Ib 3 wz.heap.size (fun _ => False) wr (.slice (some ⟨bg, og, none⟩) m c2) (L.map (·.pid))) ∧ Hid (∀ l' b', Drain nx x l2 l' b' → Drain nx x l1 l' (b' || t1)) ∧ Hid (muL l2 ≤ muL l1 ∧ (t1 = true → muL l2 < muL l1)))
              case atStart => exact ⟨l1, A3, c3, false, Nat.le_refl _, by simp, SW, OK, Lib.hid (fun _ b' h => by simpa using h), Lib.hid ⟨Nat.le_refl _, fun h => by cases h⟩⟩
              case round =>
                clear SW OK hc
                obtain ⟨l2, A4, c4, t1, hgk, rfl, SW, OK, FD, LD⟩ := hrel
                have HGK := Lib.hid hgk
                have HTK := Lib.hid (rtake_any (A := fun _ => False) A4 c4 l2 nx x wr (SW.out.tab.y (rdy_pr (B := fun _ => False) H.out) SW.out.ext) SW.out.good.1 SW.out.good.2)
                unfold RTakePost at HTK
                have HLS := Lib.hid fun h => takeL_less (l := l2) (nx := nx) (pid := x) SW.out.good.1 h
                have HDS := Lib.hid (@Drain.stop nx x l2)
                have HDG := Lib.hid (fun l' bb h1 h2 => Drain.go (nx := nx) (pid := x) (l := l2) (l' := l') (b := bb) h1 h2)
                have HPUT := Lib.hid (fun A4 c4 w5 w' T4 E5 E6 => SetR.put (pid := x) (w5 := w5) (w' := w') (A3 := A4) (c3 := c4) SW.out T4 E5 E6)
                obtain ⟨l3, hl3⟩ : ∃ l3, (takeL l2 nx x).1 = l3 := ⟨_, rfl⟩
                obtain ⟨sg, hsg⟩ : ∃ sg, (takeL l2 nx x).2.1 = sg := ⟨_, rfl⟩
                rw [hl3, hsg] at HTK HLS HDG
                rw [hsg] at HDS
                rw [hl3] at HPUT
                generalize (takeL l2 nx x).2.2 = ef at HTK
                have kb := SW.out.box.two
                clear hgk hl3 hsg
                go_wp2_with fail
                refine HTK.out.mono ?_
                rintro e w5 ⟨A5, c5, rfl, T4, E5⟩
                obtain ⟨N3, hN3⟩ : ∃ N3, l3.length = N3 := ⟨_, rfl⟩
                have HN3 := Lib.hid hN3
                rw [hN3]
                clear HTK kb hN3
                go_upto_region 14 with fail
                obtain ⟨n9, hn9⟩ : ∃ n9, w5.heap.size = n9 := ⟨_, rfl⟩
                have b9 := Blk.at_ (w := w5) 33 #[.slice A5 N3 c5, .int .i64 nx] hn9
                have E56 : Ext w5 (w5.alloc (.cells #[.slice A5 N3 c5, .int .i64 nx] 33)) := (Ext.refl _).alloc _
                rw [hn9]
                clear hn9
                generalize w5.alloc _ = W6 at *
                have SW6 := Lib.hid (SW.out.up (E5.trans E56))
                have OK6 := Lib.hid (OK.out.ext (E5.trans E56))
                by_cases hs : sg = 0
                · have hsb : (sg == 0) = true := by simpa using hs
                  have HD0 := Lib.hid (HDS.out hs)
                  clear hs b9 HPUT
                  go_wp2
                  go_roundw
                  case rel =>
                    refine ⟨m2 + 1, l2, A4, c4, b || t1, by omega, by go_num, rfl, SW6, OK6, Lib.hid (fun l' bb hp => ?_), Lib.hid ⟨Nat.le_trans LD.out.1 LE.out.1, fun h => ?_⟩⟩
                    · have h1 := FW.out l' (t1 || bb) (by rw [HKS.out]; exact Pass.cons (by simpa using FD.out _ _ HD0.out) hp)
                      have e : (bb || (b || t1)) = ((t1 || bb) || b) := by cases bb <;> cases b <;> cases t1 <;> rfl
                      rw [e]; exact h1
                    · rw [Bool.or_eq_true] at h
                      rcases h with h | h
                      · exact Nat.lt_of_le_of_lt LD.out.1 (LE.out.2 h)
                      · exact Nat.lt_of_lt_of_le (LD.out.2 h) LE.out.1
                  case measure => simp [intOf]; omega
                · have hsb : (sg == 0) = false := by simpa using hs
                  have HLS := Lib.hid (HLS.out hs)
                  have HDG := Lib.hid (fun l' bb => HDG.out l' bb hs)
                  have kb := SW6.out.box.two
                  have k9 := b9.two
                  have SW7 := Lib.hid (HPUT.out A5 c5 w5 W6 T4 E5 E56)
                  rw [HN3.out] at SW7
                  have M7 : Mod (fun k => k = w.heap.size) W6 _ := ((Mod.refl _ W6).set1 (.slice A5 N3 c5) (o := 0)).set1 (.int .i64 nx) (o := 1)
                  have OK7 := Lib.hid (OK6.out.mod M7 (fun j hj he => by have := (OK6.out.row j hj).1; have := HZ.out; omega) (fun _ _ hk _ => hk))
                  clear hs M7 HPUT SW6 OK6 b9 T4 E5 E56
                  go_wp2
                  go_roundg (muL l3)
                  case rel => exact ⟨l3, A5, c5, true, Nat.le_refl _, by simp, SW7, OK7, Lib.hid (fun l' bb hp => by have := FD.out _ _ (HDG.out _ _ hp); simpa using this), Lib.hid ⟨Nat.le_of_lt (Nat.lt_of_lt_of_le HLS.out LD.out.1), fun _ => Nat.lt_of_lt_of_le HLS.out LD.out.1⟩⟩
                  case measure => exact Nat.lt_of_lt_of_le HLS.out HGK.out
            · obtain rfl : m2 = m := by omega
              have HP := Lib.hid (show Pass nx (L.map (·.pid)) L l1 b by
                have h1 := FW.out l1 false (by rw [List.drop_of_length_le (by rw [HKL.out]; exact Nat.le_refl _)]; exact Pass.nil)
                simpa using h1)
              go_wp2
              go_roundg (muL l1 + (if b = true then 1 else 0))
              case rel =>
                refine ⟨l1, A3, c3, b, Nat.le_refl _, rfl, SW, Lib.hid (fun hb l' h => HS.out l' (Sett.again (by rw [← hb]; exact HP.out) h)), Lib.hid (fun hb => HS.out l1 (Sett.done (by rw [← hb]; exact HP.out)))⟩
              case measure =>
                have h1 := HMU.out
                have h2 := LE.out
                split
                · rename_i hb
                  have := h2.2 hb
                  omega
                · have := h2.1
                  omega
end Go.Proofs.YteljobleojhgmaaGreat
