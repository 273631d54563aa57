/- Written by chain.py of D02@Fr. No condition. -/
import Derived.Test.YtldijmappinngaaGreatDoorFC17
namespace Go.Proofs.YtldijmappinngaaGreatDoor.Fr
open Go.RowKit Go.Kb Go.Kb.Frame
set_option maxRecDepth 100000

theorem Bs.sub {l m : List Int} (h : Bs l) (hm : ∀ x ∈ m, x ∈ l) : Bs m := fun x hx => h x (hm x hx)

/-- the relation of the program's loop -/
def FRel (g : Nat) (buf : List Int) (w3 : World) (s : Value) (wr : World) : Prop :=
  ∃ (done : List (List Int)) (r : List Int) (lv : Value), feed buf = (done ++ (feed r).1, (feed r).2) ∧ RI .u8 wr s r ∧ Bs r ∧ (∀ k, s.ownBlock = some k → k < w3.heap.size ∧ k ≠ g) ∧ done.length + r.length ≤ buf.length ∧
    Blk wr g 75 #[lv] ∧ OwnLs wr w3.heap.size lv done ∧ Mod (fun k => k = g ∨ w3.heap.size ≤ k) w3 wr
theorem FRel.step {g : Nat} {buf : List Int} {w3 wr w4 w6 : World} {done : List (List Int)} {r : List Int} {b off c m : Nat} {lv6 : Value}
    (hfeed : feed buf = (done ++ (feed r).1, (feed r).2)) (hr : RI .u8 wr (.slice (some ⟨b, off, none⟩) r.length c) r) (hbr : Bs r)
    (hblk : ∀ k, (Value.slice (some ⟨b, off, none⟩) r.length c).ownBlock = some k → k < w3.heap.size ∧ k ≠ g) (hlen : done.length + r.length ≤ buf.length) (hM : Mod (fun k => k = g ∨ w3.heap.size ≤ k) w3 wr)
    (h4 : 4 ≤ r.length) (hm : hd4 r = m) (hin : 1 ≤ (m : Int) ∧ (m : Int) ≤ 33792) (hw : ¬ (r.length : Int) < 4 + (m : Int)) (hE4 : Ext wr w4)
    (hL6 : Blk w6 g 75 #[lv6]) (hO6 : OwnLs w6 w3.heap.size lv6 (done ++ [(r.drop 4).take m])) (hM6 : Mod (fun k => k = g ∨ w3.heap.size ≤ k) w4 w6) :
    FRel g buf w3 (.slice (if c = 4 + m then some ⟨b, off, none⟩ else some ⟨b, off + (4 + m), none⟩) (r.length - (4 + m)) (c - (4 + m))) w6 := by
  have hb := hblk b rfl
  have hob : ∀ k, (Value.slice (if c = 4 + m then some ⟨b, off, none⟩ else some ⟨b, off + (4 + m), none⟩) (r.length - (4 + m)) (c - (4 + m))).ownBlock = some k → k = b := by
    intro k hk
    split at hk <;> simpa [Value.ownBlock, eq_comm] using hk
  refine ⟨done ++ [(r.drop 4).take m], r.drop (4 + m), lv6, ?_, ?_, Bs.sub hbr fun x hx => List.mem_of_mem_drop hx, ?_, ?_, hL6, hO6, (hM.ext hE4).trans hM6⟩
  · rw [hfeed, feed_more4 h4 (by rw [hm]; exact hin) hm (by omega)]
    simp
  · refine ((RI.from_ hr (by omega)).ext hE4).mod hM6 fun k hk => ?_
    rw [hob k hk]
    omega
  · intro k hk
    rw [hob k hk]
    exact hb
  · simp
    omega
/-- the end where what came can't be packets -/
theorem feed_end_bad {B : Nat} {buf : List Int} {w w3 wr w4 W : World} {done : List (List Int)} {r : List Int} {lv : Value} (E3 : Ext w w3) (hB : w.heap.size ≤ B) (hB3 : B + 1 < w3.heap.size)
    (hfeed : feed buf = (done ++ (feed r).1, (feed r).2)) (hO : OwnLs wr w3.heap.size lv done) (hM : Mod (fun k => k = B + 1 ∨ w3.heap.size ≤ k) w3 wr) (h4 : 4 ≤ r.length) (hin : ¬ (1 ≤ hd4 r ∧ hd4 r ≤ 33792))
    (hE4 : Ext wr w4) (hW : Mod (fun k => k = B) w4 W) :
    feedR false buf = (([], true), done, 5) ∧ (∃ vs mid, OwnVs W w.heap.size lv done vs ∧ (∀ x ∈ vs, ∀ k, x.ownBlock = some k → k < mid) ∧ OwnB W mid (.slice none 0 0) []) ∧ Ext w W := by
  refine ⟨feedR_none (by rw [hfeed, feed_bad4 h4 hin]; simp), ?_, ?_⟩
  · obtain ⟨vs, hv⟩ := hO
    have hv := ((hv.ext hE4).mod hW (by intro k hk; omega)).lower E3.size
    exact ⟨vs, _, hv, hv.lt, World.ownsRow_nil _ _ _ _⟩
  · exact Mod.toExt ((Mod.toExt E3 hM (by intro k hk; omega)).trans hE4) hW (by intro k hk; omega)
/-- the end where nothing is left to cut -/
theorem feed_end_ok {B : Nat} {buf : List Int} {w w3 wr w4 w5 W : World} {done : List (List Int)} {r : List Int} {lv rv : Value} (E3 : Ext w w3) (hB : w.heap.size ≤ B) (hB3 : B + 1 < w3.heap.size)
    (hfeed : feed buf = (done ++ (feed r).1, (feed r).2)) (hO : OwnLs wr w3.heap.size lv done) (hM : Mod (fun k => k = B + 1 ∨ w3.heap.size ≤ k) w3 wr) (hr : feed r = ([], some r))
    (hE4 : Ext wr w4) (hE5 : Ext w4 w5) (hown5 : w5.ownsRow w4.heap.size 5 1 rv r.length (u8s r)) (hW : Mod (fun k => k = B) w5 W) :
    feedR false buf = ((r, false), done, 0) ∧ (∃ vs mid, OwnVs W w.heap.size lv done vs ∧ (∀ x ∈ vs, ∀ k, x.ownBlock = some k → k < mid) ∧ OwnB W mid rv r) ∧ Ext w W := by
  have hs : w3.heap.size ≤ w4.heap.size := Nat.le_trans hM.size hE4.size
  refine ⟨feedR_some (by rw [hfeed, hr]; simp), ?_, ?_⟩
  · obtain ⟨vs, hv⟩ := hO
    have hv4 := hv.ext hE4
    exact ⟨vs, w4.heap.size, ((hv4.ext hE5).mod hW (by intro k hk; omega)).lower E3.size, hv4.lt, own_mod hown5 hW fun k hk => by have := (hown5.lt k hk).1; omega⟩
  · exact Mod.toExt (((Mod.toExt E3 hM (by intro k hk; omega)).trans hE4).trans hE5) hW (by intro k hk; omega)
set_option maxHeartbeats 800000 in
theorem feed_any (vb v : Value) (bad : Bool) (xs ys : List Int) (w : World) (hx : RI .u8 w vb xs) (hy : RI .u8 w v ys) (bx : Bs xs) (bY : Bs ys) (nx : xs.length ≤ 40000000) (ny : ys.length ≤ 40000000) :
    Calls Tryz.prog 10 #[.agg #[vb, .bool bad], v] w fun e w' => ∃ rv lv, e = .returned (.tuple #[.agg #[rv, .bool (feedR bad (xs ++ ys)).1.2], lv, .int .i64 (feedR bad (xs ++ ys)).2.2]) ∧
      (∃ vs mid, OwnVs w' w.heap.size lv (feedR bad (xs ++ ys)).2.1 vs ∧ (∀ x ∈ vs, ∀ k, x.ownBlock = some k → k < mid) ∧ OwnB w' mid rv (feedR bad (xs ++ ys)).1.1) ∧ Ext w w' := by
  have HX := Lib.hid hx
  have HY := Lib.hid hy
  have BX := Lib.hid bx
  have BY := Lib.hid bY
  obtain ⟨A, c, rfl, hxc, hxm⟩ := hx.shape
  obtain ⟨A2, c2, rfl, hyc, hym⟩ := hy.shape
  clear bx bY hx hy
  have K1 : Hid (∀ l ∈ [(xs.length, u8s xs), (ys.length, u8s ys)], ∀ u ∈ l.2, u.oneCell' = true) := Lib.hid (by
    intro l hl
    simp only [List.mem_cons, List.not_mem_nil, or_false] at hl
    rcases hl with rfl | rfl
    · exact one_ints _ _
    · exact one_ints _ _)
  have K2 : Hid (tot [(xs.length, u8s xs), (ys.length, u8s ys)] ≤ 137438953472) := Lib.hid (by simp [tot]; omega)
  cases bad
  · go_enter Tryz.func10, Tryz.ntmps10
    go_wp2
    go_step3
    go_wp2_with (go_at_call 24; refine (concat_u8 _ _ _ (RdLL.lit2 _ (by simp) ((((HX.out.alloc _).alloc _).alloc _)) (((HY.out.alloc _).alloc _).alloc _)) K1.out K2.out).mono ?_; rintro e w3 ⟨v3, rfl, hown3, hE3⟩)
    go_step3
    go_wp2
    have E3 : Ext w w3 := (by repeat (first | with_reducible exact Ext.refl _ | refine Ext.drewN ?_ _ | refine Ext.drew ?_ | refine Ext.alloc ?_ _ | assumption | (refine Below.trans ?_ (by assumption)) | (refine Ext.trans ?_ (by assumption)) | (refine Below.trans ?_ (Below.mono (by assumption) (by omega)))))
    have HL3 : Hid (Blk w3 (w.heap.size + 1 + 1) 75 #[.slice none 0 0]) := Lib.hid (((Blk.at_ _ _ (by simp)).alloc _).ext hE3)
    have HF3 : Hid (Blk w3 (w.heap.size + 1) 36 #[.slice none 0 0, .bool false]) := Lib.hid ((((Blk.at_ _ _ (by simp)).alloc _).alloc _).ext hE3)
    have hsz : w.heap.size + 1 + 1 + 1 < w3.heap.size := by have := hE3.size; simp at this; omega
    have hr3 := RdN.of_own hown3
    have hlt3 := hown3.lt
    have ht : tot [(xs.length, u8s xs), (ys.length, u8s ys)] = (xs ++ ys).length := by simp [tot]
    have hc : cat [(xs.length, u8s xs), (ys.length, u8s ys)] = u8s (xs ++ ys) := by simp [cat]
    rw [ht, hc] at hr3
    have HR3 := Lib.hid hr3
    have HT3 := Lib.hid hlt3
    have HBs : Hid (Bs (xs ++ ys)) := Lib.hid (by
      intro x hx
      rcases List.mem_append.1 hx with hx | hx
      · exact BX.out x hx
      · exact BY.out x hx)
    have hlb : (xs ++ ys).length ≤ 80000000 := by simp; omega
    clear hr3 hlt3 ht hc hown3 K1 K2
    generalize hbuf : xs ++ ys = buf
    rw [hbuf] at HR3 HBs hlb
    have HBUF := Lib.hid hbuf
    clear hbuf BX BY
    have hE3' := Lib.hid hE3
    clear hE3
    go_loopw [9] (FRel (w.heap.size + 1 + 1) buf w3) (fun s _ => lenOfV s)
    case atStart => 
      refine ⟨[], buf, _, by simp, HR3.out, HBs.out, fun k hk => ?_, by simp, HL3.out, OwnLs.nil _ _, Mod.refl _ _⟩
      have := HT3.out k hk
      simp at this
      omega
    case round =>
      obtain ⟨done, r, lv, hfeed, hr, hbr, hblk, hlen, hL, hO, hM⟩ := hrel
      obtain ⟨A3, c3, rfl, hrc, hrm⟩ := hr.shape
      have HFeed := Lib.hid hfeed
      have HR := Lib.hid hr
      have HBR := Lib.hid hbr
      have HK := Lib.hid hblk
      have HL := Lib.hid hL
      have HO := Lib.hid hO
      have HM := Lib.hid hM
      have hbd := hd4_bd hbr
      clear hfeed hr hbr hblk hL hO hM
      by_cases h4 : 4 ≤ r.length
      · obtain ⟨b, off, rfl⟩ := HR.out.addr (by omega)
        obtain ⟨m, hm⟩ := Int.eq_ofNat_of_zero_le hbd.1
        rw [hm] at hbd
        have HMM := Lib.hid hm
        clear hm
        by_cases hin : 1 ≤ (m : Int) ∧ (m : Int) ≤ 33792
        · have HIN := Lib.hid hin
          have HD := Lib.hid (decide_eq_true hin)
          by_cases hw : (r.length : Int) < 4 + (m : Int)
          · have hsh : Hid (feed r = ([], some r)) := Lib.hid (feed_wait4 h4 (by rw [HMM.out]; exact HIN.out) (by rw [HMM.out]; exact hw))
            have HLW : Hid (∀ W, Ext wr W → Blk W (w.heap.size + 1 + 1) 75 #[lv]) := Lib.hid fun W hE => HL.out.ext hE
            have HFW : Hid (∀ W, Ext wr W → Blk W (w.heap.size + 1) 36 #[.slice none 0 0, .bool false]) := Lib.hid fun W hE => (HF3.out.mod HM.out (by omega)).ext hE
            go_wp2_with (first | (go_at_call 25; refine (length_any _ r _ HR.out HBR.out h4).mono ?_; rintro e w4 ⟨rfl, hE4⟩; rw [HMM.out]) | (go_at_call 22; refine (fits_any _ _).mono ?_; rintro e w5 ⟨rfl, rfl⟩; rw [HD.out]))
            have c0 := (HLW.out w4 hE4).cell0
            have c1 := (HFW.out w4 hE4).cell 0
            have c2 := (HFW.out w4 hE4).cell 1
            simp only [List.getElem?_toArray, List.getElem?_cons_zero, List.getElem?_cons_succ] at c1 c2
            have f1 := (HFW.out w4 hE4).frozen 0
            have f2 := (HFW.out w4 hE4).frozen 1
            go_region_law (go_simp; go_at_call 26; refine (clone_u8 _ _ _ _ ((HR.out.ext hE4).ext (by repeat (first | exact Ext.refl _ | refine Ext.drew ?_))) (one_ints _ _) (by omega)).mono ?_; rintro e w7 ⟨v7, rfl, hown7, hE7⟩; obtain ⟨A7, c7, rfl⟩ := own_shape hown7; have hE7' : Ext w4 w7 := (Ext.refl w4).drew.trans hE7; have d0 := (HLW.out w7 (hE4.trans hE7')).cell0; have d1 := (HFW.out w7 (hE4.trans hE7')).cell 0; have d2 := (HFW.out w7 (hE4.trans hE7')).cell 1; simp only [List.getElem?_toArray, List.getElem?_cons_zero, List.getElem?_cons_succ] at d1 d2; have g1 := (HFW.out w7 (hE4.trans hE7')).frozen 0; have g2 := (HFW.out w7 (hE4.trans hE7')).frozen 1)
            all_goals
              go_wp2
              rw [Exit.noGoto_ret]
            all_goals
              have hW : Mod (fun k => k = w.heap.size + 1) w7 ((w7.setCell ⟨w.heap.size + 1, 0, none⟩ (.slice A7 r.length c7)).setCell ⟨w.heap.size + 1, 1, none⟩ (.bool false)) :=
                (by repeat (first | with_reducible exact Mod.refl _ _ | refine Mod.drew ?_ | refine Mod.drewN ?_ _ | refine Mod.set1 ?_ _))
              obtain ⟨e1, e2, e3⟩ := feed_end_ok (B := w.heap.size + 1) E3 (Nat.le_succ _) (by omega) HFeed.out HO.out HM.out hsh.out hE4 hE7' hown7 hW
              have BW := ((HFW.out w7 (hE4.trans hE7')).set_ 0 (.slice A7 r.length c7)).set_ 1 (.bool false)
              have q0 := BW.cell 0
              have q1 := BW.cell 1
              simp only [List.getElem?_toArray, List.setIfInBounds_toArray, List.set_cons_zero, List.set_cons_succ, List.getElem?_cons_zero, List.getElem?_cons_succ] at q0 q1
              refine bodyPost_ret (v := .tuple #[.agg #[.slice A7 r.length c7, .bool false], lv, .int .i64 0]) (by simp [results, Act.put, Tryz.results10, go_sem, q0, q1]) rfl ?_
              rw [HBUF.out, e1]
              exact ⟨_, _, rfl, e2, e3⟩
          · go_wp2_with (first
              | (go_at_call 25; refine (length_any _ r _ HR.out HBR.out h4).mono ?_; rintro e w4 ⟨rfl, hE4⟩; rw [HMM.out])
              | (go_at_call 22; refine (fits_any _ _).mono ?_; rintro e w5 ⟨rfl, rfl⟩; rw [HD.out])
              | (go_at_call 23; refine (lput_any _ lv _ done ((r.drop 4).take m) w3.heap.size _ (HL.out.ext hE4) (HO.out.ext hE4) (Nat.le_trans HM.out.size hE4.size) ((RI.sub_ HR.out (by omega)).ext hE4) (by simp; omega) (by omega)).mono ?_; rintro e w6 ⟨rfl, lv6, hL6, hO6, hM6⟩))
            exact ⟨FRel.step HFeed.out HR.out HBR.out HK.out hlen HM.out h4 HMM.out HIN.out (by omega) hE4 hL6 hO6 hM6, by simp only [lenOfV]; omega⟩
        · have HIN := Lib.hid hin
          have HD := Lib.hid (decide_eq_false hin)
          clear hin
          have HLW : Hid (∀ W, Ext wr W → Blk W (w.heap.size + 1 + 1) 75 #[lv]) := Lib.hid fun W hE => HL.out.ext hE
          have HFW : Hid (∀ W, Ext wr W → Blk W (w.heap.size + 1) 36 #[.slice none 0 0, .bool false]) := Lib.hid fun W hE => (HF3.out.mod HM.out (by omega)).ext hE
          go_wp2_with (first
              | (go_at_call 25; refine (length_any _ r _ HR.out HBR.out h4).mono ?_; rintro e w4 ⟨rfl, hE4⟩; rw [HMM.out])
              | (go_at_call 22; refine (fits_any _ _).mono ?_; rintro e w5 ⟨rfl, rfl⟩; rw [HD.out]))
          have c0 := (HLW.out w4 hE4).cell0
          have c1 := (HFW.out w4 hE4).cell 0
          have c2 := (HFW.out w4 hE4).cell 1
          simp only [List.getElem?_toArray, List.getElem?_cons_zero, List.getElem?_cons_succ] at c1 c2
          have f1 := (HFW.out w4 hE4).frozen 0
          have f2 := (HFW.out w4 hE4).frozen 1
          go_region
          go_wp2
          rw [Exit.noGoto_ret]
          have hW : Mod (fun k => k = w.heap.size + 1) w4 ((w4.setCell ⟨w.heap.size + 1, 0, none⟩ (.slice none 0 0)).setCell ⟨w.heap.size + 1, 1, none⟩ (.bool true)).drew :=
            (by repeat (first | with_reducible exact Mod.refl _ _ | refine Mod.drew ?_ | refine Mod.drewN ?_ _ | refine Mod.set1 ?_ _))
          obtain ⟨e1, e2, e3⟩ := feed_end_bad (B := w.heap.size + 1) E3 (Nat.le_succ _) (by omega) HFeed.out HO.out HM.out h4 (by rw [HMM.out]; exact HIN.out) hE4 hW
          have BW := ((HFW.out w4 hE4).set_ 0 (.slice none 0 0)).set_ 1 (.bool true)
          have q0 := BW.cell 0
          have q1 := BW.cell 1
          simp only [List.getElem?_toArray, List.setIfInBounds_toArray, List.set_cons_zero, List.set_cons_succ, List.getElem?_cons_zero, List.getElem?_cons_succ] at q0 q1
          refine bodyPost_ret (v := .tuple #[.agg #[.slice none 0 0, .bool true], lv, .int .i64 5]) (by simp [results, Tryz.results10, go_sem, q0, q1]) rfl ?_
          rw [HBUF.out, e1]
          exact ⟨_, _, rfl, e2, e3⟩
      · have hsh : Hid (feed r = ([], some r)) := Lib.hid (feed_short (by omega))
        have HLW : Hid (∀ W, Ext wr W → Blk W (w.heap.size + 1 + 1) 75 #[lv]) := Lib.hid fun W hE => HL.out.ext hE
        have HFW : Hid (∀ W, Ext wr W → Blk W (w.heap.size + 1) 36 #[.slice none 0 0, .bool false]) := Lib.hid fun W hE => (HF3.out.mod HM.out (by omega)).ext hE
        have hE4 := Ext.refl wr
        go_wp2
        have c0 := (HLW.out wr hE4).cell0
        have c1 := (HFW.out wr hE4).cell 0
        have c2 := (HFW.out wr hE4).cell 1
        simp only [List.getElem?_toArray, List.getElem?_cons_zero, List.getElem?_cons_succ] at c1 c2
        have f1 := (HFW.out wr hE4).frozen 0
        have f2 := (HFW.out wr hE4).frozen 1
        go_region_law (go_simp; go_at_call 26; refine (clone_u8 _ _ _ _ ((HR.out.ext hE4).ext (by repeat (first | exact Ext.refl _ | refine Ext.drew ?_))) (one_ints _ _) (by omega)).mono ?_; rintro e w7 ⟨v7, rfl, hown7, hE7⟩; obtain ⟨A7, c7, rfl⟩ := own_shape hown7; have hE7' : Ext wr w7 := (Ext.refl wr).drew.trans hE7; have d0 := (HLW.out w7 (hE4.trans hE7')).cell0; have d1 := (HFW.out w7 (hE4.trans hE7')).cell 0; have d2 := (HFW.out w7 (hE4.trans hE7')).cell 1; simp only [List.getElem?_toArray, List.getElem?_cons_zero, List.getElem?_cons_succ] at d1 d2; have g1 := (HFW.out w7 (hE4.trans hE7')).frozen 0; have g2 := (HFW.out w7 (hE4.trans hE7')).frozen 1)
        all_goals
          go_wp2
          rw [Exit.noGoto_ret]
        all_goals
          have hW : Mod (fun k => k = w.heap.size + 1) w7 ((w7.setCell ⟨w.heap.size + 1, 0, none⟩ (.slice A7 r.length c7)).setCell ⟨w.heap.size + 1, 1, none⟩ (.bool false)) :=
            (by repeat (first | with_reducible exact Mod.refl _ _ | refine Mod.drew ?_ | refine Mod.drewN ?_ _ | refine Mod.set1 ?_ _))
          obtain ⟨e1, e2, e3⟩ := feed_end_ok (B := w.heap.size + 1) E3 (Nat.le_succ _) (by omega) HFeed.out HO.out HM.out hsh.out hE4 hE7' hown7 hW
          have BW := ((HFW.out w7 (hE4.trans hE7')).set_ 0 (.slice A7 r.length c7)).set_ 1 (.bool false)
          have q0 := BW.cell 0
          have q1 := BW.cell 1
          simp only [List.getElem?_toArray, List.setIfInBounds_toArray, List.set_cons_zero, List.set_cons_succ, List.getElem?_cons_zero, List.getElem?_cons_succ] at q0 q1
          refine bodyPost_ret (v := .tuple #[.agg #[.slice A7 r.length c7, .bool false], lv, .int .i64 0]) (by simp [results, Act.put, Tryz.results10, go_sem, q0, q1]) rfl ?_
          rw [HBUF.out, e1]
          exact ⟨_, _, rfl, e2, e3⟩
  · go_enter Tryz.func10, Tryz.ntmps10
    go_wp2
    go_step3
    go_wp2
    rw [Exit.noGoto_ret]
    refine bodyPost_ret (v := .tuple #[.agg #[.slice none 0 0, .bool true], .slice none 0 0, .int .i64 9]) (by simp [results, Tryz.results10, go_sem]) rfl ?_
    exact ⟨_, _, rfl, ⟨_, 0, OwnVs.nil _ _, by simp, World.ownsRow_nil _ _ _ _⟩, (by repeat (first | with_reducible exact Ext.refl _ | refine Ext.drewN ?_ _ | refine Ext.drew ?_ | refine Ext.alloc ?_ _ | assumption | (refine Below.trans ?_ (by assumption)) | (refine Ext.trans ?_ (by assumption)) | (refine Below.trans ?_ (Below.mono (by assumption) (by omega)))))⟩
end Go.Proofs.YtldijmappinngaaGreatDoor.Fr
