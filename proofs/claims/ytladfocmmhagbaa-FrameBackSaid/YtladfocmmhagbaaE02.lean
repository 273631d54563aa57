/- The document's framer, by contract. Conditions: lengths below 2^26. -/
import Derived.Test.YtladfocmmhagbaaD02
namespace Go.Proofs.Ytladfocmmhagbaa
open Go.RowKit Go.Kb Go.Kb.Frame

/-- the relation of the document's loop -/
def RRel (base : Nat) (buf : List Int) (w3 : World) (s o : Value) (wr : World) : Prop :=
  ∃ (done : List (List Int)) (r : List Int) (vs : List Value), feed buf = (done ++ (feed r).1, (feed r).2) ∧ RI .u8 w3 s r ∧ Bs r ∧ (∀ k, s.ownBlock = some k → base ≤ k) ∧ done.length + r.length ≤ buf.length ∧
    vs.length = done.length ∧ wr.ownsRow w3.heap.size 22 1 o done.length vs ∧ (∀ (j : Nat) x l, vs[j]? = some x → done[j]? = some l → RI .u8 w3 x l ∧ ∀ k, x.ownBlock = some k → base ≤ k) ∧ Ext w3 wr
theorem RRel.step {base : Nat} {buf : List Int} {w3 wr w4 w6 : World} {done : List (List Int)} {r : List Int} {b off c m : Nat} {vs : List Value} {o : Value}
    (hfeed : feed buf = (done ++ (feed r).1, (feed r).2)) (hr : RI .u8 w3 (.slice (some ⟨b, off, none⟩) r.length c) r) (hbr : Bs r)
    (hblk : ∀ k, (Value.slice (some ⟨b, off, none⟩) r.length c).ownBlock = some k → base ≤ k) (hlen : done.length + r.length ≤ buf.length) (hE : Ext w3 wr)
    (h4 : 4 ≤ r.length) (hm : hd4 r = m) (hin : 1 ≤ (m : Int) ∧ (m : Int) ≤ 33792) (hw : ¬ (r.length : Int) < 4 + (m : Int)) (hE4 : Ext wr w4)
    (hl : vs.length = done.length) (hrows : ∀ (j : Nat) x l, vs[j]? = some x → done[j]? = some l → RI .u8 w3 x l ∧ ∀ k, x.ownBlock = some k → base ≤ k)
    (ho : w6.ownsRow w3.heap.size 22 1 o (done.length + 1) (vs ++ [.slice (some ⟨b, off + 4, none⟩) m (c - 4)])) (hM6 : Below w3.heap.size w4 w6) :
    RRel base buf w3 (.slice (if c = 4 + m then some ⟨b, off, none⟩ else some ⟨b, off + (4 + m), none⟩) (r.length - (4 + m)) (c - (4 + m))) o w6 := by
  refine ⟨done ++ [(r.drop 4).take m], r.drop (4 + m), vs ++ [.slice (some ⟨b, off + 4, none⟩) m (c - 4)], ?_, RI.from_ hr (by omega), Bs.sub hbr fun x hx => List.mem_of_mem_drop hx, ?_, ?_, by simp [hl], ?_, ?_, Below.trans (hE.trans hE4) hM6⟩
  · rw [hfeed, feed_more4 h4 (by rw [hm]; exact hin) hm (by omega)]
    simp
  · intro k hk
    have : k = b := by split at hk <;> simpa [Value.ownBlock, eq_comm] using hk
    rw [this]
    exact hblk b rfl
  · simp
    omega
  · simpa using ho
  · intro j x l hx hl'
    rcases Nat.lt_or_ge j vs.length with hj | hj
    · rw [List.getElem?_append_left hj] at hx
      rw [List.getElem?_append_left (by omega)] at hl'
      exact hrows j x l hx hl'
    · rw [List.getElem?_append_right hj] at hx
      rw [List.getElem?_append_right (by omega)] at hl'
      have : j - vs.length = 0 := by
        rcases Nat.eq_zero_or_pos (j - vs.length) with h | h
        · exact h
        · rw [List.getElem?_eq_none (by simp; omega)] at hx; cases hx
      rw [← hl, this] at hl'
      rw [this] at hx
      simp at hx hl'
      subst hx hl'
      exact ⟨RI.sub_ hr (by omega), fun k hk => hblk k (by simpa [Value.ownBlock] using hk)⟩
theorem rrows {B done_ : Nat} {w2 wr w4 W : World} {done : List (List Int)} {vs : List Value} {o : Value} (hd : done_ = done.length) (hB2 : B < w2.heap.size) (hl : vs.length = done.length) (ho : wr.ownsRow w2.heap.size 22 1 o done_ vs)
    (hrows : ∀ (j : Nat) x l, vs[j]? = some x → done[j]? = some l → RI .u8 w2 x l ∧ ∀ k, x.ownBlock = some k → B + 1 ≤ k) (hE : Ext w2 wr) (hE4 : Ext wr w4) (hW : Mod (fun k => k = B) w4 W) : RdLs W o done := by
  subst hd
  refine ⟨vs, hl, RdN.of_own (own_mod (own_ext ho hE4) hW fun k hk => by have := (ho.lt k hk).1; omega), fun j x l hx hl' => ?_⟩
  have h := hrows j x l hx hl'
  exact (h.1.ext (hE.trans hE4)).mod hW fun k hk => by have := h.2 k hk; omega
set_option maxHeartbeats 800000 in
theorem rfeed_any (vb v : Value) (bad : Bool) (xs ys : List Int) (w : World) (hx : RI .u8 w vb xs) (hy : RI .u8 w v ys) (bx : Bs xs) (bY : Bs ys) (nx : xs.length ≤ 40000000) (ny : ys.length ≤ 40000000) :
    Calls Try.prog 15 #[.agg #[vb, .bool bad], v] w fun e w' => ∃ rv lv, e = .returned (.tuple #[.agg #[rv, .bool (feedR bad (xs ++ ys)).1.2], lv, .int .i64 (feedR bad (xs ++ ys)).2.2]) ∧
      RdLs w' lv (feedR bad (xs ++ ys)).2.1 ∧ RI .u8 w' rv (feedR bad (xs ++ ys)).1.1 ∧ (∀ k, rv.ownBlock = some k → w.heap.size ≤ k) ∧ Ext w w' := by
  have HX := Lib.hid hx
  have HY := Lib.hid hy
  obtain ⟨A, c, rfl, hxc, hxm⟩ := hx.shape
  obtain ⟨A2, c2, rfl, hyc, hym⟩ := hy.shape
  have HBs : Hid (Bs (xs ++ ys)) := Lib.hid (by
    intro x hx
    rcases List.mem_append.1 hx with hx | hx
    · exact bx x hx
    · exact bY x hx)
  clear bx bY hx hy
  cases bad
  · go_enter Try.func15, Try.ntmps15
    go_wp2_with (first
      | (at_builtin; refine app_u8 _ rfl (.tmp 13) (.tmp 15) rfl (w.heap.size + 1 + 1) _ 0 [] rfl (own_empty (by simp) _ _ _ (by omega)) _ xs.length _ rfl (((HX.out.alloc _).alloc _).alloc _) (one_ints _ _) (by omega) (by simp) ?_; intro v1 w1 hown1 hB1 hg1 hat1)
      | (at_builtin; refine app_u8 _ rfl (.tmp 16) (.tmp 17) rfl (w.heap.size + 1 + 1) v1 _ _ rfl hown1 _ ys.length _ rfl (HY.out.ext (Below.trans ((((Ext.refl _).alloc _).alloc _).alloc _) (hB1.mono (by omega)))) (one_ints _ _) (by omega) (Nat.le_trans (by simp) hB1.size) ?_; intro v2 w2 hown2 hB2 hg2 hat2))
    have E2 : Ext w w2 := Below.trans (Below.trans ((((Ext.refl _).alloc _).alloc _).alloc _) (hB1.mono (by omega))) (hB2.mono (by omega))
    have HF2 : Hid (Blk w2 (w.heap.size + 1) 39 #[.slice none 0 0, .bool false]) := Lib.hid (by
      have h0 := (Blk.at_ (w := w.alloc (.cells #[.slice A xs.length c, .bool false] 39)) (B := w.heap.size + 1) 39 #[.slice none 0 0, .bool false] (by simp)).alloc (.cells #[] 5)
      exact (hB2.block _ (by omega)).trans ((hB1.block _ (by omega)).trans h0))
    have hsz : w.heap.size + 1 + 1 < w2.heap.size := by
      have h1 := hB1.size
      have h2 := hB2.size
      simp at h1
      omega
    have hr2 := RdN.of_own hown2
    have hlt2 := hown2.lt
    have ht : 0 + xs.length + ys.length = (xs ++ ys).length := by simp
    have hc : [] ++ List.map (Value.int .u8) xs ++ List.map (Value.int .u8) ys = u8s (xs ++ ys) := by simp
    rw [ht, hc] at hr2
    have HR2 := Lib.hid hr2
    have HT2 := Lib.hid hlt2
    have hlb : (xs ++ ys).length ≤ 80000000 := by simp; omega
    clear hr2 hlt2 ht hc hown2 hown1 hB1 hB2 hg1 hg2 hat1 hat2
    generalize hbuf : xs ++ ys = buf
    rw [hbuf] at HR2 HBs hlb
    have HBUF := Lib.hid hbuf
    clear hbuf
    go_loopw [7, 8] (RRel (w.heap.size + 1 + 1) buf w2) (fun s _ _ => lenOfV s)
    case atStart =>
      exact ⟨[], buf, [], by simp, HR2.out, HBs.out, fun k hk => (HT2.out k hk).1, by simp, rfl, World.ownsRow_nil _ _ _ _, by simp, Ext.refl _⟩
    case round =>
      obtain ⟨done, r, vs, hfeed, hr, hbr, hblk, hlen, hl, hO, hrows, hE⟩ := hrel
      obtain ⟨A3, c3, rfl, hrc, hrm⟩ := hr.shape
      obtain ⟨Ao, co, rfl⟩ := own_shape hO
      have HFeed := Lib.hid hfeed
      have HR := Lib.hid hr
      have HBR := Lib.hid hbr
      have HK := Lib.hid hblk
      have HL := Lib.hid hl
      have HO := Lib.hid hO
      have HRows := Lib.hid hrows
      have hbd := hd4_bd hbr
      have HFW : Hid (∀ W, Ext wr W → Blk W (w.heap.size + 1) 39 #[.slice none 0 0, .bool false]) := Lib.hid fun W hE' => HF2.out.ext (hE.trans hE')
      clear hfeed hr hbr hblk hl hO hrows
      by_cases h4 : 4 ≤ r.length
      · obtain ⟨b, off, rfl⟩ := HR.out.addr (by omega)
        obtain ⟨m, hm⟩ := Int.eq_ofNat_of_zero_le hbd.1
        rw [hm] at hbd
        have HMM := Lib.hid hm
        clear hm
        by_cases hin : 1 ≤ (m : Int) ∧ (m : Int) ≤ 33792
        · have HIN := Lib.hid hin
          have hm0 : ((m : Int) == 0) = false := by simp; omega
          have hm1 : decide ((33792 : Int) < m) = false := by simp; omega
          by_cases hw : (r.length : Int) < 4 + (m : Int)
          · have hw2 : (r.length : Int) - 4 < m := by omega
            have hsh : Hid (feed r = ([], some r)) := Lib.hid (feed_wait4 h4 (by rw [HMM.out]; exact HIN.out) (by rw [HMM.out]; exact hw))
            go_wp2_with ((go_at_call 18; refine (number_any _ r _ (HR.out.ext hE) HBR.out h4).mono ?_; rintro e w4 ⟨rfl, hE4⟩); rw [HMM.out]; obtain ⟨c1, c2, f1, f2⟩ := (HFW.out w4 hE4).two)
            have hW : Mod (fun k => k = w.heap.size + 1) w4 ((w4.setCell ⟨w.heap.size + 1, 0, none⟩ (.slice (some ⟨b, off, none⟩) r.length c3)).setCell ⟨w.heap.size + 1, 1, none⟩ (.bool false)) :=
              (by repeat (first | with_reducible exact Mod.refl _ _ | refine Mod.drew ?_ | refine Mod.drewN ?_ _ | refine Mod.set1 ?_ _))
            obtain ⟨q0, q1, _, _⟩ := ((HFW.out w4 hE4).put2 (.slice (some ⟨b, off, none⟩) r.length c3) (.bool false)).two
            refine bodyPost_ret (v := .tuple #[.agg #[.slice (some ⟨b, off, none⟩) r.length c3, .bool false], .slice Ao done.length co, .int .i64 0]) (by simp [results, Try.results15, go_sem, q0, q1]) rfl ?_
            rw [HBUF.out, feedR_some (r := r) (l := done) (by rw [HFeed.out, hsh.out]; simp)]
            exact ⟨_, _, rfl, rrows rfl (by omega) HL.out HO.out HRows.out hE hE4 hW, (HR.out.ext (hE.trans hE4)).mod hW (fun k hk => by have := HK.out k hk; omega), fun k hk => by have := HK.out k hk; omega, Mod.toExt ((E2.trans hE).trans hE4) hW (by intro k hk; omega)⟩
          · have hw2 : (m : Int) ≤ (r.length : Int) - 4 := by omega
            go_wp2_with (first
              | ((go_at_call 18; refine (number_any _ r _ (HR.out.ext hE) HBR.out h4).mono ?_; rintro e w4 ⟨rfl, hE4⟩); rw [HMM.out])
              | (at_builtin; refine app_rows _ rfl _ _ rfl w2.heap.size _ _ vs rfl (own_ext HO.out (hE4.alloc _)) _ 1 _ rfl (RdN.oneB rfl _ _) (by simp [Value.oneCell']) (by omega) (Nat.le_trans hE.size (Nat.le_trans hE4.size (by simp))) ?_; intro v6 w6 hown6 hB6 hg6 hat6))
            exact ⟨RRel.step HFeed.out HR.out HBR.out HK.out hlen hE h4 HMM.out HIN.out (by omega) hE4 HL.out HRows.out hown6 (Below.trans ((Ext.refl w4).alloc _ |>.mono (Nat.le_trans hE.size hE4.size)) hB6), by simp only [lenOfV]; omega⟩
        · have HIN := Lib.hid hin
          by_cases hm0 : m = 0
          · subst hm0
            clear hin
            go_wp2_with ((go_at_call 18; refine (number_any _ r _ (HR.out.ext hE) HBR.out h4).mono ?_; rintro e w4 ⟨rfl, hE4⟩); rw [HMM.out]; obtain ⟨c1, c2, f1, f2⟩ := (HFW.out w4 hE4).two)
            have hW : Mod (fun k => k = w.heap.size + 1) w4 ((w4.setCell ⟨w.heap.size + 1, 0, none⟩ (.slice none 0 0)).setCell ⟨w.heap.size + 1, 1, none⟩ (.bool true)) :=
              (by repeat (first | with_reducible exact Mod.refl _ _ | refine Mod.drew ?_ | refine Mod.drewN ?_ _ | refine Mod.set1 ?_ _))
            obtain ⟨q0, q1, _, _⟩ := ((HFW.out w4 hE4).put2 (.slice none 0 0) (.bool true)).two
            refine bodyPost_ret (v := .tuple #[.agg #[.slice none 0 0, .bool true], .slice Ao done.length co, .int .i64 5]) (by simp [results, Try.results15, go_sem, q0, q1]) rfl ?_
            rw [HBUF.out, feedR_none (l := done) (by rw [HFeed.out, feed_bad4 h4 (by rw [HMM.out]; exact HIN.out)]; simp)]
            exact ⟨_, _, rfl, rrows rfl (by omega) HL.out HO.out HRows.out hE hE4 hW, RdN.nil _ _, by simp [Value.ownBlock], Mod.toExt ((E2.trans hE).trans hE4) hW (by intro k hk; omega)⟩
          · have hm1 : ((m : Int) == 0) = false := by simp; omega
            have hm2 : (33792 : Int) < m := by omega
            clear hin
            go_wp2_with ((go_at_call 18; refine (number_any _ r _ (HR.out.ext hE) HBR.out h4).mono ?_; rintro e w4 ⟨rfl, hE4⟩); rw [HMM.out]; obtain ⟨c1, c2, f1, f2⟩ := (HFW.out w4 hE4).two)
            have hW : Mod (fun k => k = w.heap.size + 1) w4 ((w4.setCell ⟨w.heap.size + 1, 0, none⟩ (.slice none 0 0)).setCell ⟨w.heap.size + 1, 1, none⟩ (.bool true)) :=
              (by repeat (first | with_reducible exact Mod.refl _ _ | refine Mod.drew ?_ | refine Mod.drewN ?_ _ | refine Mod.set1 ?_ _))
            obtain ⟨q0, q1, _, _⟩ := ((HFW.out w4 hE4).put2 (.slice none 0 0) (.bool true)).two
            refine bodyPost_ret (v := .tuple #[.agg #[.slice none 0 0, .bool true], .slice Ao done.length co, .int .i64 5]) (by simp [results, Try.results15, go_sem, q0, q1]) rfl ?_
            rw [HBUF.out, feedR_none (l := done) (by rw [HFeed.out, feed_bad4 h4 (by rw [HMM.out]; exact HIN.out)]; simp)]
            exact ⟨_, _, rfl, rrows rfl (by omega) HL.out HO.out HRows.out hE hE4 hW, RdN.nil _ _, by simp [Value.ownBlock], Mod.toExt ((E2.trans hE).trans hE4) hW (by intro k hk; omega)⟩
      · have hsh : Hid (feed r = ([], some r)) := Lib.hid (feed_short (by omega))
        have hE4 := Ext.refl wr
        obtain ⟨c1, c2, f1, f2⟩ := (HFW.out wr hE4).two
        go_wp2
        have hW : Mod (fun k => k = w.heap.size + 1) wr ((wr.setCell ⟨w.heap.size + 1, 0, none⟩ (.slice A3 r.length c3)).setCell ⟨w.heap.size + 1, 1, none⟩ (.bool false)) :=
          (by repeat (first | with_reducible exact Mod.refl _ _ | refine Mod.drew ?_ | refine Mod.drewN ?_ _ | refine Mod.set1 ?_ _))
        obtain ⟨q0, q1, _, _⟩ := ((HFW.out wr hE4).put2 (.slice A3 r.length c3) (.bool false)).two
        refine bodyPost_ret (v := .tuple #[.agg #[.slice A3 r.length c3, .bool false], .slice Ao done.length co, .int .i64 0]) (by simp [results, Try.results15, go_sem, q0, q1]) rfl ?_
        rw [HBUF.out, feedR_some (r := r) (l := done) (by rw [HFeed.out, hsh.out]; simp)]
        exact ⟨_, _, rfl, rrows rfl (by omega) HL.out HO.out HRows.out hE hE4 hW, (HR.out.ext (hE.trans hE4)).mod hW (fun k hk => by have := HK.out k hk; omega), fun k hk => by have := HK.out k hk; omega, Mod.toExt ((E2.trans hE).trans hE4) hW (by intro k hk; omega)⟩
  · go_enter Try.func15, Try.ntmps15
    go_wp2
    refine bodyPost_ret (v := .tuple #[.agg #[.slice none 0 0, .bool true], .slice none 0 0, .int .i64 9]) (by simp [results, Try.results15, go_sem]) rfl ?_
    exact ⟨_, _, rfl, (OwnLs.nil _ 0).rd, RdN.nil _ _, by simp [Value.ownBlock], (by repeat (first | with_reducible exact Ext.refl _ | refine Ext.drewN ?_ _ | refine Ext.drew ?_ | refine Ext.alloc ?_ _ | assumption | (refine Below.trans ?_ (by assumption)) | (refine Ext.trans ?_ (by assumption)) | (refine Below.trans ?_ (Below.mono (by assumption) (by omega)))))⟩
end Go.Proofs.Ytladfocmmhagbaa
