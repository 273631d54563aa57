/- The lines that were typed: lines behind one another in new memory, one more put, by contract. Conditions: lengths within the reach. -/
import Derived.Test.YtgahpclgdhghjaaC13
import Derived.IntWalk
namespace Go.Proofs.Ytgahpclgdhghjaa
open Go.RowKit Go.Kb

/- append at one slice type -/
theorem info_clr : (Try.prog.info? 41).map (fun i => (i.zero, i.size, i.bytes)) = some (some (.agg #[.slice none 0 0, .bool false]), 2, 32) := by kernel_rfl
theorem app_clr (w : World) {ops : Array Oper} {rest : List Oper} {o : Oper} {a : Act} {Q : Exit → Act → World → Prop} (hgd : o.guard = none) (s x : Operand)
    (ho : o.op = .call { callee := .builtin .append, args := #[s, x], argTypes := #[26, 26] })
    (base : Nat) (v : Value) (n : Nat) (xs : List Value) (hs : a.eval s = v) (hown : w.ownsRow base 41 2 v n xs)
    (y : Value) (m : Nat) (news : List Value) (hx : a.eval x = y) (hr : RdN w 2 y m news) (h1 : ∀ u ∈ news, u.oneCell' = true)
    (hb : n + m ≤ 137438953472) (hbase : base ≤ w.heap.size)
    (h : ∀ v' w', w'.ownsRow base 41 2 v' (n + m) (xs ++ news) → Below base w w' → w.grownBy w' v.ownBlock → (v'.ownBlock = v.ownBlock ∨ v'.ownBlock = some w.heap.size) → wpList Try.prog ops Q rest (a.put o.dst v') w') : wpList Try.prog ops Q (o :: rest) a w := by
  obtain ⟨i0, hi0, hz0, hz1, hz2⟩ := info_parts info_clr
  exact wpList_append_rd w hgd s x _ ho base _ i0 _ 2 32 Try.underlying26 hi0 hz0 hz1 hz2 rfl (by omega) v n xs hs hown y m news hx hr h1 (by unfold maxLen; omega) (by omega) hbase
    fun v' w' a1 a2 a3 => h v' w' a1 ((Below.refl _ _).grown a2 hbase fun k hk => (hown.lt k hk).1) a2 a3
theorem sapp_clr (w : World) {ops : Array Oper} {o : Oper} {a : Act} {K : Act → World → Prop} {Q : Exit → Act → World → Prop} {E : Prop} (hgd : o.guard = none) (s x : Operand)
    (ho : o.op = .call { callee := .builtin .append, args := #[s, x], argTypes := #[26, 26] })
    (base : Nat) (v : Value) (n : Nat) (xs : List Value) (hs : a.eval s = v) (hown : w.ownsRow base 41 2 v n xs)
    (y : Value) (m : Nat) (news : List Value) (hx : a.eval x = y) (hr : RdN w 2 y m news) (h1 : ∀ u ∈ news, u.oneCell' = true)
    (hb : n + m ≤ 137438953472) (hbase : base ≤ w.heap.size)
    (h : ∀ v' w', w'.ownsRow base 41 2 v' (n + m) (xs ++ news) → Below base w w' → w.grownBy w' v.ownBlock → (v'.ownBlock = v.ownBlock ∨ v'.ownBlock = some w.heap.size) → K (a.put o.dst v') w') :
    if Region.wanted o (yielded ops a.tmps) = true then Oper.wp Try.prog o a w K Q else E := by
  obtain ⟨i0, hi0, hz0, hz1, hz2⟩ := info_parts info_clr
  exact step_append_rd w hgd s x _ ho base _ i0 _ 2 32 Try.underlying26 hi0 hz0 hz1 hz2 rfl (by omega) v n xs hs hown y m news hx hr h1 (by unfold maxLen; omega) (by omega) hbase
    fun v' w' a1 a2 a3 => h v' w' a1 ((Below.refl _ _).grown a2 hbase fun k hk => (hown.lt k hk).1) a2 a3
set_option maxHeartbeats 400000 in
theorem grow_clr (n : Int) (w : World) (h0 : 0 ≤ n) (hn : n ≤ 137438953472) :
    Calls Try.prog 28 #[.slice none 0 0, .int .i64 n] w fun e w' => ∃ v', e = .returned v' ∧ w'.ownsRow w.heap.size 41 2 v' 0 [] ∧ Ext w w' := by
  obtain ⟨i0, hi0, hz0, hz1, hz2⟩ := info_parts info_clr
  by_cases h : n = 0
  · subst h
    go_enter Try.func28, Try.ntmps28
    go_wp2
    go_ret
    exact ⟨_, rfl, World.ownsRow_nil _ _ _ _, (by repeat (first | with_reducible exact Ext.refl _ | refine Ext.drewN ?_ _ | refine Ext.drew ?_ | refine Ext.alloc ?_ _ | assumption | (refine Below.trans ?_ (by assumption)) | (refine Ext.trans ?_ (by assumption)) | (refine Below.trans ?_ (Below.mono (by assumption) (by omega)))))⟩
  · obtain ⟨m, rfl⟩ := Int.eq_ofNat_of_zero_le h0
    have hr := Lib.hid (Lib.run_append_nil_zeros (P := Try.prog) w 26 3 0 41 i0 _ .i64 .i64 Try.underlying26 Try.underlying3 hi0 hz0 m (by omega) (by omega) (by omega) (by rw [hz2]; omega))
    have hc1 := Lib.hid (grownCap_ge w m 0 41)
    have hc2 := Lib.hid (grownCap_le_maxLen w m 0 41 (by unfold maxLen; omega))
    go_enter Try.func28, Try.ntmps28
    go_wp2_with ((at_builtin; refine Lib.wpList_append_run _ rfl _ _ _ _ rfl _ _ rfl rfl _ _ hr.out ?_))
    go_ret
    refine ⟨_, rfl, World.ownsRow_made w.drew _ _ (Nat.le_refl _) hc2.out ?_, (by repeat (first | with_reducible exact Ext.refl _ | refine Ext.drewN ?_ _ | refine Ext.drew ?_ | refine Ext.alloc ?_ _ | assumption | (refine Below.trans ?_ (by assumption)) | (refine Ext.trans ?_ (by assumption)) | (refine Below.trans ?_ (Below.mono (by assumption) (by omega)))))⟩
    have := hc1.out
    simp only [Array.size_append, size_zeroCells, List.size_toArray, List.length_cons, List.length_nil]
    omega
set_option maxHeartbeats 400000 in
theorem concat_clr (v : Value) (ls : List (Nat × List Value)) (w : World) (h : RdLL w 2 v ls) (h1 : ∀ l ∈ ls, ∀ u ∈ l.2, u.oneCell' = true) (hn : tot ls ≤ 137438953472) :
    Calls Try.prog 26 #[v] w fun e w' => ∃ v', e = .returned v' ∧ w'.ownsRow w.heap.size 41 2 v' (tot ls) (cat ls) ∧ Ext w w' := by
  obtain ⟨vs, hl, hrd, hvs⟩ := h
  obtain ⟨_, A, c, rfl, hnc, hcm, hA⟩ := id hrd
  have HL := Lib.hid hl
  have HR := Lib.hid hrd
  have HV := Lib.hid hvs
  have H1 := Lib.hid h1
  clear hl hrd hvs hA h1
  unfold maxLen at hcm
  go_enter Try.func26, Try.ntmps26
  go_wp2
  go_loop [3, 11] (fun t i => ∃ k : Nat, k ≤ ls.length ∧ i = .int .i64 k ∧ t = .int .i64 (tot (ls.take k))) (fun _ i => ls.length - (intOf i).toNat)
  case atStart => exact ⟨0, Nat.zero_le _, rfl, by simp [tot]⟩
  case round =>
    obtain ⟨k, hk, rfl, rfl⟩ := hrel
    by_cases hlt : k < ls.length
    · obtain ⟨b, off, cc, hv, _, _, hc⟩ := HR.out.form (by omega)
      simp only [Value.slice.injEq] at hv
      obtain ⟨rfl, _, rfl⟩ := hv
      have hxl : k < vs.length := by have := HL.out; omega
      obtain ⟨x, hx⟩ : ∃ x, vs[k]? = some x := ⟨_, List.getElem?_eq_getElem hxl⟩
      obtain ⟨l, hl⟩ : ∃ l, ls[k]? = some l := ⟨_, List.getElem?_eq_getElem hlt⟩
      have hcx := hc k x hx
      obtain ⟨_, A2, c2, rfl, hnc2, hcm2, _⟩ := HV.out k x l hx hl
      have hts := Lib.hid (tot_succ hl)
      have hle := tot_take_le ls (k + 1)
      rw [hts.out] at hle
      unfold maxLen at hcm2
      clear hc hx hl
      go_wp2
      go_round
      case rel => exact ⟨k + 1, by omega, by go_num, by rw [hts.out]; go_num⟩
      case measure => simp [intOf]; omega
    · obtain rfl : k = ls.length := by omega
      have HT : Hid (ls.take ls.length = ls) := Lib.hid (List.take_length)
      rw [HT.out]
      go_wp2_with (go_at_call 28; refine (grow_clr _ _ (by omega) (by omega)).mono ?_; rintro e w1 ⟨v1, rfl, hown1, hE1⟩)
      have HO := Lib.hid hown1
      clear hown1
      obtain ⟨hc1, hf1⟩ := And.intro hE1.cell hE1.frozen
      go_loopw [6, 27] (fun s i wr => ∃ k : Nat, k ≤ ls.length ∧ i = .int .i64 k ∧ wr.ownsRow w.heap.size 41 2 s (tot (ls.take k)) (cat (ls.take k)) ∧ Ext w wr) (fun _ i _ => ls.length - (intOf i).toNat)
      case atStart => exact ⟨0, Nat.zero_le _, rfl, HO.out, hE1⟩
      case round =>
        obtain ⟨k, hk, rfl, hown, hE⟩ := hrel
        have HO2 := Lib.hid hown
        clear hown hc1 hf1
        by_cases hlt : k < ls.length
        · obtain ⟨b, off, cc, hv, _, _, hc⟩ := (HR.out.ext hE).form (by omega)
          simp only [Value.slice.injEq] at hv
          obtain ⟨rfl, _, rfl⟩ := hv
          have hxl : k < vs.length := by have := HL.out; omega
          obtain ⟨x, hx⟩ : ∃ x, vs[k]? = some x := ⟨_, List.getElem?_eq_getElem hxl⟩
          obtain ⟨l, hl⟩ : ∃ l, ls[k]? = some l := ⟨_, List.getElem?_eq_getElem hlt⟩
          have hcx := hc k x hx
          have X := Lib.hid ((HV.out k x l hx hl).ext hE)
          have X1 := Lib.hid (H1.out l (List.mem_of_getElem? hl))
          have hts := Lib.hid (tot_succ hl)
          have hcs := Lib.hid (cat_succ hl)
          have hle := tot_take_le ls (k + 1)
          rw [hts.out] at hle
          clear hc hx hl
          go_wp2_with ((at_builtin; refine app_clr _ rfl _ _ rfl w.heap.size _ _ _ rfl HO2.out _ l.1 l.2 rfl X.out X1.out (by omega) hE.size ?_; intro v2 w2 hown2 hB2 hg2 hat2))
          go_roundw
          case rel => exact ⟨k + 1, by omega, by go_num, by rw [hts.out, hcs.out]; exact hown2, (by repeat (first | with_reducible exact Ext.refl _ | refine Ext.drewN ?_ _ | refine Ext.drew ?_ | refine Ext.alloc ?_ _ | assumption | (refine Below.trans ?_ (by assumption)) | (refine Ext.trans ?_ (by assumption)) | (refine Below.trans ?_ (Below.mono (by assumption) (by omega)))))⟩
          case measure => simp [intOf]; omega
        · obtain rfl : k = ls.length := by omega
          go_wp2
          go_ret
          have := HO2.out
          rw [HT.out] at this
          exact ⟨_, rfl, this, (by repeat (first | with_reducible exact Ext.refl _ | refine Ext.drewN ?_ _ | refine Ext.drew ?_ | refine Ext.alloc ?_ _ | assumption | (refine Below.trans ?_ (by assumption)) | (refine Ext.trans ?_ (by assumption)) | (refine Below.trans ?_ (Below.mono (by assumption) (by omega)))))⟩
/-- the elements of two rows -/
theorem concat_cl {A : Nat → Prop} (v : Value) (va vb : Value) (w : World) (ds ds2 : List _) (hv : RdN w 1 v 2 [va, vb]) (h1 : RdS Ln A w va ds) (h2 : RdS Ln A w vb ds2) (hn : ds.length + ds2.length ≤ 137438953472) :
    Calls Try.prog 26 #[v] w fun e w' => ∃ Ad c, e = .returned (.slice Ad (ds ++ ds2).length c) ∧ OwnS Ln 41 w.heap.size (fun k => A k ∧ k < w.heap.size) w' (.slice Ad (ds ++ ds2).length c) (ds ++ ds2) ∧ Ext w w' := by
  obtain ⟨us, hu, hue⟩ := h1.lt.y
  obtain ⟨vs, hv1, hve⟩ := h2.lt.y
  have hLL : RdLL w 2 v [(ds.length, us), (ds2.length, vs)] := ⟨[va, vb], rfl, hv, fun j x l hx hl => by
    match j, hx, hl with
    | 0, hx, hl => simp at hx hl; subst hx hl; exact hu
    | 1, hx, hl => simp at hx hl; subst hx hl; exact hv1⟩
  refine (concat_clr v _ w hLL (fun l hl u hu => ?_) (by simp [tot]; omega)).mono ?_
  · simp at hl
    rcases hl with rfl | rfl
    · exact hue.one u hu
    · exact hve.one u hu
  · rintro e w' ⟨v', rfl, hown, hE⟩
    have e1 : tot [(ds.length, us), (ds2.length, vs)] = (ds ++ ds2).length := by simp [tot]
    have e2 : cat [(ds.length, us), (ds2.length, vs)] = us ++ vs := by simp [cat]
    rw [e1, e2] at hown
    obtain ⟨Ad, c, rfl⟩ := own_shape hown
    refine ⟨Ad, c, rfl, ⟨_, hown, (hue.append hve).keep fun k hk ha => ⟨⟨ha, fun h => ?_⟩, hE.block k hk⟩⟩, hE⟩
    have := (hown.lt k h).1
    omega
set_option maxHeartbeats 800000 in
theorem twin_any {A : Nat → Prop} (Ad : Option Addr) (l : List Int) (c : Nat) (f : Bool) (w : World) (h : RdS Ub A w (.slice Ad l.length c) l) (hn : l.length ≤ 140737488355328) :
    Calls Try.prog 27 #[.agg #[.slice Ad l.length c, .bool f]] w fun e w' => ∃ Ad' c', e = .returned (.agg #[.slice Ad' l.length c', .bool f]) ∧
      RdS Ub (fun k => w.heap.size ≤ k) w' (.slice Ad' l.length c') l ∧ Ext w w' := by
  have H := Lib.hid h
  clear h
  go_enter Try.func27, Try.ntmps27
  go_wp2
  go_region_held3 (fun w' => w'.cell? ⟨w.heap.size, 0, none⟩ = some (.slice Ad l.length c) ∧ w'.cell? ⟨w.heap.size, 1, none⟩ = some (.bool f)) (go_keep) (first
    | (((go_at_call 23; refine (clone_u8 (A := fun _ => False) _ l _ (RI.y (RdS.ri (H.out.ext (by repeat (first | exact Ext.refl _ | refine Ext.drew ?_ | refine Ext.alloc ?_ _))))) (by omega)).mono ?_; rintro e w1 ⟨A1, c1, rfl, hown1, hE1⟩); have hc1 := Bc hE1; have hf1 := Bf hE1; have hz1 := Below.size hE1; (try simp at hz1); have hd1 := fun o => hc1 w.heap.size o (by simp; omega))))
  all_goals
    go_wp2
    have BW : Blk w1 (w.heap.size + 1) 41 #[.slice none 0 0, .bool false] := Blk.ext (Blk.drew (Blk.at_ (w := w.alloc (.cells #[.slice Ad l.length c, .bool f] 41)) _ _ (by simp))) hE1
    obtain ⟨q0, q1, _, _⟩ := (BW.put2 (.slice A1 l.length c1) (.bool f)).two
    have hW : Mod (fun k => k = w.heap.size + 1) w1 ((w1.setCell ⟨w.heap.size + 1, 0, none⟩ (.slice A1 l.length c1)).setCell ⟨w.heap.size + 1, 1, none⟩ (.bool f)) := (by repeat (first | with_reducible exact Mod.refl _ _ | refine Mod.drew ?_ | refine Mod.drewN ?_ _ | refine Mod.set1 ?_ _))
    refine bodyPost_ret (v := .agg #[.slice A1 l.length c1, .bool f]) (by simp [results, Try.results27, go_sem, q0, q1]) rfl ?_
    have hr := hown1.row
    refine ⟨_, _, rfl, (hown1.mod hW (fun k hk => by have := (hr k hk).1; simp at this; omega) (fun k _ hk => hk.1.elim)).rd (fun k hk => by simp at hk; omega) (fun k hk => hk.1.elim), Mod.toExt (by repeat (first | with_reducible exact Ext.refl _ | refine Ext.drewN ?_ _ | refine Ext.drew ?_ | refine Ext.alloc ?_ _ | assumption | (refine Below.trans ?_ (by assumption)) | (refine Ext.trans ?_ (by assumption)) | (refine Below.trans ?_ (Below.mono (by assumption) (by omega))))) hW (by intro k hk; omega)⟩

set_option maxHeartbeats 800000 in
theorem twins_any {A : Nat → Prop} (v v2 : Value) (ls ms : List (List Int × Bool)) (w : World) (h : RdS Ln A w v ls) (h2 : RdS Ln A w v2 ms) (hn : usedL (ls ++ ms) ≤ 140737488355328) (hm : (ls ++ ms).length ≤ 100000000) :
    Calls Try.prog 22 #[v, v2] w fun e w' => ∃ Ad c, e = .returned (.slice Ad (ls ++ ms).length c) ∧ OwnS Ln 41 w.heap.size (fun k => w.heap.size ≤ k) w' (.slice Ad (ls ++ ms).length c) (ls ++ ms) ∧ Ext w w' := by
  obtain ⟨Ad, c, rfl, hc1, hc2⟩ := h.shape
  obtain ⟨Ad2, c2, rfl, hc3, hc4⟩ := h2.shape
  have H := Lib.hid h
  have H2 := Lib.hid h2
  have hm0 : ls.length + ms.length ≤ 100000000 := by simpa using hm
  obtain ⟨zs, hz⟩ : ∃ zs, zs = ls ++ ms := ⟨_, rfl⟩
  rw [← hz] at hn hm ⊢
  have HZ := Lib.hid hz
  clear h h2 hz
  go_enter Try.func22, Try.ntmps22
  go_wp2_with ((go_at_call 26; refine (concat_cl _ _ _ _ ls ms (RdN.twoB rfl _ _ _) (H.out.alloc _) (H2.out.alloc _) (by omega)).mono ?_; rintro e w1 ⟨A1, c1, rfl, hown1, hE1⟩); rw [← HZ.out] at hown1 ⊢)
  have E1 : Ext w w1 := (by repeat (first | with_reducible exact Ext.refl _ | refine Ext.drewN ?_ _ | refine Ext.drew ?_ | refine Ext.alloc ?_ _ | assumption | (refine Below.trans ?_ (by assumption)) | (refine Ext.trans ?_ (by assumption)) | (refine Below.trans ?_ (Below.mono (by assumption) (by omega)))))
  have H := Lib.hid (hown1.rd (A := fun _ => True) (fun _ _ => trivial) (fun _ _ => trivial)).y
  clear hown1 hE1 H2 hm0
  have hsz1 := E1.size
  go_loopw [5, 13] (fun s i wr => ∃ k : Nat, k ≤ zs.length ∧ i = .int .i64 k ∧ OwnS Ln 41 w1.heap.size (fun k => w1.heap.size ≤ k) wr s (zs.take k) ∧ Ext w1 wr) (fun _ i _ => zs.length - (intOf i).toNat)
  case atStart => exact ⟨0, Nat.zero_le _, rfl, OwnS.nil _ _ _ _ _, Ext.refl _⟩
  case round =>
    obtain ⟨k, hk, rfl, hO, hE⟩ := hrel
    have HO := Lib.hid hO
    have hsz := hE.size
    obtain ⟨Ao, co, rfl, _, _⟩ := hO.shapeN (n := k) (by simp; omega)
    clear hO
    by_cases hlt : k < zs.length
    · obtain ⟨b, off, Ad', l, f, c', rfl, hx, hy, hd, hr, hl1, hl2⟩ := ln_at (H.out.ext hE) hlt
      have h5 := ln_len hd.out hn
      go_wp2_with (first
        | ((go_at_call 27; refine (twin_any _ l _ f _ (hr.out.ext (by repeat (first | exact Ext.refl _ | refine Ext.drew ?_ | refine Ext.alloc ?_ _))) h5).mono ?_; rintro e w2 ⟨A2, c2, rfl, hr2, hE2⟩))
        | ((at_builtin; refine wpList_app (B := fun k => w1.heap.size ≤ k) (A := fun k => (wr.alloc (.cells #[.slice Ad' l.length c', .bool f] 41)).heap.size ≤ k) rfl (.tmp 17) (.tmp 20) rfl Try.underlying26 info_cl rfl (HO.out.ext (by repeat (first | with_reducible exact Ext.refl _ | refine Ext.drewN ?_ _ | refine Ext.drew ?_ | refine Ext.alloc ?_ _ | assumption | (refine Below.trans ?_ (by assumption)) | (refine Ext.trans ?_ (by assumption)) | (refine Below.trans ?_ (Below.mono (by assumption) (by omega)))))) rfl (RdY.singleB (ln_rel (hr2.ext (by repeat (first | exact Ext.refl _ | refine Ext.drew ?_ | refine Ext.alloc ?_ _)))) (by repeat (first | ((with_reducible refine Blk.at_ _ _ ?_); simp; done) | with_reducible refine Blk.drew ?_ | with_reducible refine Blk.alloc ?_ _ | refine Blk.ext ?_ (by assumption)))) rfl (fun k _ hk => ⟨by simp at hk; omega, HO.out.newer (by simp at hk; omega)⟩) (N := k + 1) (by simp; omega) (by simp [maxLen]; omega) (by omega) (by have := hE2.size; simp at this ⊢; omega) ?_; intro A3 c3 w3 hown3 hM3 hB3; clear hM3)))
      go_roundw
      case rel => exact ⟨k + 1, by omega, by go_num, by rw [ln_snoc hd.out]; exact hown3, (by repeat (first | with_reducible exact Ext.refl _ | refine Ext.drewN ?_ _ | refine Ext.drew ?_ | refine Ext.alloc ?_ _ | assumption | (refine Below.trans ?_ (by assumption)) | (refine Ext.trans ?_ (by assumption)) | (refine Below.trans ?_ (Below.mono (by assumption) (by omega)))))⟩
      case measure => simp [intOf]; omega
    · go_wp2
      go_ret
      have : k = zs.length := by omega
      subst this
      have h0 := HO.out
      rw [List.take_length] at h0
      exact ⟨_, _, rfl, (h0.lower hsz1).mono (fun k _ hk => by omega), E1.trans hE⟩

theorem usedL_snoc (l : List (List Int × Bool)) (x : List Int × Bool) : usedL (l ++ [x]) = usedL l + szL x := by simp [usedL, List.sum_append]
/-- lines with one more, if there is room -/
def putL (ls : List (List Int × Bool)) (x : List Int × Bool) : List (List Int × Bool) × Bool := if usedL ls + szL x ≤ 1024 then (ls ++ [x], true) else (ls, false)
theorem ln_one {A : Nat → Prop} {w : World} {u : Value} {l : List Int} {f : Bool} {n : Nat} {t : TypeId} (h : RdS Ub A w u l) (hn : Blk w n t #[u, .bool f]) : RdS Ln (fun _ => True) w (.slice (some ⟨n, 0, none⟩) 1 1) [(l, f)] :=
  ⟨(RdY.singleB (ln_rel h) hn).mono fun _ _ _ => trivial, fun _ _ _ => trivial⟩
set_option maxHeartbeats 800000 in
theorem put_any {A : Nat → Prop} (v v2 : Value) (ls : List (List Int × Bool)) (l : List Int) (f : Bool) (w : World) (h : RdS Ln A w v ls) (h2 : RdS Ub A w v2 l) (hn : usedL ls + szL (l, f) ≤ 140737488355328) (hm : ls.length ≤ 1000000) :
    Calls Try.prog 16 #[v, .agg #[v2, .bool f]] w fun e w' => ∃ Ad c, e = .returned (.tuple #[.slice Ad (putL ls (l, f)).1.length c, .bool (putL ls (l, f)).2]) ∧ OwnS Ln 41 w.heap.size (fun k => w.heap.size ≤ k) w' (.slice Ad (putL ls (l, f)).1.length c) (putL ls (l, f)).1 ∧ Ext w w' := by
  obtain ⟨Ad, c, rfl, hc1, hc2⟩ := h.shape
  obtain ⟨Ad2, c2, rfl, hc3, hc4⟩ := h2.shape
  have H := Lib.hid (h.mono (B := fun _ => True) fun _ _ _ => trivial)
  have H2 := Lib.hid (h2.mono (B := fun _ => True) fun _ _ _ => trivial)
  have h0 := usedL_nn ls
  have h1 := szL_nn (l, f)
  have h5 : l.length ≤ 140737488355328 := by
    have : (l.length : Int) ≤ szL (l, f) := by unfold szL; split <;> simp <;> omega
    omega
  have hU2 : usedL (ls ++ [(l, f)]) ≤ 140737488355328 := by rw [usedL_snoc]; exact hn
  have hw : IntKind.i64.wrap (usedL ls + szL (l, f)) = usedL ls + szL (l, f) := IntWalk.i64_in _ (by omega)
  clear h h2
  by_cases hp : usedL ls + szL (l, f) ≤ 1024
  · have HP : Hid (putL ls (l, f) = (ls ++ [(l, f)], true)) := Lib.hid (if_pos hp)
    rw [HP.out]
    go_enter Try.func16, Try.ntmps16
    go_wp2
    go_region_held3 (fun w' => w'.cell? ⟨w.heap.size, 0, none⟩ = some (.slice Ad2 l.length c2) ∧ w'.cell? ⟨w.heap.size, 1, none⟩ = some (.bool f)) (go_keep) (first
      | (((go_at_call 15; refine (used_any _ ls _ (H.out.y.ext (by repeat (first | with_reducible exact Ext.refl _ | refine Ext.drewN ?_ _ | refine Ext.drew ?_ | refine Ext.alloc ?_ _ | assumption | (refine Below.trans ?_ (by assumption)) | (refine Ext.trans ?_ (by assumption)) | (refine Below.trans ?_ (Below.mono (by assumption) (by omega)))))) (by omega)).mono ?_; rintro e w1 ⟨rfl, hE1⟩); have hc1 := Bc hE1; have hf1 := Bf hE1; have hz1 := Below.size hE1; (try simp at hz1); have hd1 := fun o => hc1 w.heap.size o (by (try simp) <;> omega)))
      | (((go_at_call 24; refine (size_any _ l _ _ _ h5).mono ?_; rintro e w2 ⟨rfl, hE2⟩); have hc2 := Bc hE2; have hf2 := Bf hE2; have hz2 := Below.size hE2; (try simp at hz2); have hd2 := fun o => hc2 w.heap.size o (by (try simp) <;> omega))))
    all_goals
      go_wp2_with ((go_at_call 22; refine (twins_any (A := fun _ => True) _ _ ls [(l, f)] _ (H.out.ext (by repeat (first | with_reducible exact Ext.refl _ | refine Ext.drewN ?_ _ | refine Ext.drew ?_ | refine Ext.alloc ?_ _ | assumption | (refine Below.trans ?_ (by assumption)) | (refine Ext.trans ?_ (by assumption)) | (refine Below.trans ?_ (Below.mono (by assumption) (by omega)))))) (ln_one (H2.out.ext (by repeat (first | with_reducible exact Ext.refl _ | refine Ext.drewN ?_ _ | refine Ext.drew ?_ | refine Ext.alloc ?_ _ | assumption | (refine Below.trans ?_ (by assumption)) | (refine Ext.trans ?_ (by assumption)) | (refine Below.trans ?_ (Below.mono (by assumption) (by omega)))))) (by repeat (first | ((with_reducible refine Blk.at_ _ _ ?_); simp; done) | with_reducible refine Blk.drew ?_ | with_reducible refine Blk.alloc ?_ _ | refine Blk.ext ?_ (by assumption)))) hU2 (by simp; omega)).mono ?_; rintro e w3 ⟨A3, c3, rfl, hown3, hE3⟩))
      go_ret2
      have hE : Ext w w3 := (by repeat (first | with_reducible exact Ext.refl _ | refine Ext.drewN ?_ _ | refine Ext.drew ?_ | refine Ext.alloc ?_ _ | assumption | (refine Below.trans ?_ (by assumption)) | (refine Ext.trans ?_ (by assumption)) | (refine Below.trans ?_ (Below.mono (by assumption) (by omega)))))
      exact ⟨A3, c3, by simp, (hown3.lower (by (try simp) <;> omega)).mono (fun k _ hk => Nat.le_trans (by (try simp) <;> omega) hk), hE⟩
  · have HP : Hid (putL ls (l, f) = (ls, false)) := Lib.hid (if_neg hp)
    rw [HP.out]
    go_enter Try.func16, Try.ntmps16
    go_wp2
    go_region_held3 (fun w' => w'.cell? ⟨w.heap.size, 0, none⟩ = some (.slice Ad2 l.length c2) ∧ w'.cell? ⟨w.heap.size, 1, none⟩ = some (.bool f)) (go_keep) (first
      | (((go_at_call 15; refine (used_any _ ls _ (H.out.y.ext (by repeat (first | with_reducible exact Ext.refl _ | refine Ext.drewN ?_ _ | refine Ext.drew ?_ | refine Ext.alloc ?_ _ | assumption | (refine Below.trans ?_ (by assumption)) | (refine Ext.trans ?_ (by assumption)) | (refine Below.trans ?_ (Below.mono (by assumption) (by omega)))))) (by omega)).mono ?_; rintro e w1 ⟨rfl, hE1⟩); have hc1 := Bc hE1; have hf1 := Bf hE1; have hz1 := Below.size hE1; (try simp at hz1); have hd1 := fun o => hc1 w.heap.size o (by (try simp) <;> omega)))
      | (((go_at_call 24; refine (size_any _ l _ _ _ h5).mono ?_; rintro e w2 ⟨rfl, hE2⟩); have hc2 := Bc hE2; have hf2 := Bf hE2; have hz2 := Below.size hE2; (try simp at hz2); have hd2 := fun o => hc2 w.heap.size o (by (try simp) <;> omega))))
    all_goals
      go_wp2_with ((go_at_call 22; refine (twins_any (A := fun _ => True) _ _ ls [] _ (H.out.ext (by repeat (first | with_reducible exact Ext.refl _ | refine Ext.drewN ?_ _ | refine Ext.drew ?_ | refine Ext.alloc ?_ _ | assumption | (refine Below.trans ?_ (by assumption)) | (refine Ext.trans ?_ (by assumption)) | (refine Below.trans ?_ (Below.mono (by assumption) (by omega)))))) (RdS.nil _ _ _) (by simp; omega) (by simp; omega)).mono ?_; rintro e w3 ⟨A3, c3, rfl, hown3, hE3⟩); rw [List.append_nil] at hown3 ⊢)
      go_ret2
      have hE : Ext w w3 := (by repeat (first | with_reducible exact Ext.refl _ | refine Ext.drewN ?_ _ | refine Ext.drew ?_ | refine Ext.alloc ?_ _ | assumption | (refine Below.trans ?_ (by assumption)) | (refine Ext.trans ?_ (by assumption)) | (refine Below.trans ?_ (Below.mono (by assumption) (by omega)))))
      exact ⟨A3, c3, by simp, (hown3.lower (by (try simp) <;> omega)).mono (fun k _ hk => Nat.le_trans (by (try simp) <;> omega) hk), hE⟩
end Go.Proofs.Ytgahpclgdhghjaa
