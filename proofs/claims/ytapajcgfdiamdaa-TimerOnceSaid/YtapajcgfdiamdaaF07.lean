/- Push and Pop of a pile; heap.Fix, Push and Remove, by contract. No condition. -/
import Derived.Test.YtapajcgfdiamdaaE07
namespace Go.Proofs.Ytapajcgfdiamdaa
open Go.RowKit Go.Kb

theorem Pile.wide {T : Nat} {F G : Nat → Prop} {mv : Value} {w : World} {es : List En} (h : Pile T F mv w es) (hG : ∀ k, F k → G k) : Pile T G mv w es := by
  obtain ⟨Ad, c, h1, h2, h3⟩ := h.head
  exact ⟨⟨Ad, c, h1, h2, fun k hk => hG k (h3 k hk)⟩, hG _ h.ft, h.ents, fun e he => hG _ (h.fe e he), h.nd, h.small⟩
theorem own_less {g n c i : Nat} {w : World} {bs : List Nat} {T : TypeId} (h : OwnS Pp T 0 (fun _ => False) w (.slice (some ⟨g, 0, none⟩) n c) bs) (hi : i ≤ n) : OwnS Pp T 0 (fun _ => False) w (.slice (some ⟨g, 0, none⟩) i c) (bs.take i) := by
  obtain ⟨us, ho, he⟩ := h
  have hln := own_len ho
  have hul := ho.1
  obtain ⟨hul, ⟨hv, _⟩ | ⟨g', cap, cur, hv, hb0, hb, hcap, hmax, hcs, htk⟩⟩ := ho
  · cases hv
  cases hv
  have hlt : (bs.take i).length = i := by rw [List.length_take]; omega
  have hul : us.length = bs.length * 1 := hul
  have htk : List.take (bs.length * 1) cur.toList = us := htk
  refine ⟨us.take i, ⟨?_, .inr ⟨g, c, cur, by rw [hlt], hb0, hb, by omega, hmax, hcs, ?_⟩⟩, ?_⟩
  · rw [hlt, List.length_take]
    show _ = i * 1
    omega
  · rw [hlt]
    show List.take (i * 1) cur.toList = _
    rw [← htk, List.take_take]
    congr 1
    omega
  · have := he.take i (by omega)
    rw [show i * Pp.size = i from Nat.mul_one i] at this
    exact RdE.keep this fun k _ hk => hk.1.elim
theorem ent_left {es : List En} {x : En} {j : Nat} (h : j < es.length) : ent (es ++ [x]) j = ent es j := by
  unfold ent
  simp [List.getD, List.getElem?_append_left h]
theorem ent_last {es : List En} {x : En} : ent (es ++ [x]) es.length = x := by
  unfold ent
  simp [List.getD]
theorem info_p : (Try.prog.info? 56).map (fun i => (i.zero, i.size, i.bytes)) = some (some (.pointer none), Pp.size, 8) := by kernel_rfl
theorem push_end {T N c c5 : Nat} {F : Nat → Prop} {mv : Value} {es : List En} {x : En} {a : Nat} {Ad A5 : Option Addr} {w w1 w2 w5 : World} (h : Pile T F mv w es) (hT : Blk w T 55 #[.slice Ad es.length c, mv]) (ho : OwnS Pp 56 0 (fun _ => False) w (.slice Ad es.length c) (es.map (·.b))) (hf : ∀ k, (Value.slice Ad es.length c).ownBlock = some k → F k)
    (hx : Blk w x.b 59 (x.cells a)) (hn : ∀ e ∈ es, e.b ≠ x.b) (hN : es.length = N) (hsm : N < 1000)
    (h1 : w1 = w.setCell ⟨x.b, 2, none⟩ (.int .i64 N)) (E2 : Ext w1 w2) (o5 : OwnS Pp 56 0 (fun _ => False) w5 (.slice A5 (N + 1) c5) (es.map (·.b) ++ [x.b])) (M5 : Mod (fun k => (Value.slice Ad N c).ownBlock = some k) w2 w5) (hb : (Value.slice A5 (N + 1) c5).ownBlock = (Value.slice Ad N c).ownBlock ∨ (Value.slice A5 (N + 1) c5).ownBlock = some w2.heap.size) :
    Pile T (fun k => F k ∨ k = x.b ∨ (w.heap.size ≤ k ∧ k < (w5.setCell ⟨T, 0, none⟩ (.slice A5 (N + 1) c5)).heap.size)) mv (w5.setCell ⟨T, 0, none⟩ (.slice A5 (N + 1) c5)) (es ++ [x]) ∧ Mod (fun k => F k ∨ k = x.b) w (w5.setCell ⟨T, 0, none⟩ (.slice A5 (N + 1) c5)) := by
  subst hN
  have M1 : Mod (fun k => k = x.b) w w1 := by rw [h1]; exact (Mod.refl _ w).set1 _
  have hTx : T ≠ x.b := blk_ne hT hx (by decide)
  have T1 := hT.mod M1 hTx
  have T2 := T1.ext E2
  have O1 := ho.mod M1 (fun k hk he => own_blk_ne ho.choose_spec.1 hx (by decide) (by rw [← he]; exact hk)) (fun _ _ hk _ => hk)
  have O2 := O1.ext E2
  have T5 := T2.mod M5 (fun hk => own_blk_ne O2.choose_spec.1 T2 (by decide) hk)
  have T6 := T5.set_ 0 (.slice A5 (es.length + 1) c5)
  have MT : Mod (fun k => k = T) w5 (w5.setCell ⟨T, 0, none⟩ (.slice A5 (es.length + 1) c5)) := (Mod.refl _ w5).set1 _
  have X1 : Blk w1 x.b 59 (x.cells es.length) := by rw [h1]; exact hx.set_ 2 (.int .i64 es.length)
  have X5 := (X1.ext E2).mod M5 (fun hk => own_blk_ne O2.choose_spec.1 (X1.ext E2) (by decide) hk)
  have ML : Mod (fun k => F k ∨ k = x.b) w (w5.setCell ⟨T, 0, none⟩ (.slice A5 (es.length + 1) c5)) :=
    (((M1.mono fun k _ hk => .inr hk).ext E2).trans (M5.mono fun k _ hk => .inl (hf k hk))).trans (MT.mono fun k _ hk => .inl (by rw [hk]; exact h.ft))
  refine ⟨⟨⟨A5, c5, ?_, ?_, ?_⟩, .inl h.ft, ?_, ?_, ?_, ?_⟩, ML⟩
  · rw [List.length_append]
    exact T6
  · rw [List.length_append, List.map_append]
    exact o5.mod MT (fun k hk he => own_blk_ne o5.choose_spec.1 T5 (by decide) (by rw [← he]; exact hk)) (fun _ _ hk _ => hk)
  · rw [List.length_append]
    intro k hk
    show F k ∨ k = x.b ∨ _
    have hk : (Value.slice A5 (es.length + 1) c5).ownBlock = some k := hk
    rcases hb with hb | hb
    · exact .inl (hf k (by rw [← hb]; exact hk))
    · refine .inr (.inr ⟨?_, Nat.lt_of_lt_of_le (o5.row k hk).2 MT.size⟩)
      rw [hb] at hk
      cases hk
      exact Nat.le_trans M1.size E2.size
  · intro j hj
    rw [List.length_append] at hj
    by_cases hjl : j < es.length
    · rw [ent_left hjl]
      have hm : ent es j ∈ es := List.mem_of_getElem? (ent_some hjl)
      have B1 := ((h.ents j hjl).mod M1 (hn _ hm)).ext E2
      have B5 := B1.mod M5 (fun hk => own_blk_ne O2.choose_spec.1 B1 (by decide) hk)
      exact B5.mod MT (blk_ne T5 B5 (by decide)).symm
    · obtain rfl : j = es.length := by simp at hj; omega
      rw [ent_last]
      exact X5.mod MT (blk_ne T5 X5 (by decide)).symm
  · intro e he
    rcases List.mem_append.1 he with he | he
    · exact .inl (h.fe e he)
    · simp at he
      subst he
      exact .inr (.inl rfl)
  · rw [List.map_append, List.nodup_append]
    refine ⟨h.nd, by simp, ?_⟩
    intro b hb b' hb' he
    obtain ⟨e, he1, rfl⟩ := List.mem_map.1 hb
    simp at hb'
    subst hb'
    exact hn e he1 he
  · rw [List.length_append]
    show es.length + 1 ≤ 1000
    omega
theorem assert_entry (v : Value) (w : World) : (Instr.typeAssert (.iface 56 v) 20 56 true).run Try.prog w = .ok (.tuple #[v, .bool true]) w := by kernel_rfl
set_option maxRecDepth 100000 in
set_option maxHeartbeats 3000000 in
theorem push_any (T : Nat) (F : Nat → Prop) (mv : Value) (es : List En) (x : En) (a : Nat) (hn : ∀ e ∈ es, e.b ≠ x.b) (hsm : es.length < 1000) (w : World) (h : Pile T F mv w es) (hx : Blk w x.b 59 (x.cells a)) :
    Calls Try.prog 45 #[.pointer (some ⟨T, 0, none⟩), .iface 56 (.pointer (some ⟨x.b, 0, none⟩))] w fun e w' => e = .returned (.tuple #[]) ∧ Pile T (fun k => F k ∨ k = x.b ∨ (w.heap.size ≤ k ∧ k < w'.heap.size)) mv w' (es ++ [x]) ∧ Mod (fun k => F k ∨ k = x.b) w w' := by
  obtain ⟨Ad, c, hT, ho, hf⟩ := h.head
  obtain ⟨N, hN⟩ : ∃ N, es.length = N := ⟨_, rfl⟩
  have HE := Lib.hid (fun w1 w2 w5 A5 c5 h1 E2 o5 M5 hb => push_end (N := N) (w1 := w1) (w2 := w2) (w5 := w5) (A5 := A5) (c5 := c5) h hT ho hf hx hn hN (by omega) h1 E2 o5 M5 hb)
  obtain ⟨w1, hw1⟩ : ∃ w1, w1 = w.setCell ⟨x.b, 2, none⟩ (.int .i64 N) := ⟨_, rfl⟩
  have M1 : Mod (fun k => k = x.b) w w1 := by rw [hw1]; exact (Mod.refl _ w).set1 _
  have hTx : T ≠ x.b := blk_ne hT hx (by decide)
  have T1 := Lib.hid (hT.mod M1 hTx)
  have O1 := Lib.hid (ho.mod M1 (fun k hk he => own_blk_ne ho.choose_spec.1 hx (by decide) (by rw [← he]; exact hk)) (fun _ _ hk _ => hk))
  have kt := hT.cell 0
  have x2 := hx.cell 2
  have f2 := hx.frozen 2
  have HSM := Lib.hid hsm
  rw [hN] at T1 O1 kt
  have HN := Lib.hid hN
  have HW := Lib.hid hw1
  clear h hT ho hf hx hn hN hw1 M1 hsm
  have hta := assert_entry (.pointer (some ⟨x.b, 0, none⟩))
  go_enter Try.func45, Try.ntmps45
  go_upto_region 3 with fail
  rw [← HW.out]
  have kt := T1.out.cell 0
  have ft := T1.out.frozen 0
  clear x2 f2
  go_wp2_with (at_builtin; refine wpList_appB (e := Pp) (base := 0) (B := fun _ => False) (A := fun _ => False) rfl (.tmp 23) (.tmp 25) rfl Try.underlying53 info_p rfl (O1.out.alloc _) rfl (RdY.singleB (e := Pp) (cs := [.pointer (some ⟨x.b, 0, none⟩)]) (d := x.b) rfl (Blk.at_ _ _ rfl)) rfl (fun _ _ h => h.elim) (N := N + 1) (by simp [HN.out]) (by have := HSM.out; have := HN.out; simp [maxLen]; omega) (by have := HSM.out; have := HN.out; omega) (by omega) ?_; intro A5 c5 w5 o5 M5 D5 hb5; have E2 : Ext w1 (w1.alloc (.cells #[.pointer (some ⟨x.b, 0, none⟩)] 56)) := (Ext.refl w1).alloc _; have T5 := (T1.out.ext E2).mod M5 (fun hk => own_blk_ne (O1.out.ext E2).choose_spec.1 (T1.out.ext E2) (by decide) hk); have kt := T5.cell 0; have ft := T5.frozen 0)
  go_end0
  exact ⟨rfl, HE.out w1 _ w5 A5 c5 HW.out E2 o5 M5 hb5⟩
theorem pop_end {T g N c : Nat} {F : Nat → Prop} {mv : Value} {es : List En} {x : En} {w : World} (h : Pile T F mv w (es ++ [x])) (hT : Blk w T 55 #[.slice (some ⟨g, 0, none⟩) (N + 1) c, mv]) (ho : OwnS Pp 56 0 (fun _ => False) w (.slice (some ⟨g, 0, none⟩) (N + 1) c) ((es ++ [x]).map (·.b))) (hN : es.length = N) :
    Pile T F mv (w.setCell ⟨T, 0, none⟩ (.slice (some ⟨g, 0, none⟩) N c)) es ∧ Mod F w (w.setCell ⟨T, 0, none⟩ (.slice (some ⟨g, 0, none⟩) N c)) := by
  subst hN
  have MT : Mod (fun k => k = T) w (w.setCell ⟨T, 0, none⟩ (.slice (some ⟨g, 0, none⟩) es.length c)) := (Mod.refl _ w).set1 _
  have h1 := own_less ho (Nat.le_succ es.length)
  have h2 : ((es ++ [x]).map (·.b)).take es.length = es.map (·.b) := by
    rw [List.map_append, List.take_left' (by simp)]
  rw [h2] at h1
  obtain ⟨Ad, c', hT', _, hf⟩ := h.head
  have hTT : Blk w T 55 #[.slice Ad (es ++ [x]).length c', mv] := hT'
  have he : (#[.slice Ad (es ++ [x]).length c', mv] : Array Value) = #[.slice (some ⟨g, 0, none⟩) (es.length + 1) c, mv] := by
    have a : w.heap[T]? = some (.cells #[.slice Ad (es ++ [x]).length c', mv] 55 (0, 0)) := hTT
    have b : w.heap[T]? = some (.cells #[.slice (some ⟨g, 0, none⟩) (es.length + 1) c, mv] 55 (0, 0)) := hT
    rw [a] at b
    simp only [Option.some.injEq, Obj.cells.injEq] at b
    exact b.1
  simp at he
  obtain ⟨rfl, rfl⟩ := he
  refine ⟨⟨⟨some ⟨g, 0, none⟩, c', hT.set_ 0 (.slice (some ⟨g, 0, none⟩) es.length c'), h1.mod MT (fun k hk he => own_blk_ne h1.choose_spec.1 hT (by decide) (by rw [← he]; exact hk)) (fun _ _ hk _ => hk), fun k hk => hf k hk⟩, h.ft, ?_, ?_, ?_, ?_⟩, MT.mono fun k _ hk => by rw [hk]; exact h.ft⟩
  · intro j hj
    have := h.ents j (by rw [List.length_append]; exact Nat.lt_succ_of_lt hj)
    rw [ent_left hj] at this
    exact this.mod MT (blk_ne hT this (by decide)).symm
  · intro e he
    exact h.fe e (List.mem_append_left _ he)
  · have := h.nd
    rw [List.map_append, List.nodup_append] at this
    exact this.1
  · have := h.small
    rw [List.length_append] at this
    omega
set_option maxRecDepth 100000 in
set_option maxHeartbeats 3000000 in
theorem pop_any (T : Nat) (F : Nat → Prop) (mv : Value) (es : List En) (x : En) (w : World) (h : Pile T F mv w (es ++ [x])) :
    Calls Try.prog 44 #[.pointer (some ⟨T, 0, none⟩)] w fun e w' => (∃ v, e = .returned v) ∧ Pile T F mv w' es ∧ Mod F w w' ∧ Blk w' x.b 59 (x.cells es.length) := by
  have HP := Lib.hid h
  obtain ⟨g, c, hT, ho, hfg, hgT, heg, hc, hcs⟩ := h.open (by simp)
  obtain ⟨N, hN⟩ : ∃ N, es.length = N := ⟨_, rfl⟩
  have hln : (es ++ [x]).length = N + 1 := by simp [hN]
  have hkx := hcs N (by omega)
  rw [hln] at hT ho hc
  have HT := Lib.hid hT
  have HO := Lib.hid ho
  have hsm := h.small
  rw [hln] at hsm
  have kt := hT.cell 0
  have ft := hT.frozen 0
  obtain ⟨kx, fx⟩ := hkx
  have e1 : IntKind.i64.wrap ((N : Int) + 1 - 1) = (N : Int) := by rw [IntWalk.i64_in _ (by omega)]; omega
  have e2 : IntKind.i64.wrap (N : Int) = (N : Int) := IntWalk.i64_in _ (by omega)
  have i0 : (0 : Int) ≤ (N : Int) := by omega
  have i1 : (N : Int) < (N : Int) + 1 := by omega
  have i2 : (N : Int) ≤ (c : Int) := by omega
  have HN := Lib.hid hN
  clear hT ho h hN hln hcs heg hgT hfg hsm hc
  go_enter Try.func44, Try.ntmps44
  go_wp2
  go_ret
  obtain ⟨h1, h2⟩ := pop_end HP.out HT.out HO.out HN.out
  have h3 := HP.out.ents es.length (by simp)
  rw [ent_last] at h3
  exact ⟨⟨_, rfl⟩, h1, h2, h3.mod (S := fun k => k = T) ((Mod.refl _ w).set1 _) (blk_ne HT.out h3 (by decide)).symm⟩
theorem fix_start' {es es' : List En} {n i : Nat} (h : HeapN es n) (hi : i < n) (hs : ∀ k, k < n → k ≠ i → ent es' k = ent es k) : DnI es' n i i := by
  constructor
  · intro k k0 kn kp ki
    have := par_lt k0
    rw [hs k kn (ki rfl), hs (par k) (by omega) kp]
    exact h k k0 kn
  · intro c c0 cn ci i0
    have cp := par_lt c0
    have ip := par_lt i0
    rw [hs c cn (by omega), hs (par i) (by omega) (by omega)]
    have h1 := h c c0 cn
    have h2 := h i i0 hi
    rw [ci] at h1
    exact bef_tr h2 h1
theorem take_last {es : List En} {N : Nat} (h : es.length = N + 1) : es = es.take N ++ [ent es N] := by
  have h1 := ent_some (es := es) (k := N) (by omega)
  have h2 := List.take_add_one (l := es) (i := N)
  rw [h1, List.take_of_length_le (by omega)] at h2
  simpa using h2
theorem ent_take {es : List En} {N k : Nat} (hk : k < N) : ent (es.take N) k = ent es k := by
  unfold ent
  simp [List.getD, hk]
set_option maxRecDepth 100000 in
set_option maxHeartbeats 3000000 in
theorem fix_any (T : Nat) (F : Nat → Prop) (mv : Value) (es : List En) (i : Nat) (hi : i < es.length) (hI : DnI es es.length i i) (w : World) (h : Pile T F mv w es) :
    Calls Try.prog 18 #[hv T, .int .i64 i] w fun e w' => e = .returned (.tuple #[]) ∧ (∃ es', es'.Perm es ∧ HeapN es' es'.length ∧ Pile T F mv w' es') ∧ Mod F w w' := by
  have hsm := h.small
  have HL := Lib.hid (len_any T F mv es w h)
  have HD := Lib.hid (fun w h => down_any T F mv es es.length i (Nat.le_refl _) hI (by omega) w h)
  have HU := Lib.hid (fun es1 (hp : es1.length = es.length) hu w h => up_any T F mv es1 es.length i (by omega) (by omega) hu w h)
  have H := Lib.hid h
  clear h hsm hI
  unfold hv at HD HU ⊢
  go_enter Try.func18, Try.ntmps18
  go_wp2_with fail
  refine HL.out.mono ?_
  rintro e w1 ⟨rfl, E1⟩
  go_wp2_with fail
  refine (HD.out w1 (H.out.ext E1)).mono ?_
  rintro e w2 ⟨b, es1, rfl, hp, ht, hf, _, h2, M2⟩
  have hpl := Lib.hid hp.length_eq
  have HP := Lib.hid hp
  have H2 := Lib.hid h2
  have M2 := Lib.hid M2
  clear hp h2
  cases b
  · have HF := Lib.hid (hf rfl)
    clear ht hf
    go_wp2_with fail
    refine (HU.out es1 hpl.out HF.out w2 H2.out).mono ?_
    rintro e w3 ⟨rfl, ⟨es2, hp2, hh, _, h3⟩, M3⟩
    have HP2 := Lib.hid hp2
    have HH := Lib.hid hh
    have H3 := Lib.hid h3
    have M3 := Lib.hid M3
    clear hp2 hh h3
    go_wp2
    go_end0
    exact ⟨rfl, ⟨es2, HP2.out.trans HP.out, by rw [(HP2.out.trans HP.out).length_eq]; exact HH.out, H3.out⟩, ((Mod.of_ext E1).trans M2.out).trans M3.out⟩
  · have HH := Lib.hid (ht rfl)
    clear ht hf
    go_wp2
    go_end0
    exact ⟨rfl, ⟨es1, HP.out, by rw [hpl.out]; exact HH.out, H2.out⟩, (Mod.of_ext E1).trans M2.out⟩
set_option maxRecDepth 100000 in
set_option maxHeartbeats 3000000 in
theorem hpush_any (T : Nat) (F : Nat → Prop) (mv : Value) (es : List En) (x : En) (a : Nat) (hn : ∀ e ∈ es, e.b ≠ x.b) (hsm : es.length < 1000) (hh : HeapN es es.length) (w : World) (h : Pile T F mv w es) (hx : Blk w x.b 59 (x.cells a)) :
    Calls Try.prog 19 #[hv T, .iface 56 (.pointer (some ⟨x.b, 0, none⟩))] w fun e w' => e = .returned (.tuple #[]) ∧ (∃ es', es'.Perm (es ++ [x]) ∧ HeapN es' es'.length ∧ Pile T (fun k => F k ∨ k = x.b ∨ (w.heap.size ≤ k ∧ k < w'.heap.size)) mv w' es') ∧ Mod (fun k => F k ∨ k = x.b ∨ w.heap.size ≤ k) w w' := by
  have HPU := Lib.hid (push_any T F mv es x a hn hsm w h hx)
  have hlen : (es ++ [x]).length = es.length + 1 := by simp
  have HL := Lib.hid (fun F w h => len_any T F mv (es ++ [x]) w h)
  have HU := Lib.hid (fun F w h => up_any T F mv (es ++ [x]) (es.length + 1) es.length (by omega) (by omega) (push_start hh) w h)
  clear hn hh h hx
  have e1 : IntKind.i64.wrap ((es.length : Int) + 1 - 1) = (es.length : Int) := by rw [IntWalk.i64_in _ (by omega)]; omega
  have e2 : IntKind.i64.wrap (es.length : Int) = (es.length : Int) := IntWalk.i64_in _ (by omega)
  unfold hv at HU ⊢
  go_enter Try.func19, Try.ntmps19
  go_wp2_with fail
  refine HPU.out.mono ?_
  rintro e w1 ⟨rfl, h1, M1⟩
  have H1 := Lib.hid h1
  have M1 := Lib.hid M1
  clear h1 HPU
  go_wp2_with fail
  refine (HL.out _ w1 H1.out).mono ?_
  rw [hlen]
  rintro e w2 ⟨rfl, E2⟩
  clear HL
  go_wp2_with fail
  refine (HU.out _ w2 (H1.out.ext E2)).mono ?_
  rintro e w3 ⟨rfl, ⟨es2, hp2, hh2, _, h3⟩, M3⟩
  have HP2 := Lib.hid hp2
  have HH := Lib.hid hh2
  have H3 := Lib.hid h3
  have M3 := Lib.hid M3
  clear hp2 hh2 h3 HU
  go_wp2
  go_end0
  have hsz : w1.heap.size ≤ w3.heap.size := Nat.le_trans E2.size M3.out.size
  refine ⟨rfl, ⟨es2, HP2.out, by rw [HP2.out.length_eq, hlen]; exact HH.out, H3.out.wide fun k hk => hk.elim .inl fun hk => hk.elim (fun h => .inr (.inl h)) fun h => .inr (.inr ⟨h.1, Nat.lt_of_lt_of_le h.2 hsz⟩)⟩, ?_⟩
  exact ((M1.out.mono fun k _ hk => hk.elim .inl fun h => .inr (.inl h)).ext E2).trans (M3.out.mono fun k _ hk => hk.elim .inl fun hk => hk.elim (fun h => .inr (.inl h)) fun h => .inr (.inr h.1))
/-- what is taken out of a heap leaves a heap -/
def RemPost (T : Nat) (F : Nat → Prop) (mv : Value) (es : List En) (i : Nat) (w : World) (e : Ending) (w' : World) : Prop :=
  (∃ v, e = .returned v) ∧ (∃ es', (ent es i :: es').Perm es ∧ HeapN es' es'.length ∧ Pile T F mv w' es') ∧ Mod F w w' ∧ ∃ a, Blk w' (ent es i).b 59 ((ent es i).cells a)
set_option maxRecDepth 100000 in
set_option maxHeartbeats 3000000 in
theorem hrem_any (T : Nat) (F : Nat → Prop) (mv : Value) (es : List En) (i : Nat) (hi : i < es.length) (hh : HeapN es es.length) (w : World) (h : Pile T F mv w es) :
    Calls Try.prog 24 #[hv T, .int .i64 i] w (RemPost T F mv es i w) := by
  have hsm := h.small
  obtain ⟨N, hN⟩ : ∃ N, es.length = N + 1 := ⟨es.length - 1, by omega⟩
  have HL := Lib.hid (len_any T F mv es w h)
  rw [hN] at HL
  have HH := Lib.hid hh
  have H := Lib.hid h
  have HN := Lib.hid hN
  have e1 : IntKind.i64.wrap ((N : Int) + 1 - 1) = (N : Int) := by rw [IntWalk.i64_in _ (by omega)]; omega
  have e2 : IntKind.i64.wrap (N : Int) = (N : Int) := IntWalk.i64_in _ (by omega)
  have hsm2 : N + 1 ≤ 1000 := by omega
  have hi2 : i < N + 1 := by omega
  clear h hsm hh hN hi
  unfold hv
  go_enter Try.func24, Try.ntmps24
  go_wp2_with fail
  refine HL.out.mono ?_
  rintro e w1 ⟨rfl, E1⟩
  clear HL
  by_cases hNi : N = i
  · subst hNi
    have HPO := Lib.hid (pop_any T F mv (es.take N) (ent es N) w1 (by rw [← take_last HN.out]; exact H.out.ext E1))
    clear H
    go_wp2_with fail
    refine HPO.out.mono ?_
    rintro e w2 ⟨⟨v, rfl⟩, h2, M2, b2⟩
    have H2 := Lib.hid h2
    have M2 := Lib.hid M2
    have B2 := Lib.hid b2
    clear h2 HPO b2
    go_wp2
    go_ret
    refine ⟨⟨v, rfl⟩, ⟨es.take N, ?_, ?_, H2.out⟩, (Mod.of_ext E1).trans M2.out, _, B2.out⟩
    · have := List.perm_append_comm (l₁ := es.take N) (l₂ := [ent es N])
      rw [← take_last HN.out] at this
      exact this.symm
    · have hl : (es.take N).length = N := by rw [List.length_take, HN.out]; omega
      rw [hl]
      exact heap_same (heap_le HH.out (by rw [HN.out]; omega)) fun k hk => ent_take hk
  · have hNi2 : ¬ ((N : Int) = (i : Int)) := by omega
    have hNb : ((N : Int) != (i : Int)) = true := by simpa using hNi2
    have hiN : i < N := by omega
    have HSW := Lib.hid (swap_any T F mv es i N (by rw [HN.out]; omega) (by rw [HN.out]; omega) (by omega) w1 (H.out.ext E1))
    have hd := fix_start' (es' := swp es i N) (heap_le HH.out (m := N) (by rw [HN.out]; omega)) hiN (fun k hk hki => by rw [ent_swp (by rw [HN.out]; omega) (by rw [HN.out]; omega), if_neg (by omega), if_neg hki])
    have HD := Lib.hid (fun w h => down_any T F mv (swp es i N) N i (by rw [swp_len, HN.out]; omega) hd (by omega) w h)
    have HU := Lib.hid (fun es1 (hp : es1.length = N + 1) hu w h => up_any T F mv es1 N i hiN (by omega) hu w h)
    unfold hv at HD HU
    clear hd H
    go_wp2_with fail
    refine HSW.out.mono ?_
    rintro e w2 ⟨rfl, h2, M2⟩
    have H2 := Lib.hid h2
    have M2 := Lib.hid M2
    clear h2 HSW
    go_wp2_with fail
    refine (HD.out w2 H2.out).mono ?_
    rintro e w3 ⟨b, es1, rfl, hp, ht, hf, hsa, h3, M3⟩
    have HP := Lib.hid hp
    have hl1 := hp.length_eq
    rw [swp_len, HN.out] at hl1
    have hx := hsa N (Nat.le_refl _)
    rw [ent_swp (by rw [HN.out]; omega) (by rw [HN.out]; omega), if_pos rfl] at hx
    have HX := Lib.hid hx
    have HL1 := Lib.hid hl1
    have H3 := Lib.hid h3
    have M3 := Lib.hid M3
    clear hp h3 hsa hx hl1 HD
    cases b
    · have HF := Lib.hid (hf rfl)
      clear ht hf
      go_wp2_with fail
      refine (HU.out es1 HL1.out HF.out w3 H3.out).mono ?_
      rintro e w4 ⟨rfl, ⟨es2, hp2, hh2, hs2, h4⟩, M4⟩
      have hx2 := (hs2 N (Nat.le_refl _)).trans HX.out
      have HP2 := Lib.hid (hp2.trans HP.out)
      have HL2 := Lib.hid (hp2.length_eq.trans HL1.out)
      have HX2 := Lib.hid hx2
      have HH2 := Lib.hid hh2
      have H4 := Lib.hid h4
      have M4 := Lib.hid (M3.out.trans M4)
      clear hp2 hh2 hs2 h4 hx2
      have HPO := Lib.hid (pop_any T F mv (es2.take N) (ent es2 N) w4 (by rw [← take_last HL2.out]; exact H4.out))
      go_wp2_with fail
      refine HPO.out.mono ?_
      rintro e w9 ⟨⟨v, rfl⟩, h9, M9, b9⟩
      have H9 := Lib.hid h9
      have M9 := Lib.hid M9
      have B9 := Lib.hid (show ∃ a, Blk w9 (ent es i).b 59 ((ent es i).cells a) by rw [HX2.out] at b9; exact ⟨_, b9⟩)
      clear h9 HPO b9
      go_wp2
      go_ret
      refine ⟨⟨v, rfl⟩, ⟨es2.take N, ?_, ?_, H9.out⟩, (((Mod.of_ext E1).trans M2.out).trans M4.out).trans M9.out, B9.out⟩
      · have h9 := List.perm_append_comm (l₁ := es2.take N) (l₂ := [ent es2 N])
        rw [← take_last HL2.out, HX2.out] at h9
        exact h9.symm.trans (HP2.out.trans (swp_perm (by rw [HN.out]; omega) (by rw [HN.out]; omega)))
      · have hl : (es2.take N).length = N := by rw [List.length_take, HL2.out]; omega
        rw [hl]
        exact heap_same HH2.out fun k hk => ent_take hk
    · have HH2 := Lib.hid (ht rfl)
      clear ht hf
      have HPO := Lib.hid (pop_any T F mv (es1.take N) (ent es1 N) w3 (by rw [← take_last HL1.out]; exact H3.out))
      go_wp2_with fail
      refine HPO.out.mono ?_
      rintro e w9 ⟨⟨v, rfl⟩, h9, M9, b9⟩
      have H9 := Lib.hid h9
      have M9 := Lib.hid M9
      have B9 := Lib.hid (show ∃ a, Blk w9 (ent es i).b 59 ((ent es i).cells a) by rw [HX.out] at b9; exact ⟨_, b9⟩)
      clear h9 HPO b9
      go_wp2
      go_ret
      refine ⟨⟨v, rfl⟩, ⟨es1.take N, ?_, ?_, H9.out⟩, (((Mod.of_ext E1).trans M2.out).trans M3.out).trans M9.out, B9.out⟩
      · have h9 := List.perm_append_comm (l₁ := es1.take N) (l₂ := [ent es1 N])
        rw [← take_last HL1.out, HX.out] at h9
        exact h9.symm.trans (HP.out.trans (swp_perm (by rw [HN.out]; omega) (by rw [HN.out]; omega)))
      · have hl : (es1.take N).length = N := by rw [List.length_take, HL1.out]; omega
        rw [hl]
        exact heap_same HH2.out fun k hk => ent_take hk
end Go.Proofs.Ytapajcgfdiamdaa
