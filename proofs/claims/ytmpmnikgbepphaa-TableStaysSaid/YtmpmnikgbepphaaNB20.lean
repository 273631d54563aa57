/- Do, by contract. No condition. -/
import Derived.Test.YtmpmnikgbepphaaEA20
import Derived.Test.YtmpmnikgbepphaaTA20
import Derived.Deep.DeepCutAuto
import Derived.Deep.CutBlock
/- Exec, by contract. No condition. -/
namespace Go.Proofs.Ytmpmnikgbepphaa
open Go.RowKit Go.Kb

theorem index_acts {a : List Int} (h : a.length = 32) (m : Nat) (hm : m < 32) : ∃ x, a[m]? = some x ∧ ∀ w, (Instr.index 41 (.agg (a.map (Value.int .i64)).toArray) (.int .i64 (m : Int))).run Try.prog w = .ok (.int .i64 x) w := by
  match a, h with
  | [x0, x1, x2, x3, x4, x5, x6, x7, x8, x9, x10, x11, x12, x13, x14, x15, x16, x17, x18, x19, x20, x21, x22, x23, x24, x25, x26, x27, x28, x29, x30, x31], _ =>
    match m, hm with
    | 0, _ => exact ⟨_, rfl, fun w => by kernel_rfl⟩
    | 1, _ => exact ⟨_, rfl, fun w => by kernel_rfl⟩
    | 2, _ => exact ⟨_, rfl, fun w => by kernel_rfl⟩
    | 3, _ => exact ⟨_, rfl, fun w => by kernel_rfl⟩
    | 4, _ => exact ⟨_, rfl, fun w => by kernel_rfl⟩
    | 5, _ => exact ⟨_, rfl, fun w => by kernel_rfl⟩
    | 6, _ => exact ⟨_, rfl, fun w => by kernel_rfl⟩
    | 7, _ => exact ⟨_, rfl, fun w => by kernel_rfl⟩
    | 8, _ => exact ⟨_, rfl, fun w => by kernel_rfl⟩
    | 9, _ => exact ⟨_, rfl, fun w => by kernel_rfl⟩
    | 10, _ => exact ⟨_, rfl, fun w => by kernel_rfl⟩
    | 11, _ => exact ⟨_, rfl, fun w => by kernel_rfl⟩
    | 12, _ => exact ⟨_, rfl, fun w => by kernel_rfl⟩
    | 13, _ => exact ⟨_, rfl, fun w => by kernel_rfl⟩
    | 14, _ => exact ⟨_, rfl, fun w => by kernel_rfl⟩
    | 15, _ => exact ⟨_, rfl, fun w => by kernel_rfl⟩
    | 16, _ => exact ⟨_, rfl, fun w => by kernel_rfl⟩
    | 17, _ => exact ⟨_, rfl, fun w => by kernel_rfl⟩
    | 18, _ => exact ⟨_, rfl, fun w => by kernel_rfl⟩
    | 19, _ => exact ⟨_, rfl, fun w => by kernel_rfl⟩
    | 20, _ => exact ⟨_, rfl, fun w => by kernel_rfl⟩
    | 21, _ => exact ⟨_, rfl, fun w => by kernel_rfl⟩
    | 22, _ => exact ⟨_, rfl, fun w => by kernel_rfl⟩
    | 23, _ => exact ⟨_, rfl, fun w => by kernel_rfl⟩
    | 24, _ => exact ⟨_, rfl, fun w => by kernel_rfl⟩
    | 25, _ => exact ⟨_, rfl, fun w => by kernel_rfl⟩
    | 26, _ => exact ⟨_, rfl, fun w => by kernel_rfl⟩
    | 27, _ => exact ⟨_, rfl, fun w => by kernel_rfl⟩
    | 28, _ => exact ⟨_, rfl, fun w => by kernel_rfl⟩
    | 29, _ => exact ⟨_, rfl, fun w => by kernel_rfl⟩
    | 30, _ => exact ⟨_, rfl, fun w => by kernel_rfl⟩
    | 31, _ => exact ⟨_, rfl, fun w => by kernel_rfl⟩
    | k + 32, h => omega
/-- what is caught is no more, of the first m -/
def freshA (x : Int) : Int := if x == 2 then 0 else x
def execN (a : List Int) (m : Nat) : List Int := (a.take m).map freshA ++ a.drop m
theorem execN_len {a : List Int} {m : Nat} : (execN a m).length = a.length := by simp [execN]; omega
theorem execN_at {a : List Int} {m : Nat} {x : Int} (h : a[m]? = some x) : (execN a m)[m]? = some x ∧ (execN a m).set m (freshA x) = execN a (m + 1) := by
  obtain ⟨hlt, hx⟩ := List.getElem?_eq_some_iff.1 h
  have hl : ((a.take m).map freshA).length = m := by simp; omega
  unfold execN
  constructor
  · rw [List.getElem?_append_right (by omega), hl, Nat.sub_self, List.getElem?_drop, Nat.add_zero]
    exact h
  · rw [List.set_append_right _ _ (by omega), hl, Nat.sub_self, List.drop_eq_getElem_cons hlt, hx, List.set_cons_zero, List.take_add_one, h]
    simp
/-- a process that runs another program -/
def execP (prog : Int) (p : Pr) : Pr := { p with prog := prog, pc := 0, acts := p.acts.map freshA }
theorem execP_ok {prog : Int} {p : Pr} (h : p.ok) : (execP prog p).ok := by
  have h : p.acts.length = 32 := h
  show (p.acts.map freshA).length = 32
  rw [List.length_map, h]
theorem enters_exec (args : Array Value) (w : World) : (callFunc 66 args).run Try.prog w = .ok (.enter 66 args) w := by kernel_rfl
set_option maxRecDepth 100000 in
set_option maxHeartbeats 800000 in
theorem turns_exec {n9 : Nat} {prog : Int} (w : World) (h : Blk w n9 3 #[.int .i64 prog]) : Turns 66 #[] #[.pointer (some ⟨n9, 0, none⟩)] (execP prog) w := by
  refine ⟨enters_exec, fun G base n c j l p w0 hE hb O hp => ?_⟩
  obtain ⟨hok, hG, hlt, hat, hfr, _⟩ := own_at O hp
  have c5 := hat.c5
  have c6 := hat.c6
  have kq := (h.ext hE).cell0
  have hj : j < l.length := (List.getElem?_eq_some_iff.1 hp).1
  have h32 : p.acts.length = 32 := hok
  have O2 := own_put (p' := { p with prog := prog }) (i := 5) (x := .int .i64 prog) O hp (by omega) (by simp [Pr.cells]) hok
  have O3 := own_put (p := { p with prog := prog }) (p' := { p with prog := prog, pc := 0 }) (i := 6) (x := .int .i64 0) O2 (List.getElem?_set_self hj) (by omega) (by simp [Pr.cells]) hok
  rw [List.set_set] at O3
  have M3 : Mod (fun k => k = G) w0 ((w0.setCell ⟨G, j * 43 + 5, none⟩ (.int .i64 prog)).setCell ⟨G, j * 43 + 6, none⟩ (.int .i64 0)) := ((Mod.refl _ w0).set1 _).set1 _
  obtain ⟨_, _, _, hat3, hfr3, _⟩ := own_at O3 (List.getElem?_set_self hj)
  have hacts := Lib.hid (acts_at (p := { p with prog := prog, pc := 0 }) hat3)
  have hi3 := i32a hok
  have O3 := Lib.hid O3
  have M3 := Lib.hid M3
  have H32 := Lib.hid h32
  have HJ := Lib.hid hj
  clear O O2 hp hat hat3 hok h32 hj
  show Calls Try.prog _ #[.pointer (some ⟨G, j * 43, none⟩), .pointer (some ⟨n9, 0, none⟩)] w0 _
  go_enter Try.func66, Try.ntmps66
  go_wp2_with (refine wpList_load_mid rfl 41 _ rfl G (j * 43 + 9) rfl (p.acts.map (Value.int .i64)) _ hacts.out Try.underlying41 rfl hi3 ?_)
  go_loopw [16] (fun i wr => ∃ m : Nat, m ≤ 32 ∧ i = .int .i64 m ∧ Hid (OwnS Rp 43 base (fun _ => False) wr (.slice (some ⟨G, 0, none⟩) n c) (l.set j { p with prog := prog, pc := 0, acts := execN p.acts m })) ∧ Hid (Mod (fun k => k = G) w0 wr)) (fun i _ => 32 - (intOf i).toNat)
  case atStart => exact ⟨0, Nat.zero_le _, rfl, O3, M3⟩
  case round =>
    clear hacts O3 M3 hfr3 c5 c6 kq
    obtain ⟨m, hm, rfl, O4, M4⟩ := hrel
    by_cases hmn : m < 32
    · obtain ⟨x, hx, hix⟩ := index_acts H32.out m hmn
      obtain ⟨hx1, hx2⟩ := execN_at hx
      have hl := execN_len (a := p.acts) (m := m)
      obtain ⟨_, _, hGlt, hat4, hfr4, _⟩ := own_at O4.out (List.getElem?_set_self HJ.out)
      have ca : wr.cell? ⟨G, j * 43 + 9 + m, none⟩ = some (.int .i64 x) := hat4.ca m x hx1
      by_cases h2 : x = 2
      · have hb2 : (x == 2) = true := by simpa using h2
        have O5 := own_put (p := { p with prog := prog, pc := 0, acts := execN p.acts m }) (p' := { p with prog := prog, pc := 0, acts := execN p.acts (m + 1) }) (i := 9 + m) (x := .int .i64 0) O4.out (List.getElem?_set_self HJ.out) (by omega) (by
          rw [← hx2]
          have : freshA x = 0 := by unfold freshA; rw [hb2]; rfl
          rw [this]
          unfold Pr.cells
          rw [List.set_append_right _ _ (by simp), List.set_append_left _ _ (by simp [hl, H32.out]; omega), List.map_set]
          simp) (by show (execN p.acts (m + 1)).length = 32; rw [execN_len]; exact H32.out)
        rw [List.set_set, ← Nat.add_assoc] at O5
        have M5 := Lib.hid (M4.out.set1 (.int .i64 0) (o := j * 43 + 9 + m))
        have O5 := Lib.hid O5
        clear hx hx1 hx2 hl hat4
        go_wp2
        go_roundw
        case rel => exact ⟨m + 1, by omega, by go_num, O5, M5⟩
        case measure => simp [intOf]; omega
      · have hb2 : (x == 2) = false := by simpa using h2
        have he : execN p.acts (m + 1) = execN p.acts m := by
          rw [← hx2]
          have : freshA x = x := by unfold freshA; rw [hb2]; rfl
          rw [this]
          apply List.ext_getElem?; intro t; rw [List.getElem?_set]; split
          · rename_i h; subst h; split
            · exact hx1.symm
            · rename_i h2; rw [List.getElem?_eq_none (by omega)]
          · rfl
        have O5 := O4
        rw [← he] at O5
        clear hx hx1 hx2 hl hat4 he
        go_wp2
        go_roundw
        case rel => exact ⟨m + 1, by omega, by go_num, O5, M4⟩
        case measure => simp [intOf]; omega
    · obtain rfl : m = 32 := by omega
      have he : ({ p with prog := prog, pc := 0, acts := execN p.acts 32 } : Pr) = execP prog p := by
        unfold execP execN
        rw [List.take_of_length_le (by have := H32.out; omega), List.drop_of_length_le (by have := H32.out; omega), List.append_nil]
      rw [he] at O4
      clear he
      go_wp2
      go_end0
      exact ⟨rfl, O4.out, M4.out⟩
def ExecPost (l : List Pr) (nx pid prog : Int) (Ad : Option Addr) (c : Nat) (w : World) (e : Ending) (w' : World) : Prop :=
  Ext w w' ∧ ((askL l nx [pid] ≠ 0 ∧ e = .returned (.tuple #[tv Ad l.length c nx, .int .i64 (askL l nx [pid])])) ∨
   (askL l nx [pid] = 0 ∧ ∃ A' c', e = .returned (.tuple #[tv A' l.length c' nx, .int .i64 0]) ∧ OwnS Rp 43 w.heap.size (fun _ => False) w' (.slice A' l.length c') (changeL (execP prog) pid l)))
set_option maxRecDepth 100000 in
set_option maxHeartbeats 800000 in
theorem exec_any {A : Nat → Prop} (Ad : Option Addr) (c : Nat) (l : List Pr) (nx pid prog : Int) (w : World) (h : RdY Rp A w (.slice Ad l.length c) l) :
    Calls Try.prog 56 #[tv Ad l.length c nx, .int .i64 pid, .int .i64 prog] w (ExecPost l nx pid prog Ad c w) := by
  have H := Lib.hid (rdy_pr (B := fun _ => False) h)
  obtain ⟨W, hW⟩ : ∃ W, W = ((w.alloc (.cells #[.slice Ad l.length c, .int .i64 nx] 29)).alloc (.cells #[.int .i64 prog] 3)).alloc (.cells #[.slice none 0 0, .int .i64 0] 29) := ⟨_, rfl⟩
  have hres := Lib.hid (show Blk W (w.heap.size + 1 + 1) 29 #[.slice none 0 0, .int .i64 0] by rw [hW]; exact Blk.at_ _ _ (by simp))
  have hst := Lib.hid (show Blk W (w.heap.size + 1) 3 #[.int .i64 prog] by rw [hW]; exact (Blk.at_ _ _ (by simp)).alloc _)
  have hbox := Lib.hid (show Blk W w.heap.size 29 #[.slice Ad l.length c, .int .i64 nx] by rw [hW]; exact ((Blk.new w _ _).alloc _).alloc _)
  have E0 : Ext w W := by rw [hW]; exact (by repeat (first | with_reducible exact Ext.refl _ | refine Ext.drewN ?_ _ | refine Ext.drew ?_ | refine Ext.alloc ?_ _ | assumption | (refine Below.trans ?_ (by assumption)) | (refine Ext.trans ?_ (by assumption)) | (refine Below.trans ?_ (Below.mono (by assumption) (by omega)))))
  have hsz := Lib.hid (show W.heap.size = w.heap.size + 3 by rw [hW]; simp)
  have HW := Lib.hid hW
  obtain ⟨e0, he0⟩ : ∃ e0, askL l nx [pid] = e0 := ⟨_, rfl⟩
  have HE := Lib.hid he0
  clear h hW he0
  go_enter Try.func56, Try.ntmps56
  go_wp2_with fail
  rw [← HW.out]
  refine (ask_any (B := fun _ => True) Ad _ c _ l nx [pid] _ (H.out.ext (E0.alloc _)) (RdY.singleB (e := Ib) (cs := [.int .i64 pid]) rfl (Blk.at_ _ _ (by first | rfl | (rw [HW.out]; simp))))).mono ?_
  rintro e w1 ⟨rfl, E1⟩
  rw [HE.out]
  have EW1 : Ext W w1 := Ext.trans ((Ext.refl W).alloc _) E1
  have E01 : Ext w w1 := E0.trans EW1
  clear E1
  have kb := (hbox.out.ext EW1).two
  have ks := (hres.out.ext EW1).two
  by_cases hz : e0 = 0
  · subst hz
    obtain ⟨hr, _⟩ := askL_live HE.out
    have hl := (right_len hr).1
    clear hr ks
    go_wp2_with fail
    refine (change_any Ad c l nx pid w1 (H.out.ext E01) (by omega) (turns_exec w1 (hst.out.ext EW1))).mono ?_
    rintro e w3 ⟨A3, c3, rfl, O3, E3⟩
    have S3 := hres.out.ext (EW1.trans E3)
    have ks := S3.two
    have hz1 := EW1.size
    have hr3 := Lib.hid O3.row
    have hM7 : Mod (fun k => k = w.heap.size + 1 + 1) w3 _ := ((Mod.refl _ w3).set1 (.slice A3 l.length c3) (o := 0)).set1 (.int .i64 nx) (o := 1)
    obtain ⟨q0, q1, _, _⟩ := (S3.put2 (.slice A3 l.length c3) (.int .i64 nx)).two
    have HZ := Lib.hid (show w.heap.size + 3 ≤ w1.heap.size by have := hsz.out; omega)
    clear hz1
    go_wp2
    refine bodyPost_ret (v := .tuple #[tv A3 l.length c3 nx, .int .i64 0]) (by simp [results, Try.results56, go_sem, q0, q1]) rfl ?_
    have hz := HZ.out
    exact ⟨Mod.toExt (E01.trans E3) hM7 (by intro k hk he; omega), .inr ⟨HE.out, A3, c3, rfl, (O3.mod hM7 (fun k hk he => by have := (hr3.out k hk).1; omega) (fun k _ hk _ => hk)).lower (by omega)⟩⟩
  · have hz2 : (e0 != 0) = true := by simpa using hz
    have hM7 : Mod (fun k => k = w.heap.size + 1 + 1) w1 _ := ((Mod.refl _ w1).set1 (.slice Ad l.length c) (o := 0)).set1 (.int .i64 nx) (o := 1)
    obtain ⟨q0, q1, _, _⟩ := ((hres.out.ext EW1).put2 (.slice Ad l.length c) (.int .i64 nx)).two
    go_wp2
    refine bodyPost_ret (v := .tuple #[tv Ad l.length c nx, .int .i64 e0]) (by simp [results, Try.results56, go_sem, q0, q1]) rfl ?_
    exact ⟨Mod.toExt E01 hM7 (by intro k hk he; omega), .inl ⟨by rw [HE.out]; exact hz, by rw [HE.out]⟩⟩
end Go.Proofs.Ytmpmnikgbepphaa
/- SetGroup, by contract. No condition. -/
namespace Go.Proofs.Ytmpmnikgbepphaa
open Go.RowKit Go.Kb

theorem askL_two {l : List Pr} {nx a b : Int} (h : askL l nx [a, b] = 0) : askL l nx [a] = 0 ∧ askL l nx [b] = 0 := by
  unfold askL at h ⊢
  split at h
  · rename_i hr
    split at h
    · rename_i hl
      simp only [List.all_cons, List.all_nil, Bool.and_true, Bool.and_eq_true] at hl
      rw [if_pos hr, if_pos hr, if_pos (by simp [hl.1]), if_pos (by simp [hl.2])]
      exact ⟨rfl, rfl⟩
    · cases h
  · cases h
def groupP (group : Int) (p : Pr) : Pr := { p with group := group }
def GroupPost (l : List Pr) (nx target group : Int) (Ad : Option Addr) (c : Nat) (w : World) (e : Ending) (w' : World) : Prop :=
  Ext w w' ∧ ((∃ x : Int, (x == 0) = false ∧ e = .returned (.tuple #[tv Ad l.length c nx, .int .i64 x])) ∨
   (rightL l nx = true ∧ ∃ x, x ∈ l ∧ x.pid = target ∧ liveL l nx target = true ∧ (group = target ∨ ∃ m ∈ l, liveP m = true ∧ m.group = group ∧ m.session = x.session) ∧ ∃ A' c', e = .returned (.tuple #[tv A' l.length c' nx, .int .i64 0]) ∧ OwnS Rp 43 w.heap.size (fun _ => False) w' (.slice A' l.length c') (changeL (groupP group) target l)))
set_option maxRecDepth 100000 in
set_option maxHeartbeats 600000 in
theorem group_any {A : Nat → Prop} (Ad : Option Addr) (c : Nat) (l : List Pr) (nx pid target group : Int) (w : World) (h : RdY Rp A w (.slice Ad l.length c) l) :
    Calls Try.prog 57 #[tv Ad l.length c nx, .int .i64 pid, .int .i64 target, .int .i64 group] w (GroupPost l nx target group Ad c w) := by
  have H := Lib.hid (rdy_pr (B := fun _ => False) h)
  have hoks := Lib.hid (RdY.oks h)
  obtain ⟨W, hW⟩ : ∃ W, W = ((w.alloc (.cells #[.slice Ad l.length c, .int .i64 nx] 29)).alloc (.cells #[.int .i64 group] 3)).alloc (.cells #[.slice none 0 0, .int .i64 0] 29) := ⟨_, rfl⟩
  have hres := Lib.hid (show Blk W (w.heap.size + 1 + 1) 29 #[.slice none 0 0, .int .i64 0] by rw [hW]; exact Blk.at_ _ _ (by simp))
  have hst := Lib.hid (show Blk W (w.heap.size + 1) 3 #[.int .i64 group] by rw [hW]; exact (Blk.at_ _ _ (by simp)).alloc _)
  have hbox := Lib.hid (show Blk W w.heap.size 29 #[.slice Ad l.length c, .int .i64 nx] by rw [hW]; exact ((Blk.new w _ _).alloc _).alloc _)
  have E0 : Ext w W := by rw [hW]; exact (by repeat (first | with_reducible exact Ext.refl _ | refine Ext.drewN ?_ _ | refine Ext.drew ?_ | refine Ext.alloc ?_ _ | assumption | (refine Below.trans ?_ (by assumption)) | (refine Ext.trans ?_ (by assumption)) | (refine Below.trans ?_ (Below.mono (by assumption) (by omega)))))
  have hsz := Lib.hid (show W.heap.size = w.heap.size + 3 by rw [hW]; simp)
  have HW := Lib.hid hW
  obtain ⟨e0, he0⟩ : ∃ e0, askL l nx [pid, target] = e0 := ⟨_, rfl⟩
  have HE := Lib.hid he0
  clear h hW he0
  go_enter Try.func57, Try.ntmps57
  go_wp2_with fail
  rw [← HW.out]
  refine (ask_any (B := fun _ => True) Ad _ c _ l nx [pid, target] _ (H.out.ext (E0.alloc _)) (RI.y (l := [pid, target]) (RdN.twoB (by first | (rw [HW.out]; simp; done) | rfl) _ _ _))).mono ?_
  rintro e w1 ⟨rfl, E1⟩
  rw [HE.out]
  have EW1 : Ext W w1 := Ext.trans ((Ext.refl W).alloc _) E1
  have E01 : Ext w w1 := E0.trans EW1
  clear E1
  have kb := (hbox.out.ext EW1).two
  have ks := (hres.out.ext EW1).two
  by_cases hz : e0 = 0
  · subst hz
    obtain ⟨ha1, ha2⟩ := askL_two HE.out
    obtain ⟨hr, p, hgp, hpl, _⟩ := askL_live ha1
    obtain ⟨_, x, hgx, hxl, hxp⟩ := askL_live ha2
    have hpok := hoks.out p hpl
    have hxok := hoks.out x hxl
    have hlt2 : liveL l nx target = true := by
      have := ha2
      unfold askL at this
      rw [hr] at this
      cases hl : liveL l nx target
      · simp [hl] at this
      · rfl
    have HL := Lib.hid (right_len hr).1
    have HR := Lib.hid hr
    have HXL := Lib.hid hxl
    have HXP := Lib.hid hxp
    have HLT := Lib.hid hlt2
    have hg1 := get_any (A := fun _ => False) Ad c l nx pid w1 (H.out.ext E01)
    have hg2 := fun w h => get_any (A := fun _ => False) Ad c l nx target w h
    rw [hgp] at hg1
    simp only [hgx] at hg2
    have HG1 := Lib.hid hg1
    have HG2 := Lib.hid hg2
    clear ha1 ha2 hr hgp hpl hgx hxl hxp hlt2 hg1 hg2 ks
    go_wp2_with fail
    refine HG1.out.mono ?_
    rintro e w2 ⟨rfl, E2⟩
    have EW2 := EW1.trans E2
    obtain ⟨n11, hn11⟩ : ∃ n11, w2.heap.size = n11 := ⟨_, rfl⟩
    clear kb
    go_wp2_with ((refine wpList_store_A rfl 43 _ _ rfl (n11) _ rfl rfl 43 _ (zero_row w2 n11 hn11) (by rw [List.size_toArray]; exact i43' hpok) (Eq.trans (b := 43) (by rfl) (Eq.symm (show (p).cells.toArray.size = 43 from Pr.size hpok))) (Pr.one hpok) ?_); intro w3 H3 E3; have E23 : Ext w2 w3 := E3 w2.heap.size w2 ((Ext.refl w2).alloc _) (by omega); have b11 := Lib.hid H3; have kb := (hbox.out.ext (EW2.trans E23)).two; clear E3 H3)
    have EW3 := EW2.trans E23
    refine (HG2.out _ (H.out.ext (E0.trans EW3))).mono ?_
    rintro e w4 ⟨rfl, E4⟩
    have EW4 := EW3.trans E4
    have b11 := Lib.hid (b11.out.ext E4)
    obtain ⟨n13, hn13⟩ : ∃ n13, w4.heap.size = n13 := ⟨_, rfl⟩
    clear kb hn11 E23 E4
    go_wp2_with ((refine wpList_store_A rfl 43 _ _ rfl (n13) _ rfl rfl 43 _ (zero_row w4 n13 hn13) (by rw [List.size_toArray]; exact i43' hxok) (Eq.trans (b := 43) (by rfl) (Eq.symm (show (x).cells.toArray.size = 43 from Pr.size hxok))) (Pr.one hxok) ?_); intro w5 H5 E5; have E45 : Ext w4 w5 := E5 w4.heap.size w4 ((Ext.refl w4).alloc _) (by omega); have b13 := Lib.hid H5; have b11 := Lib.hid (b11.out.ext E45); clear E5 H5)
    have EW5 := EW4.trans E45
    have E05 := E0.trans EW5
    have hb5 := Lib.hid (hbox.out.ext EW5)
    have hs5 := Lib.hid (hst.out.ext EW5)
    have hf5 := Lib.hid (asks_fellow hxok hs5.out b13.out)
    clear hn13
    refine wp_region_held_drew (S := fun w' => Ext w5 w') (by kernel_rfl) (Ext.drew (Ext.refl _)) (fun hHeld => ?_)
    (refine wpAnyH_take (i := 0) (v := ?_) rfl (by kernel_rfl) (by kernel_rfl) (by kernel_rfl) (fun _ _ _ h => h) (Or.inl ⟨by rfl, ?_⟩) (by assumption) ?_; rotate_left; (focus (intro w' hSw; have kc := (hb5.out.ext hSw).two; go_simp; try with_reducible rfl)); (try simp only [List.getElem_toArray]); (try simp only [List.getElem_cons_succ]); (try simp only [List.getElem_cons_zero]); (try simp only [Act.put]); (try simp only [List.setIfInBounds_toArray]); (try simp only [List.set_cons_succ]); (try simp only [List.set_cons_zero]))
    (refine wpAnyH_take (i := 1) (v := ?_) rfl (by kernel_rfl) (by kernel_rfl) (by kernel_rfl) (fun _ _ _ h => h) (Or.inl ⟨by rfl, ?_⟩) (by assumption) ?_; rotate_left; (focus (intro w' hSw; go_simp; try with_reducible rfl)); (try simp only [List.getElem_toArray]); (try simp only [List.getElem_cons_succ]); (try simp only [List.getElem_cons_zero]); (try simp only [Act.put]); (try simp only [List.setIfInBounds_toArray]); (try simp only [List.set_cons_succ]); (try simp only [List.set_cons_zero]))
    (refine wpAnyH_ready (rs := [2]) (by kernel_rfl) (by simp) ?_; refine AllReadyH.cons rfl (fun K hK => ?_) AllReadyH.nil; go_simp; refine hK.out _ _ (by repeat (first | with_reducible exact Ext.refl _ | refine Ext.drewN ?_ _ | refine Ext.drew ?_ | refine Ext.alloc ?_ _ | assumption | (refine Below.trans ?_ (by assumption)) | (refine Ext.trans ?_ (by assumption)) | (refine Below.trans ?_ (Below.mono (by assumption) (by omega))))) (fun hHeld => ?_); clear hK K; (try simp only [Act.put]); (try simp only [List.getElem_toArray]); (try simp only [List.getElem_cons_succ]); (try simp only [List.getElem_cons_zero]); (try simp only [List.setIfInBounds_toArray]); (try simp only [List.set_cons_succ]); (try simp only [List.set_cons_zero]))
    (refine wpAnyH_ready (rs := [3]) (by kernel_rfl) (by simp) ?_; refine AllReadyH.cons rfl (fun K hK => ?_) AllReadyH.nil; go_simp; go_at_call 38; refine (all_any (t1 := liveP) (t2 := fellowP group x.session) _ _ (Blk.at_ _ _ rfl) (asks_lives _) (hf5.out.ext ((Ext.drew (Ext.refl _)).alloc _))).mono ?_; rintro e w6 ⟨n6, rfl, F6, E6⟩; (try dsimp only); refine hK.out _ _ (by repeat (first | with_reducible exact Ext.refl _ | refine Ext.drewN ?_ _ | refine Ext.drew ?_ | refine Ext.alloc ?_ _ | assumption | (refine Below.trans ?_ (by assumption)) | (refine Ext.trans ?_ (by assumption)) | (refine Below.trans ?_ (Below.mono (by assumption) (by omega))))) (fun hHeld => ?_); clear hK K; (try simp only [Act.put]); (try simp only [List.getElem_toArray]); (try simp only [List.getElem_cons_succ]); (try simp only [List.getElem_cons_zero]); (try simp only [List.setIfInBounds_toArray]); (try simp only [List.set_cons_succ]); (try simp only [List.set_cons_zero]))
    have E57 : Ext w5 w6 := by assumption
    have hfind := find_any Ad c l nx w6 (H.out.ext (E05.trans E57)) F6
    (refine wpAnyH_ready (rs := [4]) (by kernel_rfl) (by simp) ?_; refine AllReadyH.cons rfl (fun K hK => ?_) AllReadyH.nil; go_simp; go_at_call 37; refine (hfind).mono ?_; rintro e w7 ⟨E7, (⟨hx, m0, rfl, hm0, hz⟩ | ⟨j, b, off, hx, hlt, rfl, rfl⟩)⟩; all_goals ((try dsimp only); refine hK.out _ _ (by repeat (first | with_reducible exact Ext.refl _ | refine Ext.drewN ?_ _ | refine Ext.drew ?_ | refine Ext.alloc ?_ _ | assumption | (refine Below.trans ?_ (by assumption)) | (refine Ext.trans ?_ (by assumption)) | (refine Below.trans ?_ (Below.mono (by assumption) (by omega))))) (fun hHeld => ?_); clear hK K; (try simp only [Act.put]); (try simp only [List.getElem_toArray]); (try simp only [List.getElem_cons_succ]); (try simp only [List.getElem_cons_zero]); (try simp only [List.setIfInBounds_toArray]); (try simp only [List.set_cons_succ]); (try simp only [List.set_cons_zero])))
    all_goals
      (refine wpAnyH_take (i := 5) (v := ?_) rfl (by kernel_rfl) (by kernel_rfl) (by kernel_rfl) (fun _ _ _ h => h) (Or.inl ⟨by rfl, ?_⟩) (by assumption) ?_; rotate_left; (focus (intro w' hSw; go_simp; try with_reducible rfl)); (try simp only [List.getElem_toArray]); (try simp only [List.getElem_cons_succ]); (try simp only [List.getElem_cons_zero]); (try simp only [Act.put]); (try simp only [List.setIfInBounds_toArray]); (try simp only [List.set_cons_succ]); (try simp only [List.set_cons_zero]))
      (refine wpAnyH_take (i := 6) (v := ?_) rfl (by kernel_rfl) (by kernel_rfl) (by kernel_rfl) (fun _ _ _ h => h) (Or.inl ⟨by rfl, ?_⟩) (by assumption) ?_; rotate_left; (focus (intro w' hSw; go_simp; try with_reducible rfl)); (try simp only [List.getElem_toArray]); (try simp only [List.getElem_cons_succ]); (try simp only [List.getElem_cons_zero]); (try simp only [Act.put]); (try simp only [List.setIfInBounds_toArray]); (try simp only [List.set_cons_succ]); (try simp only [List.set_cons_zero]))
      (refine wpAnyH_take (i := 7) (v := ?_) rfl (by kernel_rfl) (by kernel_rfl) (by kernel_rfl) (fun _ _ _ h => h) (Or.inl ⟨by rfl, ?_⟩) (by assumption) ?_; rotate_left; (focus (intro w' hSw; go_simp; try with_reducible rfl)); (try simp only [List.getElem_toArray]); (try simp only [List.getElem_cons_succ]); (try simp only [List.getElem_cons_zero]); (try simp only [Act.put]); (try simp only [List.setIfInBounds_toArray]); (try simp only [List.set_cons_succ]); (try simp only [List.set_cons_zero]))
      (refine wpAnyH_take (i := 8) (v := ?_) rfl (by kernel_rfl) (by kernel_rfl) (by kernel_rfl) (fun _ _ _ h => h) (Or.inl ⟨by rfl, ?_⟩) (by assumption) ?_; rotate_left; (focus (intro w' hSw; go_simp; try with_reducible rfl)); (try simp only [List.getElem_toArray]); (try simp only [List.getElem_cons_succ]); (try simp only [List.getElem_cons_zero]); (try simp only [Act.put]); (try simp only [List.setIfInBounds_toArray]); (try simp only [List.set_cons_succ]); (try simp only [List.set_cons_zero]))
      (refine wpAnyH_take (i := 9) (v := ?_) rfl (by kernel_rfl) (by kernel_rfl) (by kernel_rfl) (fun _ _ _ h => h) (Or.inl ⟨by rfl, ?_⟩) (by assumption) ?_; rotate_left; (focus (intro w' hSw; go_simp; try with_reducible rfl)); (try simp only [List.getElem_toArray]); (try simp only [List.getElem_cons_succ]); (try simp only [List.getElem_cons_zero]); (try simp only [Act.put]); (try simp only [List.setIfInBounds_toArray]); (try simp only [List.set_cons_succ]); (try simp only [List.set_cons_zero]))
      refine wpAnyH_done (by kernel_rfl) ?_ _
      have E58 := E57.trans E7
      have EW7 := EW5.trans E58
      have E07 := E0.trans EW7
      have b11 := Lib.hid (b11.out.ext E58)
      have b13 := Lib.hid (b13.out.ext E58)
      have kb := (hbox.out.ext EW7).two
      have ks := (hres.out.ext EW7).two
      have kg := (hst.out.ext EW7).cell0
      have p3 := (prAt_blk hpok b11.out).c3
      have x1 := (prAt_blk hxok b13.out).c1
      have x3 := (prAt_blk hxok b13.out).c3
      clear F6 hfind
    · clear hx hm0 hz
      have hM7 : Mod (fun k => k = w.heap.size + 1 + 1) w7 _ := ((Mod.refl _ w7).set1 (.slice Ad l.length c) (o := 0)).set1 (.int .i64 nx) (o := 1)
      obtain ⟨q0, q1, _, _⟩ := ((hres.out.ext EW7).put2 (.slice Ad l.length c) (.int .i64 nx)).two
      cases h1 : (target != pid) <;> cases h5 : (group != target)
      all_goals
        have H5 := Lib.hid h5
        go_wp2_with fail
        all_goals first
          | (refine bodyPost_ret (v := .tuple #[tv Ad l.length c nx, .int .i64 12]) ?_ rfl ?_; (focus (simp [results, Try.results57, go_sem, q0, q1]; done)); exact ⟨Mod.toExt E07 hM7 (by intro k hk he; omega), .inl ⟨12, rfl, rfl⟩⟩)
          | skip
        all_goals
          refine (change_any (g := groupP group) Ad c l nx target w7 (H.out.ext E07) (by have := HL.out; omega) (turns_group w7 (hst.out.ext EW7))).mono ?_
          rintro e w8 ⟨A8, c8, rfl, O8, E8⟩
          have S8 := hres.out.ext (EW7.trans E8)
          have ks := S8.two
          have hz1 := EW7.size
          have hr3 := Lib.hid O8.row
          have hM8 : Mod (fun k => k = w.heap.size + 1 + 1) w8 _ := ((Mod.refl _ w8).set1 (.slice A8 l.length c8) (o := 0)).set1 (.int .i64 nx) (o := 1)
          obtain ⟨r0, r1, _, _⟩ := (S8.put2 (.slice A8 l.length c8) (.int .i64 nx)).two
          have HZ := Lib.hid (show w.heap.size + 3 ≤ w7.heap.size by have := hsz.out; omega)
          clear hz1 q0 q1 hM7
          go_wp2
          refine bodyPost_ret (v := .tuple #[tv A8 l.length c8 nx, .int .i64 0]) (by simp [results, Try.results57, go_sem, r0, r1]) rfl ?_
          have hz := HZ.out
          refine ⟨Mod.toExt (E07.trans E8) hM8 (by intro k hk he; omega), .inr ⟨HR.out, x, HXL.out, HXP.out, HLT.out, ?_, A8, c8, rfl, (O8.mod hM8 (fun k hk he => by have := (hr3.out k hk).1; omega) (fun k _ hk _ => hk)).lower (by omega)⟩⟩
          first
            | exact .inl (by simpa using H5.out)
            | exact .inr HKN.out
    · obtain ⟨b', off', m, hAd, hd, hmok, hcell⟩ := pr_at H.out hlt
      have hfs := find_some hx hd.out
      have hml := List.mem_of_find?_eq_some hfs
      have hmf := List.find?_some hfs
      simp only [Bool.and_eq_true, fellowP, beq_iff_eq] at hmf
      have HKN := Lib.hid (show ∃ m ∈ l, liveP m = true ∧ m.group = group ∧ m.session = x.session from ⟨m, hml, hmf.1, hmf.2.1, hmf.2.2⟩)
      clear hAd hd hmok hcell hx hlt hfs hml hmf
      have hM7 : Mod (fun k => k = w.heap.size + 1 + 1) w7 _ := ((Mod.refl _ w7).set1 (.slice (some ⟨b, off, none⟩) l.length c) (o := 0)).set1 (.int .i64 nx) (o := 1)
      obtain ⟨q0, q1, _, _⟩ := ((hres.out.ext EW7).put2 (.slice (some ⟨b, off, none⟩) l.length c) (.int .i64 nx)).two
      cases h1 : (target != pid) <;> cases h5 : (group != target)
      all_goals
        have H5 := Lib.hid h5
        go_wp2_with fail
        all_goals first
          | (refine bodyPost_ret (v := .tuple #[tv (some ⟨b, off, none⟩) l.length c nx, .int .i64 12]) ?_ rfl ?_; (focus (simp [results, Try.results57, go_sem, q0, q1]; done)); exact ⟨Mod.toExt E07 hM7 (by intro k hk he; omega), .inl ⟨12, rfl, rfl⟩⟩)
          | skip
        all_goals
          refine (change_any (g := groupP group) (some ⟨b, off, none⟩) c l nx target w7 (H.out.ext E07) (by have := HL.out; omega) (turns_group w7 (hst.out.ext EW7))).mono ?_
          rintro e w8 ⟨A8, c8, rfl, O8, E8⟩
          have S8 := hres.out.ext (EW7.trans E8)
          have ks := S8.two
          have hz1 := EW7.size
          have hr3 := Lib.hid O8.row
          have hM8 : Mod (fun k => k = w.heap.size + 1 + 1) w8 _ := ((Mod.refl _ w8).set1 (.slice A8 l.length c8) (o := 0)).set1 (.int .i64 nx) (o := 1)
          obtain ⟨r0, r1, _, _⟩ := (S8.put2 (.slice A8 l.length c8) (.int .i64 nx)).two
          have HZ := Lib.hid (show w.heap.size + 3 ≤ w7.heap.size by have := hsz.out; omega)
          clear hz1 q0 q1 hM7
          go_wp2
          refine bodyPost_ret (v := .tuple #[tv A8 l.length c8 nx, .int .i64 0]) (by simp [results, Try.results57, go_sem, r0, r1]) rfl ?_
          have hz := HZ.out
          refine ⟨Mod.toExt (E07.trans E8) hM8 (by intro k hk he; omega), .inr ⟨HR.out, x, HXL.out, HXP.out, HLT.out, ?_, A8, c8, rfl, (O8.mod hM8 (fun k hk he => by have := (hr3.out k hk).1; omega) (fun k _ hk _ => hk)).lower (by omega)⟩⟩
          first
            | exact .inl (by simpa using H5.out)
            | exact .inr HKN.out
  · have hz2 : (e0 != 0) = true := by simpa using hz
    have hM7 : Mod (fun k => k = w.heap.size + 1 + 1) w1 _ := ((Mod.refl _ w1).set1 (.slice Ad l.length c) (o := 0)).set1 (.int .i64 nx) (o := 1)
    obtain ⟨q0, q1, _, _⟩ := ((hres.out.ext EW1).put2 (.slice Ad l.length c) (.int .i64 nx)).two
    go_wp2
    refine bodyPost_ret (v := .tuple #[tv Ad l.length c nx, .int .i64 e0]) (by simp [results, Try.results57, go_sem, q0, q1]) rfl ?_
    exact ⟨Mod.toExt E01 hM7 (by intro k hk he; omega), .inl ⟨e0, by simpa using hz, rfl⟩⟩
end Go.Proofs.Ytmpmnikgbepphaa
namespace Go.Proofs.Ytmpmnikgbepphaa
open Go.RowKit Go.Kb

def sessP (pid : Int) (p : Pr) : Pr := { p with group := pid, session := pid }
/-- what a step may do: k its kind, L and nx' the table behind it, N what it answers, E the error's number -/
inductive Stp (l : List Pr) (nx : Int) : Int → List Pr → Int → Int → Int → Prop
  | same {k N E : Int} (h : k = 1 ∨ k = 2 → E ≠ 0) : Stp l nx k l nx N E
  | spawn (prog : Int) (h1 : rightL l nx = true) (h2 : l.length ≠ 32) : Stp l nx 1 (l ++ [(spawnP nx prog).newAs nx]) (nextNo nx) nx 0
  | fork (pid prog : Int) (h1 : askL l nx [pid] = 0) (h2 : l.length ≠ 32) : Stp l nx 2 (l ++ [(forkP (getL l nx pid).1 pid prog).newAs nx]) (nextNo nx) nx 0
  | exec {N E : Int} (pid prog : Int) : Stp l nx 3 (changeL (execP prog) pid l) nx N E
  | quit {N E : Int} (pid st : Int) (h : askL l nx [pid] = 0) : Stp l nx 4 (endL l pid st) nx N E
  | gone {N E : Int} (p : Pr) (h : p ∈ l) (h1 : p.state = 3) : Stp l nx 5 (goneL l p.pid) nx N E
  | told {N E : Int} (pid : Int) : Stp l nx 5 (changeL toldP pid l) nx N E
  | group {N E : Int} (x : Pr) (g : Int) (h : rightL l nx = true) (h1 : x ∈ l) (h2 : liveL l nx x.pid = true) (h3 : g = x.pid ∨ ∃ m ∈ l, liveP m = true ∧ m.group = g ∧ m.session = x.session) : Stp l nx 6 (changeL (groupP g) x.pid l) nx N E
  | session {N E : Int} (pid : Int) (h : askL l nx [pid] = 0) (h1 : (memL l nx pid).length = 0) : Stp l nx 7 (changeL (sessP pid) pid l) nx N E
def DoPost (l : List Pr) (nx k : Int) (w : World) (e : Ending) (w' : World) : Prop :=
  ∃ (L : List Pr) (nx' : Int) (A' : Option Addr) (c' n : Nat) (N S E : Int), e = .returned (.tuple #[tv A' n c' nx', .agg #[.int .i64 N, .int .i64 S, .int .i64 E]]) ∧ L.length = n ∧ RdY Rp (fun _ => False) w' (.slice A' n c') L ∧ Ext w w' ∧ Stp l nx k L nx' N E
set_option maxRecDepth 100000 in
set_option maxHeartbeats 4000000 in
theorem do_any {A : Nat → Prop} (Ad : Option Addr) (c : Nat) (l : List Pr) (nx k a b d : Int) (w : World) (h : RdY Rp A w (.slice Ad l.length c) l) :
    Calls Try.prog 30 #[tv Ad l.length c nx, .agg #[.int .i64 k, .int .i64 a, .int .i64 b, .int .i64 d]] w (DoPost l nx k w) := by
  have H := Lib.hid (rdy_pr (B := fun _ => False) h)
  obtain ⟨W, hW⟩ : ∃ W, W = ((((w.alloc (.cells #[.slice Ad l.length c, .int .i64 nx] 29)).alloc (.cells #[.int .i64 k, .int .i64 a, .int .i64 b, .int .i64 d] 72)).alloc (.cells #[.slice none 0 0, .int .i64 0] 29)).alloc (.cells #[.int .i64 0, .int .i64 0, .int .i64 0] 74)).alloc (.cells #[.int .i64 0, .int .i64 0, .int .i64 0] 74) := ⟨_, rfl⟩
  have b6 := Lib.hid (show Blk W (w.heap.size + 1 + 1 + 1 + 1) 74 #[.int .i64 0, .int .i64 0, .int .i64 0] by rw [hW]; exact Blk.at_ _ _ (by simp))
  have b5 := Lib.hid (show Blk W (w.heap.size + 1 + 1 + 1) 74 #[.int .i64 0, .int .i64 0, .int .i64 0] by rw [hW]; exact (Blk.at_ _ _ (by simp)).alloc _)
  have b4 := Lib.hid (show Blk W (w.heap.size + 1 + 1) 29 #[.slice none 0 0, .int .i64 0] by rw [hW]; exact ((Blk.at_ _ _ (by simp)).alloc _).alloc _)
  have b3 := Lib.hid (show Blk W (w.heap.size + 1) 72 #[.int .i64 k, .int .i64 a, .int .i64 b, .int .i64 d] by rw [hW]; exact (((Blk.at_ _ _ (by simp)).alloc _).alloc _).alloc _)
  have b2 := Lib.hid (show Blk W w.heap.size 29 #[.slice Ad l.length c, .int .i64 nx] by rw [hW]; exact ((((Blk.new w _ _).alloc _).alloc _).alloc _).alloc _)
  have E0 : Ext w W := by rw [hW]; exact (by repeat (first | with_reducible exact Ext.refl _ | refine Ext.drewN ?_ _ | refine Ext.drew ?_ | refine Ext.alloc ?_ _ | assumption | (refine Below.trans ?_ (by assumption)) | (refine Ext.trans ?_ (by assumption)) | (refine Below.trans ?_ (Below.mono (by assumption) (by omega)))))
  have hsz := Lib.hid (show W.heap.size = w.heap.size + 5 by rw [hW]; simp)
  have HW := Lib.hid hW
  have k2 := b2.out.two
  have k30 : W.cell? ⟨w.heap.size + 1, 0, none⟩ = some (.int .i64 k) := b3.out.cell 0
  have k31 : W.cell? ⟨w.heap.size + 1, 1, none⟩ = some (.int .i64 a) := b3.out.cell 1
  have k32 : W.cell? ⟨w.heap.size + 1, 2, none⟩ = some (.int .i64 b) := b3.out.cell 2
  have k33 : W.cell? ⟨w.heap.size + 1, 3, none⟩ = some (.int .i64 d) := b3.out.cell 3
  clear h hW
  go_enter Try.func30, Try.ntmps30
  go_upto_block 0 with fail
  rw [← HW.out]
  go_cut [7] (fun s7 wx => ∃ (L : List Pr) (nx' : Int) (A' : Option Addr) (c' n : Nat) (N S E : Int), s7 = .int .i64 E ∧ Hid (L.length = n) ∧ Hid (Blk wx w.heap.size 29 #[.slice A' n c', .int .i64 nx']) ∧ Hid (Blk wx (w.heap.size + 1 + 1 + 1 + 1) 74 #[.int .i64 N, .int .i64 S, .int .i64 0]) ∧ Hid (Blk wx (w.heap.size + 1 + 1) 29 #[.slice none 0 0, .int .i64 0]) ∧ Hid (Blk wx (w.heap.size + 1 + 1 + 1) 74 #[.int .i64 0, .int .i64 0, .int .i64 0]) ∧ Hid (∀ w'', Mod (fun k => w.heap.size ≤ k ∧ k < w.heap.size + 5) wx w'' → RdY Rp (fun _ => False) w'' (.slice A' n c') L) ∧ Hid (Stp l nx k L nx' N E) ∧ Ext w wx)
  case first =>
    by_cases h1 : k = 1
    · subst h1
      go_wp2_with fail
      refine (spawn_any Ad c l nx a W (H.out.ext E0)).mono ?_
      rintro e w1 (⟨hr, F1, rfl⟩ | ⟨hr, F1, (⟨h32, rfl⟩ | ⟨h32, A', c', rfl, O⟩)⟩)
      ·
        have M2 : Mod (fun k => k = w.heap.size ∨ k = w.heap.size + 1 + 1 + 1 + 1) w1 ((w1.setCell ⟨w.heap.size, 0, none⟩ (.slice Ad l.length c)).setCell ⟨w.heap.size, 1, none⟩ (.int .i64 nx)) := ((Mod.refl _ w1).set_ (.inr (.inl rfl)) _).set_ (.inr (.inl rfl)) _
        have k2 := (b2.out.ext F1).two
        have B2 := (b2.out.ext F1).put2 (.slice Ad l.length c) (.int .i64 nx)
        have B6 := ((b6.out.ext F1).far (p := ⟨w.heap.size, 0, none⟩) (by show _ ≠ w.heap.size; omega) (.slice Ad l.length c)).far (p := ⟨w.heap.size, 1, none⟩) (by show _ ≠ w.heap.size; omega) (.int .i64 nx)
        have a60 := B6.cell 0
        have f60 := B6.frozen 0
        have a61 := B6.cell 1
        have f61 := B6.frozen 1
        have M2 := M2.set_ (p := ⟨w.heap.size + 1 + 1 + 1 + 1, 0, none⟩) (.inr (.inr rfl)) (.int .i64 0)
        have B2 := B2.far (p := ⟨w.heap.size + 1 + 1 + 1 + 1, 0, none⟩) (by show w.heap.size ≠ w.heap.size + 1 + 1 + 1 + 1; omega) (.int .i64 0)
        have B6 := B6.set_ 0 (.int .i64 0)
        have B4 := (b4.out.ext F1).mod M2 (by show ¬ (_ ∨ _); omega)
        have B5 := (b5.out.ext F1).mod M2 (by show ¬ (_ ∨ _); omega)
        have EF := Mod.toExt (E0.trans F1) M2 (by intro k hk he; rcases he with he | he <;> omega)
        have RR := Lib.hid (fun w'' (M'' : Mod (fun k => w.heap.size ≤ k ∧ k < w.heap.size + 5) _ w'') => H.out.ext (Mod.toExt EF M'' (fun k hk he => by have := he.1; omega)))
        have B2 := Lib.hid B2
        have B6 := Lib.hid B6
        have B4 := Lib.hid B4
        have B5 := Lib.hid B5
        have EF := Lib.hid EF
        have SS := Lib.hid (show Stp l nx 1 l nx 0 4 from .same (fun _ => by decide))
        clear M2
        go_wp2_with fail
        go_meet
        exact ⟨l, nx, Ad, c, l.length, 0, 0, 4, rfl, Lib.hid (rfl), B2, B6, B4, B5, RR, SS, EF.out⟩
      ·
        clear h32
        have M2 : Mod (fun k => k = w.heap.size ∨ k = w.heap.size + 1 + 1 + 1 + 1) w1 ((w1.setCell ⟨w.heap.size, 0, none⟩ (.slice Ad l.length c)).setCell ⟨w.heap.size, 1, none⟩ (.int .i64 nx)) := ((Mod.refl _ w1).set_ (.inr (.inl rfl)) _).set_ (.inr (.inl rfl)) _
        have k2 := (b2.out.ext F1).two
        have B2 := (b2.out.ext F1).put2 (.slice Ad l.length c) (.int .i64 nx)
        have B6 := ((b6.out.ext F1).far (p := ⟨w.heap.size, 0, none⟩) (by show _ ≠ w.heap.size; omega) (.slice Ad l.length c)).far (p := ⟨w.heap.size, 1, none⟩) (by show _ ≠ w.heap.size; omega) (.int .i64 nx)
        have a60 := B6.cell 0
        have f60 := B6.frozen 0
        have a61 := B6.cell 1
        have f61 := B6.frozen 1
        have M2 := M2.set_ (p := ⟨w.heap.size + 1 + 1 + 1 + 1, 0, none⟩) (.inr (.inr rfl)) (.int .i64 0)
        have B2 := B2.far (p := ⟨w.heap.size + 1 + 1 + 1 + 1, 0, none⟩) (by show w.heap.size ≠ w.heap.size + 1 + 1 + 1 + 1; omega) (.int .i64 0)
        have B6 := B6.set_ 0 (.int .i64 0)
        have B4 := (b4.out.ext F1).mod M2 (by show ¬ (_ ∨ _); omega)
        have B5 := (b5.out.ext F1).mod M2 (by show ¬ (_ ∨ _); omega)
        have EF := Mod.toExt (E0.trans F1) M2 (by intro k hk he; rcases he with he | he <;> omega)
        have RR := Lib.hid (fun w'' (M'' : Mod (fun k => w.heap.size ≤ k ∧ k < w.heap.size + 5) _ w'') => H.out.ext (Mod.toExt EF M'' (fun k hk he => by have := he.1; omega)))
        have B2 := Lib.hid B2
        have B6 := Lib.hid B6
        have B4 := Lib.hid B4
        have B5 := Lib.hid B5
        have EF := Lib.hid EF
        have SS := Lib.hid (show Stp l nx 1 l nx 0 10 from .same (fun _ => by decide))
        clear M2
        go_wp2_with fail
        go_meet
        exact ⟨l, nx, Ad, c, l.length, 0, 0, 10, rfl, Lib.hid (rfl), B2, B6, B4, B5, RR, SS, EF.out⟩
      ·
        have M2 : Mod (fun k => k = w.heap.size ∨ k = w.heap.size + 1 + 1 + 1 + 1) w1 ((w1.setCell ⟨w.heap.size, 0, none⟩ (.slice A' (l.length + 1) c')).setCell ⟨w.heap.size, 1, none⟩ (.int .i64 (nextNo nx))) := ((Mod.refl _ w1).set_ (.inr (.inl rfl)) _).set_ (.inr (.inl rfl)) _
        have k2 := (b2.out.ext F1).two
        have B2 := (b2.out.ext F1).put2 (.slice A' (l.length + 1) c') (.int .i64 (nextNo nx))
        have B6 := ((b6.out.ext F1).far (p := ⟨w.heap.size, 0, none⟩) (by show _ ≠ w.heap.size; omega) (.slice A' (l.length + 1) c')).far (p := ⟨w.heap.size, 1, none⟩) (by show _ ≠ w.heap.size; omega) (.int .i64 (nextNo nx))
        have a60 := B6.cell 0
        have f60 := B6.frozen 0
        have a61 := B6.cell 1
        have f61 := B6.frozen 1
        have M2 := M2.set_ (p := ⟨w.heap.size + 1 + 1 + 1 + 1, 0, none⟩) (.inr (.inr rfl)) (.int .i64 nx)
        have B2 := B2.far (p := ⟨w.heap.size + 1 + 1 + 1 + 1, 0, none⟩) (by show w.heap.size ≠ w.heap.size + 1 + 1 + 1 + 1; omega) (.int .i64 nx)
        have B6 := B6.set_ 0 (.int .i64 nx)
        have B4 := (b4.out.ext F1).mod M2 (by show ¬ (_ ∨ _); omega)
        have B5 := (b5.out.ext F1).mod M2 (by show ¬ (_ ∨ _); omega)
        have EF := Mod.toExt (E0.trans F1) M2 (by intro k hk he; rcases he with he | he <;> omega)
        have hrw := O.row
        have hwz := hsz.out
        have hwz1 := F1.size
        have RO := O.mod M2 (fun k hk he => by have := (hrw k hk).1; rcases he with he | he <;> omega) (fun k _ hk _ => hk)
        have RR := Lib.hid (fun w'' (M'' : Mod (fun k => w.heap.size ≤ k ∧ k < w.heap.size + 5) _ w'') => rdy_pr (B := fun _ => False) (RO.mod M'' (fun k hk he => by have := (hrw k hk).1; have := he.2; omega) (fun k _ hk _ => hk)).y)
        clear RO
        clear hrw hwz hwz1
        have B2 := Lib.hid B2
        have B6 := Lib.hid B6
        have B4 := Lib.hid B4
        have B5 := Lib.hid B5
        have EF := Lib.hid EF
        have SS := Lib.hid (show Stp l nx 1 (l ++ [(spawnP nx a).newAs nx]) (nextNo nx) nx 0 from .spawn a hr h32)
        clear M2
        go_wp2_with fail
        go_meet
        exact ⟨(l ++ [(spawnP nx a).newAs nx]), (nextNo nx), A', c', (l.length + 1), nx, 0, 0, rfl, Lib.hid (by simp), B2, B6, B4, B5, RR, SS, EF.out⟩
    by_cases h2 : k = 2
    · subst h2
      go_wp2_with fail
      refine (fork_any Ad c l nx a b W (H.out.ext E0)).mono ?_
      rintro e w1 (⟨hr, F1, rfl⟩ | ⟨hr, F1, (⟨h32, rfl⟩ | ⟨h32, A', c', rfl, O⟩)⟩)
      ·
        obtain ⟨e0, he0⟩ : ∃ e0, askL l nx [a] = e0 := ⟨_, rfl⟩
        rw [he0] at hr ⊢
        have M2 : Mod (fun k => k = w.heap.size ∨ k = w.heap.size + 1 + 1 + 1 + 1) w1 ((w1.setCell ⟨w.heap.size, 0, none⟩ (.slice Ad l.length c)).setCell ⟨w.heap.size, 1, none⟩ (.int .i64 nx)) := ((Mod.refl _ w1).set_ (.inr (.inl rfl)) _).set_ (.inr (.inl rfl)) _
        have k2 := (b2.out.ext F1).two
        have B2 := (b2.out.ext F1).put2 (.slice Ad l.length c) (.int .i64 nx)
        have B6 := ((b6.out.ext F1).far (p := ⟨w.heap.size, 0, none⟩) (by show _ ≠ w.heap.size; omega) (.slice Ad l.length c)).far (p := ⟨w.heap.size, 1, none⟩) (by show _ ≠ w.heap.size; omega) (.int .i64 nx)
        have a60 := B6.cell 0
        have f60 := B6.frozen 0
        have a61 := B6.cell 1
        have f61 := B6.frozen 1
        have M2 := M2.set_ (p := ⟨w.heap.size + 1 + 1 + 1 + 1, 0, none⟩) (.inr (.inr rfl)) (.int .i64 0)
        have B2 := B2.far (p := ⟨w.heap.size + 1 + 1 + 1 + 1, 0, none⟩) (by show w.heap.size ≠ w.heap.size + 1 + 1 + 1 + 1; omega) (.int .i64 0)
        have B6 := B6.set_ 0 (.int .i64 0)
        have B4 := (b4.out.ext F1).mod M2 (by show ¬ (_ ∨ _); omega)
        have B5 := (b5.out.ext F1).mod M2 (by show ¬ (_ ∨ _); omega)
        have EF := Mod.toExt (E0.trans F1) M2 (by intro k hk he; rcases he with he | he <;> omega)
        have RR := Lib.hid (fun w'' (M'' : Mod (fun k => w.heap.size ≤ k ∧ k < w.heap.size + 5) _ w'') => H.out.ext (Mod.toExt EF M'' (fun k hk he => by have := he.1; omega)))
        have B2 := Lib.hid B2
        have B6 := Lib.hid B6
        have B4 := Lib.hid B4
        have B5 := Lib.hid B5
        have EF := Lib.hid EF
        have SS := Lib.hid (show Stp l nx 2 l nx 0 e0 from .same (fun _ => hr))
        clear M2
        go_wp2_with fail
        go_meet
        exact ⟨l, nx, Ad, c, l.length, 0, 0, e0, rfl, Lib.hid (rfl), B2, B6, B4, B5, RR, SS, EF.out⟩
      ·
        clear h32
        have M2 : Mod (fun k => k = w.heap.size ∨ k = w.heap.size + 1 + 1 + 1 + 1) w1 ((w1.setCell ⟨w.heap.size, 0, none⟩ (.slice Ad l.length c)).setCell ⟨w.heap.size, 1, none⟩ (.int .i64 nx)) := ((Mod.refl _ w1).set_ (.inr (.inl rfl)) _).set_ (.inr (.inl rfl)) _
        have k2 := (b2.out.ext F1).two
        have B2 := (b2.out.ext F1).put2 (.slice Ad l.length c) (.int .i64 nx)
        have B6 := ((b6.out.ext F1).far (p := ⟨w.heap.size, 0, none⟩) (by show _ ≠ w.heap.size; omega) (.slice Ad l.length c)).far (p := ⟨w.heap.size, 1, none⟩) (by show _ ≠ w.heap.size; omega) (.int .i64 nx)
        have a60 := B6.cell 0
        have f60 := B6.frozen 0
        have a61 := B6.cell 1
        have f61 := B6.frozen 1
        have M2 := M2.set_ (p := ⟨w.heap.size + 1 + 1 + 1 + 1, 0, none⟩) (.inr (.inr rfl)) (.int .i64 0)
        have B2 := B2.far (p := ⟨w.heap.size + 1 + 1 + 1 + 1, 0, none⟩) (by show w.heap.size ≠ w.heap.size + 1 + 1 + 1 + 1; omega) (.int .i64 0)
        have B6 := B6.set_ 0 (.int .i64 0)
        have B4 := (b4.out.ext F1).mod M2 (by show ¬ (_ ∨ _); omega)
        have B5 := (b5.out.ext F1).mod M2 (by show ¬ (_ ∨ _); omega)
        have EF := Mod.toExt (E0.trans F1) M2 (by intro k hk he; rcases he with he | he <;> omega)
        have RR := Lib.hid (fun w'' (M'' : Mod (fun k => w.heap.size ≤ k ∧ k < w.heap.size + 5) _ w'') => H.out.ext (Mod.toExt EF M'' (fun k hk he => by have := he.1; omega)))
        have B2 := Lib.hid B2
        have B6 := Lib.hid B6
        have B4 := Lib.hid B4
        have B5 := Lib.hid B5
        have EF := Lib.hid EF
        have SS := Lib.hid (show Stp l nx 2 l nx 0 10 from .same (fun _ => by decide))
        clear M2
        go_wp2_with fail
        go_meet
        exact ⟨l, nx, Ad, c, l.length, 0, 0, 10, rfl, Lib.hid (rfl), B2, B6, B4, B5, RR, SS, EF.out⟩
      ·
        have M2 : Mod (fun k => k = w.heap.size ∨ k = w.heap.size + 1 + 1 + 1 + 1) w1 ((w1.setCell ⟨w.heap.size, 0, none⟩ (.slice A' (l.length + 1) c')).setCell ⟨w.heap.size, 1, none⟩ (.int .i64 (nextNo nx))) := ((Mod.refl _ w1).set_ (.inr (.inl rfl)) _).set_ (.inr (.inl rfl)) _
        have k2 := (b2.out.ext F1).two
        have B2 := (b2.out.ext F1).put2 (.slice A' (l.length + 1) c') (.int .i64 (nextNo nx))
        have B6 := ((b6.out.ext F1).far (p := ⟨w.heap.size, 0, none⟩) (by show _ ≠ w.heap.size; omega) (.slice A' (l.length + 1) c')).far (p := ⟨w.heap.size, 1, none⟩) (by show _ ≠ w.heap.size; omega) (.int .i64 (nextNo nx))
        have a60 := B6.cell 0
        have f60 := B6.frozen 0
        have a61 := B6.cell 1
        have f61 := B6.frozen 1
        have M2 := M2.set_ (p := ⟨w.heap.size + 1 + 1 + 1 + 1, 0, none⟩) (.inr (.inr rfl)) (.int .i64 nx)
        have B2 := B2.far (p := ⟨w.heap.size + 1 + 1 + 1 + 1, 0, none⟩) (by show w.heap.size ≠ w.heap.size + 1 + 1 + 1 + 1; omega) (.int .i64 nx)
        have B6 := B6.set_ 0 (.int .i64 nx)
        have B4 := (b4.out.ext F1).mod M2 (by show ¬ (_ ∨ _); omega)
        have B5 := (b5.out.ext F1).mod M2 (by show ¬ (_ ∨ _); omega)
        have EF := Mod.toExt (E0.trans F1) M2 (by intro k hk he; rcases he with he | he <;> omega)
        have hrw := O.row
        have hwz := hsz.out
        have hwz1 := F1.size
        have RO := O.mod M2 (fun k hk he => by have := (hrw k hk).1; rcases he with he | he <;> omega) (fun k _ hk _ => hk)
        have RR := Lib.hid (fun w'' (M'' : Mod (fun k => w.heap.size ≤ k ∧ k < w.heap.size + 5) _ w'') => rdy_pr (B := fun _ => False) (RO.mod M'' (fun k hk he => by have := (hrw k hk).1; have := he.2; omega) (fun k _ hk _ => hk)).y)
        clear RO
        clear hrw hwz hwz1
        have B2 := Lib.hid B2
        have B6 := Lib.hid B6
        have B4 := Lib.hid B4
        have B5 := Lib.hid B5
        have EF := Lib.hid EF
        have SS := Lib.hid (show Stp l nx 2 (l ++ [(forkP (getL l nx a).1 a b).newAs nx]) (nextNo nx) nx 0 from .fork a b hr h32)
        clear M2
        go_wp2_with fail
        go_meet
        exact ⟨(l ++ [(forkP (getL l nx a).1 a b).newAs nx]), (nextNo nx), A', c', (l.length + 1), nx, 0, 0, rfl, Lib.hid (by simp), B2, B6, B4, B5, RR, SS, EF.out⟩
    by_cases h3 : k = 3
    · subst h3
      go_wp2_with fail
      refine (exec_any Ad c l nx a b W (H.out.ext E0)).mono ?_
      rintro e w1 ⟨F1, (⟨hr, rfl⟩ | ⟨hr, A', c', rfl, O⟩)⟩
      ·
        obtain ⟨e0, he0⟩ : ∃ e0, askL l nx [a] = e0 := ⟨_, rfl⟩
        rw [he0]
        have M2 : Mod (fun k => k = w.heap.size ∨ k = w.heap.size + 1 + 1 + 1 + 1) w1 ((w1.setCell ⟨w.heap.size, 0, none⟩ (.slice Ad l.length c)).setCell ⟨w.heap.size, 1, none⟩ (.int .i64 nx)) := ((Mod.refl _ w1).set_ (.inr (.inl rfl)) _).set_ (.inr (.inl rfl)) _
        have k2 := (b2.out.ext F1).two
        have B2 := (b2.out.ext F1).put2 (.slice Ad l.length c) (.int .i64 nx)
        have B6 := ((b6.out.ext F1).far (p := ⟨w.heap.size, 0, none⟩) (by show _ ≠ w.heap.size; omega) (.slice Ad l.length c)).far (p := ⟨w.heap.size, 1, none⟩) (by show _ ≠ w.heap.size; omega) (.int .i64 nx)
        have a60 := B6.cell 0
        have f60 := B6.frozen 0
        have a61 := B6.cell 1
        have f61 := B6.frozen 1
        have B4 := (b4.out.ext F1).mod M2 (by show ¬ (_ ∨ _); omega)
        have B5 := (b5.out.ext F1).mod M2 (by show ¬ (_ ∨ _); omega)
        have EF := Mod.toExt (E0.trans F1) M2 (by intro k hk he; rcases he with he | he <;> omega)
        have RR := Lib.hid (fun w'' (M'' : Mod (fun k => w.heap.size ≤ k ∧ k < w.heap.size + 5) _ w'') => H.out.ext (Mod.toExt EF M'' (fun k hk he => by have := he.1; omega)))
        have B2 := Lib.hid B2
        have B6 := Lib.hid B6
        have B4 := Lib.hid B4
        have B5 := Lib.hid B5
        have EF := Lib.hid EF
        have SS := Lib.hid (show Stp l nx 3 l nx 0 e0 from .same (fun h => by omega))
        clear M2
        go_wp2_with fail
        go_meet
        exact ⟨l, nx, Ad, c, l.length, 0, 0, e0, rfl, Lib.hid (rfl), B2, B6, B4, B5, RR, SS, EF.out⟩
      ·
        have M2 : Mod (fun k => k = w.heap.size ∨ k = w.heap.size + 1 + 1 + 1 + 1) w1 ((w1.setCell ⟨w.heap.size, 0, none⟩ (.slice A' l.length c')).setCell ⟨w.heap.size, 1, none⟩ (.int .i64 nx)) := ((Mod.refl _ w1).set_ (.inr (.inl rfl)) _).set_ (.inr (.inl rfl)) _
        have k2 := (b2.out.ext F1).two
        have B2 := (b2.out.ext F1).put2 (.slice A' l.length c') (.int .i64 nx)
        have B6 := ((b6.out.ext F1).far (p := ⟨w.heap.size, 0, none⟩) (by show _ ≠ w.heap.size; omega) (.slice A' l.length c')).far (p := ⟨w.heap.size, 1, none⟩) (by show _ ≠ w.heap.size; omega) (.int .i64 nx)
        have a60 := B6.cell 0
        have f60 := B6.frozen 0
        have a61 := B6.cell 1
        have f61 := B6.frozen 1
        have B4 := (b4.out.ext F1).mod M2 (by show ¬ (_ ∨ _); omega)
        have B5 := (b5.out.ext F1).mod M2 (by show ¬ (_ ∨ _); omega)
        have EF := Mod.toExt (E0.trans F1) M2 (by intro k hk he; rcases he with he | he <;> omega)
        have hrw := O.row
        have hwz := hsz.out
        have hwz1 := F1.size
        have RO := O.mod M2 (fun k hk he => by have := (hrw k hk).1; rcases he with he | he <;> omega) (fun k _ hk _ => hk)
        have RR := Lib.hid (fun w'' (M'' : Mod (fun k => w.heap.size ≤ k ∧ k < w.heap.size + 5) _ w'') => rdy_pr (B := fun _ => False) (RO.mod M'' (fun k hk he => by have := (hrw k hk).1; have := he.2; omega) (fun k _ hk _ => hk)).y)
        clear RO
        clear hrw hwz hwz1
        have B2 := Lib.hid B2
        have B6 := Lib.hid B6
        have B4 := Lib.hid B4
        have B5 := Lib.hid B5
        have EF := Lib.hid EF
        have SS := Lib.hid (show Stp l nx 3 (changeL (execP b) a l) nx 0 0 from .exec a b)
        clear M2
        go_wp2_with fail
        go_meet
        exact ⟨(changeL (execP b) a l), nx, A', c', l.length, 0, 0, 0, rfl, Lib.hid (changeL_len), B2, B6, B4, B5, RR, SS, EF.out⟩
    by_cases h4 : k = 4
    · subst h4
      go_wp2_with fail
      refine (end_any Ad c l nx a b W (H.out.ext E0)).mono ?_
      rintro e w1 ⟨F1, (⟨hr, rfl⟩ | ⟨hr, A', c', rfl, O⟩)⟩
      ·
        obtain ⟨e0, he0⟩ : ∃ e0, askL l nx [a] = e0 := ⟨_, rfl⟩
        rw [he0]
        have M2 : Mod (fun k => k = w.heap.size ∨ k = w.heap.size + 1 + 1 + 1 + 1) w1 ((w1.setCell ⟨w.heap.size, 0, none⟩ (.slice Ad l.length c)).setCell ⟨w.heap.size, 1, none⟩ (.int .i64 nx)) := ((Mod.refl _ w1).set_ (.inr (.inl rfl)) _).set_ (.inr (.inl rfl)) _
        have k2 := (b2.out.ext F1).two
        have B2 := (b2.out.ext F1).put2 (.slice Ad l.length c) (.int .i64 nx)
        have B6 := ((b6.out.ext F1).far (p := ⟨w.heap.size, 0, none⟩) (by show _ ≠ w.heap.size; omega) (.slice Ad l.length c)).far (p := ⟨w.heap.size, 1, none⟩) (by show _ ≠ w.heap.size; omega) (.int .i64 nx)
        have a60 := B6.cell 0
        have f60 := B6.frozen 0
        have a61 := B6.cell 1
        have f61 := B6.frozen 1
        have B4 := (b4.out.ext F1).mod M2 (by show ¬ (_ ∨ _); omega)
        have B5 := (b5.out.ext F1).mod M2 (by show ¬ (_ ∨ _); omega)
        have EF := Mod.toExt (E0.trans F1) M2 (by intro k hk he; rcases he with he | he <;> omega)
        have RR := Lib.hid (fun w'' (M'' : Mod (fun k => w.heap.size ≤ k ∧ k < w.heap.size + 5) _ w'') => H.out.ext (Mod.toExt EF M'' (fun k hk he => by have := he.1; omega)))
        have B2 := Lib.hid B2
        have B6 := Lib.hid B6
        have B4 := Lib.hid B4
        have B5 := Lib.hid B5
        have EF := Lib.hid EF
        have SS := Lib.hid (show Stp l nx 4 l nx 0 e0 from .same (fun h => by omega))
        clear M2
        go_wp2_with fail
        go_meet
        exact ⟨l, nx, Ad, c, l.length, 0, 0, e0, rfl, Lib.hid (rfl), B2, B6, B4, B5, RR, SS, EF.out⟩
      ·
        obtain ⟨n1, hn1⟩ : ∃ n1, (endL l a b).length = n1 := ⟨_, rfl⟩
        rw [hn1] at O ⊢
        have HN1 := Lib.hid hn1
        clear hn1
        have M2 : Mod (fun k => k = w.heap.size ∨ k = w.heap.size + 1 + 1 + 1 + 1) w1 ((w1.setCell ⟨w.heap.size, 0, none⟩ (.slice A' n1 c')).setCell ⟨w.heap.size, 1, none⟩ (.int .i64 nx)) := ((Mod.refl _ w1).set_ (.inr (.inl rfl)) _).set_ (.inr (.inl rfl)) _
        have k2 := (b2.out.ext F1).two
        have B2 := (b2.out.ext F1).put2 (.slice A' n1 c') (.int .i64 nx)
        have B6 := ((b6.out.ext F1).far (p := ⟨w.heap.size, 0, none⟩) (by show _ ≠ w.heap.size; omega) (.slice A' n1 c')).far (p := ⟨w.heap.size, 1, none⟩) (by show _ ≠ w.heap.size; omega) (.int .i64 nx)
        have a60 := B6.cell 0
        have f60 := B6.frozen 0
        have a61 := B6.cell 1
        have f61 := B6.frozen 1
        have B4 := (b4.out.ext F1).mod M2 (by show ¬ (_ ∨ _); omega)
        have B5 := (b5.out.ext F1).mod M2 (by show ¬ (_ ∨ _); omega)
        have EF := Mod.toExt (E0.trans F1) M2 (by intro k hk he; rcases he with he | he <;> omega)
        have hrw := O.row
        have hwz := hsz.out
        have hwz1 := F1.size
        have RO := O.mod M2 (fun k hk he => by have := (hrw k hk).1; rcases he with he | he <;> omega) (fun k _ hk _ => hk)
        have RR := Lib.hid (fun w'' (M'' : Mod (fun k => w.heap.size ≤ k ∧ k < w.heap.size + 5) _ w'') => rdy_pr (B := fun _ => False) (RO.mod M'' (fun k hk he => by have := (hrw k hk).1; have := he.2; omega) (fun k _ hk _ => hk)).y)
        clear RO
        clear hrw hwz hwz1
        have B2 := Lib.hid B2
        have B6 := Lib.hid B6
        have B4 := Lib.hid B4
        have B5 := Lib.hid B5
        have EF := Lib.hid EF
        have SS := Lib.hid (show Stp l nx 4 (endL l a b) nx 0 0 from .quit a b hr)
        clear M2
        go_wp2_with fail
        go_meet
        exact ⟨(endL l a b), nx, A', c', n1, 0, 0, 0, rfl, Lib.hid (HN1.out), B2, B6, B4, B5, RR, SS, EF.out⟩
    by_cases h5 : k = 5
    · subst h5
      go_wp2_with fail
      refine (wait_any Ad c l nx a b W (H.out.ext E0)).mono ?_
      intro e w1 hp
      obtain ⟨F1, (⟨x, rfl⟩ | ⟨p, A', c', _, _, _, _, hst, _, _, hpl, rfl, O⟩ | ⟨p, A', c', _, _, _, _, _, _, _, hpl, rfl, O⟩)⟩ := wait_cases hp
      all_goals clear hp
      ·
        have M2 : Mod (fun k => k = w.heap.size ∨ k = w.heap.size + 1 + 1 + 1 + 1) w1 ((w1.setCell ⟨w.heap.size, 0, none⟩ (.slice Ad l.length c)).setCell ⟨w.heap.size, 1, none⟩ (.int .i64 nx)) := ((Mod.refl _ w1).set_ (.inr (.inl rfl)) _).set_ (.inr (.inl rfl)) _
        have k2 := (b2.out.ext F1).two
        have B2 := (b2.out.ext F1).put2 (.slice Ad l.length c) (.int .i64 nx)
        have B6 := ((b6.out.ext F1).far (p := ⟨w.heap.size, 0, none⟩) (by show _ ≠ w.heap.size; omega) (.slice Ad l.length c)).far (p := ⟨w.heap.size, 1, none⟩) (by show _ ≠ w.heap.size; omega) (.int .i64 nx)
        have a60 := B6.cell 0
        have f60 := B6.frozen 0
        have a61 := B6.cell 1
        have f61 := B6.frozen 1
        have M2 := M2.set_ (p := ⟨w.heap.size + 1 + 1 + 1 + 1, 0, none⟩) (.inr (.inr rfl)) (.int .i64 0)
        have B2 := B2.far (p := ⟨w.heap.size + 1 + 1 + 1 + 1, 0, none⟩) (by show w.heap.size ≠ w.heap.size + 1 + 1 + 1 + 1; omega) (.int .i64 0)
        have B6 := B6.set_ 0 (.int .i64 0)
        have M2 := M2.set_ (p := ⟨w.heap.size + 1 + 1 + 1 + 1, 1, none⟩) (.inr (.inr rfl)) (.int .i64 0)
        have B2 := B2.far (p := ⟨w.heap.size + 1 + 1 + 1 + 1, 1, none⟩) (by show w.heap.size ≠ w.heap.size + 1 + 1 + 1 + 1; omega) (.int .i64 0)
        have B6 := B6.set_ 1 (.int .i64 0)
        have B4 := (b4.out.ext F1).mod M2 (by show ¬ (_ ∨ _); omega)
        have B5 := (b5.out.ext F1).mod M2 (by show ¬ (_ ∨ _); omega)
        have EF := Mod.toExt (E0.trans F1) M2 (by intro k hk he; rcases he with he | he <;> omega)
        have RR := Lib.hid (fun w'' (M'' : Mod (fun k => w.heap.size ≤ k ∧ k < w.heap.size + 5) _ w'') => H.out.ext (Mod.toExt EF M'' (fun k hk he => by have := he.1; omega)))
        have B2 := Lib.hid B2
        have B6 := Lib.hid B6
        have B4 := Lib.hid B4
        have B5 := Lib.hid B5
        have EF := Lib.hid EF
        have SS := Lib.hid (show Stp l nx 5 l nx 0 x from .same (fun h => by omega))
        clear M2
        go_wp2_with fail
        go_meet
        exact ⟨l, nx, Ad, c, l.length, 0, 0, x, rfl, Lib.hid (rfl), B2, B6, B4, B5, RR, SS, EF.out⟩
      ·
        obtain ⟨n1, hn1⟩ : ∃ n1, (goneL l p.pid).length = n1 := ⟨_, rfl⟩
        rw [hn1] at O ⊢
        have HN1 := Lib.hid hn1
        clear hn1
        have M2 : Mod (fun k => k = w.heap.size ∨ k = w.heap.size + 1 + 1 + 1 + 1) w1 ((w1.setCell ⟨w.heap.size, 0, none⟩ (.slice A' n1 c')).setCell ⟨w.heap.size, 1, none⟩ (.int .i64 nx)) := ((Mod.refl _ w1).set_ (.inr (.inl rfl)) _).set_ (.inr (.inl rfl)) _
        have k2 := (b2.out.ext F1).two
        have B2 := (b2.out.ext F1).put2 (.slice A' n1 c') (.int .i64 nx)
        have B6 := ((b6.out.ext F1).far (p := ⟨w.heap.size, 0, none⟩) (by show _ ≠ w.heap.size; omega) (.slice A' n1 c')).far (p := ⟨w.heap.size, 1, none⟩) (by show _ ≠ w.heap.size; omega) (.int .i64 nx)
        have a60 := B6.cell 0
        have f60 := B6.frozen 0
        have a61 := B6.cell 1
        have f61 := B6.frozen 1
        have M2 := M2.set_ (p := ⟨w.heap.size + 1 + 1 + 1 + 1, 0, none⟩) (.inr (.inr rfl)) (.int .i64 p.pid)
        have B2 := B2.far (p := ⟨w.heap.size + 1 + 1 + 1 + 1, 0, none⟩) (by show w.heap.size ≠ w.heap.size + 1 + 1 + 1 + 1; omega) (.int .i64 p.pid)
        have B6 := B6.set_ 0 (.int .i64 p.pid)
        have M2 := M2.set_ (p := ⟨w.heap.size + 1 + 1 + 1 + 1, 1, none⟩) (.inr (.inr rfl)) (.int .i64 p.status)
        have B2 := B2.far (p := ⟨w.heap.size + 1 + 1 + 1 + 1, 1, none⟩) (by show w.heap.size ≠ w.heap.size + 1 + 1 + 1 + 1; omega) (.int .i64 p.status)
        have B6 := B6.set_ 1 (.int .i64 p.status)
        have B4 := (b4.out.ext F1).mod M2 (by show ¬ (_ ∨ _); omega)
        have B5 := (b5.out.ext F1).mod M2 (by show ¬ (_ ∨ _); omega)
        have EF := Mod.toExt (E0.trans F1) M2 (by intro k hk he; rcases he with he | he <;> omega)
        have hrw := O.row
        have hwz := hsz.out
        have hwz1 := F1.size
        have RO := O.mod M2 (fun k hk he => by have := (hrw k hk).1; rcases he with he | he <;> omega) (fun k _ hk _ => hk)
        have RR := Lib.hid (fun w'' (M'' : Mod (fun k => w.heap.size ≤ k ∧ k < w.heap.size + 5) _ w'') => rdy_pr (B := fun _ => False) (RO.mod M'' (fun k hk he => by have := (hrw k hk).1; have := he.2; omega) (fun k _ hk _ => hk)).y)
        clear RO
        clear hrw hwz hwz1
        have B2 := Lib.hid B2
        have B6 := Lib.hid B6
        have B4 := Lib.hid B4
        have B5 := Lib.hid B5
        have EF := Lib.hid EF
        have SS := Lib.hid (show Stp l nx 5 (goneL l p.pid) nx p.pid 0 from .gone p hpl hst)
        clear M2
        go_wp2_with fail
        go_meet
        exact ⟨(goneL l p.pid), nx, A', c', n1, p.pid, p.status, 0, rfl, Lib.hid (HN1.out), B2, B6, B4, B5, RR, SS, EF.out⟩
      ·
        have M2 : Mod (fun k => k = w.heap.size ∨ k = w.heap.size + 1 + 1 + 1 + 1) w1 ((w1.setCell ⟨w.heap.size, 0, none⟩ (.slice A' l.length c')).setCell ⟨w.heap.size, 1, none⟩ (.int .i64 nx)) := ((Mod.refl _ w1).set_ (.inr (.inl rfl)) _).set_ (.inr (.inl rfl)) _
        have k2 := (b2.out.ext F1).two
        have B2 := (b2.out.ext F1).put2 (.slice A' l.length c') (.int .i64 nx)
        have B6 := ((b6.out.ext F1).far (p := ⟨w.heap.size, 0, none⟩) (by show _ ≠ w.heap.size; omega) (.slice A' l.length c')).far (p := ⟨w.heap.size, 1, none⟩) (by show _ ≠ w.heap.size; omega) (.int .i64 nx)
        have a60 := B6.cell 0
        have f60 := B6.frozen 0
        have a61 := B6.cell 1
        have f61 := B6.frozen 1
        have M2 := M2.set_ (p := ⟨w.heap.size + 1 + 1 + 1 + 1, 0, none⟩) (.inr (.inr rfl)) (.int .i64 p.pid)
        have B2 := B2.far (p := ⟨w.heap.size + 1 + 1 + 1 + 1, 0, none⟩) (by show w.heap.size ≠ w.heap.size + 1 + 1 + 1 + 1; omega) (.int .i64 p.pid)
        have B6 := B6.set_ 0 (.int .i64 p.pid)
        have M2 := M2.set_ (p := ⟨w.heap.size + 1 + 1 + 1 + 1, 1, none⟩) (.inr (.inr rfl)) (.int .i64 p.status)
        have B2 := B2.far (p := ⟨w.heap.size + 1 + 1 + 1 + 1, 1, none⟩) (by show w.heap.size ≠ w.heap.size + 1 + 1 + 1 + 1; omega) (.int .i64 p.status)
        have B6 := B6.set_ 1 (.int .i64 p.status)
        have B4 := (b4.out.ext F1).mod M2 (by show ¬ (_ ∨ _); omega)
        have B5 := (b5.out.ext F1).mod M2 (by show ¬ (_ ∨ _); omega)
        have EF := Mod.toExt (E0.trans F1) M2 (by intro k hk he; rcases he with he | he <;> omega)
        have hrw := O.row
        have hwz := hsz.out
        have hwz1 := F1.size
        have RO := O.mod M2 (fun k hk he => by have := (hrw k hk).1; rcases he with he | he <;> omega) (fun k _ hk _ => hk)
        have RR := Lib.hid (fun w'' (M'' : Mod (fun k => w.heap.size ≤ k ∧ k < w.heap.size + 5) _ w'') => rdy_pr (B := fun _ => False) (RO.mod M'' (fun k hk he => by have := (hrw k hk).1; have := he.2; omega) (fun k _ hk _ => hk)).y)
        clear RO
        clear hrw hwz hwz1
        have B2 := Lib.hid B2
        have B6 := Lib.hid B6
        have B4 := Lib.hid B4
        have B5 := Lib.hid B5
        have EF := Lib.hid EF
        have SS := Lib.hid (show Stp l nx 5 (changeL toldP p.pid l) nx p.pid 0 from .told p.pid)
        clear M2
        go_wp2_with fail
        go_meet
        exact ⟨(changeL toldP p.pid l), nx, A', c', l.length, p.pid, p.status, 0, rfl, Lib.hid (changeL_len), B2, B6, B4, B5, RR, SS, EF.out⟩
    by_cases h6 : k = 6
    · subst h6
      go_wp2_with fail
      refine (group_any Ad c l nx a b d W (H.out.ext E0)).mono ?_
      rintro e w1 ⟨F1, (⟨x, hx, rfl⟩ | ⟨hr, x, hxl, rfl, hlv, hg, A', c', rfl, O⟩)⟩
      ·
        have M2 : Mod (fun k => k = w.heap.size ∨ k = w.heap.size + 1 + 1 + 1 + 1) w1 ((w1.setCell ⟨w.heap.size, 0, none⟩ (.slice Ad l.length c)).setCell ⟨w.heap.size, 1, none⟩ (.int .i64 nx)) := ((Mod.refl _ w1).set_ (.inr (.inl rfl)) _).set_ (.inr (.inl rfl)) _
        have k2 := (b2.out.ext F1).two
        have B2 := (b2.out.ext F1).put2 (.slice Ad l.length c) (.int .i64 nx)
        have B6 := ((b6.out.ext F1).far (p := ⟨w.heap.size, 0, none⟩) (by show _ ≠ w.heap.size; omega) (.slice Ad l.length c)).far (p := ⟨w.heap.size, 1, none⟩) (by show _ ≠ w.heap.size; omega) (.int .i64 nx)
        have a60 := B6.cell 0
        have f60 := B6.frozen 0
        have a61 := B6.cell 1
        have f61 := B6.frozen 1
        have B4 := (b4.out.ext F1).mod M2 (by show ¬ (_ ∨ _); omega)
        have B5 := (b5.out.ext F1).mod M2 (by show ¬ (_ ∨ _); omega)
        have EF := Mod.toExt (E0.trans F1) M2 (by intro k hk he; rcases he with he | he <;> omega)
        have RR := Lib.hid (fun w'' (M'' : Mod (fun k => w.heap.size ≤ k ∧ k < w.heap.size + 5) _ w'') => H.out.ext (Mod.toExt EF M'' (fun k hk he => by have := he.1; omega)))
        have B2 := Lib.hid B2
        have B6 := Lib.hid B6
        have B4 := Lib.hid B4
        have B5 := Lib.hid B5
        have EF := Lib.hid EF
        have SS := Lib.hid (show Stp l nx 6 l nx 0 x from .same (fun h => by omega))
        clear M2
        go_wp2_with fail
        go_meet
        exact ⟨l, nx, Ad, c, l.length, 0, 0, x, rfl, Lib.hid (rfl), B2, B6, B4, B5, RR, SS, EF.out⟩
      ·
        have M2 : Mod (fun k => k = w.heap.size ∨ k = w.heap.size + 1 + 1 + 1 + 1) w1 ((w1.setCell ⟨w.heap.size, 0, none⟩ (.slice A' l.length c')).setCell ⟨w.heap.size, 1, none⟩ (.int .i64 nx)) := ((Mod.refl _ w1).set_ (.inr (.inl rfl)) _).set_ (.inr (.inl rfl)) _
        have k2 := (b2.out.ext F1).two
        have B2 := (b2.out.ext F1).put2 (.slice A' l.length c') (.int .i64 nx)
        have B6 := ((b6.out.ext F1).far (p := ⟨w.heap.size, 0, none⟩) (by show _ ≠ w.heap.size; omega) (.slice A' l.length c')).far (p := ⟨w.heap.size, 1, none⟩) (by show _ ≠ w.heap.size; omega) (.int .i64 nx)
        have a60 := B6.cell 0
        have f60 := B6.frozen 0
        have a61 := B6.cell 1
        have f61 := B6.frozen 1
        have B4 := (b4.out.ext F1).mod M2 (by show ¬ (_ ∨ _); omega)
        have B5 := (b5.out.ext F1).mod M2 (by show ¬ (_ ∨ _); omega)
        have EF := Mod.toExt (E0.trans F1) M2 (by intro k hk he; rcases he with he | he <;> omega)
        have hrw := O.row
        have hwz := hsz.out
        have hwz1 := F1.size
        have RO := O.mod M2 (fun k hk he => by have := (hrw k hk).1; rcases he with he | he <;> omega) (fun k _ hk _ => hk)
        have RR := Lib.hid (fun w'' (M'' : Mod (fun k => w.heap.size ≤ k ∧ k < w.heap.size + 5) _ w'') => rdy_pr (B := fun _ => False) (RO.mod M'' (fun k hk he => by have := (hrw k hk).1; have := he.2; omega) (fun k _ hk _ => hk)).y)
        clear RO
        clear hrw hwz hwz1
        have B2 := Lib.hid B2
        have B6 := Lib.hid B6
        have B4 := Lib.hid B4
        have B5 := Lib.hid B5
        have EF := Lib.hid EF
        have SS := Lib.hid (show Stp l nx 6 (changeL (groupP d) x.pid l) nx 0 0 from .group x d hr hxl hlv hg)
        clear M2
        go_wp2_with fail
        go_meet
        exact ⟨(changeL (groupP d) x.pid l), nx, A', c', l.length, 0, 0, 0, rfl, Lib.hid (changeL_len), B2, B6, B4, B5, RR, SS, EF.out⟩
    by_cases h7 : k = 7
    · subst h7
      go_wp2_with fail
      refine (session_any Ad c l nx a W (H.out.ext E0)).mono ?_
      rintro e w1 ⟨F1, (⟨hr, rfl⟩ | ⟨hr, hm, rfl⟩ | ⟨hr, hm, A', c', rfl, O⟩)⟩
      ·
        obtain ⟨e0, he0⟩ : ∃ e0, askL l nx [a] = e0 := ⟨_, rfl⟩
        rw [he0]
        have M2 : Mod (fun k => k = w.heap.size ∨ k = w.heap.size + 1 + 1 + 1 + 1) w1 ((w1.setCell ⟨w.heap.size, 0, none⟩ (.slice Ad l.length c)).setCell ⟨w.heap.size, 1, none⟩ (.int .i64 nx)) := ((Mod.refl _ w1).set_ (.inr (.inl rfl)) _).set_ (.inr (.inl rfl)) _
        have k2 := (b2.out.ext F1).two
        have B2 := (b2.out.ext F1).put2 (.slice Ad l.length c) (.int .i64 nx)
        have B6 := ((b6.out.ext F1).far (p := ⟨w.heap.size, 0, none⟩) (by show _ ≠ w.heap.size; omega) (.slice Ad l.length c)).far (p := ⟨w.heap.size, 1, none⟩) (by show _ ≠ w.heap.size; omega) (.int .i64 nx)
        have a60 := B6.cell 0
        have f60 := B6.frozen 0
        have a61 := B6.cell 1
        have f61 := B6.frozen 1
        have B4 := (b4.out.ext F1).mod M2 (by show ¬ (_ ∨ _); omega)
        have B5 := (b5.out.ext F1).mod M2 (by show ¬ (_ ∨ _); omega)
        have EF := Mod.toExt (E0.trans F1) M2 (by intro k hk he; rcases he with he | he <;> omega)
        have RR := Lib.hid (fun w'' (M'' : Mod (fun k => w.heap.size ≤ k ∧ k < w.heap.size + 5) _ w'') => H.out.ext (Mod.toExt EF M'' (fun k hk he => by have := he.1; omega)))
        have B2 := Lib.hid B2
        have B6 := Lib.hid B6
        have B4 := Lib.hid B4
        have B5 := Lib.hid B5
        have EF := Lib.hid EF
        have SS := Lib.hid (show Stp l nx 7 l nx 0 e0 from .same (fun h => by omega))
        clear M2
        go_wp2_with fail
        go_meet
        exact ⟨l, nx, Ad, c, l.length, 0, 0, e0, rfl, Lib.hid (rfl), B2, B6, B4, B5, RR, SS, EF.out⟩
      ·
        have M2 : Mod (fun k => k = w.heap.size ∨ k = w.heap.size + 1 + 1 + 1 + 1) w1 ((w1.setCell ⟨w.heap.size, 0, none⟩ (.slice Ad l.length c)).setCell ⟨w.heap.size, 1, none⟩ (.int .i64 nx)) := ((Mod.refl _ w1).set_ (.inr (.inl rfl)) _).set_ (.inr (.inl rfl)) _
        have k2 := (b2.out.ext F1).two
        have B2 := (b2.out.ext F1).put2 (.slice Ad l.length c) (.int .i64 nx)
        have B6 := ((b6.out.ext F1).far (p := ⟨w.heap.size, 0, none⟩) (by show _ ≠ w.heap.size; omega) (.slice Ad l.length c)).far (p := ⟨w.heap.size, 1, none⟩) (by show _ ≠ w.heap.size; omega) (.int .i64 nx)
        have a60 := B6.cell 0
        have f60 := B6.frozen 0
        have a61 := B6.cell 1
        have f61 := B6.frozen 1
        have B4 := (b4.out.ext F1).mod M2 (by show ¬ (_ ∨ _); omega)
        have B5 := (b5.out.ext F1).mod M2 (by show ¬ (_ ∨ _); omega)
        have EF := Mod.toExt (E0.trans F1) M2 (by intro k hk he; rcases he with he | he <;> omega)
        have RR := Lib.hid (fun w'' (M'' : Mod (fun k => w.heap.size ≤ k ∧ k < w.heap.size + 5) _ w'') => H.out.ext (Mod.toExt EF M'' (fun k hk he => by have := he.1; omega)))
        have B2 := Lib.hid B2
        have B6 := Lib.hid B6
        have B4 := Lib.hid B4
        have B5 := Lib.hid B5
        have EF := Lib.hid EF
        have SS := Lib.hid (show Stp l nx 7 l nx 0 12 from .same (fun h => by omega))
        clear M2
        go_wp2_with fail
        go_meet
        exact ⟨l, nx, Ad, c, l.length, 0, 0, 12, rfl, Lib.hid (rfl), B2, B6, B4, B5, RR, SS, EF.out⟩
      ·
        have M2 : Mod (fun k => k = w.heap.size ∨ k = w.heap.size + 1 + 1 + 1 + 1) w1 ((w1.setCell ⟨w.heap.size, 0, none⟩ (.slice A' l.length c')).setCell ⟨w.heap.size, 1, none⟩ (.int .i64 nx)) := ((Mod.refl _ w1).set_ (.inr (.inl rfl)) _).set_ (.inr (.inl rfl)) _
        have k2 := (b2.out.ext F1).two
        have B2 := (b2.out.ext F1).put2 (.slice A' l.length c') (.int .i64 nx)
        have B6 := ((b6.out.ext F1).far (p := ⟨w.heap.size, 0, none⟩) (by show _ ≠ w.heap.size; omega) (.slice A' l.length c')).far (p := ⟨w.heap.size, 1, none⟩) (by show _ ≠ w.heap.size; omega) (.int .i64 nx)
        have a60 := B6.cell 0
        have f60 := B6.frozen 0
        have a61 := B6.cell 1
        have f61 := B6.frozen 1
        have B4 := (b4.out.ext F1).mod M2 (by show ¬ (_ ∨ _); omega)
        have B5 := (b5.out.ext F1).mod M2 (by show ¬ (_ ∨ _); omega)
        have EF := Mod.toExt (E0.trans F1) M2 (by intro k hk he; rcases he with he | he <;> omega)
        have hrw := O.row
        have hwz := hsz.out
        have hwz1 := F1.size
        have RO := O.mod M2 (fun k hk he => by have := (hrw k hk).1; rcases he with he | he <;> omega) (fun k _ hk _ => hk)
        have RR := Lib.hid (fun w'' (M'' : Mod (fun k => w.heap.size ≤ k ∧ k < w.heap.size + 5) _ w'') => rdy_pr (B := fun _ => False) (RO.mod M'' (fun k hk he => by have := (hrw k hk).1; have := he.2; omega) (fun k _ hk _ => hk)).y)
        clear RO
        clear hrw hwz hwz1
        have B2 := Lib.hid B2
        have B6 := Lib.hid B6
        have B4 := Lib.hid B4
        have B5 := Lib.hid B5
        have EF := Lib.hid EF
        have SS := Lib.hid (show Stp l nx 7 (changeL (sessP a) a l) nx 0 0 from .session a hr hm)
        clear M2
        go_wp2_with fail
        go_meet
        exact ⟨(changeL (sessP a) a l), nx, A', c', l.length, 0, 0, 0, rfl, Lib.hid (changeL_len), B2, B6, B4, B5, RR, SS, EF.out⟩
    have g1 : (k == 1) = false := by simpa using h1
    have g2 : (k == 2) = false := by simpa using h2
    have g3 : (k == 3) = false := by simpa using h3
    have g4 : (k == 4) = false := by simpa using h4
    have g5 : (k == 5) = false := by simpa using h5
    have g6 : (k == 6) = false := by simpa using h6
    have g7 : (k == 7) = false := by simpa using h7
    have SS := Lib.hid (show Stp l nx k l nx 0 0 from .same (fun h => by omega))
    have RR := Lib.hid (fun w'' (M'' : Mod (fun k => w.heap.size ≤ k ∧ k < w.heap.size + 5) W w'') => H.out.ext (Mod.toExt E0 M'' (fun k hk he => by have := he.1; omega)))
    clear h1 h2 h3 h4 h5 h6 h7
    go_wp2_with fail
    go_meet
    exact ⟨l, nx, Ad, c, l.length, 0, 0, 0, rfl, Lib.hid rfl, b2, b6, b4, b5, RR, SS, E0⟩
  case rest =>
    obtain ⟨L, nx', A', c', n, N, S, E, rfl, hL, B2, B6, B4, B5, RR, SS, EF⟩ := hcut
    have a60 := B6.out.cell 2
    have f60 := B6.out.frozen 2
    have M9 : Mod (fun k => w.heap.size ≤ k ∧ k < w.heap.size + 5) wc (wc.setCell ⟨w.heap.size + 1 + 1 + 1 + 1, 2, none⟩ (.int .i64 E)) := (Mod.refl _ wc).set_ (.inr ⟨by show _ ≤ w.heap.size + 1 + 1 + 1 + 1; omega, by show w.heap.size + 1 + 1 + 1 + 1 < _; omega⟩) _
    have C6 : Blk (wc.setCell ⟨w.heap.size + 1 + 1 + 1 + 1, 2, none⟩ (.int .i64 E)) (w.heap.size + 1 + 1 + 1 + 1) 74 #[.int .i64 N, .int .i64 S, .int .i64 E] := by simpa using B6.out.set_ 2 (.int .i64 E)
    have C2 := Lib.hid (B2.out.far (p := ⟨w.heap.size + 1 + 1 + 1 + 1, 2, none⟩) (by show w.heap.size ≠ w.heap.size + 1 + 1 + 1 + 1; omega) (.int .i64 E))
    have C4 := Lib.hid (B4.out.far (p := ⟨w.heap.size + 1 + 1 + 1 + 1, 2, none⟩) (by show w.heap.size + 1 + 1 ≠ w.heap.size + 1 + 1 + 1 + 1; omega) (.int .i64 E))
    have C5 := Lib.hid (B5.out.far (p := ⟨w.heap.size + 1 + 1 + 1 + 1, 2, none⟩) (by show w.heap.size + 1 + 1 + 1 ≠ w.heap.size + 1 + 1 + 1 + 1; omega) (.int .i64 E))
    have C6 := Lib.hid C6
    have M9 := Lib.hid M9
    go_wp2
    clear a60 f60
    generalize wc.setCell _ _ = W9 at *
    refine wp_region_held_drew (S := fun w' => Mod (fun k => k = w.heap.size + 1 + 1 ∨ k = w.heap.size + 1 + 1 + 1) W9 w') (by kernel_rfl) (Mod.of_ext (Ext.drew (Ext.refl _))) (fun hHeld => ?_)
    (refine wpAnyH_take (i := 0) (v := ?_) rfl (by kernel_rfl) (by kernel_rfl) (by kernel_rfl) (fun _ _ _ h => h) (Or.inl ⟨by rfl, ?_⟩) (by assumption) ?_; rotate_left; (focus (intro w' hSw; have kc := (C2.out.mod hSw (by show ¬ (_ ∨ _); omega)).two; go_simp; try with_reducible rfl)); (try simp only [List.getElem_toArray]); (try simp only [List.getElem_cons_succ]); (try simp only [List.getElem_cons_zero]); (try simp only [Act.put]); (try simp only [List.setIfInBounds_toArray]); (try simp only [List.set_cons_succ]); (try simp only [List.set_cons_zero]))
    (refine wpAnyH_take (i := 1) (v := ?_) rfl (by kernel_rfl) (by kernel_rfl) (by kernel_rfl) (fun _ _ _ h => h) (Or.inl ⟨by rfl, ?_⟩) (by assumption) ?_; rotate_left; (focus (intro w' hSw; have kc0 := (C6.out.mod hSw (by show ¬ (_ ∨ _); omega)).cell 0; have kc1 := (C6.out.mod hSw (by show ¬ (_ ∨ _); omega)).cell 1; have kc2 := (C6.out.mod hSw (by show ¬ (_ ∨ _); omega)).cell 2; go_simp; try with_reducible rfl)); (try simp only [List.getElem_toArray]); (try simp only [List.getElem_cons_succ]); (try simp only [List.getElem_cons_zero]); (try simp only [Act.put]); (try simp only [List.setIfInBounds_toArray]); (try simp only [List.set_cons_succ]); (try simp only [List.set_cons_zero]))
    have Ed : Ext W9 W9.drew := Ext.drew (Ext.refl _)
    have D4 := C4.out.ext Ed
    have D5 := C5.out.ext Ed
    generalize W9.drew = Wd at *
    have k4 := D4.two
    (refine wpAnyH_ready (rs := [2]) (by kernel_rfl) (by simp) ?_; refine AllReadyH.cons rfl (fun K hK => ?_) AllReadyH.nil; go_simp; refine hK.out _ _ (((Mod.of_ext Ed).set_ (.inr (.inl rfl)) _).set_ (.inr (.inl rfl)) _) (fun hHeld => ?_); clear hK K; (try simp only [Act.put]); (try simp only [List.getElem_toArray]); (try simp only [List.getElem_cons_succ]); (try simp only [List.getElem_cons_zero]); (try simp only [List.setIfInBounds_toArray]); (try simp only [List.set_cons_succ]); (try simp only [List.set_cons_zero]))
    have G4 := D4.put2 (.slice A' n c') (.int .i64 nx')
    have G5 := (D5.far (p := ⟨w.heap.size + 1 + 1, 0, none⟩) (by show w.heap.size + 1 + 1 + 1 ≠ w.heap.size + 1 + 1; omega) (.slice A' n c')).far (p := ⟨w.heap.size + 1 + 1, 1, none⟩) (by show w.heap.size + 1 + 1 + 1 ≠ w.heap.size + 1 + 1; omega) (.int .i64 nx')
    have g50 := G5.cell 0
    have g51 := G5.cell 1
    have g52 := G5.cell 2
    have f50 := G5.frozen 0
    have f51 := G5.frozen 1
    have f52 := G5.frozen 2
    have MF : Mod (fun k => k = w.heap.size + 1 + 1 ∨ k = w.heap.size + 1 + 1 + 1) W9 _ := ((((((Mod.of_ext Ed).set_ (p := ⟨w.heap.size + 1 + 1, 0, none⟩) (.inr (.inl rfl)) (.slice A' n c')).set_ (p := ⟨w.heap.size + 1 + 1, 1, none⟩) (.inr (.inl rfl)) (.int .i64 nx')).set_ (p := ⟨w.heap.size + 1 + 1 + 1, 0, none⟩) (.inr (.inr rfl)) (.int .i64 N)).set_ (p := ⟨w.heap.size + 1 + 1 + 1, 1, none⟩) (.inr (.inr rfl)) (.int .i64 S)).set_ (p := ⟨w.heap.size + 1 + 1 + 1, 2, none⟩) (.inr (.inr rfl)) (.int .i64 E))
    (refine wpAnyH_ready (rs := [3]) (by kernel_rfl) (by simp) ?_; refine AllReadyH.cons rfl (fun K hK => ?_) AllReadyH.nil; go_simp; refine hK.out _ _ MF (fun hHeld => ?_); clear hK K; (try simp only [Act.put]); (try simp only [List.getElem_toArray]); (try simp only [List.getElem_cons_succ]); (try simp only [List.getElem_cons_zero]); (try simp only [List.setIfInBounds_toArray]); (try simp only [List.set_cons_succ]); (try simp only [List.set_cons_zero]))
    refine wpAnyH_done (by kernel_rfl) ?_ _
    have F4 := ((G4.far (p := ⟨w.heap.size + 1 + 1 + 1, 0, none⟩) (by show w.heap.size + 1 + 1 ≠ w.heap.size + 1 + 1 + 1; omega) (.int .i64 N)).far (p := ⟨w.heap.size + 1 + 1 + 1, 1, none⟩) (by show w.heap.size + 1 + 1 ≠ w.heap.size + 1 + 1 + 1; omega) (.int .i64 S)).far (p := ⟨w.heap.size + 1 + 1 + 1, 2, none⟩) (by show w.heap.size + 1 + 1 ≠ w.heap.size + 1 + 1 + 1; omega) (.int .i64 E)
    have F5 := ((G5.set_ 0 (.int .i64 N)).set_ 1 (.int .i64 S)).set_ 2 (.int .i64 E)
    obtain ⟨q0, q1, _, _⟩ := F4.two
    have r0 := F5.cell 0
    have r1 := F5.cell 1
    have r2 := F5.cell 2
    simp at r0 r1 r2
    have MF := Lib.hid MF
    clear g50 g51 g52 f50 f51 f52 k4
    go_wp2
    refine bodyPost_ret (v := .tuple #[tv A' n c' nx', .agg #[.int .i64 N, .int .i64 S, .int .i64 E]]) (by simp [results, Try.results30, go_sem, q0, q1, r0, r1, r2]) rfl ?_
    have MG := MF.out.mono (T := fun k => w.heap.size ≤ k ∧ k < w.heap.size + 5) (fun k _ hk => by rcases hk with hk | hk <;> omega)
    have MH := M9.out.trans MG
    exact ⟨L, nx', A', c', n, N, S, E, rfl, hL.out, RR.out _ MH, Mod.toExt EF MH (fun k hk he => by have := he.1; omega), SS.out⟩
end Go.Proofs.Ytmpmnikgbepphaa
