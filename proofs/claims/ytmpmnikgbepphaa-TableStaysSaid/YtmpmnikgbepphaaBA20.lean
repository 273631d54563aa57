/- A group's processes that live, by contract. Condition: few processes. -/
import Derived.Test.YtmpmnikgbepphaaAA20
namespace Go.Proofs.Ytmpmnikgbepphaa
open Go.RowKit Go.Kb

def ofP (group : Int) (p : Pr) : Bool := liveP p && p.group == group
def ofN (group : Int) (l : List Pr) (m : Nat) : List Pr := (l.take m).filter (ofP group)
theorem ofN_le {group : Int} {l : List Pr} {m : Nat} : (ofN group l m).length ≤ m := Nat.le_trans (List.length_filter_le _ _) (by simp; omega)
theorem ofN_no {group : Int} {l : List Pr} {m : Nat} {p : Pr} (hp : l[m]? = some p) (h : ofP group p = false) : ofN group l (m + 1) = ofN group l m := by
  unfold ofN
  rw [List.take_add_one, hp, List.filter_append]
  simp [h]
theorem ofN_yes {group : Int} {l : List Pr} {m : Nat} {p : Pr} (hp : l[m]? = some p) (h : ofP group p = true) : ofN group l (m + 1) = ofN group l m ++ [p] := by
  unfold ofN
  rw [List.take_add_one, hp, List.filter_append]
  simp [h]
set_option maxRecDepth 100000 in
set_option maxHeartbeats 800000 in
theorem of_any {A : Nat → Prop} (Ad : Option Addr) (c : Nat) (l : List Pr) (nx group : Int) (w : World) (h : RdY Rp A w (.slice Ad l.length c) l) (hn : l.length ≤ 100000) :
    Calls Try.prog 47 #[tv Ad l.length c nx, .int .i64 group] w fun e w' => ∃ A' c', e = .returned (.slice A' (l.filter (ofP group)).length c') ∧ OwnS Rp 43 w.heap.size (fun _ => False) w' (.slice A' (l.filter (ofP group)).length c') (l.filter (ofP group)) ∧ Ext w w' := by
  have H := Lib.hid (rdy_pr (B := fun _ => False) h)
  obtain ⟨_, _, hv, hc1, _⟩ := h.shape
  simp only [Value.slice.injEq] at hv
  obtain ⟨-, -, rfl⟩ := hv
  obtain ⟨N, hN⟩ : ∃ N, l.length = N := ⟨_, rfl⟩
  rw [hN] at H hn hc1 ⊢
  have HN := Lib.hid hN
  clear h hN
  go_enter Try.func47, Try.ntmps47
  go_wp2
  go_loopw [5, 11] (fun o i wr => ∃ (m k c' : Nat) (A' : Option Addr), m ≤ N ∧ i = .int .i64 m ∧ o = .slice A' k c' ∧ k ≤ m ∧ Hid ((ofN group l m).length = k) ∧ Hid (OwnS Rp 43 w.heap.size (fun _ => False) wr (.slice A' k c') (ofN group l m)) ∧ Ext w wr) (fun _ i _ => N - (intOf i).toNat)
  case atStart => exact ⟨0, 0, 0, none, Nat.zero_le _, rfl, rfl, Nat.le_refl _, Lib.hid rfl, Lib.hid (OwnS.nil _ _ _ _ _), (by repeat (first | with_reducible exact Ext.refl _ | refine Ext.drewN ?_ _ | refine Ext.drew ?_ | refine Ext.alloc ?_ _ | assumption | (refine Below.trans ?_ (by assumption)) | (refine Ext.trans ?_ (by assumption)) | (refine Below.trans ?_ (Below.mono (by assumption) (by omega)))))⟩
  case round =>
    obtain ⟨m, k, c', A', hm, rfl, rfl, hk, HK, O, hE⟩ := hrel
    by_cases hmn : m < N
    · obtain ⟨b, off, p, rfl, hd, hok, hcell⟩ := pr_at (H.out.ext hE) hmn
      have hp3 := Pr.len hok
      have hp4 := fold_pr hok
      have hws := hE.size
      cases hlv : ofP group p
      · have HY := Lib.hid (ofN_no hd.out hlv)
        have hlp := hlv
        unfold ofP at hlp
        cases hl1 : liveP p
        · have HL1 := Lib.hid hl1
          clear hlv hlp hl1
          go_wp2_with (first
            | (refine wpList_load_mid rfl 43 _ rfl b (off + m * 43) rfl p.cells _ hcell.out Try.underlying43 rfl (i43' hok) ?_)
            | ((refine wpList_store_A rfl 43 _ _ rfl (wr.heap.size) _ rfl rfl 43 _ (zero_row wr _ rfl) (by rw [List.size_toArray]; exact i43' hok) (Eq.trans (b := 43) (by rfl) (Eq.symm (show (p).cells.toArray.size = 43 from Pr.size hok))) (Pr.one hok) ?_); intro w2 H2 E2; have E2 : Ext wr w2 := E2 wr.heap.size wr ((Ext.refl wr).alloc _) (Nat.le_refl _); have c2 := (prAt_blk hok H2).c2)
            | (refine wpList_load_row rfl 43 _ rfl _ rfl 43 _ _ _ H2 Try.underlying43 rfl (by rw [List.size_toArray]; exact i43' hok) ?_)
            | (refine (lives_any p _ hok).mono ?_; rintro e w3 ⟨rfl, E3⟩; rw [HL1.out]; have E03 : Ext wr w3 := E2.trans E3))
          go_roundw
          case rel => exact ⟨m + 1, k, c', A', by omega, by go_num, rfl, by omega, Lib.hid (by rw [HY.out, HK.out]), Lib.hid (by rw [HY.out]; exact O.out.ext E03), hE.trans E03⟩
          case measure => simp [intOf]; omega
        · have HL1 := Lib.hid hl1
          have hgb : (p.group == group) = false := by rw [hl1] at hlp; simpa using hlp
          clear hlv hlp hl1
          go_wp2_with (first
            | (refine wpList_load_mid rfl 43 _ rfl b (off + m * 43) rfl p.cells _ hcell.out Try.underlying43 rfl (i43' hok) ?_)
            | ((refine wpList_store_A rfl 43 _ _ rfl (wr.heap.size) _ rfl rfl 43 _ (zero_row wr _ rfl) (by rw [List.size_toArray]; exact i43' hok) (Eq.trans (b := 43) (by rfl) (Eq.symm (show (p).cells.toArray.size = 43 from Pr.size hok))) (Pr.one hok) ?_); intro w2 H2 E2; have E2 : Ext wr w2 := E2 wr.heap.size wr ((Ext.refl wr).alloc _) (Nat.le_refl _); have c2 := (prAt_blk hok H2).c2)
            | (refine wpList_load_row rfl 43 _ rfl _ rfl 43 _ _ _ H2 Try.underlying43 rfl (by rw [List.size_toArray]; exact i43' hok) ?_)
            | (refine (lives_any p _ hok).mono ?_; rintro e w3 ⟨rfl, E3⟩; rw [HL1.out]; have c2 := cell_ext E3 c2; have E03 : Ext wr w3 := E2.trans E3))
          go_roundw
          case rel => exact ⟨m + 1, k, c', A', by omega, by go_num, rfl, by omega, Lib.hid (by rw [HY.out, HK.out]), Lib.hid (by rw [HY.out]; exact O.out.ext E03), hE.trans E03⟩
          case measure => simp [intOf]; omega
      · have hlp := hlv
        unfold ofP at hlp
        simp only [Bool.and_eq_true, beq_iff_eq] at hlp
        obtain ⟨hl1, hl2⟩ := hlp
        have HL1 := Lib.hid hl1
        have HY := Lib.hid (ofN_yes hd.out hlv)
        have hgb : (p.group == group) = true := by simpa using hl2
        clear hlv hl1
        go_wp2_with (first
          | (refine wpList_load_mid rfl 43 _ rfl b (off + m * 43) rfl p.cells _ hcell.out Try.underlying43 rfl (i43' hok) ?_)
          | ((refine wpList_store_A rfl 43 _ _ rfl (wr.heap.size) _ rfl rfl 43 _ (zero_row wr _ rfl) (by rw [List.size_toArray]; exact i43' hok) (Eq.trans (b := 43) (by rfl) (Eq.symm (show (p).cells.toArray.size = 43 from Pr.size hok))) (Pr.one hok) ?_); intro w2 H2 E2; have E2 : Ext wr w2 := E2 wr.heap.size wr ((Ext.refl wr).alloc _) (Nat.le_refl _); have c2 := (prAt_blk hok H2).c2)
          | (refine wpList_load_row rfl 43 _ rfl _ rfl 43 _ _ _ H2 Try.underlying43 rfl (by rw [List.size_toArray]; exact i43' hok) ?_)
          | (refine wpList_load_row rfl 43 _ rfl _ rfl 43 _ _ _ (Blk.ext H2 E3) Try.underlying43 rfl (by rw [List.size_toArray]; exact i43' hok) ?_)
          | (refine (lives_any p _ hok).mono ?_; rintro e w3 ⟨rfl, E3⟩; rw [HL1.out]; have c2 := cell_ext E3 c2; have E03 : Ext wr w3 := E2.trans E3; have hws3 := E03.size)
          | (at_builtin; refine wpList_app (e := Rp) (base := w.heap.size) (B := fun _ => False) (A := fun _ => False) rfl (.tmp 23) (.tmp 25) rfl Try.underlying27 info_pr rfl ((O.out.ext E03).alloc _) rfl (RdY.singleB (cs := p.cells) (rp_rel (fun _ => False) _ hok) (Blk.at_ _ _ rfl)) rfl (fun _ _ h => h.elim) (N := k + 1) (by have := HK.out; rw [this]; rfl) (by simp [maxLen]; omega) (by omega) (by simp; omega) ?_; intro A5 c5 w5 o5 M5 D5))
        have E5 : Ext w w5 := Below.trans ((hE.trans E03).alloc _) D5
        have o5 := Lib.hid o5
        clear M5 D5
        go_roundw
        case rel => exact ⟨m + 1, k + 1, c5, A5, by omega, by go_num, rfl, by omega, Lib.hid (by rw [HY.out, List.length_append, HK.out]; rfl), Lib.hid (by rw [HY.out]; exact o5.out), E5⟩
        case measure => simp [intOf]; omega
    · obtain rfl : m = N := by omega
      have hf : ofN group l m = l.filter (ofP group) := by unfold ofN; rw [← HN.out, List.take_length]
      have O2 := O.out
      have hk2 := HK.out
      rw [hf] at O2 hk2
      have O2 := Lib.hid O2
      have HK2 := Lib.hid hk2
      clear hk2 hf
      go_wp2
      go_ret
      rw [HK2.out]
      exact ⟨A', c', rfl, O2.out, hE⟩
end Go.Proofs.Ytmpmnikgbepphaa
