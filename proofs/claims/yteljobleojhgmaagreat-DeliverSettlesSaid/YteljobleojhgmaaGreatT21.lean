/- slices.Sort and slices.Compact of ints in a row of the call's own, by contract (the library's own, laid at this program). No condition. -/
import Derived.Test.YteljobleojhgmaaGreatS21
import Derived.Test.YteljobleojhgmaaGreatLay21
import Derived.Sort.OwnSortedInts
import Derived.Lib.OwnBridge
namespace Go.Proofs.YteljobleojhgmaaGreat
open Go.RowKit Go.Kb Go.Sort

def sortL (zs : List Int) : List Int := zs.mergeSort fun x y => decide (x ≤ y)
theorem sortL_len (zs : List Int) : (sortL zs).length = zs.length := List.length_mergeSort zs
theorem grown_put {w : World} {g q : Nat} {d : Array Int} : w.grownBy (putRow (Value.int .i64) (Sort.ahead w q) g 0 d) (some g) := by
  refine ⟨rfl, rfl, rfl, by simp [putRow, mapBlock, Sort.ahead], fun k hk hne => ?_⟩
  have : g ≠ k := fun e => hne (by rw [e])
  simp [putRow, mapBlock, Sort.ahead, Array.getElem?_modify, this]
theorem sort_own {base g n c : Nat} {T : TypeId} {zs : List Int} (w : World) (h : w.ownsRow base T 1 (.slice (some ⟨g, 0, none⟩) n c) n (i64s zs)) (hn : n ≤ 1000000) :
    Calls Tryz.prog 77 #[.slice (some ⟨g, 0, none⟩) n c] w fun e w' => e = .returned (.tuple #[]) ∧ w'.ownsRow base T 1 (.slice (some ⟨g, 0, none⟩) n c) n (i64s (sortL zs)) ∧ w.grownBy w' (some g) := by
  obtain ⟨g', cap, hv, hb, hlt, hnc, hcm, hl, hH⟩ := Lib.holds_of_ownsRow h (by simp)
  simp only [Value.slice.injEq, Option.some.injEq, Addr.mk.injEq] at hv
  obtain ⟨⟨rfl, _⟩, _, rfl⟩ := hv
  subst hl
  refine (Tryz.slices_Sort_int g 0 c zs w hH hlt (by omega)).mono ?_
  rintro e w' ⟨rfl, k, os, rfl⟩
  refine ⟨rfl, ?_, grownBy_sortedI _⟩
  rcases h.2 with ⟨h0, _⟩ | ⟨g', cap', cur, hv, hbase, hbk, h1, h2, h3, h4⟩
  · cases h0
  cases hv
  exact ownsRow_sortedI (sortL_len zs) hbase hbk h1 h2 h3
theorem compact_own {base g n c : Nat} {T : TypeId} {zs : List Int} (w : World) (h : w.ownsRow base T 1 (.slice (some ⟨g, 0, none⟩) n c) n (i64s zs)) (hn : n ≤ 1000000) :
    Calls Tryz.prog 78 #[.slice (some ⟨g, 0, none⟩) n c] w fun e w' => e = .returned (.slice (some ⟨g, 0, none⟩) (Lib.compact zs).length c) ∧ w'.ownsRow base T 1 (.slice (some ⟨g, 0, none⟩) (Lib.compact zs).length c) (Lib.compact zs).length (i64s (Lib.compact zs)) ∧ w.grownBy w' (some g) := by
  obtain ⟨g', cap, hv, hb, hlt, hnc, hcm, hl, hH⟩ := Lib.holds_of_ownsRow h (by simp)
  simp only [Value.slice.injEq, Option.some.injEq, Addr.mk.injEq] at hv
  obtain ⟨⟨rfl, _⟩, _, rfl⟩ := hv
  subst hl
  have hle := Lib.compact_length_le zs
  refine (Tryz.slices_Compact_int g 0 c zs w hH (by omega) hnc).mono ?_
  rintro e w' ⟨rfl, q, rfl⟩
  refine ⟨rfl, ?_, grown_put⟩
  have hc := Lib.ownsRow_putRow (q := q) (k := (Lib.compact zs).length) (ys := Lib.compact zs ++ List.replicate (zs.length - (Lib.compact zs).length) 0) h (by simp; omega) (by omega)
  rw [List.take_left] at hc
  exact hc
/-- the groups of a table, rising -/
def groupsL (l : List Pr) : List Int := Lib.compact (sortL (l.map (·.group)))
theorem groupsL_len (l : List Pr) : (groupsL l).length ≤ l.length := by
  have := Lib.compact_length_le (sortL (l.map (·.group)))
  rw [sortL_len, List.length_map] at this
  exact this
set_option maxRecDepth 100000 in
set_option maxHeartbeats 800000 in
theorem groups_any {A : Nat → Prop} (Ad : Option Addr) (c : Nat) (l : List Pr) (nx : Int) (w : World) (h : RdY Rp A w (.slice Ad l.length c) l) (hn : l.length ≤ 100000) (hne : 0 < l.length) :
    Calls Tryz.prog 46 #[tv Ad l.length c nx] w fun e w' => ∃ A' c', e = .returned (.slice A' (groupsL l).length c') ∧ OwnS Ib 3 w.heap.size (fun _ => False) w' (.slice A' (groupsL l).length c') (groupsL l) ∧ Ext w w' := by
  have H := Lib.hid (rdy_pr (B := fun _ => False) h)
  obtain ⟨W, hW⟩ : ∃ W, W = w.alloc (.cells #[.slice Ad l.length c, .int .i64 nx] 29) := ⟨_, rfl⟩
  have hbox := Lib.hid (show Blk W w.heap.size 29 #[.slice Ad l.length c, .int .i64 nx] by rw [hW]; exact Blk.new w _ _)
  have E0 : Ext w W := by rw [hW]; exact (Ext.refl _).alloc _
  have HO := Lib.hid (H.out.ext E0)
  have HG := Lib.hid (show groupsL l = Lib.compact (sortL (l.map (·.group))) from rfl)
  obtain ⟨N, hN⟩ : ∃ N, l.length = N := ⟨_, rfl⟩
  have HLs := Lib.hid (groupsL_len l)
  rw [hN] at HO hbox hn hne ⊢
  have HW := Lib.hid hW
  have HN := Lib.hid hN
  rw [hN] at HW
  obtain ⟨G, hG⟩ : ∃ G, groupsL l = G := ⟨_, rfl⟩
  rw [hG] at HG HLs ⊢
  clear h hW hN hG H
  go_enter Tryz.func46, Tryz.ntmps46
  go_upto_region 2 with fail
  rw [← HW.out]
  have kb := hbox.out.two
  go_wp2
  clear kb
  go_loopw [3, 9] (fun o i wr => ∃ (m c' : Nat) (A' : Option Addr), m ≤ N ∧ i = .int .i64 m ∧ o = .slice A' m c' ∧ Hid (OwnS Ib 3 W.heap.size (fun _ => False) wr (.slice A' m c') ((l.take m).map (·.group))) ∧ Hid (Ext W wr)) (fun _ i _ => N - (intOf i).toNat)
  case atStart => exact ⟨0, 0, none, Nat.zero_le _, rfl, rfl, Lib.hid (OwnS.nil _ _ _ _ _), Lib.hid (Ext.refl _)⟩
  case round =>
    obtain ⟨m, c', A', hm, rfl, rfl, O, hE⟩ := hrel
    by_cases hmn : m < N
    · obtain ⟨b, off, p, rfl, hd, hok, hcell⟩ := pr_at (HO.out.ext hE.out) hmn
      have hws := hE.out.size
      have HY := Lib.hid (show (l.take (m + 1)).map (·.group) = (l.take m).map (·.group) ++ [p.group] by rw [List.take_add_one, hd.out]; simp)
      have HZ := Lib.hid (show ((l.take m).map (·.group)).length = m by rw [List.length_map, List.length_take]; have := HN.out; omega)
      go_wp2_with (first
        | (refine wpList_load_mid rfl 42 _ rfl b (off + m * 43) rfl p.cells _ hcell.out Tryz.underlying42 rfl (i43' hok) ?_)
        | ((refine wpList_store_A rfl 42 _ _ rfl (wr.heap.size) _ rfl rfl 42 _ (zero_row wr _ rfl) (by rw [List.size_toArray]; exact i43' hok) (Eq.trans (b := 43) (by rfl) (Eq.symm (show (p).cells.toArray.size = 43 from Pr.size hok))) (Pr.one hok) ?_); intro w4 H2 E4; have E4 : Ext wr w4 := E4 wr.heap.size wr ((Ext.refl wr).alloc _) (Nat.le_refl _); have c2 := (prAt_blk hok H2).c2; have hws4 := E4.size)
        | (at_builtin; refine wpList_app (e := Ib) (base := W.heap.size) (B := fun _ => False) (A := fun _ => False) rfl (.tmp 13) (.tmp 16) rfl Tryz.underlying62 info_i64 rfl ((O.out.ext E4).alloc _) rfl (RdY.singleB (e := Ib) (cs := [.int .i64 p.group]) (d := p.group) rfl (Blk.at_ _ _ rfl)) rfl (fun _ _ h => h.elim) (N := m + 1) (by rw [HZ.out]; rfl) (by simp [maxLen]; omega) (by omega) (by simp; omega) ?_; intro A5 c5 w5 o5 M5 D5))
      have E5 : Hid (Ext W w5) := Lib.hid (Below.trans ((hE.out.trans E4).alloc _) D5)
      have o5 := Lib.hid o5
      clear M5 D5
      go_roundw
      case rel => exact ⟨m + 1, c5, A5, by omega, by go_num, rfl, Lib.hid (by rw [HY.out]; exact o5.out), E5⟩
      case measure => simp [intOf]; omega
    · obtain rfl : m = N := by omega
      have HT := Lib.hid (show l.take m = l from List.take_of_length_le (by have := HN.out; omega))
      have hL : (l.map (·.group)).length = m := by rw [List.length_map]; exact HN.out
      have O2 := O.out
      rw [HT.out] at O2
      obtain ⟨g, rfl, hg, -⟩ := OwnS.addr O2 hne
      have R2 := OwnS.ints O2
      rw [hL] at R2
      have S2 := Lib.hid (sort_own wr R2 (by omega))
      have HB := Lib.hid (show W.heap.size ≤ W.heap.size from Nat.le_refl _)
      have R2 := Lib.hid R2
      clear O2 O hL
      go_wp2_with fail
      refine S2.out.mono ?_
      rintro e w5 ⟨rfl, R5, G5⟩
      have E5 : Ext W w5 := grown_ext hE.out R2.out G5 HB.out
      have S5 := Lib.hid (compact_own w5 R5 (by omega))
      rw [← HG.out] at S5
      have R5 := Lib.hid R5
      clear S2 R2 G5
      go_wp2_with fail
      refine S5.out.mono ?_
      rintro e w6 ⟨rfl, R6, G6⟩
      have E6 : Ext W w6 := grown_ext E5 R5.out G6 HB.out
      have R6 := Lib.hid (OwnS.of_ints (B := fun _ => False) R6)
      clear S5 R5 G6
      go_wp2
      go_ret
      exact ⟨some ⟨g, 0, none⟩, _, rfl, R6.out.lower E0.size, E0.trans E6⟩
end Go.Proofs.YteljobleojhgmaaGreat
