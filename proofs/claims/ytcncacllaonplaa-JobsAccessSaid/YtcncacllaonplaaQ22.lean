/- What sends a terminal's groups signals, by contract. Conditions: sets have 64 bits; the signals that jobs send. -/
import Derived.Test.YtcncacllaonplaaP22
namespace Go.Proofs.Ytcncacllaonplaa
open Go.RowKit Go.Kb

/-- a sender's table has been sent a group's signal -/
def SentPost (Ad : Option Addr) (c : Nat) (l l2 : List Pr) (nx : Int) (n : Nat) (w : World) (e : Ending) (w' : World) : Prop :=
  e = .returned (.tuple #[]) ∧ (∃ A' c', Blk w' n 93 #[.slice A' l.length c', .int .i64 nx] ∧ TabS 40 Ad c l w.heap.size w' A' c' l2) ∧ Mod (fun k => k = n) w w'
set_option maxRecDepth 100000 in
set_option maxHeartbeats 3000000 in
theorem sgroups_any {A : Nat → Prop} (Ad : Option Addr) (c : Nat) (l : List Pr) (nx g sig : Int) (hs : sig = 1 ∨ sig = 21 ∨ sig = 22) (n b : Nat) (t : TypeId) (w : World) (h : RdY Rp A w (.slice Ad l.length c) l) (hb : ∀ p ∈ l, Sig.U64 p.pending)
    (hB : Blk w n 93 #[.slice Ad l.length c, .int .i64 nx]) (hv : Blk w b t #[.int .i64 sig]) :
    Calls Try.prog 53 #[.pointer (some ⟨n, 0, none⟩), .int .i64 g, .slice (some ⟨b, 0, none⟩) 1 1] w (SentPost Ad c l (groupL l nx g sig) nx n w) := by
  have H := Lib.hid (rdy_pr (B := fun _ => False) h)
  have HB := Lib.hid hb
  have HS := Lib.hid hs
  have B := Lib.hid hB
  have V := Lib.hid hv
  clear h hb hs hB hv
  unfold SentPost
  go_enter Try.func53, Try.ntmps53
  go_wp2
  go_loopw [10] (fun i wr => (i = .int .i64 0 ∧ Hid (Ext w wr)) ∨ (i = .int .i64 1 ∧ Hid ((∃ A' c', Blk wr n 93 #[.slice A' l.length c', .int .i64 nx] ∧ TabS 40 Ad c l w.heap.size wr A' c' (groupL l nx g sig)) ∧ Mod (fun k => k = n) w wr))) (fun i _ => 1 - (intOf i).toNat)
  case atStart => exact .inl ⟨rfl, Lib.hid (by repeat (first | with_reducible exact Ext.refl _ | refine Ext.drewN ?_ _ | refine Ext.drew ?_ | refine Ext.alloc ?_ _ | assumption | (refine Below.trans ?_ (by assumption)) | (refine Ext.trans ?_ (by assumption)) | (refine Below.trans ?_ (Below.mono (by assumption) (by omega)))))⟩
  case round =>
    rcases hrel with ⟨rfl, hE⟩ | ⟨rfl, hE⟩
    · have B1 := Lib.hid (B.out.ext hE.out)
      have kv := (V.out.ext hE.out).cell 0
      obtain ⟨k0, k1, _, _⟩ := B1.out.two
      have hst := sgroup_any (A := fun _ => False) Ad c l nx g sig HS.out wr (H.out.ext hE.out) HB.out
      have HST := Lib.hid hst
      obtain ⟨N, hN⟩ : ∃ N, l.length = N := ⟨_, rfl⟩
      rw [hN] at B1 k0 HST
      have HN := Lib.hid hN
      clear hst hN
      go_wp2_with fail
      refine HST.out.mono ?_
      rintro e w2 ⟨A2, c2, k, rfl, T2, E2⟩
      have T2 := Lib.hid T2
      have B2 := Lib.hid (B1.out.ext E2)
      obtain ⟨k0, k1, k2, k3⟩ := B2.out.two
      have M3 : Mod (fun k => k = n) w2 _ := ((Mod.refl _ w2).set1 (.slice A2 N c2) (o := 0)).set1 (.int .i64 nx) (o := 1)
      have B3 := Lib.hid (B2.out.put2 (.slice A2 N c2) (.int .i64 nx))
      have T3 := Lib.hid ((T2.out.lower hE.out.size).mod M3 B2.out (by decide))
      have MM := Lib.hid ((Mod.of_ext (hE.out.trans E2)).trans M3)
      clear kv
      go_wp2
      go_roundw
      case rel => exact .inr ⟨by go_num, Lib.hid ⟨⟨A2, c2, by rw [HN.out]; exact B3.out, T3.out⟩, MM.out⟩⟩
      case measure => simp [intOf]
    · go_wp2
      go_end0
      exact ⟨rfl, hE.out⟩
set_option maxRecDepth 100000 in
set_option maxHeartbeats 3000000 in
theorem fellows_any {A : Nat → Prop} (Ad : Option Addr) (c : Nat) (l : List Pr) (nx pid sig : Int) (hs : sig = 1 ∨ sig = 21 ∨ sig = 22) (n : Nat) (w : World) (h : RdY Rp A w (.slice Ad l.length c) l) (hb : ∀ p ∈ l, Sig.U64 p.pending)
    (hB : Blk w n 93 #[.slice Ad l.length c, .int .i64 nx]) :
    Calls Try.prog 48 #[.pointer (some ⟨n, 0, none⟩), .int .i64 pid, .int .i64 sig] w (SentPost Ad c l (groupL l nx (getL l nx pid).1.group sig) nx n w) := by
  have H := Lib.hid (rdy_pr (B := fun _ => False) h)
  have hqok := getL_ok (nx := nx) (pid := pid) (RdY.oks h)
  have HB := Lib.hid hb
  have HS := Lib.hid hs
  have B := Lib.hid hB
  have hG := get_any (A := fun _ => False) Ad c l nx pid w H.out
  obtain ⟨⟨q, ok⟩, hgq⟩ : ∃ a, getL l nx pid = a := ⟨_, rfl⟩
  rw [hgq] at hG hqok ⊢
  have hqok : q.ok := hqok
  have HG := Lib.hid hG
  obtain ⟨k0, k1, _, _⟩ := B.out.two
  clear h hb hs hB hG hgq
  unfold SentPost
  go_enter Try.func48, Try.ntmps48
  go_wp2_with fail
  refine HG.out.mono ?_
  rintro e w1 ⟨rfl, E1⟩
  obtain ⟨n1, hn1⟩ : ∃ n, w1.heap.size = n := ⟨_, rfl⟩
  have HN1 := Lib.hid hn1
  clear k0 k1
  go_wp2_with ((refine wpList_store_A rfl 40 _ _ rfl (n1) _ rfl rfl 40 _ (zero_row w1 n1 hn1) (by rw [List.size_toArray]; exact i43' hqok) (Eq.trans (b := 43) (by rfl) (Eq.symm (show (q).cells.toArray.size = 43 from Pr.size hqok))) (Pr.one hqok) ?_); intro w2 H2 E2; have E12 : Ext w1 w2 := E2 w1.heap.size w1 ((Ext.refl w1).alloc _) (by omega); have P := Lib.hid H2; have c2 := (prAt_blk hqok H2).c2; clear E2 H2 hn1)
  have E02 := E1.trans E12
  obtain ⟨n2, hn2⟩ : ∃ n, w2.heap.size = n := ⟨_, rfl⟩
  rw [hn2]
  have E3 : Ext w (w2.alloc (.cells #[.int .i64 sig] 3)) := E02.alloc _
  refine (sgroups_any (A := fun _ => False) Ad c l nx q.group sig HS.out n n2 _ _ (H.out.ext E3) HB.out (B.out.ext E3) (Blk.at_ _ _ hn2)).mono ?_
  rintro e w4 ⟨rfl, ⟨A4, c4, B4, T4⟩, M4⟩
  go_wp2
  go_end0
  exact ⟨rfl, ⟨A4, c4, B4, T4.lower E3.size⟩, (Mod.of_ext E3).trans M4⟩
end Go.Proofs.Ytcncacllaonplaa
