/- What is wrong with a call on processes that must live, by contract. No condition. -/
import Derived.Test.YtmpmnikgbepphaaJ20
namespace Go.Proofs.Ytmpmnikgbepphaa
open Go.RowKit Go.Kb

abbrev Ib : Rep Int := Rep.int .i64
def askL (l : List Pr) (nx : Int) (ps : List Int) : Int := if rightL l nx = true then if ps.all (liveL l nx) = true then 0 else 8 else 4
set_option maxRecDepth 100000 in
set_option maxHeartbeats 800000 in
theorem ask_any {A B : Nat → Prop} (Ad Ap : Option Addr) (c cp : Nat) (l : List Pr) (nx : Int) (ps : List Int) (w : World) (h : RdY Rp A w (.slice Ad l.length c) l) (h2 : RdY Ib B w (.slice Ap ps.length cp) ps) :
    Calls Try.prog 33 #[tv Ad l.length c nx, .slice Ap ps.length cp] w fun e w' => e = .returned (.int .i64 (askL l nx ps)) ∧ Ext w w' := by
  have H := Lib.hid (rdy_pr (B := fun _ => False) h)
  have H2 := Lib.hid h2
  have hbox := Lib.hid (Blk.new w 29 #[.slice Ad l.length c, .int .i64 nx])
  obtain ⟨_, _, hv, hc1, hc2⟩ := h2.shape
  simp only [Value.slice.injEq] at hv
  obtain ⟨-, -, rfl⟩ := hv
  obtain ⟨n, hn⟩ : ∃ n, ps.length = n := ⟨_, rfl⟩
  rw [hn] at H2 hc1 ⊢
  have HN := Lib.hid hn
  clear h h2 hn
  cases hr : rightL l nx
  · have HR := Lib.hid hr
    clear hr
    go_enter Try.func33, Try.ntmps33
    go_wp2_with fail
    refine (right_any Ad c l nx _ (H.out.ext (by repeat (first | with_reducible exact Ext.refl _ | refine Ext.drewN ?_ _ | refine Ext.drew ?_ | refine Ext.alloc ?_ _ | assumption | (refine Below.trans ?_ (by assumption)) | (refine Ext.trans ?_ (by assumption)) | (refine Below.trans ?_ (Below.mono (by assumption) (by omega))))))).mono ?_
    rintro e w1 ⟨rfl, E1⟩
    rw [HR.out]
    have E01 : Ext w w1 := (by repeat (first | with_reducible exact Ext.refl _ | refine Ext.drewN ?_ _ | refine Ext.drew ?_ | refine Ext.alloc ?_ _ | assumption | (refine Below.trans ?_ (by assumption)) | (refine Ext.trans ?_ (by assumption)) | (refine Below.trans ?_ (Below.mono (by assumption) (by omega)))))
    go_wp2
    go_ret
    exact ⟨by unfold askL; rw [HR.out]; rfl, E01⟩
  · have HR := Lib.hid hr
    clear hr
    have HA : Hid (askL l nx ps = if ps.all (liveL l nx) = true then 0 else 8) := Lib.hid (by unfold askL; rw [HR.out]; rfl)
    go_enter Try.func33, Try.ntmps33
    go_wp2_with fail
    refine (right_any Ad c l nx _ (H.out.ext (by repeat (first | with_reducible exact Ext.refl _ | refine Ext.drewN ?_ _ | refine Ext.drew ?_ | refine Ext.alloc ?_ _ | assumption | (refine Below.trans ?_ (by assumption)) | (refine Ext.trans ?_ (by assumption)) | (refine Below.trans ?_ (Below.mono (by assumption) (by omega))))))).mono ?_
    rintro e w1 ⟨rfl, E1⟩
    rw [HR.out]
    have hbox := Lib.hid (hbox.out.ext E1)
    have E01 : Ext w w1 := (by repeat (first | with_reducible exact Ext.refl _ | refine Ext.drewN ?_ _ | refine Ext.drew ?_ | refine Ext.alloc ?_ _ | assumption | (refine Below.trans ?_ (by assumption)) | (refine Ext.trans ?_ (by assumption)) | (refine Below.trans ?_ (Below.mono (by assumption) (by omega)))))
    clear E1
    go_wp2
    go_loopw [12] (fun i wr => ∃ (m : Nat), m ≤ n ∧ i = .int .i64 m ∧ Hid (∀ x ∈ ps.take m, liveL l nx x = true) ∧ Hid (Blk wr w.heap.size 29 #[.slice Ad l.length c, .int .i64 nx]) ∧ Ext w wr) (fun i _ => n - (intOf i).toNat)
    case atStart => exact ⟨0, Nat.zero_le _, rfl, Lib.hid (by simp), hbox, E01⟩
    case round =>
      clear hbox E01
      obtain ⟨m, hm, rfl, HD, hbox, hE⟩ := hrel
      by_cases hlt : m < n
      · obtain ⟨b, off, u, d, rfl, q, hd, hrl⟩ := (H2.out.ext hE).at1 rfl hlt
        have hu : u = .int .i64 d := (List.cons.inj (show [u] = [.int .i64 d] from hrl.out)).1
        rw [hu] at q
        clear hu hrl
        have hb := hbox.out.two
        cases hlv : liveL l nx d
        · have HL := Lib.hid hlv
          clear hlv
          go_wp2_with fail
          refine (live_any Ad c l nx d _ (H.out.ext hE)).mono ?_
          rintro e w2 ⟨rfl, E2⟩
          rw [HL.out]
          go_wp2
          go_ret
          refine ⟨?_, hE.trans E2⟩
          rw [HA.out, if_neg (fun h => by have := List.all_eq_true.1 h d (List.mem_of_getElem? hd.out); rw [HL.out] at this; cases this)]
          rfl
        · have HL := Lib.hid hlv
          clear hlv
          go_wp2_with fail
          refine (live_any Ad c l nx d _ (H.out.ext hE)).mono ?_
          rintro e w2 ⟨rfl, E2⟩
          rw [HL.out]
          have hbox2 := Lib.hid (hbox.out.ext E2)
          have E02 : Ext w w2 := hE.trans E2
          go_wp2
          go_roundw
          case rel => exact ⟨m + 1, by omega, by go_num, Lib.hid (by
            rw [List.take_add_one, hd.out]
            intro x hx
            simp only [Option.toList_some, List.mem_append, List.mem_singleton] at hx
            exact hx.elim (HD.out x) fun h => by rw [h]; exact HL.out), hbox2, E02⟩
          case measure => simp [intOf]; omega
      · go_wp2
        go_ret
        refine ⟨?_, hE⟩
        rw [HA.out, if_pos (List.all_eq_true.2 fun x hx => HD.out x (by rw [List.take_of_length_le (by have := HN.out; omega)]; exact hx))]
        rfl
end Go.Proofs.Ytmpmnikgbepphaa
