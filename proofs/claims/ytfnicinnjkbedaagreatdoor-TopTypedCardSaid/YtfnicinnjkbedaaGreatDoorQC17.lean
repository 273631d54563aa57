/- A line discipline takes a byte into the line, and ends the line, by contract. Conditions: it reads by lines; there is room. -/
import Derived.Test.YtfnicinnjkbedaaGreatDoorQB17
import Derived.LaidEqlPtr
namespace Go.Proofs.YtfnicinnjkbedaaGreatDoor
open Go.RowKit Go.Kb
set_option maxRecDepth 100000

/-- more bytes in the line -/
def Ds.lineD (d : Ds) (b : List Int) : Ds := { d with fr := (if d.line.length = 0 then d.col else d.fr), line := d.line ++ b }
def Ds.takeD (d : Ds) (c : Int) (b : List Int) : Ds := (d.lineD b).echoOfD c
theorem lineD_ok {d : Ds} (h : d.Ok) {b : List Int} (hb : Bs b) (hl : d.line.length + b.length ≤ 254) : (d.lineD b).Ok := by
  refine ⟨h.t, fun x hx => ?_, h.bo, by show (d.line ++ b).length ≤ 1000; rw [List.length_append]; omega, h.out, h.col, ?_⟩
  · rcases List.mem_append.1 hx with hx | hx
    · exact h.bl x hx
    · exact hb x hx
  · show 0 ≤ (if d.line.length = 0 then d.col else d.fr) ∧ (if d.line.length = 0 then d.col else d.fr) ≤ 65535
    split
    · exact h.col
    · exact h.fr
set_option maxHeartbeats 800000 in
theorem dtake_any {S : Nat → Prop} {g : Nat} (d : Ds) (c : Int) (v : Value) (b : List Int) (w : World) (h : Dsc S g w d) (h51 : hasL d.t 51 = true) (hc : 0 ≤ c ∧ c ≤ 255) (hb : RdS Ub (fun k => k ≠ g) w v b) (hB : Bs b) (hl : d.line.length + b.length ≤ 254) :
    Calls Tryz.prog 43 #[.pointer (some ⟨g, 0, none⟩), .int .u8 c, v] w fun e w' => e = .returned (.tuple #[]) ∧ Dsc S g w' (d.takeD c b) ∧ Mod (fun j => j = g) w w' := by
  have hD0 := Lib.hid h
  have HH := Lib.hid (fun w' h => dhas_any (S := S) (g := g) d 51 w' h)
  rw [h51] at HH
  obtain ⟨ok, hS, vl, vs, vr, vo, hD, hR⟩ := h
  have hn := Tm.size ok.t
  have hil : (Tryz.prog.info? 26).map (·.size) = some d.t.arr.toList.length := by rw [Array.length_toList, hn]; kernel_rfl
  have HS := Lib.hid hS
  have HR := Lib.hid hR
  have HD := Lib.hid hD
  have HOK := Lib.hid ok
  have KC := Lib.hid (TmC.of hD hn)
  clear hS hR hD ok
  have hOK := Lib.hid (lineD_ok HOK.out hB hl)
  obtain ⟨Al, cl, rfl, -, -⟩ := HR.out.line.shape
  obtain ⟨Ab, cb, rfl, -, -⟩ := hb.shape
  have RL : ∀ w', Mod (fun j => j = g) w w' → RI .u8 w' (.slice Al d.line.length cl) d.line := fun w' M => RdS.ri (HR.out.line.mod M (fun k _ hk he => hk (by subst he; exact HS.out.1)))
  have RB : ∀ w', Mod (fun j => j = g) w w' → RI .u8 w' (.slice Ab b.length cb) b := fun w' M => RdS.ri (hb.mod M (fun k _ hk he => hk he))
  have K1 := Lib.hid (two_one (a := d.line) (b := b))
  have K2 := Lib.hid (show tot [(d.line.length, d.line.map (Value.int .u8)), (b.length, b.map (Value.int .u8))] ≤ 137438953472 by
    simp only [tot, List.map_cons, List.map_nil, List.sum_cons, List.sum_nil]
    omega)
  have HE := Lib.hid (fun w' h => dechoOf_any (S := S) (g := g) (d.lineD b) c w' h hc)
  have hcd := Lib.hid hc
  clear hb hB h51 hc
  unfold Ds.takeD
  have KK0 := KC.out.k0
  have KK7 := KC.out.k7
  have KK8 := KC.out.k8
  obtain ⟨n1, hn1⟩ : ∃ n, d.line.length = n := ⟨_, rfl⟩
  obtain ⟨n2, hn2⟩ : ∃ n, b.length = n := ⟨_, rfl⟩
  have RL' := Lib.hid (fun w' M => show RdN w' 1 (.slice Al n1 cl) d.line.length (d.line.map (Value.int .u8)) by rw [← hn1]; exact RL w' M)
  have RB' := Lib.hid (fun w' M => show RdN w' 1 (.slice Ab n2 cb) b.length (b.map (Value.int .u8)) by rw [← hn2]; exact RB w' M)
  rw [hn1] at KK0 hl
  rw [hn2] at hl
  rw [hn2]
  have HN1 := Lib.hid hn1
  clear hn1 hn2 RL RB
  have FIN : Hid (∀ (w4 : World) (A3 : Option Addr) (M3 c3 : Nat) (x : Int), Mod (fun j => j = g) w w4 → RdS Ub (fun j => ¬ S j) w4 (.slice A3 M3 c3) (d.line ++ b) → x = (if n1 = 0 then d.col else d.fr) →
      Blk w4 g 82 (tmA d.t.arr [.slice A3 M3 c3, .bool d.nx, vs, vr, .bool d.st, .bool d.hd, vo, .int .i64 d.col, .int .i64 x, .int .i64 d.idle]) → Dsc S g w4 (d.lineD b)) := Lib.hid (by
    intro w4 A3 M3 c3 x M R3 hx B4
    have R4 := HR.out.mod M (fun k hk => by subst hk; exact HS.out.1)
    refine ⟨hOK.out, ⟨HS.out.1, fun j hj => ?_⟩, _, _, _, _, ?_, R3, R4.lines, R4.raw, R4.out⟩
    · have := HS.out.2 j hj
      have := M.size
      omega
    · have hf : (d.lineD b).fr = x := by rw [hx]; show (if d.line.length = 0 then d.col else d.fr) = _; rw [HN1.out]
      show Blk w4 g _ (tmA d.t.arr [_, _, _, _, _, _, _, _, .int .i64 (d.lineD b).fr, _])
      rw [hf]
      exact B4)
  obtain ⟨j, hj⟩ : ∃ j, Tryz.prog.info? 27 = some j := Option.isSome_iff_exists.1 (by kernel_rfl)
  have hEq : ∀ w', (binOp .eql 140 (.pointer (some ⟨g, 24, none⟩)) (.pointer (some ⟨g, 24, none⟩))).run Tryz.prog w' = .ok (.bool true) w' := fun w' => run_eql_ptr_same w' _ Tryz.underlying140 hj
  clear hj
  by_cases h0 : n1 = 0
  · rw [if_pos h0] at FIN
    subst h0
    go_enter Tryz.func43, Tryz.ntmps43
    go_wp2_with fail
    refine (HH.out _ (hD0.out.ext (by repeat (first | with_reducible exact Ext.refl _ | refine Ext.drewN ?_ _ | refine Ext.drew ?_ | refine Ext.alloc ?_ _ | assumption | (refine Below.trans ?_ (by assumption)) | (refine Ext.trans ?_ (by assumption)) | (refine Below.trans ?_ (Below.mono (by assumption) (by omega))))))).mono ?_
    rintro e w1 ⟨rfl, E1⟩
    have k0 := cell_ext E1 KK0
    have k7 := cell_ext E1 KK7
    have k8 := cell_ext E1 KK8
    have f8 : w1.frozen? ⟨g, 32, none⟩ = false := (HD.out.ext E1).frozen 32
    have B1 := Lib.hid (HD.out.ext E1)
    go_wp2_with fail
    have M1 : Mod (fun j => j = g) w (w1.setCell ⟨g, 32, none⟩ (.int .i64 d.col)) := (Mod.of_ext E1).set1 _
    have B1' := blk_tmset B1.out hn 8 rfl (.int .i64 d.col)
    refine (Fr.concat_u8 _ _ _ (RdLL.lit2 _ (by simp) (RL'.out _ M1) (RB'.out _ M1)) K1.out K2.out).mono ?_
    rintro e w3 ⟨v3, rfl, o3, E3⟩
    have O3 := two_cat o3
    obtain ⟨A3, c3, rfl⟩ := own_shape O3
    obtain ⟨M3, hM3⟩ : ∃ M, (d.line ++ b).length = M := ⟨_, rfl⟩
    rw [hM3] at O3 ⊢
    have z1 := M1.size
    have M13 := (M1.alloc _).ext E3
    have O4 := Lib.hid (own_dsr O3 hM3 (fun j hj => by have := HS.out.2 j hj; simp at z1 ⊢; omega))
    have B3 := (B1'.alloc _).ext E3
    have k0 := (TmC.of B3 hn).k0
    have f0 := B3.frozen 24
    have P4 := Lib.hid (FIN.out (w3.setCell ⟨g, 24, none⟩ (.slice A3 M3 c3)) A3 M3 c3 d.col (M13.set1 _) (rdS_set O4.out HS.out.1 _ _) rfl (blk_tmset B3 hn 0 rfl _))
    have M4 := Lib.hid (M13.set1 (o := 24) (.slice A3 M3 c3))
    clear o3 O3 E3 K1 K2 RL' RB' hM3 B3 M13 FIN B1' M1 z1
    go_wp2_with fail
    refine (HE.out _ P4.out).mono ?_
    rintro e w5 ⟨rfl, P5, M5⟩
    have HP5 := Lib.hid P5
    have HM5 := Lib.hid (M4.out.trans M5)
    clear P5 M5
    go_wp2
    refine bodyPost_end (v := .tuple #[]) (by simp [results, Tryz.results43]) rfl ?_
    exact ⟨rfl, HP5.out, HM5.out⟩
  · rw [if_neg h0] at FIN
    have h01 : ¬ ((n1 : Int) = 0) := by omega
    go_enter Tryz.func43, Tryz.ntmps43
    go_wp2_with fail
    refine (HH.out _ (hD0.out.ext (by repeat (first | with_reducible exact Ext.refl _ | refine Ext.drewN ?_ _ | refine Ext.drew ?_ | refine Ext.alloc ?_ _ | assumption | (refine Below.trans ?_ (by assumption)) | (refine Ext.trans ?_ (by assumption)) | (refine Below.trans ?_ (Below.mono (by assumption) (by omega))))))).mono ?_
    rintro e w1 ⟨rfl, E1⟩
    have k0 := cell_ext E1 KK0
    have B1' := HD.out.ext E1
    go_wp2_with fail
    have M1 : Mod (fun j => j = g) w w1 := Mod.of_ext E1
    refine (Fr.concat_u8 _ _ _ (RdLL.lit2 _ (by simp) (RL'.out _ M1) (RB'.out _ M1)) K1.out K2.out).mono ?_
    rintro e w3 ⟨v3, rfl, o3, E3⟩
    have O3 := two_cat o3
    obtain ⟨A3, c3, rfl⟩ := own_shape O3
    obtain ⟨M3, hM3⟩ : ∃ M, (d.line ++ b).length = M := ⟨_, rfl⟩
    rw [hM3] at O3 ⊢
    have z1 := M1.size
    have M13 := (M1.alloc _).ext E3
    have O4 := Lib.hid (own_dsr O3 hM3 (fun j hj => by have := HS.out.2 j hj; simp at z1 ⊢; omega))
    have B3 := (B1'.alloc _).ext E3
    have k0 := (TmC.of B3 hn).k0
    have f0 := B3.frozen 24
    have P4 := Lib.hid (FIN.out (w3.setCell ⟨g, 24, none⟩ (.slice A3 M3 c3)) A3 M3 c3 d.fr (M13.set1 _) (rdS_set O4.out HS.out.1 _ _) rfl (blk_tmset B3 hn 0 rfl _))
    have M4 := Lib.hid (M13.set1 (o := 24) (.slice A3 M3 c3))
    clear o3 O3 E3 K1 K2 RL' RB' hM3 B3 M13 FIN B1' M1 z1
    go_wp2_with fail
    refine (HE.out _ P4.out).mono ?_
    rintro e w5 ⟨rfl, P5, M5⟩
    have HP5 := Lib.hid P5
    have HM5 := Lib.hid (M4.out.trans M5)
    clear P5 M5
    go_wp2
    refine bodyPost_end (v := .tuple #[]) (by simp [results, Tryz.results43]) rfl ?_
    exact ⟨rfl, HP5.out, HM5.out⟩
end Go.Proofs.YtfnicinnjkbedaaGreatDoor
