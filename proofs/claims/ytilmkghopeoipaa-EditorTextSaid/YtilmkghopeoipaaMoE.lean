/- How a terminal is set at first, by contract. Conditions: none. -/
import Derived.Test.YtilmkghopeoipaaMoD
import Derived.Deep.MidRow
namespace Go.Proofs.Ytilmkghopeoipaa
open Go.RowKit Go.Kb

def ops0 : List Int := [36, 38, 41, 50, 51, 53, 54, 55, 60, 61, 59, 70, 72, 91]
def chars0 : List Int := [0, 3, 28, 127, 21, 4, 0, 0, 17, 19, 26, 0, 18, 23, 22, 0, 0, 0, 15]
def tm0 : Tm := ⟨chars0, 0, 38400, 38400, 1, 0⟩
def defT : Tm := ⟨[0, 3, 28, 127, 21, 4, 255, 255, 17, 19, 26, 255, 18, 23, 22, 255, 255, 255, 15], ops0.foldl (fun f op => fset f op true) 0, 38400, 38400, 1, 0⟩
/-- the characters behind k rounds -/
def chr (k : Nat) : List Int := (List.range 19).map fun j => if j < k ∧ 1 ≤ j ∧ chars0.getD j 0 = 0 then 255 else chars0.getD j 0
def flg (k : Nat) : Int := (ops0.take k).foldl (fun f op => fset f op true) 0
theorem defT_ok : defT.Ok := by
  refine ⟨rfl, by decide +kernel, by decide +kernel, by decide, by decide, by decide, by decide⟩
theorem chr_ok (k : Nat) : (⟨chr k, 0, 38400, 38400, 1, 0⟩ : Tm).Ok := by
  refine ⟨by simp [chr], ?_, ⟨by simp, by simp⟩, ⟨by simp, by simp⟩, ⟨by simp, by simp⟩, ⟨by simp, by simp⟩, ⟨by simp, by simp⟩⟩
  intro x hx
  simp only [chr, List.mem_map, List.mem_range] at hx
  obtain ⟨j, hj, rfl⟩ := hx
  have h2 : ∀ j : Nat, j < 19 → 0 ≤ chars0.getD j 0 ∧ chars0.getD j 0 ≤ 255 := by decide
  have := h2 j hj
  show 0 ≤ ite _ _ _ ∧ ite _ _ _ ≤ (255 : Int)
  split <;> omega
theorem flg_bd : ∀ k, k ≤ 14 → 0 ≤ flg k ∧ flg k < 18446744073709551616 := by decide +kernel
theorem flg_succ {k : Nat} (h : k < 14) : flg (k + 1) = fset (flg k) (ops0.getD k 0) true := by
  have : ∀ k : Nat, k < 14 → flg (k + 1) = fset (flg k) (ops0.getD k 0) true := by decide +kernel
  exact this k h
theorem ops0_bd {k : Nat} (h : k < 14) : 30 ≤ ops0.getD k 0 ∧ ops0.getD k 0 ≤ 93 := by
  have : ∀ k : Nat, k < 14 → 30 ≤ ops0.getD k 0 ∧ ops0.getD k 0 ≤ 93 := by decide
  exact this k h
theorem chr_succ {k : Nat} (h : k < 19) (h1 : 1 ≤ k) : chr (k + 1) = if chars0.getD k 0 = 0 then (chr k).set k 255 else chr k := by
  have : ∀ k : Nat, k < 19 → 1 ≤ k → chr (k + 1) = if chars0.getD k 0 = 0 then (chr k).set k 255 else chr k := by decide
  exact this k h h1
theorem chr_at {k : Nat} (h : k < 19) : (chr k).getD k 0 = chars0.getD k 0 := by
  have : ∀ k : Nat, k < 19 → (chr k).getD k 0 = chars0.getD k 0 := by decide
  exact this k h
theorem Tm.setc {t : Tm} (h : t.Ok) {k : Nat} (hk : k < 19) (x : Int) : t.arr.setIfInBounds k (.int .u8 x) = ({ t with c := t.c.set k x } : Tm).arr := by
  obtain ⟨c, f0, i, o, m, tt⟩ := t
  have hc : c.length = 19 := h.c
  simp only [Tm.arr, Tm.cells]
  apply Array.ext'
  simp [hc, hk, List.map_set]
/-- cells laid over a row from a place on -/
def putAll : Array Value → Nat → List Value → Array Value
  | cs, _, [] => cs
  | cs, o, v :: vs => putAll (cs.setIfInBounds o v) (o + 1) vs
theorem Blk.setCells {g : Nat} {t : TypeId} : ∀ {vs : List Value} {w : World} {cs : Array Value} {o : Nat}, Blk w g t cs → Blk (w.setCells g o vs) g t (putAll cs o vs)
  | [], _, _, _, h => h
  | v :: vs, _, _, o, h => Blk.setCells (vs := vs) (o := o + 1) (h.set_ o v)
theorem below_setCells {B g : Nat} {a : World} (hp : B ≤ g) : ∀ {vs : List Value} {w : World} {o : Nat}, Below B a w → Below B a (w.setCells g o vs)
  | [], _, _, h => h
  | v :: vs, _, o, h => below_setCells hp (vs := vs) (o := o + 1) (h.setCell (p := ⟨g, o, none⟩) hp v)
theorem Blk.far_cells {g k : Nat} {t : TypeId} (hg : g ≠ k) : ∀ {vs : List Value} {w : World} {cs : Array Value} {o : Nat}, Blk w g t cs → Blk (w.setCells k o vs) g t cs
  | [], _, _, _, h => h
  | v :: vs, _, _, o, h => Blk.far_cells hg (vs := vs) (o := o + 1) (h.far (p := ⟨k, o, none⟩) hg v)
theorem Blk.there {w : World} {g o n : Nat} {t : TypeId} {cs : Array Value} (h : Blk w g t cs) (hn : o + n ≤ cs.size) : w.there g o n := fun j hj => ⟨by
  rw [h.cell, Array.getElem?_eq_getElem (by omega)]; rfl, h.frozen _⟩
theorem Blk.cast {w : World} {g : Nat} {t : TypeId} {cs cs' : Array Value} (h : Blk w g t cs) (e : cs = cs') : Blk w g t cs' := e ▸ h
def zT : Tm := ⟨List.replicate 19 0, 0, 0, 0, 0, 0⟩
def chT (k : Nat) : Tm := ⟨chr k, 0, 38400, 38400, 1, 0⟩
def fT (k : Nat) : Tm := ⟨chr 19, flg k, 38400, 38400, 1, 0⟩
theorem fT_ok {k : Nat} (h : k ≤ 14) : (fT k).Ok := ⟨(chr_ok 19).c, (chr_ok 19).b, flg_bd k h, (chr_ok 19).i, (chr_ok 19).o, (chr_ok 19).m, (chr_ok 19).t⟩
theorem index_ops (k : Nat) (hk : k < 14) (w : World) : (Instr.index 52 (.agg #[.int .i64 36, .int .i64 38, .int .i64 41, .int .i64 50, .int .i64 51, .int .i64 53, .int .i64 54, .int .i64 55, .int .i64 60, .int .i64 61, .int .i64 59, .int .i64 70, .int .i64 72, .int .i64 91]) (.int .i64 (k : Int))).run Try.prog w = .ok (.int .i64 (ops0.getD k 0)) w := by
  rcases k with _ | _ | _ | _ | _ | _ | _ | _ | _ | _ | _ | _ | _ | _ | k
  all_goals first | omega | kernel_rfl
set_option maxHeartbeats 800000 in
theorem default_any (w : World) : Calls Try.prog 21 #[] w fun e w' => e = .returned (.agg defT.arr) ∧ Ext w w' := by
  have hi : (Try.prog.info? 26).map (·.size) = some 24 := by kernel_rfl
  have hi2 : (Try.prog.info? 22).map (·.size) = some 19 := by kernel_rfl
  go_enter Try.func21, Try.ntmps21
  go_wp2_with (first
    | (refine wpList_store_row rfl 26 _ _ rfl (w.heap.size + 1) _ rfl rfl 26 _ (show Blk _ _ _ _ from Blk.at_ _ _ (by simp)) hi rfl (by simp [Value.oneCell']) ?_)
    | (refine wpList_store_mid rfl 22 _ _ rfl (w.heap.size + 1) 0 _ rfl rfl (Blk.there (Blk.setRow (Blk.at_ _ _ (by simp)) _) (by simp)) hi2 (by simp [Value.oneCell']) ?_))
  go_loopw [2] (fun i wr => ∃ k : Nat, 1 ≤ k ∧ k ≤ 19 ∧ i = .int .i64 k ∧ Blk wr w.heap.size 26 zT.arr ∧ Blk wr (w.heap.size + 1) 26 (chT k).arr ∧ Ext w wr) (fun i _ => 19 - (intOf i).toNat)
  case atStart =>
    refine ⟨1, by omega, by omega, rfl, Blk.cast (Blk.far_cells (by simp) (Blk.cast ((setRow_other _ _ _ _ (by simp)).trans ((Blk.new w _ _).alloc _)) rfl)) rfl, Blk.cast (Blk.setCells (Blk.setRow (Blk.at_ _ _ (by simp)) _)) rfl, ?_⟩
    exact below_setCells (by simp) (below_setRow (by repeat (first | with_reducible exact Ext.refl _ | refine Ext.drewN ?_ _ | refine Ext.drew ?_ | refine Ext.alloc ?_ _ | assumption | (refine Below.trans ?_ (by assumption)) | (refine Ext.trans ?_ (by assumption)) | (refine Below.trans ?_ (Below.mono (by assumption) (by omega))))) (by simp) _)
  case round =>
    obtain ⟨k, hk1, hk, rfl, hz0, hz1, hE⟩ := hrel
    by_cases hlt : k < 19
    · have hc := hz1.cell k
      rw [(chT k).at_ (chr_ok k) hlt] at hc
      have hfr := hz1.frozen k
      have e1 : ((chT k).c.getD k 0) = chars0.getD k 0 := chr_at hlt
      have e2 := chr_succ hlt hk1
      rw [e1] at hc
      have hwk : IntKind.i64.wrap ((k : Int) + 1) = (k : Int) + 1 := IntWalk.i64_in _ (by omega)
      by_cases hx : chars0.getD k 0 = 0
      · have e3 : (chT k).arr.setIfInBounds k (.int .u8 255) = (chT (k + 1)).arr := by
          rw [(chT k).setc (chr_ok k) hlt]
          rw [if_pos hx] at e2
          show _ = (⟨chr (k + 1), 0, 38400, 38400, 1, 0⟩ : Tm).arr
          rw [e2]; rfl
        have HN := Lib.hid (Blk.cast (hz1.set_ k (.int .u8 255)) e3)
        have HZ := Lib.hid (hz0.far (p := ⟨w.heap.size + 1, k, none⟩) (by simp) (.int .u8 255))
        rw [hx] at hc
        clear hz0 hz1 e1 e2 e3 hx
        go_wp2
        go_roundw
        case rel => exact ⟨k + 1, by omega, by omega, by go_num, HZ.out, HN.out, Below.setCell hE (by simp) _⟩
        case measure => simp [intOf]; omega
      · have hx' : (chars0.getD k 0 == 0) = false := by simpa using hx
        have e3 : (chT k).arr = (chT (k + 1)).arr := by
          rw [if_neg hx] at e2
          show (⟨chr k, 0, 38400, 38400, 1, 0⟩ : Tm).arr = (⟨chr (k + 1), 0, 38400, 38400, 1, 0⟩ : Tm).arr
          rw [e2]
        have HN := Lib.hid (Blk.cast hz1 e3)
        have HZ := Lib.hid hz0
        generalize chars0.getD k 0 = x at *
        clear hz0 hz1 e1 e2 e3 hx
        go_wp2
        go_roundw
        case rel => exact ⟨k + 1, by omega, by omega, by go_num, HZ.out, HN.out, hE⟩
        case measure => simp [intOf]; omega
    · obtain rfl : k = 19 := by omega
      go_wp2
      go_loopw [4, 21] (fun _ i wr => ∃ k : Nat, k ≤ 14 ∧ i = .int .i64 k ∧ Blk wr w.heap.size 26 zT.arr ∧ Blk wr (w.heap.size + 1) 26 (fT k).arr ∧ Ext w wr) (fun _ i _ => 14 - (intOf i).toNat)
      case atStart => exact ⟨0, by omega, rfl, hz0, hz1, hE⟩
      case round =>
        clear hE hz0 hz1
        obtain ⟨k, hk, rfl, hz0, hz1, hE⟩ := hrel
        by_cases hlt : k < 14
        · have hix := index_ops k hlt
          have hO := ops0_bd hlt
          have hf := flg_bd k hk
          have e2 := flg_succ hlt
          have hv := or_pw hf hO
          have e3 : (fT k).arr.setIfInBounds 19 (.int .u64 (bits .or .u64 (flg k) (pw (ops0.getD k 0)))) = (fT (k + 1)).arr := by
            rw [Tm.set19 (fT_ok hk), hv]
            show (⟨chr 19, _, 38400, 38400, 1, 0⟩ : Tm).arr = (⟨chr 19, flg (k + 1), 38400, 38400, 1, 0⟩ : Tm).arr
            rw [e2]; rfl
          have hat : (fT k).arr[19]? = some (.int .u64 (flg k)) := Tm.at19 (fT_ok hk)
          have hc0 : ∀ w', Ext wr w' → w'.cell? ⟨w.heap.size + 1, 19, none⟩ = some (.int .u64 (flg k)) ∧ w'.frozen? ⟨w.heap.size + 1, 19, none⟩ = false := fun w' hE => ⟨by rw [(hz1.ext hE).cell, hat], (hz1.ext hE).frozen _⟩
          generalize ops0.getD k 0 = op at *
          generalize flg k = f at *
          have HV := Lib.hid e3
          have HZ0 := Lib.hid hz0
          have HZ1 := Lib.hid hz1
          clear hz0 hz1 e2 e3 hv hat hf
          obtain ⟨hl1, hl1f⟩ := hc0 wr.drew (by repeat (first | with_reducible exact Ext.refl _ | refine Ext.drewN ?_ _ | refine Ext.drew ?_ | refine Ext.alloc ?_ _ | assumption | (refine Below.trans ?_ (by assumption)) | (refine Ext.trans ?_ (by assumption)) | (refine Below.trans ?_ (Below.mono (by assumption) (by omega)))))
          go_wp2
          go_region_law (go_simp; first
            | ((go_at_call 26; (with_reducible refine (bit_any op _ hO).mono ?_); rintro e w2 ⟨rfl, E2⟩); have E12 : Ext wr w2 := (by repeat (first | with_reducible exact Ext.refl _ | refine Ext.drewN ?_ _ | refine Ext.drew ?_ | refine Ext.alloc ?_ _ | assumption | (refine Below.trans ?_ (by assumption)) | (refine Ext.trans ?_ (by assumption)) | (refine Below.trans ?_ (Below.mono (by assumption) (by omega))))); obtain ⟨hl2, hl2f⟩ := hc0 w2 E12))
          all_goals go_wp2
          all_goals
            go_roundw
            case rel =>
              first
                | (exact ⟨_, _, _, _, _, _, _, _, _, _, _, ⟨k + 1, by omega, by go_num, (HZ0.out.ext E12).far (p := ⟨w.heap.size + 1, 19, none⟩) (by simp) _, Blk.cast ((HZ1.out.ext E12).set_ 19 _) HV.out, Below.setCell (hE.trans E12) (by simp) _⟩, rfl⟩)
                | fail "rel"
            case measure => simp [intOf]; omega
        · obtain rfl : k = 14 := by omega
          have hD : (fT 14).arr = defT.arr := by
            have : fT 14 = defT := by decide +kernel
            rw [this]
          have hZ1 := Lib.hid (Blk.cast hz1 hD)
          have hZ0 := Lib.hid hz0
          have h1 := Lib.hid defT.one
          have hn := Lib.hid (Tm.size defT_ok)
          have hn0 : zT.arr.size = 24 := rfl
          generalize hcs : defT.arr = cs at *
          have HCS := Lib.hid hcs
          clear hcs
          generalize zT.arr = zs at *
          have hi' : (Try.prog.info? 26).map (·.size) = some cs.size := by rw [hn.out]; kernel_rfl
          have hN := Lib.hid (hn0.trans hn.out.symm)
          clear hz0 hz1 hD
          go_wp2_with (first
            | (refine wpList_load_row rfl 26 _ rfl _ rfl 26 _ _ _ hZ1.out Try.underlying26 rfl hi' ?_)
            | (refine wpList_store_row rfl 26 _ _ rfl _ _ rfl rfl 26 _ hZ0.out hi' hN.out h1.out ?_))
          refine bodyPost_ret_by (results_cell_row Try.results21 _ _ w.heap.size 26 _ _ _ rfl (Blk.setRow hZ0.out _) Try.underlying26 rfl hi') rfl ?_
          exact ⟨by rw [HCS.out], below_setRow hE (by omega) _⟩
end Go.Proofs.Ytilmkghopeoipaa
