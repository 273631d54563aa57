/- FlowTyped, walked: for every setting, flow and bytes the law answers true. Conditions: the setting is one. -/
import Derived.Test.YtiknogkopfhoiaaF15
namespace Go.Proofs.Ytiknogkopfhoiaa
open Go.RowKit Go.Kb

theorem Blk.below {w w' : World} {B g : Nat} {t : TypeId} {cs : Array Value} (h : Blk w g t cs) (hb : Below B w w') (hg : g < B) : Blk w' g t cs := (hb.block g hg).trans h
theorem typed_facts (t : Tm) (a b : Bool) (c : Int) : ∃ y, typedL t a b c = (y, b, (isL t 8 c || isL t 9 c) && hasL t 38) ∧ (hasL t 38 = false → y = a) ∧ (isL t 8 c = false → isL t 9 c = false → (hasL t 39 = false → y = a) ∧ (y = true → a = true)) := by
  unfold typedL
  cases hasL t 38 <;> cases isL t 8 c <;> cases isL t 9 c <;> cases hasL t 39 <;> simp
set_option maxRecDepth 100000 in
set_option maxHeartbeats 16000000 in
theorem flowTyped_walk (t : Tm) (a b : Bool) (v : Value) (l : List Int) (w : World) (ht : t.Ok) (hl : RI .u8 w v l) : Calls Try.prog 4 #[.agg t.arr, .agg #[.bool a, .bool b], v] w fun e w' => e = .returned (.bool true) ∧ Ext w w' := by
  have hn := t.size ht
  have hi : (Try.prog.info? 26).map (·.size) = some t.arr.size := by rw [hn]; kernel_rfl
  have hiF : (Try.prog.info? 32).map (·.size) = some 2 := by kernel_rfl
  have hiG : (Try.prog.info? 28).map (·.size) = some 2 := by kernel_rfl
  have hT := Lib.hid ((Blk.new w 26 t.arr).alloc (.cells #[.bool a, .bool b] 28))
  have hF := Lib.hid (Blk.at_ (w := w.alloc (.cells t.arr 26)) (B := w.heap.size + 1) 28 #[.bool a, .bool b] (by simp))
  have H38 := Lib.hid fun w' => has_any t 38 w' ht
  have H39 := Lib.hid fun w' => has_any t 39 w' ht
  have H8 := Lib.hid fun c w' => is_any t 8 c w' ht
  have H9 := Lib.hid fun c w' => is_any t 9 c w' ht
  have HTy := Lib.hid fun a c w' => typed_any t a b c w' ht
  have HFa := Lib.hid fun a c => typed_facts t a b c
  generalize typedL t = ty at HTy HFa
  generalize hasL t 38 = s38 at H38 HFa
  generalize hasL t 39 = s39 at H39 HFa
  generalize isL t 8 = p8 at H8 HFa
  generalize isL t 9 = p9 at H9 HFa
  generalize t.arr = cs at H38 H39 H8 H9 HTy hn hi hT hF ⊢
  clear ht
  obtain ⟨Ad, c, rfl, h1, h2⟩ := hl.shape
  have H := Lib.hid hl
  clear hl
  by_cases hbig : 1000 < l.length
  · have hb : (1000 : Int) < l.length := by omega
    go_enter Try.func4, Try.ntmps4
    go_wp2_with ((go_at_call 7; refine (alive_any _).mono ?_; rintro e w1 ⟨rfl, E1⟩))
    go_ret
    exact ⟨rfl, (by repeat (first | with_reducible exact Ext.refl _ | refine Ext.drewN ?_ _ | refine Ext.drew ?_ | refine Ext.alloc ?_ _ | assumption | (refine Below.trans ?_ (by assumption)) | (refine Ext.trans ?_ (by assumption)) | (refine Below.trans ?_ (Below.mono (by assumption) (by omega)))))⟩
  · have hb : ¬ ((1000 : Int) < l.length) := by omega
    go_enter Try.func4, Try.ntmps4
    (go_wp2_with fail; refine (alive_any _).mono ?_; rintro e w1 ⟨rfl, E1⟩)
    have T1 := Lib.hid (hT.out.ext E1)
    have F1 := Lib.hid (hF.out.ext E1)
    have E01 : Ext w w1 := (by repeat (first | with_reducible exact Ext.refl _ | refine Ext.drewN ?_ _ | refine Ext.drew ?_ | refine Ext.alloc ?_ _ | assumption | (refine Below.trans ?_ (by assumption)) | (refine Ext.trans ?_ (by assumption)) | (refine Below.trans ?_ (Below.mono (by assumption) (by omega)))))
    have hg : w.heap.size < w1.heap.size := T1.out.lt
    clear E1 hT hF
    go_wp2_with (first | (refine wpList_load_row rfl 28 _ rfl _ rfl 28 _ _ _ F1.out Try.underlying28 rfl hiG ?_) | (refine wpList_store_A rfl 32 _ _ rfl w1.heap.size _ rfl rfl 32 _ (show Blk _ _ _ _ from Blk.at_ _ _ (by simp)) hiF rfl (by simp [Value.oneCell']) ?_; intro w2 Hw2 Ew2; have Ew2 := Ew2 w1.heap.size w1 (by repeat (first | with_reducible exact Ext.refl _ | refine Ext.drewN ?_ _ | refine Ext.drew ?_ | refine Ext.alloc ?_ _ | assumption | (refine Below.trans ?_ (by assumption)) | (refine Ext.trans ?_ (by assumption)) | (refine Below.trans ?_ (Below.mono (by assumption) (by omega))))) (Nat.le_refl _); have Hw2 := Lib.hid Hw2))
    have T2 := Lib.hid (T1.out.ext Ew2)
    have E02 := Ext.trans E01 Ew2
    clear T1 F1 E01 Ew2
    generalize w1.heap.size = g at *
    go_loopw [21] (fun i wr => ∃ (k : Nat) (a' : Bool), i = .int .i64 k ∧ k ≤ l.length ∧ Hid (Blk wr g 32 #[.bool a', .bool b]) ∧ Hid (Blk wr w.heap.size 26 cs) ∧ Ext w wr) (fun i _ => l.length - (intOf i).toNat)
    case atStart => exact ⟨0, a, rfl, Nat.zero_le _, Hw2, T2, E02⟩
    case round =>
      clear Hw2 T2 E02
      obtain ⟨k, a', rfl, hk, XX, TT, EE⟩ := hrel
      by_cases hlt : k < l.length
      · obtain ⟨bb, off, x, rfl, hx, hd⟩ := (H.out.ext EE).icell hlt
        clear hd
        obtain ⟨y, f1, f2, f3⟩ := HFa.out a' x
        have hty := HTy.out a' x
        rw [f1] at hty
        have h8 := H8.out x
        have h9 := H9.out x
        generalize p8 x = p at *
        generalize p9 x = q at *
        have F2 := Lib.hid f2
        have F3 := Lib.hid f3
        clear f1 f2 f3
        go_wp2_with (first | (refine wpList_load_row rfl 26 _ rfl _ rfl 26 _ _ _ TT.out Try.underlying26 rfl hi ?_) | (refine wpList_load_row rfl 32 _ rfl _ rfl 32 _ _ _ XX.out Try.underlying32 rfl hiF ?_))
        refine (hty _).mono ?_
        rintro e w3 ⟨rfl, E3⟩
        have TT := Lib.hid (TT.out.ext E3)
        have XX := Lib.hid (XX.out.ext E3)
        have EE := Ext.trans EE E3
        go_wp2_with (first | ((refine wpList_store_A rfl 32 _ _ rfl w3.heap.size _ rfl rfl 32 _ (show Blk _ _ _ _ from Blk.at_ _ _ (by simp)) hiF rfl (by simp [Value.oneCell']) ?_; intro w4 Hw4 Ew4; have Ew4 := Ew4 w3.heap.size w3 (by repeat (first | with_reducible exact Ext.refl _ | refine Ext.drewN ?_ _ | refine Ext.drew ?_ | refine Ext.alloc ?_ _ | assumption | (refine Below.trans ?_ (by assumption)) | (refine Ext.trans ?_ (by assumption)) | (refine Below.trans ?_ (Below.mono (by assumption) (by omega))))) (Nat.le_refl _); have Hw4 := Lib.hid Hw4); have YY := Hw4; have TT := Lib.hid (TT.out.ext Ew4); have XX := Lib.hid (XX.out.ext Ew4); have EE := Ext.trans EE Ew4) | (refine wpList_load_row rfl 26 _ rfl _ rfl 26 _ _ _ TT.out Try.underlying26 rfl hi ?_))
        have h38 := H38.out
        have h39 := H39.out
        clear hty H8 H9 H38 H39 HTy HFa H hx hb hbig
        cases p
        · cases q
          · cases s38
            · have hy := F2.out rfl
              subst hy
              clear F2 F3
              cases s39 <;> cases y
              all_goals
                go_wp2_with (first
                  | ((go_at_call 15; (with_reducible refine (h8 _).mono ?_); rintro e w5 ⟨rfl, E5⟩); have TT := Lib.hid (TT.out.ext E5); have XX := Lib.hid (XX.out.ext E5); have YY := Lib.hid (YY.out.ext E5); have EE := Ext.trans EE E5; obtain ⟨x0, x1, x2, x3⟩ := XX.out.two; obtain ⟨y0, y1, -, -⟩ := YY.out.two)
                  | ((go_at_call 15; (with_reducible refine (h9 _).mono ?_); rintro e w5 ⟨rfl, E5⟩); have TT := Lib.hid (TT.out.ext E5); have XX := Lib.hid (XX.out.ext E5); have YY := Lib.hid (YY.out.ext E5); have EE := Ext.trans EE E5; obtain ⟨x0, x1, x2, x3⟩ := XX.out.two; obtain ⟨y0, y1, -, -⟩ := YY.out.two)
                  | ((go_at_call 16; (with_reducible refine (h38 _).mono ?_); rintro e w5 ⟨rfl, E5⟩); have TT := Lib.hid (TT.out.ext E5); have XX := Lib.hid (XX.out.ext E5); have YY := Lib.hid (YY.out.ext E5); have EE := Ext.trans EE E5; obtain ⟨x0, x1, x2, x3⟩ := XX.out.two; obtain ⟨y0, y1, -, -⟩ := YY.out.two)
                  | ((go_at_call 16; (with_reducible refine (h39 _).mono ?_); rintro e w5 ⟨rfl, E5⟩); have TT := Lib.hid (TT.out.ext E5); have XX := Lib.hid (XX.out.ext E5); have YY := Lib.hid (YY.out.ext E5); have EE := Ext.trans EE E5; obtain ⟨x0, x1, x2, x3⟩ := XX.out.two; obtain ⟨y0, y1, -, -⟩ := YY.out.two)
                  | (refine wpList_load_row rfl 26 _ rfl _ rfl 26 _ _ _ TT.out Try.underlying26 rfl hi ?_)
                  | ((refine wpList_openG rfl rfl ?_); (refine wpList_load_row rfl 26 _ rfl _ rfl 26 _ _ _ TT.out Try.underlying26 rfl hi ?_)))
                have xf := XX.out.two.2.2
                go_roundw
                case rel => exact ⟨k + 1, _, by go_num, by omega, Lib.hid (XX.out.put2 _ _), Lib.hid (TT.out.far (p := ⟨g, 0, none⟩) (by simp; omega) _ |>.far (p := ⟨g, 1, none⟩) (by simp; omega) _), Below.setCell (Below.setCell EE (by simp; omega) _) (by simp; omega) _⟩
                case measure => simp [intOf]; omega
            · obtain ⟨f4, f5⟩ := F3.out rfl rfl
              clear F2 F3
              cases s39
              · have hy := f4 rfl
                subst hy
                clear f4 f5
                cases y
                all_goals
                  go_wp2_with (first
                    | ((go_at_call 15; (with_reducible refine (h8 _).mono ?_); rintro e w5 ⟨rfl, E5⟩); have TT := Lib.hid (TT.out.ext E5); have XX := Lib.hid (XX.out.ext E5); have YY := Lib.hid (YY.out.ext E5); have EE := Ext.trans EE E5; obtain ⟨x0, x1, x2, x3⟩ := XX.out.two; obtain ⟨y0, y1, -, -⟩ := YY.out.two)
                    | ((go_at_call 15; (with_reducible refine (h9 _).mono ?_); rintro e w5 ⟨rfl, E5⟩); have TT := Lib.hid (TT.out.ext E5); have XX := Lib.hid (XX.out.ext E5); have YY := Lib.hid (YY.out.ext E5); have EE := Ext.trans EE E5; obtain ⟨x0, x1, x2, x3⟩ := XX.out.two; obtain ⟨y0, y1, -, -⟩ := YY.out.two)
                    | ((go_at_call 16; (with_reducible refine (h38 _).mono ?_); rintro e w5 ⟨rfl, E5⟩); have TT := Lib.hid (TT.out.ext E5); have XX := Lib.hid (XX.out.ext E5); have YY := Lib.hid (YY.out.ext E5); have EE := Ext.trans EE E5; obtain ⟨x0, x1, x2, x3⟩ := XX.out.two; obtain ⟨y0, y1, -, -⟩ := YY.out.two)
                    | ((go_at_call 16; (with_reducible refine (h39 _).mono ?_); rintro e w5 ⟨rfl, E5⟩); have TT := Lib.hid (TT.out.ext E5); have XX := Lib.hid (XX.out.ext E5); have YY := Lib.hid (YY.out.ext E5); have EE := Ext.trans EE E5; obtain ⟨x0, x1, x2, x3⟩ := XX.out.two; obtain ⟨y0, y1, -, -⟩ := YY.out.two)
                    | (refine wpList_load_row rfl 26 _ rfl _ rfl 26 _ _ _ TT.out Try.underlying26 rfl hi ?_)
                    | ((refine wpList_openG rfl rfl ?_); (refine wpList_load_row rfl 26 _ rfl _ rfl 26 _ _ _ TT.out Try.underlying26 rfl hi ?_)))
                  have xf := XX.out.two.2.2
                  go_roundw
                  case rel => exact ⟨k + 1, _, by go_num, by omega, Lib.hid (XX.out.put2 _ _), Lib.hid (TT.out.far (p := ⟨g, 0, none⟩) (by simp; omega) _ |>.far (p := ⟨g, 1, none⟩) (by simp; omega) _), Below.setCell (Below.setCell EE (by simp; omega) _) (by simp; omega) _⟩
                  case measure => simp [intOf]; omega
              · cases y
                · clear f4 f5
                  go_wp2_with (first
                    | ((go_at_call 15; (with_reducible refine (h8 _).mono ?_); rintro e w5 ⟨rfl, E5⟩); have TT := Lib.hid (TT.out.ext E5); have XX := Lib.hid (XX.out.ext E5); have YY := Lib.hid (YY.out.ext E5); have EE := Ext.trans EE E5; obtain ⟨x0, x1, x2, x3⟩ := XX.out.two; obtain ⟨y0, y1, -, -⟩ := YY.out.two)
                    | ((go_at_call 15; (with_reducible refine (h9 _).mono ?_); rintro e w5 ⟨rfl, E5⟩); have TT := Lib.hid (TT.out.ext E5); have XX := Lib.hid (XX.out.ext E5); have YY := Lib.hid (YY.out.ext E5); have EE := Ext.trans EE E5; obtain ⟨x0, x1, x2, x3⟩ := XX.out.two; obtain ⟨y0, y1, -, -⟩ := YY.out.two)
                    | ((go_at_call 16; (with_reducible refine (h38 _).mono ?_); rintro e w5 ⟨rfl, E5⟩); have TT := Lib.hid (TT.out.ext E5); have XX := Lib.hid (XX.out.ext E5); have YY := Lib.hid (YY.out.ext E5); have EE := Ext.trans EE E5; obtain ⟨x0, x1, x2, x3⟩ := XX.out.two; obtain ⟨y0, y1, -, -⟩ := YY.out.two)
                    | ((go_at_call 16; (with_reducible refine (h39 _).mono ?_); rintro e w5 ⟨rfl, E5⟩); have TT := Lib.hid (TT.out.ext E5); have XX := Lib.hid (XX.out.ext E5); have YY := Lib.hid (YY.out.ext E5); have EE := Ext.trans EE E5; obtain ⟨x0, x1, x2, x3⟩ := XX.out.two; obtain ⟨y0, y1, -, -⟩ := YY.out.two)
                    | (refine wpList_load_row rfl 26 _ rfl _ rfl 26 _ _ _ TT.out Try.underlying26 rfl hi ?_)
                    | ((refine wpList_openG rfl rfl ?_); (refine wpList_load_row rfl 26 _ rfl _ rfl 26 _ _ _ TT.out Try.underlying26 rfl hi ?_)))
                  have xf := XX.out.two.2.2
                  go_roundw
                  case rel => exact ⟨k + 1, false, by go_num, by omega, Lib.hid (XX.out.put2 _ _), Lib.hid (TT.out.far (p := ⟨g, 0, none⟩) (by simp; omega) _ |>.far (p := ⟨g, 1, none⟩) (by simp; omega) _), Below.setCell (Below.setCell EE (by simp; omega) _) (by simp; omega) _⟩
                  case measure => simp [intOf]; omega
                · have ha := f5 rfl
                  subst ha
                  clear f4 f5
                  go_wp2_with (first
                    | ((go_at_call 15; (with_reducible refine (h8 _).mono ?_); rintro e w5 ⟨rfl, E5⟩); have TT := Lib.hid (TT.out.ext E5); have XX := Lib.hid (XX.out.ext E5); have YY := Lib.hid (YY.out.ext E5); have EE := Ext.trans EE E5; obtain ⟨x0, x1, x2, x3⟩ := XX.out.two; obtain ⟨y0, y1, -, -⟩ := YY.out.two)
                    | ((go_at_call 15; (with_reducible refine (h9 _).mono ?_); rintro e w5 ⟨rfl, E5⟩); have TT := Lib.hid (TT.out.ext E5); have XX := Lib.hid (XX.out.ext E5); have YY := Lib.hid (YY.out.ext E5); have EE := Ext.trans EE E5; obtain ⟨x0, x1, x2, x3⟩ := XX.out.two; obtain ⟨y0, y1, -, -⟩ := YY.out.two)
                    | ((go_at_call 16; (with_reducible refine (h38 _).mono ?_); rintro e w5 ⟨rfl, E5⟩); have TT := Lib.hid (TT.out.ext E5); have XX := Lib.hid (XX.out.ext E5); have YY := Lib.hid (YY.out.ext E5); have EE := Ext.trans EE E5; obtain ⟨x0, x1, x2, x3⟩ := XX.out.two; obtain ⟨y0, y1, -, -⟩ := YY.out.two)
                    | ((go_at_call 16; (with_reducible refine (h39 _).mono ?_); rintro e w5 ⟨rfl, E5⟩); have TT := Lib.hid (TT.out.ext E5); have XX := Lib.hid (XX.out.ext E5); have YY := Lib.hid (YY.out.ext E5); have EE := Ext.trans EE E5; obtain ⟨x0, x1, x2, x3⟩ := XX.out.two; obtain ⟨y0, y1, -, -⟩ := YY.out.two)
                    | (refine wpList_load_row rfl 26 _ rfl _ rfl 26 _ _ _ TT.out Try.underlying26 rfl hi ?_)
                    | ((refine wpList_openG rfl rfl ?_); (refine wpList_load_row rfl 26 _ rfl _ rfl 26 _ _ _ TT.out Try.underlying26 rfl hi ?_)))
                  have xf := XX.out.two.2.2
                  go_roundw
                  case rel => exact ⟨k + 1, true, by go_num, by omega, Lib.hid (XX.out.put2 _ _), Lib.hid (TT.out.far (p := ⟨g, 0, none⟩) (by simp; omega) _ |>.far (p := ⟨g, 1, none⟩) (by simp; omega) _), Below.setCell (Below.setCell EE (by simp; omega) _) (by simp; omega) _⟩
                  case measure => simp [intOf]; omega
          · clear F3
            cases s38
            · have hy := F2.out rfl
              subst hy
              clear F2
              go_wp2_with (first
                | ((go_at_call 15; (with_reducible refine (h8 _).mono ?_); rintro e w5 ⟨rfl, E5⟩); have TT := Lib.hid (TT.out.ext E5); have XX := Lib.hid (XX.out.ext E5); have YY := Lib.hid (YY.out.ext E5); have EE := Ext.trans EE E5; obtain ⟨x0, x1, x2, x3⟩ := XX.out.two; obtain ⟨y0, y1, -, -⟩ := YY.out.two)
                | ((go_at_call 15; (with_reducible refine (h9 _).mono ?_); rintro e w5 ⟨rfl, E5⟩); have TT := Lib.hid (TT.out.ext E5); have XX := Lib.hid (XX.out.ext E5); have YY := Lib.hid (YY.out.ext E5); have EE := Ext.trans EE E5; obtain ⟨x0, x1, x2, x3⟩ := XX.out.two; obtain ⟨y0, y1, -, -⟩ := YY.out.two)
                | ((go_at_call 16; (with_reducible refine (h38 _).mono ?_); rintro e w5 ⟨rfl, E5⟩); have TT := Lib.hid (TT.out.ext E5); have XX := Lib.hid (XX.out.ext E5); have YY := Lib.hid (YY.out.ext E5); have EE := Ext.trans EE E5; obtain ⟨x0, x1, x2, x3⟩ := XX.out.two; obtain ⟨y0, y1, -, -⟩ := YY.out.two)
                | ((go_at_call 16; (with_reducible refine (h39 _).mono ?_); rintro e w5 ⟨rfl, E5⟩); have TT := Lib.hid (TT.out.ext E5); have XX := Lib.hid (XX.out.ext E5); have YY := Lib.hid (YY.out.ext E5); have EE := Ext.trans EE E5; obtain ⟨x0, x1, x2, x3⟩ := XX.out.two; obtain ⟨y0, y1, -, -⟩ := YY.out.two)
                | (refine wpList_load_row rfl 26 _ rfl _ rfl 26 _ _ _ TT.out Try.underlying26 rfl hi ?_)
                | ((refine wpList_openG rfl rfl ?_); (refine wpList_load_row rfl 26 _ rfl _ rfl 26 _ _ _ TT.out Try.underlying26 rfl hi ?_)))
              have xf := XX.out.two.2.2
              go_roundw
              case rel => exact ⟨k + 1, _, by go_num, by omega, Lib.hid (XX.out.put2 _ _), Lib.hid (TT.out.far (p := ⟨g, 0, none⟩) (by simp; omega) _ |>.far (p := ⟨g, 1, none⟩) (by simp; omega) _), Below.setCell (Below.setCell EE (by simp; omega) _) (by simp; omega) _⟩
              case measure => simp [intOf]; omega
            · clear F2
              go_wp2_with (first
                | ((go_at_call 15; (with_reducible refine (h8 _).mono ?_); rintro e w5 ⟨rfl, E5⟩); have TT := Lib.hid (TT.out.ext E5); have XX := Lib.hid (XX.out.ext E5); have YY := Lib.hid (YY.out.ext E5); have EE := Ext.trans EE E5; obtain ⟨x0, x1, x2, x3⟩ := XX.out.two; obtain ⟨y0, y1, -, -⟩ := YY.out.two)
                | ((go_at_call 15; (with_reducible refine (h9 _).mono ?_); rintro e w5 ⟨rfl, E5⟩); have TT := Lib.hid (TT.out.ext E5); have XX := Lib.hid (XX.out.ext E5); have YY := Lib.hid (YY.out.ext E5); have EE := Ext.trans EE E5; obtain ⟨x0, x1, x2, x3⟩ := XX.out.two; obtain ⟨y0, y1, -, -⟩ := YY.out.two)
                | ((go_at_call 16; (with_reducible refine (h38 _).mono ?_); rintro e w5 ⟨rfl, E5⟩); have TT := Lib.hid (TT.out.ext E5); have XX := Lib.hid (XX.out.ext E5); have YY := Lib.hid (YY.out.ext E5); have EE := Ext.trans EE E5; obtain ⟨x0, x1, x2, x3⟩ := XX.out.two; obtain ⟨y0, y1, -, -⟩ := YY.out.two)
                | ((go_at_call 16; (with_reducible refine (h39 _).mono ?_); rintro e w5 ⟨rfl, E5⟩); have TT := Lib.hid (TT.out.ext E5); have XX := Lib.hid (XX.out.ext E5); have YY := Lib.hid (YY.out.ext E5); have EE := Ext.trans EE E5; obtain ⟨x0, x1, x2, x3⟩ := XX.out.two; obtain ⟨y0, y1, -, -⟩ := YY.out.two)
                | (refine wpList_load_row rfl 26 _ rfl _ rfl 26 _ _ _ TT.out Try.underlying26 rfl hi ?_)
                | ((refine wpList_openG rfl rfl ?_); (refine wpList_load_row rfl 26 _ rfl _ rfl 26 _ _ _ TT.out Try.underlying26 rfl hi ?_)))
              have xf := XX.out.two.2.2
              go_roundw
              case rel => exact ⟨k + 1, _, by go_num, by omega, Lib.hid (XX.out.put2 _ _), Lib.hid (TT.out.far (p := ⟨g, 0, none⟩) (by simp; omega) _ |>.far (p := ⟨g, 1, none⟩) (by simp; omega) _), Below.setCell (Below.setCell EE (by simp; omega) _) (by simp; omega) _⟩
              case measure => simp [intOf]; omega
        · clear F3
          cases s38
          · have hy := F2.out rfl
            subst hy
            clear F2
            go_wp2_with (first
              | ((go_at_call 15; (with_reducible refine (h8 _).mono ?_); rintro e w5 ⟨rfl, E5⟩); have TT := Lib.hid (TT.out.ext E5); have XX := Lib.hid (XX.out.ext E5); have YY := Lib.hid (YY.out.ext E5); have EE := Ext.trans EE E5; obtain ⟨x0, x1, x2, x3⟩ := XX.out.two; obtain ⟨y0, y1, -, -⟩ := YY.out.two)
              | ((go_at_call 15; (with_reducible refine (h9 _).mono ?_); rintro e w5 ⟨rfl, E5⟩); have TT := Lib.hid (TT.out.ext E5); have XX := Lib.hid (XX.out.ext E5); have YY := Lib.hid (YY.out.ext E5); have EE := Ext.trans EE E5; obtain ⟨x0, x1, x2, x3⟩ := XX.out.two; obtain ⟨y0, y1, -, -⟩ := YY.out.two)
              | ((go_at_call 16; (with_reducible refine (h38 _).mono ?_); rintro e w5 ⟨rfl, E5⟩); have TT := Lib.hid (TT.out.ext E5); have XX := Lib.hid (XX.out.ext E5); have YY := Lib.hid (YY.out.ext E5); have EE := Ext.trans EE E5; obtain ⟨x0, x1, x2, x3⟩ := XX.out.two; obtain ⟨y0, y1, -, -⟩ := YY.out.two)
              | ((go_at_call 16; (with_reducible refine (h39 _).mono ?_); rintro e w5 ⟨rfl, E5⟩); have TT := Lib.hid (TT.out.ext E5); have XX := Lib.hid (XX.out.ext E5); have YY := Lib.hid (YY.out.ext E5); have EE := Ext.trans EE E5; obtain ⟨x0, x1, x2, x3⟩ := XX.out.two; obtain ⟨y0, y1, -, -⟩ := YY.out.two)
              | (refine wpList_load_row rfl 26 _ rfl _ rfl 26 _ _ _ TT.out Try.underlying26 rfl hi ?_)
              | ((refine wpList_openG rfl rfl ?_); (refine wpList_load_row rfl 26 _ rfl _ rfl 26 _ _ _ TT.out Try.underlying26 rfl hi ?_)))
            have xf := XX.out.two.2.2
            go_roundw
            case rel => exact ⟨k + 1, _, by go_num, by omega, Lib.hid (XX.out.put2 _ _), Lib.hid (TT.out.far (p := ⟨g, 0, none⟩) (by simp; omega) _ |>.far (p := ⟨g, 1, none⟩) (by simp; omega) _), Below.setCell (Below.setCell EE (by simp; omega) _) (by simp; omega) _⟩
            case measure => simp [intOf]; omega
          · clear F2
            go_wp2_with (first
              | ((go_at_call 15; (with_reducible refine (h8 _).mono ?_); rintro e w5 ⟨rfl, E5⟩); have TT := Lib.hid (TT.out.ext E5); have XX := Lib.hid (XX.out.ext E5); have YY := Lib.hid (YY.out.ext E5); have EE := Ext.trans EE E5; obtain ⟨x0, x1, x2, x3⟩ := XX.out.two; obtain ⟨y0, y1, -, -⟩ := YY.out.two)
              | ((go_at_call 15; (with_reducible refine (h9 _).mono ?_); rintro e w5 ⟨rfl, E5⟩); have TT := Lib.hid (TT.out.ext E5); have XX := Lib.hid (XX.out.ext E5); have YY := Lib.hid (YY.out.ext E5); have EE := Ext.trans EE E5; obtain ⟨x0, x1, x2, x3⟩ := XX.out.two; obtain ⟨y0, y1, -, -⟩ := YY.out.two)
              | ((go_at_call 16; (with_reducible refine (h38 _).mono ?_); rintro e w5 ⟨rfl, E5⟩); have TT := Lib.hid (TT.out.ext E5); have XX := Lib.hid (XX.out.ext E5); have YY := Lib.hid (YY.out.ext E5); have EE := Ext.trans EE E5; obtain ⟨x0, x1, x2, x3⟩ := XX.out.two; obtain ⟨y0, y1, -, -⟩ := YY.out.two)
              | ((go_at_call 16; (with_reducible refine (h39 _).mono ?_); rintro e w5 ⟨rfl, E5⟩); have TT := Lib.hid (TT.out.ext E5); have XX := Lib.hid (XX.out.ext E5); have YY := Lib.hid (YY.out.ext E5); have EE := Ext.trans EE E5; obtain ⟨x0, x1, x2, x3⟩ := XX.out.two; obtain ⟨y0, y1, -, -⟩ := YY.out.two)
              | (refine wpList_load_row rfl 26 _ rfl _ rfl 26 _ _ _ TT.out Try.underlying26 rfl hi ?_)
              | ((refine wpList_openG rfl rfl ?_); (refine wpList_load_row rfl 26 _ rfl _ rfl 26 _ _ _ TT.out Try.underlying26 rfl hi ?_)))
            have xf := XX.out.two.2.2
            go_roundw
            case rel => exact ⟨k + 1, _, by go_num, by omega, Lib.hid (XX.out.put2 _ _), Lib.hid (TT.out.far (p := ⟨g, 0, none⟩) (by simp; omega) _ |>.far (p := ⟨g, 1, none⟩) (by simp; omega) _), Below.setCell (Below.setCell EE (by simp; omega) _) (by simp; omega) _⟩
            case measure => simp [intOf]; omega
      · go_wp2
        go_ret
        exact ⟨rfl, EE⟩
end Go.Proofs.Ytiknogkopfhoiaa
