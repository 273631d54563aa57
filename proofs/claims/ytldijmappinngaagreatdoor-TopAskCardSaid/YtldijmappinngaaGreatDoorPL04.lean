/- request: a kind's rule where there is none; a request's fields; what asks, gets and puts by a kind's rule. Conditions: few bytes. -/
import Derived.Test.YtldijmappinngaaGreatDoorPK04
namespace Go.Proofs.YtldijmappinngaaGreatDoor
open Go.RowKit Go.Kb
set_option maxRecDepth 100000

theorem rule_eq (k : Nat) (h1 : 1 ≤ k) (h10 : k ≤ 10) (n : Nat) : ruleL n k = [.string (nmQ k), kvQ n k, .func (.func (gQ k)) #[] #[], .func (.func (pQ k)) #[] #[], .func (.func (aQ k)) #[] #[]] := by
  rcases k with _ | _ | _ | _ | _ | _ | _ | _ | _ | _ | _ | k
  all_goals first | rfl | omega
theorem of_in2 (k : Nat) (h1 : 1 ≤ k) (h10 : k ≤ 10) (w : World) : Calls Tryz.prog 28 #[.int .i64 (k : Int)] w fun e w' =>
    ∃ A c, e = .returned (.tuple #[.agg #[.string (nmQ k), .slice A (kindsQ k).length c, .func (.func (gQ k)) #[] #[], .func (.func (pQ k)) #[] #[], .func (.func (aQ k)) #[] #[]], .bool true]) ∧ Ext w w' ∧ RI .i64 w' (.slice A (kindsQ k).length c) (kindsQ k) :=
  (of_in k h1 h10 w).mono fun e w' h => by
    obtain ⟨n, rfl, hE, hR⟩ := h
    obtain ⟨A, c, hs, -, -⟩ := hR.shape
    rw [rule_eq k h1 h10 n, hs]
    exact ⟨A, c, rfl, hE, by rw [← hs]; exact hR⟩
set_option maxHeartbeats 800000 in
theorem of_out (k : Int) (h : k < 1 ∨ 10 < k) (w : World) : Calls Tryz.prog 28 #[.int .i64 k] w fun e w' =>
    e = .returned (.tuple #[.agg #[.string ⟨#[]⟩, .slice none 0 0, .nilFunc, .nilFunc, .nilFunc], .bool false]) ∧ Ext w w' := by
  have hi : (Tryz.prog.info? 87).map (·.size) = some 5 := by kernel_rfl
  by_cases h1 : k < 1
  · go_enter Tryz.func28, Tryz.ntmps28
    go_wp2_with (refine wpList_store_M rfl 87 _ _ rfl w.heap.size _ rfl rfl 87 _ (Blk.new _ _ _) hi rfl (by simp [Value.oneCell']) ?_; intro w2 HB M2)
    refine bodyPost_ret_by (Kb.results_cell_tmp Tryz.results28 _ _ w.heap.size 87 _ _ _ rfl _ rfl HB Tryz.underlying87 rfl hi) rfl ?_
    exact ⟨rfl, Mod.toExt (by repeat (first | with_reducible exact Ext.refl _ | refine Ext.drewN ?_ _ | refine Ext.drew ?_ | refine Ext.alloc ?_ _ | assumption | (refine Below.trans ?_ (by assumption)) | (refine Ext.trans ?_ (by assumption)) | (refine Below.trans ?_ (Below.mono (by assumption) (by omega))))) M2 (by intro k hk he; omega)⟩
  · have h2 : 10 < k := by omega
    go_enter Tryz.func28, Tryz.ntmps28
    go_wp2_with (refine wpList_store_M rfl 87 _ _ rfl w.heap.size _ rfl rfl 87 _ (Blk.new _ _ _) hi rfl (by simp [Value.oneCell']) ?_; intro w2 HB M2)
    refine bodyPost_ret_by (Kb.results_cell_tmp Tryz.results28 _ _ w.heap.size 87 _ _ _ rfl _ rfl HB Tryz.underlying87 rfl hi) rfl ?_
    exact ⟨rfl, Mod.toExt (by repeat (first | with_reducible exact Ext.refl _ | refine Ext.drewN ?_ _ | refine Ext.drew ?_ | refine Ext.alloc ?_ _ | assumption | (refine Below.trans ?_ (by assumption)) | (refine Ext.trans ?_ (by assumption)) | (refine Below.trans ?_ (Below.mono (by assumption) (by omega))))) M2 (by intro k hk he; omega)⟩
/-- a request's fields -/
def fldsQ (r : Rq) : Nat → List Fd
  | 1 => [⟨4, 0, bsL r.tx⟩, ⟨3, r.c1, []⟩, ⟨3, r.c2, []⟩, ⟨3, r.c3, []⟩, ⟨3, r.c4, []⟩, ⟨4, 0, r.mo⟩]
  | 2 => [⟨4, 0, bsL r.tx⟩, ⟨4, 0, bsL r.vl⟩]
  | 4 => [⟨4, 0, bsL r.tx⟩]
  | 5 => [⟨4, 0, bsL r.tx⟩]
  | 6 => [⟨3, r.c1, []⟩, ⟨3, r.c2, []⟩, ⟨3, r.c3, []⟩, ⟨3, r.c4, []⟩]
  | 7 => [⟨2, if r.on = true then 1 else 0, []⟩]
  | 8 => [⟨4, 0, bsL r.tx⟩]
  | 9 => [⟨3, r.co, []⟩]
  | 10 => [⟨4, 0, bsL r.tx⟩, ⟨2, if r.on = true then 1 else 0, []⟩, ⟨4, 0, bsL r.vl⟩, ⟨4, 0, bsL r.la⟩]
  | _ => []
/-- the same without their kinds -/
def bareQ (r : Rq) (k : Nat) : List Fd := (fldsQ r k).map (fun f => ⟨0, f.n, f.t⟩)
/-- numbers that fit, and texts that aren't too long -/
structure Rq.Ok (r : Rq) : Prop where
  tx : r.tx.size ≤ 10000
  vl : r.vl.size ≤ 10000
  la : r.la.size ≤ 10000
  mo : r.mo.length ≤ 10000
  bs : Bs r.mo
  c1 : 0 ≤ r.c1 ∧ r.c1 ≤ 4294967295
  c2 : 0 ≤ r.c2 ∧ r.c2 ≤ 4294967295
  c3 : 0 ≤ r.c3 ∧ r.c3 ≤ 4294967295
  c4 : 0 ≤ r.c4 ∧ r.c4 ≤ 4294967295
  co : 0 ≤ r.co ∧ r.co ≤ 4294967295
theorem flds_kQ (r : Rq) (k : Nat) : (fldsQ r k).map (·.k) = kindsQ k := by
  rcases k with _ | _ | _ | _ | _ | _ | _ | _ | _ | _ | _ | k
  all_goals rfl
theorem flds_lenQ (r : Rq) (k : Nat) : (fldsQ r k).length = (kindsQ k).length := by rw [← flds_kQ r k, List.length_map]
theorem kinds_len (k : Nat) : (kindsQ k).length ≤ 6 := by
  unfold kindsQ
  split <;> decide
theorem kinds_row (k : Nat) : RowOk (kindsQ k) := by
  unfold RowOk kindsQ
  split
  all_goals
    intro i x h
    rcases i with _ | _ | _ | _ | _ | _ | i
    all_goals simp at h
    all_goals first | (subst h; exact ⟨by omega, by omega⟩) | (exact absurd h (by simp))
/-- what gets a request's fields by its kind -/
structure GetsQ (r : Rq) (k : Nat) : Prop where
  enters : ∀ args w', (callFunc (gQ k) args).run Tryz.prog w' = .ok (.enter (gQ k) args) w'
  gets : ∀ g v A w, Blk w g 92 (rqA r v) → RdS Ub8 A w v r.mo → (∀ j, A j → j < w.heap.size) → Calls Tryz.prog (gQ k) #[.pointer (some ⟨g, 0, none⟩)] w (GetLP A (bareQ r k) w)
theorem gen_Pty (args : Array Value) (w : World) : (callFunc 44 args).run Tryz.prog w = .ok (.enter 44 args) w := by kernel_rfl
theorem gen_Env (args : Array Value) (w : World) : (callFunc 47 args).run Tryz.prog w = .ok (.enter 47 args) w := by kernel_rfl
theorem gen_None (args : Array Value) (w : World) : (callFunc 50 args).run Tryz.prog w = .ok (.enter 50 args) w := by kernel_rfl
theorem gen_Text (args : Array Value) (w : World) : (callFunc 53 args).run Tryz.prog w = .ok (.enter 53 args) w := by kernel_rfl
theorem gen_Size (args : Array Value) (w : World) : (callFunc 57 args).run Tryz.prog w = .ok (.enter 57 args) w := by kernel_rfl
theorem gen_On (args : Array Value) (w : World) : (callFunc 59 args).run Tryz.prog w = .ok (.enter 59 args) w := by kernel_rfl
theorem gen_Code (args : Array Value) (w : World) : (callFunc 61 args).run Tryz.prog w = .ok (.enter 61 args) w := by kernel_rfl
theorem gen_Death (args : Array Value) (w : World) : (callFunc 63 args).run Tryz.prog w = .ok (.enter 63 args) w := by kernel_rfl
theorem getsQ {r : Rq} (hr : r.Ok) (k : Nat) (h1 : 1 ≤ k) (h10 : k ≤ 10) : GetsQ r k := by
  have e1 : r.tx.size ≤ 1000000 := by have := hr.tx; omega
  have e2 : r.vl.size ≤ 1000000 := by have := hr.vl; omega
  have e3 : r.la.size ≤ 1000000 := by have := hr.la; omega
  rcases k with _ | _ | _ | _ | _ | _ | _ | _ | _ | _ | _ | k
  · omega
  · exact ⟨gen_Pty, fun g v A w h hv hA => qgetPty g r v A w h hv hA e1⟩
  · exact ⟨gen_Env, fun g v A w h _ _ => qgetEnv g r v A w h e1 e2⟩
  · exact ⟨gen_None, fun g _ A w _ _ _ => qgetNone g A w⟩
  · exact ⟨gen_Text, fun g v A w h _ _ => qgetText g r v A w h e1⟩
  · exact ⟨gen_Text, fun g v A w h _ _ => qgetText g r v A w h e1⟩
  · exact ⟨gen_Size, fun g v A w h _ _ => (qgetSize g r v w h).mono fun _ _ ⟨v2, he, ho, hE⟩ => ⟨v2, he, ho.mono (fun _ _ h9 => h9.elim), hE⟩⟩
  · exact ⟨gen_On, fun g v A w h _ _ => qgetOn g r v A w h⟩
  · exact ⟨gen_Text, fun g v A w h _ _ => qgetText g r v A w h e1⟩
  · exact ⟨gen_Code, fun g v A w h _ _ => qgetCode g r v A w h⟩
  · exact ⟨gen_Death, fun g v A w h _ _ => qgetDeath g r v A w h e1 e2 e3⟩
  · omega
/-- what asks a request by its kind -/
structure AsksQ (r : Rq) (k : Nat) : Prop where
  enters : ∀ args w', (callFunc (aQ k) args).run Tryz.prog w' = .ok (.enter (aQ k) args) w'
  asks : ∀ g Av cv w, Blk w g 92 (rqA r (.slice Av r.mo.length cv)) → Calls Tryz.prog (aQ k) #[.pointer (some ⟨g, 0, none⟩)] w (AskQP (askQ r) w)
theorem aen_Pty (args : Array Value) (w : World) : (callFunc 46 args).run Tryz.prog w = .ok (.enter 46 args) w := by kernel_rfl
theorem aen_Env (args : Array Value) (w : World) : (callFunc 49 args).run Tryz.prog w = .ok (.enter 49 args) w := by kernel_rfl
theorem aen_None (args : Array Value) (w : World) : (callFunc 52 args).run Tryz.prog w = .ok (.enter 52 args) w := by kernel_rfl
theorem aen_Exec (args : Array Value) (w : World) : (callFunc 55 args).run Tryz.prog w = .ok (.enter 55 args) w := by kernel_rfl
theorem aen_Word (args : Array Value) (w : World) : (callFunc 56 args).run Tryz.prog w = .ok (.enter 56 args) w := by kernel_rfl
theorem aen_Death (args : Array Value) (w : World) : (callFunc 65 args).run Tryz.prog w = .ok (.enter 65 args) w := by kernel_rfl
theorem asksQ {r : Rq} (k : Nat) (hk : r.k = (k : Int)) (h1 : 1 ≤ k) (h10 : k ≤ 10) : AsksQ r k := by
  rcases k with _ | _ | _ | _ | _ | _ | _ | _ | _ | _ | _ | k
  · omega
  · exact ⟨aen_Pty, fun g Av cv w h => by rw [show askQ r = firstE [wordE r.tx 0, longE r.mo.length] by simp [askQ, hk]]; exact qaskPty g r Av cv w h⟩
  · exact ⟨aen_Env, fun g Av cv w h => by rw [show askQ r = (if hasEq r.tx = true then 4 else firstE [wordE r.tx 1, longE r.vl.size]) by simp [askQ, hk]]; exact qaskEnv g r _ w h⟩
  · exact ⟨aen_None, fun g Av cv w _ => by rw [show askQ r = 0 by simp [askQ, hk]]; exact qaskNone g w⟩
  · exact ⟨aen_Exec, fun g Av cv w h => by rw [show askQ r = longE r.tx.size by simp [askQ, hk]]; exact qaskExec g r _ w h⟩
  · exact ⟨aen_Word, fun g Av cv w h => by rw [show askQ r = wordE r.tx 1 by simp [askQ, hk]]; exact qaskWord g r _ w h⟩
  · exact ⟨aen_None, fun g Av cv w _ => by rw [show askQ r = 0 by simp [askQ, hk]]; exact qaskNone g w⟩
  · exact ⟨aen_None, fun g Av cv w _ => by rw [show askQ r = 0 by simp [askQ, hk]]; exact qaskNone g w⟩
  · exact ⟨aen_Word, fun g Av cv w h => by rw [show askQ r = wordE r.tx 1 by simp [askQ, hk]]; exact qaskWord g r _ w h⟩
  · exact ⟨aen_None, fun g Av cv w _ => by rw [show askQ r = 0 by simp [askQ, hk]]; exact qaskNone g w⟩
  · exact ⟨aen_Death, fun g Av cv w h => by rw [show askQ r = firstE [wordE r.tx 1, wordE r.la 0, longE r.vl.size] by simp [askQ, hk]]; exact qaskDeath g r _ w h⟩
  · omega
/-- a request of a kind with nothing put -/
def rq0 (k : Nat) : Rq := ⟨k, ⟨#[]⟩, ⟨#[]⟩, ⟨#[]⟩, 0, 0, 0, 0, [], false, 0⟩
/-- a request with the fields of its kind alone -/
def ownQ (r : Rq) : Nat → Rq
  | 1 => ⟨1, r.tx, ⟨#[]⟩, ⟨#[]⟩, r.c1, r.c2, r.c3, r.c4, r.mo, false, 0⟩
  | 2 => ⟨2, r.tx, r.vl, ⟨#[]⟩, 0, 0, 0, 0, [], false, 0⟩
  | 4 => ⟨4, r.tx, ⟨#[]⟩, ⟨#[]⟩, 0, 0, 0, 0, [], false, 0⟩
  | 5 => ⟨5, r.tx, ⟨#[]⟩, ⟨#[]⟩, 0, 0, 0, 0, [], false, 0⟩
  | 6 => ⟨6, ⟨#[]⟩, ⟨#[]⟩, ⟨#[]⟩, r.c1, r.c2, r.c3, r.c4, [], false, 0⟩
  | 7 => ⟨7, ⟨#[]⟩, ⟨#[]⟩, ⟨#[]⟩, 0, 0, 0, 0, [], r.on, 0⟩
  | 8 => ⟨8, r.tx, ⟨#[]⟩, ⟨#[]⟩, 0, 0, 0, 0, [], false, 0⟩
  | 9 => ⟨9, ⟨#[]⟩, ⟨#[]⟩, ⟨#[]⟩, 0, 0, 0, 0, [], false, r.co⟩
  | 10 => ⟨10, r.tx, r.vl, r.la, 0, 0, 0, 0, [], r.on, 0⟩
  | k => rq0 k
theorem ask_own {r : Rq} (k : Nat) (hk : r.k = (k : Int)) (h1 : 1 ≤ k) (h10 : k ≤ 10) : askQ (ownQ r k) = askQ r := by
  rcases k with _ | _ | _ | _ | _ | _ | _ | _ | _ | _ | _ | k
  · omega
  all_goals first | omega | simp [askQ, ownQ, rq0, hk]
theorem own_k (r : Rq) (k : Nat) : (ownQ r k).k = (k : Int) := by
  unfold ownQ
  split <;> rfl
theorem flagI (b : Bool) : ((if b = true then (1 : Int) else 0) == 1) = b := by cases b <;> rfl
/-- what puts a request's fields by its kind -/
structure PutsQ (r : Rq) (k : Nat) : Prop where
  enters : ∀ args w', (callFunc (pQ k) args).run Tryz.prog w' = .ok (.enter (pQ k) args) w'
  puts : ∀ g v Ad n c A w, Blk w g 92 (rqA (rq0 k) v) → RdS Ub8 A w v [] → RdS FdR A w (.slice Ad n c) (fldsQ r k) → (∀ j, A j → j ≠ g ∧ j < w.heap.size) → Calls Tryz.prog (pQ k) #[.pointer (some ⟨g, 0, none⟩), .slice Ad n c] w (PuP g A (ownQ r k) w)
theorem pen_Pty (args : Array Value) (w : World) : (callFunc 45 args).run Tryz.prog w = .ok (.enter 45 args) w := by kernel_rfl
theorem pen_Env (args : Array Value) (w : World) : (callFunc 48 args).run Tryz.prog w = .ok (.enter 48 args) w := by kernel_rfl
theorem pen_None (args : Array Value) (w : World) : (callFunc 51 args).run Tryz.prog w = .ok (.enter 51 args) w := by kernel_rfl
theorem pen_Text (args : Array Value) (w : World) : (callFunc 54 args).run Tryz.prog w = .ok (.enter 54 args) w := by kernel_rfl
theorem pen_Size (args : Array Value) (w : World) : (callFunc 58 args).run Tryz.prog w = .ok (.enter 58 args) w := by kernel_rfl
theorem pen_On (args : Array Value) (w : World) : (callFunc 60 args).run Tryz.prog w = .ok (.enter 60 args) w := by kernel_rfl
theorem pen_Code (args : Array Value) (w : World) : (callFunc 62 args).run Tryz.prog w = .ok (.enter 62 args) w := by kernel_rfl
theorem pen_Death (args : Array Value) (w : World) : (callFunc 64 args).run Tryz.prog w = .ok (.enter 64 args) w := by kernel_rfl
theorem rds_len {D : Type} {e : Rep D} {A : Nat → Prop} {w : World} {Ad : Option Addr} {n c : Nat} {fs : List D} (h : RdS e A w (.slice Ad n c) fs) : n = fs.length := by
  obtain ⟨_, _, hv, _⟩ := h.1.shape
  simp only [Value.slice.injEq] at hv
  exact hv.2.1
theorem putsQ (r : Rq) (k : Nat) (h1 : 1 ≤ k) (h10 : k ≤ 10) : PutsQ r k := by
  rcases k with _ | _ | _ | _ | _ | _ | _ | _ | _ | _ | _ | k
  · omega
  · refine ⟨pen_Pty, fun g v Ad n c A w h hv hl hA => ?_⟩
    have h9 := qputPty g (rq0 1) v Ad n c _ ⟨4, 0, bsL r.tx⟩ ⟨3, r.c1, []⟩ ⟨3, r.c2, []⟩ ⟨3, r.c3, []⟩ ⟨3, r.c4, []⟩ ⟨4, 0, r.mo⟩ A w h hv hl rfl hA
    simp only [str_back] at h9
    exact h9
  · refine ⟨pen_Env, fun g v Ad n c A w h hv hl hA => ?_⟩
    have h9 := qputEnv g (rq0 2) v Ad n c _ ⟨4, 0, bsL r.tx⟩ ⟨4, 0, bsL r.vl⟩ A w h hv hl rfl rfl (by rw [rds_len hl]; show 0 < 2; omega) hA
    simp only [str_back] at h9
    exact h9
  · exact ⟨pen_None, fun g v Ad n c A w h hv _ _ => qputNone g (rq0 3) v _ A w h hv⟩
  · refine ⟨pen_Text, fun g v Ad n c A w h hv hl hA => ?_⟩
    have h9 := qputText g (rq0 4) v Ad n c _ ⟨4, 0, bsL r.tx⟩ A w h hv hl rfl (by rw [rds_len hl]; show 0 < 1; omega) hA
    simp only [str_back] at h9
    exact h9
  · refine ⟨pen_Text, fun g v Ad n c A w h hv hl hA => ?_⟩
    have h9 := qputText g (rq0 5) v Ad n c _ ⟨4, 0, bsL r.tx⟩ A w h hv hl rfl (by rw [rds_len hl]; show 0 < 1; omega) hA
    simp only [str_back] at h9
    exact h9
  · exact ⟨pen_Size, fun g v Ad n c A w h hv hl hA => qputSize g (rq0 6) v Ad n c _ ⟨3, r.c1, []⟩ ⟨3, r.c2, []⟩ ⟨3, r.c3, []⟩ ⟨3, r.c4, []⟩ A w h hv hl rfl rfl rfl rfl hA⟩
  · refine ⟨pen_On, fun g v Ad n c A w h hv hl hA => ?_⟩
    have h9 := qputOn g (rq0 7) v Ad n c _ ⟨2, if r.on = true then 1 else 0, []⟩ A w h hv hl rfl (by rw [rds_len hl]; show 0 < 1; omega) hA
    simp only [flagI] at h9
    exact h9
  · refine ⟨pen_Text, fun g v Ad n c A w h hv hl hA => ?_⟩
    have h9 := qputText g (rq0 8) v Ad n c _ ⟨4, 0, bsL r.tx⟩ A w h hv hl rfl (by rw [rds_len hl]; show 0 < 1; omega) hA
    simp only [str_back] at h9
    exact h9
  · exact ⟨pen_Code, fun g v Ad n c A w h hv hl hA => qputCode g (rq0 9) v Ad n c _ ⟨3, r.co, []⟩ A w h hv hl rfl (by rw [rds_len hl]; show 0 < 1; omega) hA⟩
  · refine ⟨pen_Death, fun g v Ad n c A w h hv hl hA => ?_⟩
    have h9 := qputDeath g (rq0 10) v Ad n c _ ⟨4, 0, bsL r.tx⟩ ⟨2, if r.on = true then 1 else 0, []⟩ ⟨4, 0, bsL r.vl⟩ ⟨4, 0, bsL r.la⟩ A w h hv hl rfl rfl rfl rfl hA
    simp only [str_back, flagI] at h9
    exact h9
  · omega
end Go.Proofs.YtldijmappinngaaGreatDoor
