/- One mode put behind a stream; by contract. Conditions: the stream is a row of the call's own in a box, the opcode is a byte, the number has 32 bits. -/
import Derived.Test.YtpngnmokagbekaaR08
namespace Go.Proofs.Ytpngnmokagbekaa
open Go.RowKit Go.Kb

/-- a number's four bytes -/
def fourL (n : Int) : List Int := [n / 16777216, n / 65536 % 256, n / 256 % 256, n % 256]
def fiveL (op n : Int) : List Int := op :: fourL n
/-- all is as it was but rows of one type, and one block -/
def KeepB (e : TypeId) (B : Nat) (w w' : World) : Prop := ∀ (g : Nat) (o : Obj), (∀ cs fr, o ≠ .cells cs e fr) → g ≠ B → w.heap[g]? = some o → w'.heap[g]? = some o
theorem own_obj_ne {w : World} {base g : Nat} {e : TypeId} {size n : Nat} {v : Value} {xs : List Value} {o : Obj} (h : w.ownsRow base e size v n xs) (hg : w.heap[g]? = some o) (hne : ∀ cs fr, o ≠ .cells cs e fr) : v.ownBlock ≠ some g := by
  rcases h.2 with ⟨rfl, _⟩ | ⟨g', cap, cur, rfl, _, hh, _⟩
  · simp [Value.ownBlock]
  · intro he
    have : g' = g := by simpa [Value.ownBlock] using he
    subst this
    rw [hg] at hh
    exact hne _ _ (Option.some.inj hh)
theorem OwnS.keepB {D : Type} {e : Rep D} {T : TypeId} {base : Nat} {S : Nat → Prop} {w w' : World} {v : Value} {ds : List D} (B : Nat) (h : OwnS e T base S w v ds) (M : Mod (fun k => v.ownBlock = some k) w w') : KeepB T B w w' := by
  obtain ⟨us, ho, _⟩ := h
  exact fun g o hne _ hg => (M.block g (Array.getElem?_eq_some_iff.1 hg).1 (own_obj_ne ho hg hne)).trans hg
theorem KeepB.trans {e : TypeId} {B : Nat} {a b c : World} (h : KeepB e B a b) (k : KeepB e B b c) : KeepB e B a c := fun g o h1 h2 h3 => k g o h1 h2 (h g o h1 h2 h3)
theorem KeepB.of_ext {e : TypeId} {B : Nat} {a b : World} (h : Ext a b) : KeepB e B a b := fun g _ _ _ hg => (h.block g (Array.getElem?_eq_some_iff.1 hg).1).trans hg
theorem KeepB.set_ (e : TypeId) (B i : Nat) (w : World) (u : Value) : KeepB e B w (w.setCell ⟨B, i, none⟩ u) := fun g _ _ h2 hg => (Below.heap_setCell w ⟨B, i, none⟩ u g h2).trans hg
theorem KeepB.blk {e t : TypeId} {B g : Nat} {w w' : World} {cs : Array Value} (h : KeepB e B w w') (hb : Blk w g t cs) (hne : t ≠ e) (hg : g ≠ B) : Blk w' g t cs :=
  h g _ (fun cs' fr e' => hne (by cases e'; rfl)) hg hb
theorem put_nums {n : Int} (hn : 0 ≤ n ∧ n < 4294967296) : n / 16777216 % 256 = n / 16777216 := by omega
set_option maxRecDepth 100000 in
set_option maxHeartbeats 800000 in
theorem put_any (op n : Int) (B base : Nat) (v : Value) (l : List Int) (w : World) (ho : 0 ≤ op ∧ op ≤ 255) (hn : 0 ≤ n ∧ n < 4294967296) (hB : Blk w B 22 #[v]) (hO : OwnS Ub 5 base (fun _ => False) w v l)
    (hbB : base ≤ B) (hl : l.length ≤ 100000) :
    Calls Try.prog 35 #[.int .i64 op, .int .u32 n, .pointer (some ⟨B, 0, none⟩)] w fun e w' => (∃ u, e = .returned u) ∧ ∃ v', Blk w' B 22 #[v'] ∧ OwnS Ub 5 base (fun _ => False) w' v' (l ++ fiveL op n) ∧ Below base w w' ∧
      KeepB 5 B w w' := by
  obtain ⟨Ad, c, rfl, hc1, hc2⟩ := hO.shape
  have hv := hB.cell0
  have hf := hB.frozen 0
  have HO := Lib.hid hO
  have HB := Lib.hid hB
  clear hO hB
  go_enter Try.func35, Try.ntmps35
  have hbw := HB.out.lt
  have hlit : RI .u8 (w.alloc (.cells #[.int .u8 op, .int .u8 (n / 16777216), .int .u8 (n / 65536 % 256), .int .u8 (n / 256 % 256), .int .u8 (n % 256)] 5)) (.slice (some ⟨w.heap.size, 0, none⟩) 5 5) (fiveL op n) := RI.lit .u8 (fiveL op n) _ rfl (by simp [fiveL, fourL])
  have hl5 : (fiveL op n).length = 5 := rfl
  have HLIT := Lib.hid hlit
  have HL5 := Lib.hid hl5
  generalize hfv : fiveL op n = fv at *
  clear hlit hl5 hfv
  go_wp2_with (at_builtin; go_loud (refine wpList_app (e := Ub) (base := base) (B := fun _ => False) (A := fun _ => False) rfl _ (.tmp 19) rfl Try.underlying22 info_u8 rfl (HO.out.alloc _) rfl (RI.y HLIT.out) rfl (fun _ _ h => h.elim) (N := l.length + 5) (by rw [HL5.out]) (by simp [maxLen]; omega) (by omega) (by simp; omega) ?_; intro A5 c5 w5 o5 M5 B5; have hB5 := Lib.hid (OwnS.blk (HO.out.alloc _) M5 (HB.out.alloc _) (by decide)); have hv5 := hB5.out.cell0; have hf5 := hB5.out.frozen 0))
  go_end0
  refine ⟨⟨_, rfl⟩, .slice A5 (l.length + 5) c5, hB5.out.set_ 0 _, ?_, ?_, ?_⟩
  · refine OwnS.mod (S := fun k => k = B) o5 (Mod.set1 (Mod.refl _ _) _) (fun k hk hkB => ?_) (fun k _ hk _ => hk)
    subst hkB
    obtain ⟨us, ho, _⟩ := o5
    exact own_blk_ne ho hB5.out (by decide) hk
  · exact Below.setCell (Below.trans ((Below.refl _ _).alloc (by omega) _) B5) hbB _
  · exact ((KeepB.of_ext ((Ext.refl w).alloc _)).trans (OwnS.keepB B (HO.out.alloc _) M5)).trans (KeepB.set_ _ _ _ _ _)
end Go.Proofs.Ytpngnmokagbekaa
