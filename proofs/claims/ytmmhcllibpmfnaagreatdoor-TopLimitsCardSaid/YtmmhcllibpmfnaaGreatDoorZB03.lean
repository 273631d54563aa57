/- Parts TA28 TB28 KA28 LA28 MA28 KB28 KC28 KD28 KE28 PD04 PE04 PF04 PG04 PH04 PI04 PJ04 PK04 PL04 PM04 PN04 PO04 SJ17 SK17 PQ04 KF28. No condition. -/
import Derived.Test.YtmmhcllibpmfnaaGreatDoorZB01
import Derived.Test.YtmmhcllibpmfnaaGreatDoorZB02
import Derived.IntWalk
import Derived.Test.YtmmhcllibpmfnaaGreatDoorRows
import Derived.Deep.OwnRows
import Derived.Lib.Bytealg
import Derived.Lib.IndexBytes
namespace Go.Proofs.YtmmhcllibpmfnaaGreatDoor.Tb
open Go.RowKit Go.Kb
/-- a process -/
structure Pr where
 (pid parent group session state prog pc pending mask : Int)
 acts : List Int
 status : Int
 told : Bool
deriving DecidableEq
def Pr.cells (p : Pr) : List Value :=
 [.int .i64 p.pid, .int .i64 p.parent, .int .i64 p.group, .int .i64 p.session, .int .i64 p.state, .int .i64 p.prog, .int .i64 p.pc, .int .u64 p.pending, .int .u64 p.mask] ++ (p.acts.map (Value.int .i64) ++ [.int .i64 p.status, .bool p.told])
def Pr.ok (p : Pr) : Prop := p.acts.length = 32
theorem Pr.len {p : Pr} (h : p.ok) : p.cells.length = 43 := by
 unfold Pr.ok at h
 simp [Pr.cells, h]
def Rp : Rep Pr where
 size := 43
 pos := by decide
 rel := fun _ _ cs d => cs = d.cells ∧ d.ok
 len := fun h => by rw [h.1]; exact Pr.len h.2
 one := fun h u hu => by
   rw [h.1] at hu
   simp only [Pr.cells, List.mem_append, List.mem_cons, List.not_mem_nil, or_false, List.mem_map] at hu
   rcases hu with hu | ⟨x, _, rfl⟩ | hu | hu
   · rcases hu with rfl | rfl | rfl | rfl | rfl | rfl | rfl | rfl | rfl <;> rfl
   · rfl
   · rw [hu]; rfl
   · rw [hu]; rfl
 keep := fun h _ => h
/-- a process, whole -/
def Pr.arr (p : Pr) : Array Value := p.cells.toArray
theorem Pr.size {p : Pr} (h : p.ok) : p.arr.size = 43 := by unfold Pr.arr; simp [Pr.len h]
/-- its cells, wherever they lie -/
structure PrAt (w : World) (b o : Nat) (p : Pr) : Prop where
 c0 : w.cell? ⟨b, o, none⟩ = some (.int .i64 p.pid)
 c1 : w.cell? ⟨b, o + 1, none⟩ = some (.int .i64 p.parent)
 c2 : w.cell? ⟨b, o + 2, none⟩ = some (.int .i64 p.group)
 c3 : w.cell? ⟨b, o + 3, none⟩ = some (.int .i64 p.session)
 c4 : w.cell? ⟨b, o + 4, none⟩ = some (.int .i64 p.state)
 c5 : w.cell? ⟨b, o + 5, none⟩ = some (.int .i64 p.prog)
 c6 : w.cell? ⟨b, o + 6, none⟩ = some (.int .i64 p.pc)
 c7 : w.cell? ⟨b, o + 7, none⟩ = some (.int .u64 p.pending)
 c8 : w.cell? ⟨b, o + 8, none⟩ = some (.int .u64 p.mask)
 ca : ∀ (i : Nat) x, p.acts[i]? = some x → w.cell? ⟨b, o + 9 + i, none⟩ = some (.int .i64 x)
 c41 : w.cell? ⟨b, o + 41, none⟩ = some (.int .i64 p.status)
 c42 : w.cell? ⟨b, o + 42, none⟩ = some (.bool p.told)
theorem prAt_of {w : World} {b o : Nat} {p : Pr} (hp : p.ok) (h : ∀ i u, p.cells[i]? = some u → w.cell? ⟨b, o + i, none⟩ = some u) : PrAt w b o p := by
 unfold Pr.ok at hp
 have hb : ∀ i u, (p.acts.map (Value.int .i64) ++ [.int .i64 p.status, .bool p.told])[i]? = some u → w.cell? ⟨b, o + 9 + i, none⟩ = some u := fun i u hu => by
   rw [Nat.add_assoc]
   refine h (9 + i) u ?_
   unfold Pr.cells
   rw [List.getElem?_append_right (by simp)]
   simpa using hu
 refine ⟨h 0 _ rfl, h 1 _ rfl, h 2 _ rfl, h 3 _ rfl, h 4 _ rfl, h 5 _ rfl, h 6 _ rfl, h 7 _ rfl, h 8 _ rfl, fun i x hx => hb i _ ?_, ?_, ?_⟩
 · have hlt := (List.getElem?_eq_some_iff.1 hx).1
   rw [List.getElem?_append_left (by simpa using hlt), List.getElem?_map, hx]; rfl
 · have := hb 32 (.int .i64 p.status) (by rw [List.getElem?_append_right (by simp [hp])]; simp [hp])
   simpa [Nat.add_assoc] using this
 · have := hb 33 (.bool p.told) (by rw [List.getElem?_append_right (by simp [hp])]; simp [hp])
   simpa [Nat.add_assoc] using this
/-- a block that is one process -/
theorem prAt_blk {w : World} {g : Nat} {t : TypeId} {p : Pr} (hp : p.ok) (h : Blk w g t p.arr) : PrAt w g 0 p := prAt_of hp fun i u hu => by
 rw [Nat.zero_add, h.cell i]
 unfold Pr.arr
 simpa using hu
/-- one process of a slice -/
theorem pr_at {A : Nat → Prop} {w : World} {Ad : Option Addr} {n c : Nat} {ds : List Pr} (h : RdY Rp A w (.slice Ad n c) ds) {j : Nat} (hj : j < n) :
   ∃ b off p, Ad = some ⟨b, off, none⟩ ∧ Hid (ds[j]? = some p) ∧ p.ok ∧ Hid (∀ i u, p.cells[i]? = some u → w.cell? ⟨b, off + j * 43 + i, none⟩ = some u) := by
 obtain ⟨Ad', c', hv, _⟩ := h.shape
 simp only [Value.slice.injEq] at hv
 obtain ⟨rfl, rfl, rfl⟩ := hv
 obtain ⟨b, off, c, d, cs, hv, hd, hr, hl, hc⟩ := h.cells hj
 simp only [Value.slice.injEq] at hv
 obtain ⟨rfl, hok⟩ := hr.out
 exact ⟨b, off, d, hv.1, hd, hok, hc⟩
end Go.Proofs.YtmmhcllibpmfnaaGreatDoor.Tb
namespace Go.Proofs.YtmmhcllibpmfnaaGreatDoor.Tb
open Go.RowKit Go.Kb
/-- a function value that asks something of a process -/
def Asks (k : Nat) (bs fs : Array Value) (f : Pr → Bool) (w : World) : Prop :=
 (∀ args w', (callFunc k args).run Tryz.prog w' = .ok (.enter k args) w') ∧ ∀ p w', p.ok → Ext w w' → Calls Tryz.prog k (bs.push (.agg p.cells.toArray) ++ fs) w' fun e w'' => e = .returned (.bool (f p)) ∧ Ext w' w''
theorem Asks.ext {k : Nat} {bs fs : Array Value} {f : Pr → Bool} {w w' : World} (h : Asks k bs fs f w) (hE : Ext w w') : Asks k bs fs f w' := ⟨h.1, fun p w2 hp h2 => h.2 p w2 hp (hE.trans h2)⟩
theorem i43 : (Tryz.prog.info? 234).map (·.size) = some 43 := by kernel_rfl
theorem i43' {p : Pr} (h : p.ok) : (Tryz.prog.info? 234).map (·.size) = some p.cells.length := by rw [Pr.len h]; exact i43
def idxL (f : Pr → Bool) (l : List Pr) : Int := match l.findIdx? f with | some i => i | none => -1
theorem idx_none {f : Pr → Bool} {l : List Pr} (h : ∀ p ∈ l, f p = false) : idxL f l = -1 := by
 unfold idxL
 rw [List.findIdx?_eq_none_iff.2 h]
theorem idx_some {f : Pr → Bool} {l : List Pr} {m : Nat} {p : Pr} (hp : l[m]? = some p) (h : ∀ q ∈ l.take m, f q = false) (hf : f p = true) : idxL f l = m := by
 unfold idxL
 have : l.findIdx? f = some m := by
   rw [List.findIdx?_eq_some_iff_getElem]
   obtain ⟨hlt, rfl⟩ := List.getElem?_eq_some_iff.1 hp
   refine ⟨hlt, hf, fun j hj => ?_⟩
   have := h (l[j]'(by omega)) (by rw [List.mem_take_iff_getElem]; exact ⟨j, by omega, rfl⟩)
   simp [this]
 rw [this]
set_option maxRecDepth 100000 in
set_option maxHeartbeats 800000 in
theorem index_any {A : Nat → Prop} (k : Nat) (bs fs : Array Value) (f : Pr → Bool) (v : Value) (l : List Pr) (w : World) (h : RdY Rp A w v l) (hf : Asks k bs fs f w) :
   Calls Tryz.prog 399 #[v, .func (.func k) bs fs] w fun e w' => e = .returned (.int .i64 (idxL f l)) ∧ Ext w w' := by
 obtain ⟨Ad, c, rfl, hc1, hc2⟩ := h.shape
 have H := Lib.hid (h.mono (B := fun _ => True) fun _ _ _ => trivial)
 have HF := Lib.hid hf
 obtain ⟨n, hn⟩ : ∃ n, l.length = n := ⟨_, rfl⟩
 rw [hn] at H hc1 ⊢
 have HN := Lib.hid hn
 clear h hf hn
 go_enter Tryz.func399, Tryz.ntmps399
 go_wp2
 go_loopw [8] (fun i wr => ∃ m : Nat, m ≤ n ∧ i = .int .i64 m ∧ Hid (∀ p ∈ l.take m, f p = false) ∧ Ext w wr) (fun i _ => n - (intOf i).toNat)
 case atStart => exact ⟨0, Nat.zero_le _, rfl, Lib.hid (by simp), zX⟩
 case round =>
   obtain ⟨m, hm, rfl, HD, hE⟩ := hrel
   by_cases hlt : m < n
   · obtain ⟨b, off, p, rfl, hd, hok, hcell⟩ := pr_at (H.out.ext hE) hlt
     have HA := Lib.hid (HF.out.2 p wr hok hE)
     have HK := HF.out.1
     have hx := hd.out
     cases hp : f p
     · have HP := Lib.hid hp
       clear hp hx
       go_wp2_with (first
         | (refine wpList_load_mid rfl 234 _ rfl b (off + m * 43) rfl p.cells _ hcell.out Tryz.underlying234 rfl (i43' hok) ?_)
         | (refine HA.out.mono ?_; rintro e w2 ⟨rfl, E2⟩; rw [HP.out]))
       go_roundw
       case rel => exact ⟨m + 1, by omega, by go_num, Lib.hid (by
         rw [List.take_add_one, hd.out]
         intro q hq
         rcases List.mem_append.1 hq with h | h
         · exact HD.out q h
         · simp at h; rw [h]; exact HP.out), zX⟩
       case measure => simp [intOf]; omega
     · have HP := Lib.hid hp
       clear hp hx
       go_wp2_with (first
         | (refine wpList_load_mid rfl 234 _ rfl b (off + m * 43) rfl p.cells _ hcell.out Tryz.underlying234 rfl (i43' hok) ?_)
         | (refine HA.out.mono ?_; rintro e w2 ⟨rfl, E2⟩; rw [HP.out]))
       go_ret
       exact ⟨by rw [idx_some hd.out HD.out HP.out]; rfl, zX⟩
   · go_wp2
     go_ret
     obtain rfl : m = l.length := by have := HN.out; omega
     have := HD.out
     rw [List.take_length] at this
     exact ⟨by rw [idx_none this]; rfl, zX⟩
end Go.Proofs.YtmmhcllibpmfnaaGreatDoor.Tb
namespace Go.Proofs.YtmmhcllibpmfnaaGreatDoor.Tb
open Go.RowKit Go.Kb
theorem pr_new (w : World) (t : TypeId) {p : Pr} (h : p.ok) : PrAt (w.alloc (.cells p.cells.toArray t)) w.heap.size 0 p := prAt_blk h (Blk.new w t p.arr)
theorem enters_is (args : Array Value) (w : World) : (callFunc 401 args).run Tryz.prog w = .ok (.enter 401 args) w := by kernel_rfl
set_option maxHeartbeats 400000 in
theorem is1_any (pid : Int) (n : Nat) (p : Pr) (w : World) (hp : p.ok) (h : Blk w n 3 #[.int .i64 pid]) :
   Calls Tryz.prog 401 #[.agg p.cells.toArray, .pointer (some ⟨n, 0, none⟩)] w fun e w' => e = .returned (.bool (p.pid == pid)) ∧ Ext w w' := by
 have c0 := (pr_new w 234 hp).c0
 have c1 := (h.alloc (.cells p.cells.toArray 234)).cell0
 generalize p.cells.toArray = cs at c0 c1 ⊢
 clear hp h
 go_enter Tryz.func401, Tryz.ntmps401
 go_wp2
 go_ret
 exact ⟨rfl, zX⟩
theorem asks_is {pid : Int} {n : Nat} {w : World} (h : Blk w n 3 #[.int .i64 pid]) : Asks 401 #[] #[.pointer (some ⟨n, 0, none⟩)] (fun p => p.pid == pid) w :=
 ⟨enters_is, fun p w' hp hE => is1_any pid n p w' hp (h.ext hE)⟩
set_option maxHeartbeats 400000 in
theorem is_any (pid : Int) (w : World) : Calls Tryz.prog 380 #[.int .i64 pid] w fun e w' => ∃ n, e = .returned (.func (.func 401) #[] #[.pointer (some ⟨n, 0, none⟩)]) ∧ Asks 401 #[] #[.pointer (some ⟨n, 0, none⟩)] (fun p => p.pid == pid) w' ∧ Ext w w' := by
 go_enter Tryz.func380, Tryz.ntmps380
 go_wp2
 go_ret
 exact ⟨_, rfl, asks_is (Blk.new _ _ _), zX⟩
/-- a process that is no zombie -/
def liveP (p : Pr) : Bool := p.state != 3
theorem enters_lives (args : Array Value) (w : World) : (callFunc 376 args).run Tryz.prog w = .ok (.enter 376 args) w := by kernel_rfl
set_option maxHeartbeats 400000 in
theorem lives_any (p : Pr) (w : World) (hp : p.ok) :
   Calls Tryz.prog 376 #[.agg p.cells.toArray] w fun e w' => e = .returned (.bool (liveP p)) ∧ Ext w w' := by
 have c4 := (pr_new w 234 hp).c4
 unfold liveP
 generalize p.cells.toArray = cs at c4 ⊢
 clear hp
 go_enter Tryz.func376, Tryz.ntmps376
 go_wp2
 go_ret
 exact ⟨rfl, zX⟩
theorem asks_lives (w : World) : Asks 376 #[] #[] liveP w := ⟨enters_lives, fun p w' hp _ => lives_any p w' hp⟩
end Go.Proofs.YtmmhcllibpmfnaaGreatDoor.Tb
namespace Go.Proofs.YtmmhcllibpmfnaaGreatDoor.Tb
open Go.RowKit Go.Kb
theorem enters_all (args : Array Value) (w : World) : (callFunc 400 args).run Tryz.prog w = .ok (.enter 400 args) w := by kernel_rfl
/-- two tests in memory -/
structure Two2 (w : World) (n : Nat) (k1 : Nat) (b1 f1 : Array Value) (k2 : Nat) (b2 f2 : Array Value) : Prop where
 at_ : ∃ b, Blk w n 475 #[.slice (some ⟨b, 0, none⟩) 2 2] ∧ Blk w b 455 #[.func (.func k1) b1 f1, .func (.func k2) b2 f2]
set_option maxRecDepth 100000 in
set_option maxHeartbeats 800000 in
theorem all1_any {k1 k2 : Nat} {b1 f1 b2 f2 : Array Value} {t1 t2 : Pr → Bool} (n : Nat) (p : Pr) (w : World) (hp : p.ok) (h : Two2 w n k1 b1 f1 k2 b2 f2) (h1 : Asks k1 b1 f1 t1 w) (h2 : Asks k2 b2 f2 t2 w) :
   Calls Tryz.prog 400 #[.agg p.cells.toArray, .pointer (some ⟨n, 0, none⟩)] w fun e w' => e = .returned (.bool (t1 p && t2 p)) ∧ Ext w w' := by
 obtain ⟨b, hn, hb⟩ := h
 have e1 := h1.1
 have e2 := h2.1
 have H1 := Lib.hid fun w' hE => h1.2 p w' hp hE
 have H2 := Lib.hid fun w' hE => h2.2 p w' hp hE
 have hi : (Tryz.prog.info? 234).map (·.size) = some p.cells.toArray.size := by rw [List.size_toArray]; exact i43' hp
 have hT := Lib.hid (Blk.new w 234 p.cells.toArray)
 have n0 := fun o => (hn.alloc o).cell0
 have HB := Lib.hid hb
 generalize p.cells.toArray = cs at H1 H2 hi hT ⊢
 generalize t1 p = r1 at H1 ⊢
 generalize t2 p = r2 at H2 ⊢
 clear h1 h2 hn hb hp
 go_enter Tryz.func400, Tryz.ntmps400
 go_wp2
 go_loopw [8] (fun i wr => ∃ m : Nat, m ≤ 2 ∧ i = .int .i64 m ∧ Hid (m = 0 ∨ r1 = true) ∧ Hid (m ≤ 1 ∨ r2 = true) ∧ Hid (Blk wr w.heap.size 234 cs) ∧ Ext w wr) (fun i _ => 2 - (intOf i).toNat)
 case atStart => exact ⟨0, by omega, rfl, Lib.hid (.inl rfl), Lib.hid (.inl (by omega)), hT, zX⟩
 case round =>
   obtain ⟨m, hm, rfl, hr1, hr2, hT, hE⟩ := hrel
   have hb0 := (HB.out.ext hE).cell 0
   have hb1 := (HB.out.ext hE).cell 1
   by_cases hlt : m < 2
   · obtain rfl | rfl : m = 0 ∨ m = 1 := by omega
     · have hb0 : wr.cell? ⟨b, 0, none⟩ = some (.func (.func k1) b1 f1) := hb0
       cases r1
       · go_wp2_with (first | (refine wpList_load_row rfl 234 _ rfl _ rfl 234 _ _ _ hT.out Tryz.underlying234 rfl hi ?_) | (refine (H1.out _ zX).mono ?_; rintro e w2 ⟨rfl, E2⟩))
         go_ret
         exact ⟨rfl, zX⟩
       · go_wp2_with (first | (refine wpList_load_row rfl 234 _ rfl _ rfl 234 _ _ _ hT.out Tryz.underlying234 rfl hi ?_) | (refine (H1.out _ zX).mono ?_; rintro e w2 ⟨rfl, E2⟩))
         go_roundw
         case rel => exact ⟨1, by omega, by go_num, Lib.hid (.inr (by simp)), Lib.hid (.inl (by omega)), Lib.hid (hT.out.ext zX), zX⟩
         case measure => simp [intOf]
     · have hb1 : wr.cell? ⟨b, 1, none⟩ = some (.func (.func k2) b2 f2) := hb1
       obtain rfl : r1 = true := hr1.out.resolve_left (by omega)
       cases r2
       · go_wp2_with (first | (refine wpList_load_row rfl 234 _ rfl _ rfl 234 _ _ _ hT.out Tryz.underlying234 rfl hi ?_) | (refine (H2.out _ zX).mono ?_; rintro e w2 ⟨rfl, E2⟩))
         go_ret
         exact ⟨rfl, zX⟩
       · go_wp2_with (first | (refine wpList_load_row rfl 234 _ rfl _ rfl 234 _ _ _ hT.out Tryz.underlying234 rfl hi ?_) | (refine (H2.out _ zX).mono ?_; rintro e w2 ⟨rfl, E2⟩))
         go_roundw
         case rel => exact ⟨2, by omega, by go_num, Lib.hid (.inr (by simp)), Lib.hid (.inr (by simp)), Lib.hid (hT.out.ext zX), zX⟩
         case measure => simp [intOf]
   · obtain rfl : r1 = true := hr1.out.resolve_left (by omega)
     obtain rfl : r2 = true := hr2.out.resolve_left (by omega)
     go_wp2
     go_ret
     exact ⟨rfl, zX⟩
theorem asks_all {k1 k2 : Nat} {b1 f1 b2 f2 : Array Value} {t1 t2 : Pr → Bool} {n : Nat} {w : World} (h : Two2 w n k1 b1 f1 k2 b2 f2) (h1 : Asks k1 b1 f1 t1 w) (h2 : Asks k2 b2 f2 t2 w) : Asks 400 #[] #[.pointer (some ⟨n, 0, none⟩)] (fun p => t1 p && t2 p) w :=
 ⟨enters_all, fun p w' hp hE => all1_any n p w' hp (by obtain ⟨b, x, y⟩ := h; exact ⟨b, x.ext hE, y.ext hE⟩) (h1.ext hE) (h2.ext hE)⟩
set_option maxHeartbeats 400000 in
theorem all_any {k1 k2 : Nat} {b1 f1 b2 f2 : Array Value} {t1 t2 : Pr → Bool} (b : Nat) (w : World) (hb : Blk w b 455 #[.func (.func k1) b1 f1, .func (.func k2) b2 f2]) (h1 : Asks k1 b1 f1 t1 w) (h2 : Asks k2 b2 f2 t2 w) :
   Calls Tryz.prog 379 #[.slice (some ⟨b, 0, none⟩) 2 2] w fun e w' => ∃ n, e = .returned (.func (.func 400) #[] #[.pointer (some ⟨n, 0, none⟩)]) ∧ Asks 400 #[] #[.pointer (some ⟨n, 0, none⟩)] (fun p => t1 p && t2 p) w' ∧ Ext w w' := by
 have HB := Lib.hid hb
 have H1 := Lib.hid h1
 have H2 := Lib.hid h2
 clear hb h1 h2
 go_enter Tryz.func379, Tryz.ntmps379
 go_wp2
 go_ret
 have E : Ext w (w.alloc (.cells #[.slice (some ⟨b, 0, none⟩) 2 2] 475)) := zX
 exact ⟨_, rfl, asks_all ⟨b, Blk.new _ _ _, HB.out.ext E⟩ (H1.out.ext E) (H2.out.ext E), E⟩
def zeroP : Pr := ⟨0, 0, 0, 0, 0, 0, 0, 0, 0, List.replicate 32 0, 0, false⟩
/-- the first process that a test holds of -/
def FindPost (f : Pr → Bool) (l : List Pr) (Ad : Option Addr) (w : World) (e : Ending) (w' : World) : Prop :=
 Ext w w' ∧ ((idxL f l = -1 ∧ ∃ n, e = .returned (.tuple #[.pointer (some ⟨n, 0, none⟩), .bool false]) ∧ w.heap.size ≤ n ∧ Blk w' n 234 zeroP.cells.toArray) ∨
   ∃ (j : Nat) (b off : Nat), idxL f l = j ∧ j < l.length ∧ Ad = some ⟨b, off, none⟩ ∧ e = .returned (.tuple #[.pointer (some ⟨b, off + j * 43, none⟩), .bool true]))
theorem idx_lt {f : Pr → Bool} {l : List Pr} : idxL f l = -1 ∨ ∃ j : Nat, idxL f l = j ∧ j < l.length := by
 unfold idxL
 cases h : l.findIdx? f with
 | none => exact .inl rfl
 | some i => exact .inr ⟨i, rfl, by have := List.findIdx?_eq_some_iff_getElem.1 h; exact this.1⟩
set_option maxRecDepth 100000 in
set_option maxHeartbeats 800000 in
theorem find_any {A : Nat → Prop} {k : Nat} {bs fs : Array Value} {f : Pr → Bool} (Ad : Option Addr) (c : Nat) (l : List Pr) (nx : Int) (w : World) (h : RdY Rp A w (.slice Ad l.length c) l) (hf : Asks k bs fs f w) :
   Calls Tryz.prog 378 #[.agg #[.slice Ad l.length c, .int .i64 nx], .func (.func k) bs fs] w (FindPost f l Ad w) := by
 have H := Lib.hid (h.mono (B := fun _ => True) fun _ _ _ => trivial)
 have HF := Lib.hid hf
 obtain ⟨_, _, hv, hc1, hc2⟩ := h.shape
 simp only [Value.slice.injEq] at hv
 obtain ⟨-, -, rfl⟩ := hv
 clear h hf
 rcases idx_lt (f := f) (l := l) with hx | ⟨j, hx, hlt⟩
 · have HX := Lib.hid hx
   clear hx
   go_enter Tryz.func378, Tryz.ntmps378
   go_wp2_with fail
   refine (index_any k bs fs f _ l _ (H.out.ext zX) (HF.out.ext zX)).mono ?_
   rintro e w1 ⟨rfl, E1⟩
   rw [HX.out]
   go_wp2
   go_ret2
   exact ⟨zX, .inl ⟨HX.out, _, rfl, by have := E1.size; simp at this; omega, Blk.at_ _ _ rfl⟩⟩
 · have HX := Lib.hid hx
   obtain ⟨b, off, p, rfl, -, -, -⟩ := pr_at H.out hlt
   have j0 : ¬ ((j : Int) < 0) := by omega
   have j1 : (0 : Int) ≤ (j : Int) := by omega
   have j2 : (j : Int) < (l.length : Int) := by omega
   clear hx
   go_enter Tryz.func378, Tryz.ntmps378
   go_wp2_with fail
   refine (index_any k bs fs f _ l _ (H.out.ext zX) (HF.out.ext zX)).mono ?_
   rintro e w1 ⟨rfl, E1⟩
   rw [HX.out]
   have B1 := Blk.ext (Blk.new w 79 #[.slice (some ⟨b, off, none⟩) l.length c, .int .i64 nx]) E1
   obtain ⟨q0, q1, _, _⟩ := B1.two
   go_wp2
   go_ret2
   exact ⟨zX, .inr ⟨j, b, off, HX.out, hlt, rfl, rfl⟩⟩
end Go.Proofs.YtmmhcllibpmfnaaGreatDoor.Tb
namespace Go.Proofs.YtmmhcllibpmfnaaGreatDoor.Tb
open Go.RowKit Go.Kb
theorem Pr.one {p : Pr} (h : p.ok) : p.cells.toArray.all (·.oneCell') = true := all_oneCell_toArray (Rp.one (A := fun _ => True) (w := (default : World)) (d := p) ⟨rfl, h⟩)
def rise (nx : Int) : Int → List Pr → Bool
 | _, [] => true
 | last, p :: r => decide (last < p.pid) && (decide (p.pid < nx) && rise nx p.pid r)
def rightL (l : List Pr) (nx : Int) : Bool := decide (1 ≤ nx) && (decide (l.length ≤ 32) && rise nx 0 l)
theorem right_len {l : List Pr} {nx : Int} (h : rightL l nx = true) : l.length ≤ 32 ∧ 1 ≤ nx := by
 simp only [rightL, Bool.and_eq_true, decide_eq_true_eq] at h
 exact ⟨h.2.1, h.1⟩
set_option maxRecDepth 100000 in
set_option maxHeartbeats 800000 in
theorem right_any {A : Nat → Prop} (Ad : Option Addr) (c : Nat) (l : List Pr) (nx : Int) (w : World) (h : RdY Rp A w (.slice Ad l.length c) l) :
   Calls Tryz.prog 348 #[.agg #[.slice Ad l.length c, .int .i64 nx]] w fun e w' => e = .returned (.bool (rightL l nx)) ∧ Ext w w' := by
 have H := Lib.hid (h.mono (B := fun _ => True) fun _ _ _ => trivial)
 obtain ⟨_, _, hv, hc1, hc2⟩ := h.shape
 simp only [Value.slice.injEq] at hv
 obtain ⟨-, -, rfl⟩ := hv
 obtain ⟨n, hn⟩ : ∃ n, l.length = n := ⟨_, rfl⟩
 have hR : rightL l nx = (decide (1 ≤ nx) && (decide (n ≤ 32) && rise nx 0 l)) := by rw [← hn]; rfl
 rw [hn] at H hc1 ⊢
 have HN := Lib.hid hn
 have HR := Lib.hid hR
 clear h hn hR
 by_cases h1 : nx < 1
 · go_enter Tryz.func348, Tryz.ntmps348
   go_wp2
   go_ret
   exact ⟨by rw [HR.out, decide_eq_false (by omega)]; rfl, zX⟩
 by_cases h2 : 32 < n
 · have h3 : (32 : Int) < n := by omega
   go_enter Tryz.func348, Tryz.ntmps348
   go_wp2
   go_ret
   exact ⟨by rw [HR.out, decide_eq_true (show 1 ≤ nx by omega), decide_eq_false (show ¬ n ≤ 32 by omega)]; rfl, zX⟩
 have h3 : ¬ ((32 : Int) < n) := by omega
 have HR2 : Hid (rightL l nx = rise nx 0 l) := Lib.hid (by rw [HR.out, decide_eq_true (show 1 ≤ nx by omega), decide_eq_true (show n ≤ 32 by omega)]; rfl)
 clear HR
 have hbox := Lib.hid (Blk.new w 79 #[.slice Ad n c, .int .i64 nx])
 go_enter Tryz.func348, Tryz.ntmps348
 go_wp2
 go_loopw [3, 18] (fun s i wr => ∃ (m : Nat) (last : Int), m ≤ n ∧ i = .int .i64 m ∧ s = .int .i64 last ∧ Hid (rise nx 0 l = rise nx last (l.drop m)) ∧ Hid (Blk wr w.heap.size 79 #[.slice Ad n c, .int .i64 nx]) ∧ Ext w wr) (fun _ i _ => n - (intOf i).toNat)
 case atStart => exact ⟨0, 0, Nat.zero_le _, rfl, rfl, Lib.hid rfl, hbox, zX⟩
 case round =>
   clear hbox
   obtain ⟨m, last, hm, rfl, rfl, HD, hbox, hE⟩ := hrel
   by_cases hlt : m < n
   · obtain ⟨b, off, p, rfl, hd, hok, hcell⟩ := pr_at (H.out.ext hE) hlt
     have hsp : l.drop m = p :: l.drop (m + 1) := by
       obtain ⟨hl, hx⟩ := List.getElem?_eq_some_iff.1 hd.out
       rw [List.drop_eq_getElem_cons hl, hx]
     have HS : Hid (rise nx last (l.drop m) = (decide (last < p.pid) && (decide (p.pid < nx) && rise nx p.pid (l.drop (m + 1))))) := Lib.hid (by rw [hsp]; rfl)
     obtain ⟨_, q1, _, _⟩ := hbox.out.two
     have hs := hE.size
     clear hsp
     by_cases k1 : p.pid ≤ last
     · go_wp2_with (first
         | (refine wpList_load_mid rfl 234 _ rfl b (off + m * 43) rfl p.cells _ hcell.out Tryz.underlying234 rfl (i43' hok) ?_)
         | ((refine wpList_store_A rfl 234 _ _ rfl wr.heap.size _ rfl rfl 234 _ (Blk.at_ _ _ (by simp)) (by rw [List.size_toArray]; exact i43' hok) (by rw [show p.cells.toArray.size = 43 from Pr.size hok]; rfl) (Pr.one hok) ?_; intro w2 Hw2 Ew2; have Ew2 := Ew2 wr.heap.size wr zX (Nat.le_refl _); have cw2 := prAt_blk hok Hw2); have c0 := cw2.c0))
       go_ret
       exact ⟨by rw [HR2.out, HD.out, HS.out, decide_eq_false (show ¬ last < p.pid by omega)]; rfl, zX⟩
     by_cases k2 : nx ≤ p.pid
     · go_wp2_with (first
         | (refine wpList_load_mid rfl 234 _ rfl b (off + m * 43) rfl p.cells _ hcell.out Tryz.underlying234 rfl (i43' hok) ?_)
         | ((refine wpList_store_A rfl 234 _ _ rfl wr.heap.size _ rfl rfl 234 _ (Blk.at_ _ _ (by simp)) (by rw [List.size_toArray]; exact i43' hok) (by rw [show p.cells.toArray.size = 43 from Pr.size hok]; rfl) (Pr.one hok) ?_; intro w2 Hw2 Ew2; have Ew2 := Ew2 wr.heap.size wr zX (Nat.le_refl _); have cw2 := prAt_blk hok Hw2); have c0 := cw2.c0; have q1 := cell_ext Ew2 q1))
       go_ret
       exact ⟨by rw [HR2.out, HD.out, HS.out, decide_eq_true (show last < p.pid by omega), decide_eq_false (show ¬ p.pid < nx by omega)]; rfl, zX⟩
     · go_wp2_with (first
         | (refine wpList_load_mid rfl 234 _ rfl b (off + m * 43) rfl p.cells _ hcell.out Tryz.underlying234 rfl (i43' hok) ?_)
         | ((refine wpList_store_A rfl 234 _ _ rfl wr.heap.size _ rfl rfl 234 _ (Blk.at_ _ _ (by simp)) (by rw [List.size_toArray]; exact i43' hok) (by rw [show p.cells.toArray.size = 43 from Pr.size hok]; rfl) (Pr.one hok) ?_; intro w2 Hw2 Ew2; have Ew2 := Ew2 wr.heap.size wr zX (Nat.le_refl _); have cw2 := prAt_blk hok Hw2); have c0 := cw2.c0; have q1 := cell_ext Ew2 q1; have hbox := Lib.hid (hbox.out.ext Ew2)))
       go_roundw
       case rel => exact ⟨m + 1, p.pid, by omega, by go_num, rfl, Lib.hid (by rw [HD.out, HS.out, decide_eq_true (show last < p.pid by omega), decide_eq_true (show p.pid < nx by omega)]; rfl), hbox, zX⟩
       case measure => simp [intOf]; omega
   · go_wp2
     go_ret
     refine ⟨?_, zX⟩
     rw [HR2.out, HD.out, List.drop_of_length_le (by have := HN.out; omega)]
     rfl
end Go.Proofs.YtmmhcllibpmfnaaGreatDoor.Tb
namespace Go.Proofs.YtmmhcllibpmfnaaGreatDoor.Tb
open Go.RowKit Go.Kb
theorem idx_any {f : Pr → Bool} {l : List Pr} : (idxL f l = -1 ∧ l.any f = false) ∨ ∃ (j : Nat) (p : Pr), idxL f l = j ∧ l[j]? = some p ∧ f p = true ∧ l.any f = true ∧ l.find? f = some p := by
 unfold idxL
 cases h : l.findIdx? f with
 | none => exact .inl ⟨rfl, by rw [List.findIdx?_eq_none_iff] at h; rw [List.any_eq_false]; intro x hx; simp [h x hx]⟩
 | some i =>
   rw [List.findIdx?_eq_some_iff_getElem] at h
   obtain ⟨hlt, hf, hm⟩ := h
   refine .inr ⟨i, l[i], rfl, List.getElem?_eq_getElem hlt, hf, List.any_eq_true.2 ⟨_, List.getElem_mem hlt, hf⟩, ?_⟩
   rw [List.find?_eq_some_iff_getElem]
   exact ⟨hf, i, hlt, rfl, fun j hj => by have := hm j hj; simpa using this⟩
/-- a table in a box -/
abbrev Tb (w : World) (n : Nat) (Ad : Option Addr) (k c : Nat) (nx : Int) : Prop := Blk w n 79 #[.slice Ad k c, .int .i64 nx]
def liveL (l : List Pr) (nx pid : Int) : Bool := rightL l nx && l.any fun p => p.pid == pid && liveP p
set_option maxRecDepth 100000 in
set_option maxHeartbeats 800000 in
theorem live_any {A : Nat → Prop} (Ad : Option Addr) (c : Nat) (l : List Pr) (nx pid : Int) (w : World) (h : RdY Rp A w (.slice Ad l.length c) l) :
   Calls Tryz.prog 351 #[.agg #[.slice Ad l.length c, .int .i64 nx], .int .i64 pid] w fun e w' => e = .returned (.bool (liveL l nx pid)) ∧ Ext w w' := by
 have H := Lib.hid (h.mono (B := fun _ => True) fun _ _ _ => trivial)
 have hbox := Lib.hid (Blk.new w 79 #[.slice Ad l.length c, .int .i64 nx])
 obtain ⟨n, hn⟩ : ∃ n, l.length = n := ⟨_, rfl⟩
 have HN := Lib.hid hn
 clear h hn
 cases hr : rightL l nx
 · have HR := Lib.hid hr
   clear hr
   go_enter Tryz.func351, Tryz.ntmps351
   go_wp2_with fail
   refine (right_any Ad c l nx _ (H.out.ext zX)).mono ?_
   rintro e w1 ⟨rfl, E1⟩
   rw [HR.out]
   go_wp2
   go_ret
   exact ⟨by unfold liveL; rw [HR.out]; rfl, zX⟩
 · have HR := Lib.hid hr
   clear hr
   go_enter Tryz.func351, Tryz.ntmps351
   go_wp2_with fail
   refine (right_any Ad c l nx _ (H.out.ext zX)).mono ?_
   rintro e w1 ⟨rfl, E1⟩
   rw [HR.out]
   have hbox := Lib.hid (hbox.out.ext E1)
   have E01 : Ext w w1 := zX
   clear E1
   go_wp2
   refine wp_region_held_drew (S := fun w' => Ext w1 w') (by kernel_rfl) (Ext.drew (Ext.refl _)) (fun hHeld => ?_)
   (refine zT 0 (v := ?_) rfl (Or.inl ⟨by rfl, ?_⟩) ?_; rotate_left; (focus (intro w' hSw; have kc := (hbox.out.ext hSw).two; go_simp; try with_reducible rfl)); (try simp only [zP]))
   (refine zR 1 rfl ?_; (try simp only [zP]))
   (refine wpAnyH_ready (rs := [2]) (by kernel_rfl) (by simp) ?_; refine AllReadyH.cons rfl (fun K hK => ?_) AllReadyH.nil; go_simp; go_at_call 380; refine (is_any pid _).mono ?_; rintro e w2 ⟨n2, rfl, F2, E2⟩; (try dsimp only); refine hK.out _ _ zX (fun hHeld => ?_); clear hK K; (try simp only [zP]))
   (refine wpAnyH_ready (rs := [3]) (by kernel_rfl) (by simp) ?_; refine AllReadyH.cons rfl (fun K hK => ?_) AllReadyH.nil; go_simp; refine hK.out _ _ zX (fun hHeld => ?_); clear hK K; (try simp only [zP]))
   (refine wpAnyH_ready (rs := [4]) (by kernel_rfl) (by simp) ?_; refine AllReadyH.cons rfl (fun K hK => ?_) AllReadyH.nil; go_simp; go_at_call 379; refine (all_any (t1 := fun p => p.pid == pid) (t2 := liveP) _ _ (Blk.at_ _ _ rfl) (F2.ext ((Ext.refl _).alloc _)) (asks_lives _)).mono ?_; rintro e w3 ⟨n3, rfl, F3, E3⟩; (try dsimp only); refine hK.out _ _ zX (fun hHeld => ?_); clear hK K; (try simp only [zP]))
   have E13 : Ext w1 w3 := by assumption
   have hfind := find_any Ad c l nx w3 (H.out.ext (E01.trans E13)) F3
   (refine wpAnyH_ready (rs := [5]) (by kernel_rfl) (by simp) ?_; refine AllReadyH.cons rfl (fun K hK => ?_) AllReadyH.nil; go_simp; go_at_call 378; refine (hfind).mono ?_; rintro e w4 ⟨E4, (⟨hx, m0, rfl, hm0, hz⟩ | ⟨j, b, off, hx, hlt, rfl, rfl⟩)⟩; all_goals ((try dsimp only); refine hK.out _ _ zX (fun hHeld => ?_); clear hK K; (try simp only [zP])))
   all_goals
     (refine zR 6 rfl ?_; (try simp only [zP]))
     (refine zR 7 rfl ?_; (try simp only [zP]))
     (refine zR 8 rfl ?_; (try simp only [zP]))
     (refine zR 9 rfl ?_; (try simp only [zP]))
     (refine zR 10 rfl ?_; (try simp only [zP]))
     refine wpAnyH_done (by kernel_rfl) ?_ _
     go_wp2
     go_ret
     refine ⟨?_, E01.trans (by assumption)⟩
     unfold liveL
     rw [HR.out]
     rcases idx_any (f := fun p => p.pid == pid && liveP p) (l := l) with ⟨h1, h2⟩ | ⟨j', p, h1, h2, h3, h4, h5⟩
     all_goals first
       | (rw [h2]; rfl)
       | (rw [h4]; rfl)
       | (rw [h1] at hx; omega)
end Go.Proofs.YtmmhcllibpmfnaaGreatDoor.Tb
namespace Go.Proofs.YtmmhcllibpmfnaaGreatDoor.Tb
open Go.RowKit Go.Kb
/- slices.Clone at one slice type: slices.Clone[[]parlour/table.Proc,parlour/table.Proc] (pr), slice type []table.Proc, element parlour/table.Proc, rep Rp -/
theorem info_pr : (Tryz.prog.info? 234).map (fun i => (i.zero, i.size, i.bytes)) = some (some (.agg zeroP.cells.toArray), (Rp).size, 344) := by kernel_rfl
set_option maxHeartbeats 400000 in
theorem clone_pr {A : Nat → Prop} (v : Value) (ds : List _) (w : World) (h : RdY Rp A w v ds) (hn : ds.length * 344 ≤ 140737488355328) :
   Calls Tryz.prog 83 #[v] w fun e w' => ∃ Ad c, e = .returned (.slice Ad ds.length c) ∧ OwnS Rp 234 w.heap.size (fun k => A k ∧ k < w.heap.size) w' (.slice Ad ds.length c) ds ∧ Ext w w' := by
 obtain ⟨us, ⟨hl, Ad, c, rfl, hnc, hcm, hA⟩, he⟩ := id h
 have H := Lib.hid h
 have HL := Lib.hid hl
 clear h hl he
 have heq := fun u => Lib.run_eql_slice_nil (P := Tryz.prog) u 77 _ Ad ds.length c 0 0 Tryz.underlying77
 rcases Ad with _ | ad
 · have h0 : ds.length = 0 ∧ c = 0 := by
     rcases hA with rfl | ⟨b, off, h0, _⟩
     · omega
     · cases h0
   obtain ⟨h1, rfl⟩ := h0
   obtain rfl : ds = [] := List.eq_nil_of_length_eq_zero h1
   clear hA HL h1
   simp only [List.length_nil] at heq ⊢
   go_enter Tryz.func83, Tryz.ntmps83
   go_wp2
   go_ret
   exact ⟨_, _, rfl, OwnS.nil _ _ _ _ _, zX⟩
 · clear hA
   go_enter Tryz.func83, Tryz.ntmps83
   go_wp2_with ((at_builtin; refine wpList_app (e := Rp) (base := w.heap.size) (B := fun k => A k ∧ k < w.heap.size) (A := fun k => A k ∧ k < w.heap.size) rfl _ _ rfl Tryz.underlying77 info_pr rfl (OwnS.empty _ _ _ rfl (Nat.le_refl _)) rfl (RdY.alloc (RdY.lt H.out) _) rfl (fun k _ hk => ⟨hk, fun h => by have := hk.2; simp [Value.ownBlock] at h; omega⟩) (N := ds.length) (by simp) (by simp [maxLen]; omega) (by omega) (by simp) ?_; intro A1 c1 w1 hown hM hB; simp only [List.nil_append] at hown))
   go_ret
   exact ⟨_, _, rfl, hown, zX⟩
theorem rdy_pr {A B : Nat → Prop} {w : World} {v : Value} {l : List Pr} (h : RdY Rp A w v l) : RdY Rp B w v l := by
 obtain ⟨us, hr, he, h2⟩ := h
 exact ⟨us, hr, he, h2⟩
/-- a table's value -/
abbrev tv (Ad : Option Addr) (n c : Nat) (nx : Int) : Value := .agg #[.slice Ad n c, .int .i64 nx]
end Go.Proofs.YtmmhcllibpmfnaaGreatDoor.Tb
namespace Go.Proofs.YtmmhcllibpmfnaaGreatDoor.Tb
open Go.RowKit Go.Kb
theorem fold_zip : ∀ (cs pre post : List Value), post.length = cs.length → List.foldl (fun (a : Array Value) (x : Value × Nat) => a.setIfInBounds x.snd x.fst) (pre ++ post).toArray (cs.zipIdx pre.length) = (pre ++ cs).toArray
 | [], pre, post, h => by
   have : post = [] := List.eq_nil_of_length_eq_zero h
   rw [this]; rfl
 | c :: cs, pre, [], h => by simp at h
 | c :: cs, pre, d :: post, h => by
   have ih := fold_zip cs (pre ++ [c]) post (by simpa using h)
   rw [List.zipIdx_cons, List.foldl_cons]
   have e : ((pre ++ d :: post).toArray.setIfInBounds pre.length c) = (pre ++ [c] ++ post).toArray := by simp
   simp only [e]
   rw [show pre.length + 1 = (pre ++ [c]).length by simp, ih]
   simp
/-- a process put together from a process's cells -/
theorem fold_pr {q : Pr} (h : q.ok) : List.foldl (fun (a : Array Value) (x : Value × Nat) => a.setIfInBounds x.snd x.fst) #[.int .i64 0, .int .i64 0, .int .i64 0, .int .i64 0, .int .i64 0, .int .i64 0, .int .i64 0, .int .u64 0, .int .u64 0, .int .i64 0, .int .i64 0, .int .i64 0, .int .i64 0, .int .i64 0, .int .i64 0, .int .i64 0, .int .i64 0, .int .i64 0, .int .i64 0, .int .i64 0, .int .i64 0, .int .i64 0, .int .i64 0, .int .i64 0, .int .i64 0, .int .i64 0, .int .i64 0, .int .i64 0, .int .i64 0, .int .i64 0, .int .i64 0, .int .i64 0, .int .i64 0, .int .i64 0, .int .i64 0, .int .i64 0, .int .i64 0, .int .i64 0, .int .i64 0, .int .i64 0, .int .i64 0, .int .i64 0, .bool false] q.cells.zipIdx = q.cells.toArray := by
 have := fold_zip q.cells [] [.int .i64 0, .int .i64 0, .int .i64 0, .int .i64 0, .int .i64 0, .int .i64 0, .int .i64 0, .int .u64 0, .int .u64 0, .int .i64 0, .int .i64 0, .int .i64 0, .int .i64 0, .int .i64 0, .int .i64 0, .int .i64 0, .int .i64 0, .int .i64 0, .int .i64 0, .int .i64 0, .int .i64 0, .int .i64 0, .int .i64 0, .int .i64 0, .int .i64 0, .int .i64 0, .int .i64 0, .int .i64 0, .int .i64 0, .int .i64 0, .int .i64 0, .int .i64 0, .int .i64 0, .int .i64 0, .int .i64 0, .int .i64 0, .int .i64 0, .int .i64 0, .int .i64 0, .int .i64 0, .int .i64 0, .int .i64 0, .bool false] (by rw [Pr.len h]; rfl)
 exact this
theorem rp_rel (A : Nat → Prop) (w : World) {q : Pr} (h : q.ok) : Rp.rel A w q.cells q := ⟨rfl, h⟩
/-- a new process's number and state -/
def Pr.newAs (p : Pr) (nx : Int) : Pr := { p with pid := nx, state := 1 }
theorem newAs_cells (p : Pr) (nx : Int) : (p.cells.set 0 (.int .i64 nx)).set 4 (.int .i64 1) = (p.newAs nx).cells := by
 simp [Pr.cells, Pr.newAs]
/-- the number behind a number -/
def nextNo (nx : Int) : Int := IntKind.i64.wrap (nx + 1)
def MorePost (l : List Pr) (nx : Int) (p : Pr) (Ad : Option Addr) (c : Nat) (w : World) (e : Ending) (w' : World) : Prop :=
 Ext w w' ∧ ((l.length = 32 ∧ e = .returned (.tuple #[tv Ad l.length c nx, .int .i64 0, .int .i64 10])) ∨
   (l.length ≠ 32 ∧ ∃ A' c', e = .returned (.tuple #[tv A' (l.length + 1) c' (nextNo nx), .int .i64 nx, .int .i64 0]) ∧
     OwnS Rp 234 w.heap.size (fun _ => False) w' (.slice A' (l.length + 1) c') (l ++ [p.newAs nx])))
set_option maxRecDepth 100000 in
set_option maxHeartbeats 800000 in
theorem more_any {A : Nat → Prop} (Ad : Option Addr) (c : Nat) (l : List Pr) (nx : Int) (p : Pr) (w : World) (h : RdY Rp A w (.slice Ad l.length c) l) (hn : l.length ≤ 100000) (hok : p.ok) :
   Calls Tryz.prog 394 #[tv Ad l.length c nx, .agg p.cells.toArray] w (MorePost l nx p Ad c w) := by
 have H := Lib.hid (rdy_pr (B := fun _ => False) h)
 clear h
 by_cases hl : l.length = 32
 · have hl2 : ((l.length : Int) = 32) := by omega
   have k4 := (prAt_blk hok (Blk.new w 234 p.arr)).c0
   go_enter Tryz.func394, Tryz.ntmps394
   go_wp2
   refine bodyPost_ret (v := .tuple #[tv Ad 32 c nx, .int .i64 0, .int .i64 10]) (by simp [results, Tryz.results394, go_sem]) rfl ?_
   exact ⟨zX, .inl ⟨hl, by rw [hl]⟩⟩
 · have hl2 : ((l.length : Int) = 32) = False := by simp; omega
   have k4 : (w.alloc (.cells #[.slice Ad l.length c, .int .i64 nx] 79)).heap.size = w.heap.size + 1 := by simp
   have c0 := (pr_new (w.alloc (.cells #[.slice Ad l.length c, .int .i64 nx] 79)) 234 hok).c0
   have c4 := (pr_new (w.alloc (.cells #[.slice Ad l.length c, .int .i64 nx] 79)) 234 hok).c4
   go_enter Tryz.func394, Tryz.ntmps394
   go_wp2
   rw [newAs_cells]
   clear c0 c4 k4
   obtain ⟨q, hq⟩ : ∃ q, q = p.newAs nx := ⟨_, rfl⟩
   have hqk : q.ok := by rw [hq]; exact hok
   have HQ := Lib.hid hq
   have hq3 := Pr.len hqk
   have hq4 := fold_pr hqk
   have hq0 := Lib.hid (show q.pid = nx by rw [hq]; rfl)
   rw [← hq]
   clear hq
   have hbox := Lib.hid (Blk.new w 79 #[.slice Ad l.length c, .int .i64 nx])
   have hp := Lib.hid (Blk.at_ (w := w.alloc (.cells #[.slice Ad l.length c, .int .i64 nx] 79)) (B := w.heap.size + 1) 234 q.cells.toArray (by simp))
   have hres := Lib.hid (Blk.at_ (w := (w.alloc (.cells #[.slice Ad l.length c, .int .i64 nx] 79)).alloc (.cells q.cells.toArray 234)) (B := w.heap.size + 1 + 1) 79 #[.slice none 0 0, .int .i64 0] (by simp))
   obtain ⟨W, hW⟩ : ∃ W, W = ((w.alloc (.cells #[.slice Ad l.length c, .int .i64 nx] 79)).alloc (.cells q.cells.toArray 234)).alloc (.cells #[.slice none 0 0, .int .i64 0] 79) := ⟨_, rfl⟩
   have E0 : Ext w W := by rw [hW]; exact zX
   have hbox := Lib.hid ((hbox.out.alloc (.cells q.cells.toArray 234)).alloc (.cells #[.slice none 0 0, .int .i64 0] 79))
   have hp := Lib.hid (hp.out.alloc (.cells #[.slice none 0 0, .int .i64 0] 79))
   have hsz := Lib.hid (show W.heap.size = w.heap.size + 3 by rw [hW]; simp)
   rw [← hW] at hbox hres hp ⊢
   clear hW
   refine region_till 10 (fun w' => Ext W w') (by kernel_rfl) (Ext.drew (Ext.refl _)) (fun hHeld => ?_)
   (refine till_take (i := 0) (v := ?_) rfl (by kernel_rfl) (by kernel_rfl) (by kernel_rfl) (by kernel_rfl) (fun _ _ _ h => h) (Or.inl ⟨by rfl, ?_⟩) (by assumption) ?_; rotate_left; (focus (intro w' hSw; go_simp; try with_reducible rfl)); (try simp only [zP]))
   (refine till_take (i := 1) (v := ?_) rfl (by kernel_rfl) (by kernel_rfl) (by kernel_rfl) (by kernel_rfl) (fun _ _ _ h => h) (Or.inl ⟨by rfl, ?_⟩) (by assumption) ?_; rotate_left; (focus (intro w' hSw; have kc := (hbox.out.ext hSw).two; go_simp; try with_reducible rfl)); (try simp only [zP]))
   (refine till_take (i := 3) (v := .agg q.cells.toArray) rfl (by kernel_rfl) (by kernel_rfl) (by kernel_rfl) (by kernel_rfl) (fun _ _ _ h => h) (yieldsIf_load_row (by rfl) 234 _ rfl _ rfl 234 q.cells.toArray _ _ (fun w' hSw => (Blk.ext hp.out hSw)) Tryz.underlying234 rfl (by rw [List.size_toArray]; exact i43' hqk)) (by assumption) ?_; (try simp only [zP]))
   (refine till_take (i := 6) (v := ?_) rfl (by kernel_rfl) (by kernel_rfl) (by kernel_rfl) (by kernel_rfl) (fun _ _ _ h => h) (Or.inl ⟨by rfl, ?_⟩) (by assumption) ?_; rotate_left; (focus (intro w' hSw; go_simp; try with_reducible rfl)); (try simp only [zP]))
   (refine till_take (i := 7) (v := ?_) rfl (by kernel_rfl) (by kernel_rfl) (by kernel_rfl) (by kernel_rfl) (fun _ _ _ h => h) (Or.inl ⟨by rfl, ?_⟩) (by assumption) ?_; rotate_left; (focus (intro w' hSw; have kc := (hbox.out.ext hSw).two; go_simp; try with_reducible rfl)); (try simp only [zP]))
   (refine till_take (i := 8) (v := ?_) rfl (by kernel_rfl) (by kernel_rfl) (by kernel_rfl) (by kernel_rfl) (fun _ _ _ h => h) (Or.inl ⟨by rfl, ?_⟩) (by assumption) ?_; rotate_left; (focus (intro w' hSw; go_simp; try with_reducible rfl)); (try simp only [zP]))
   refine till_ready (rs := [2, 4]) (by kernel_rfl) (by simp) ?_
   refine AllTill.cons rfl (fun K hK => ?_) (AllTill.cons rfl (fun K hK => ?_) AllTill.nil)
   · go_simp
     go_at_call 83
     refine (clone_pr (A := fun _ => False) _ l _ (H.out.ext zX) (by omega)).mono ?_
     rintro e w2 ⟨A2, c2, rfl, o2, E2⟩
     have O2 := Lib.hid ((o2.mono (B := fun _ => False) fun k _ hk => hk.1).lower (base' := W.heap.size) (by simp))
     have hs2 := E2.size; simp at hs2
     (try dsimp only); refine hK.out _ _ zX (fun hHeld => ?_); clear hK K; (try simp only [zP])
     (refine till_ready (rs := [4]) (by kernel_rfl) (by simp) ?_; refine AllTill.cons rfl (fun K hK => ?_) AllTill.nil; go_simp; refine hK.out _ _ zX (fun hHeld => ?_); clear hK K; (try simp only [zP]))
     refine till_ready (rs := [5]) (by kernel_rfl) (by simp) ?_
     refine AllTill.cons rfl (fun K hK => ?_) AllTill.nil
     refine step_app (e := Rp) (base := W.heap.size) (B := fun _ => False) (A := fun _ => False) rfl (.tmp 18) (.tmp 20) rfl Tryz.underlying77 info_pr rfl (O2.out.ext zX) rfl (RdY.singleB (cs := q.cells) (rp_rel (fun _ => False) _ hqk) (Blk.at_ _ _ rfl)) rfl (fun _ _ h => h.elim) (N := l.length + 1) rfl (by simp [maxLen]; omega) (by omega) (by first | omega | (simp; omega)) ?_
     intro A5 c5 w5 o5 M5 B5
     refine hK.out _ _ (Below.trans hHeld (B5.mono (by simp))) (fun hHeld => ?_)
     clear hK K
     (try simp only [zP])
     have O5 := Lib.hid o5
     clear M5 B5 o5
     (refine till_take (i := 9) (v := ?_) rfl (by kernel_rfl) (by kernel_rfl) (by kernel_rfl) (by kernel_rfl) (fun _ _ _ h => h) (Or.inl ⟨by rfl, ?_⟩) (by assumption) ?_; rotate_left; (focus (intro w' hSw; go_simp; try with_reducible rfl)); (try simp only [zP]))
     have kb := (hbox.out.ext hHeld).two
     (refine till_ready (rs := [10]) (by kernel_rfl) (by simp) ?_; refine AllTill.last rfl (fun K hK => ?_) AllTill.nil; go_simp; refine hK.out _ _ ?_; clear hK K; (try simp only [zP]))
     refine till_done (by kernel_rfl) ?_ _
     have hz := hsz.out
     have hb5 := hHeld.size
     have hr5 := O5.out.row
     have hMz : Mod (fun k => k = w.heap.size) w5 _ := ((Mod.refl _ w5).set1 (.slice A5 (l.length + 1) c5) (o := 0)).set1 (.int .i64 (IntKind.i64.wrap (nx + 1))) (o := 1)
     have BW := Lib.hid ((hbox.out.ext hHeld).put2 (.slice A5 (l.length + 1) c5) (.int .i64 (IntKind.i64.wrap (nx + 1))))
     have hp6 := Lib.hid ((hp.out.ext hHeld).mod hMz (by show ¬ _ = _; omega))
     have hs6 := Lib.hid ((hres.out.ext hHeld).mod hMz (by show ¬ _ = _; omega))
     have O6 := Lib.hid ((O5.out.mod hMz (fun k hk he => by have := (hr5 k hk).1; omega) (fun k _ hk he => hk)))
     have hr6 := O6.out.row
     have E6 : Ext w _ := Mod.toExt (E0.trans hHeld) hMz (by intro k hk he; omega)
     clear hMz kb
     generalize (w5.setCell _ _).setCell _ _ = W1 at *
     go_wp2
     refine wp_region_held_drew (S := fun w' => Mod (fun k => k = w.heap.size + 1 + 1) W1 w') (by kernel_rfl) (Mod.of_ext (Ext.drew (Ext.refl _))) (fun hHeld => ?_)
     have Ed : Ext W1 W1.drew := Ext.drew (Ext.refl _)
     generalize W1.drew = W2 at *
     (refine zT 0 (v := ?_) rfl (Or.inl ⟨by rfl, ?_⟩) ?_; rotate_left; (focus (intro w' hSw; have kc := (BW.out.mod hSw (by omega)).two; go_simp; try with_reducible rfl)); (try simp only [zP]))
     (refine zR 1 rfl ?_; (try simp only [zP]))
     (refine zT 2 (v := ?_) rfl (Or.inl ⟨by rfl, ?_⟩) ?_; rotate_left; (focus (intro w' hSw; have kc := (prAt_blk hqk (hp6.out.mod hSw (by omega))).c0; go_simp; try with_reducible rfl)); (try simp only [zP]))
     have hr7 := hs6.out.ext Ed
     have ks := hr7.two
     (refine wpAnyH_ready (rs := [3]) (by kernel_rfl) (by simp) ?_; refine AllReadyH.cons rfl (fun K hK => ?_) AllReadyH.nil; go_simp; refine hK.out _ _ (((Mod.of_ext Ed).set1 _).set1 _) (fun hHeld => ?_); clear hK K; (try simp only [zP]))
     (refine zR 4 rfl ?_; (try simp only [zP]))
     (refine zR 5 rfl ?_; (try simp only [zP]))
     refine wpAnyH_done (by kernel_rfl) ?_ _
     have hM7 : Mod (fun k => k = w.heap.size + 1 + 1) W1 _ := ((Mod.of_ext Ed).set1 (.slice A5 (l.length + 1) c5) (o := 0)).set1 (.int .i64 (IntKind.i64.wrap (nx + 1))) (o := 1)
     obtain ⟨q0, q1, _, _⟩ := (hr7.put2 (.slice A5 (l.length + 1) c5) (.int .i64 (IntKind.i64.wrap (nx + 1)))).two
     have hz6 := E6.size
     clear ks
     go_wp2
     refine bodyPost_ret (v := .tuple #[tv A5 (l.length + 1) c5 (IntKind.i64.wrap (nx + 1)), .int .i64 q.pid, .int .i64 0]) (by simp [results, Tryz.results394, go_sem, q0, q1]) rfl ?_
     exact ⟨Mod.toExt E6 hM7 (by intro k hk he; omega), .inr ⟨hl, A5, c5, by rw [hq0.out]; rfl, by rw [← HQ.out]; exact ((O6.out.mod hM7 (fun k hk he => by have := (hr6 k hk).1; omega) (fun k _ hk he => hk)).lower (by omega))⟩⟩
   · go_simp; refine hK.out _ _ zX (fun hHeld => ?_); clear hK K; (try simp only [zP])
     (refine till_ready (rs := [2]) (by kernel_rfl) (by simp) ?_; refine AllTill.cons rfl (fun K hK => ?_) AllTill.nil)
     go_simp
     go_at_call 83
     refine (clone_pr (A := fun _ => False) _ l _ (H.out.ext zX) (by omega)).mono ?_
     rintro e w2 ⟨A2, c2, rfl, o2, E2⟩
     have O2 := Lib.hid ((o2.mono (B := fun _ => False) fun k _ hk => hk.1).lower (base' := W.heap.size) (by simp))
     have hs2 := E2.size; simp at hs2
     (try dsimp only); refine hK.out _ _ zX (fun hHeld => ?_); clear hK K; (try simp only [zP])
     refine till_ready (rs := [5]) (by kernel_rfl) (by simp) ?_
     refine AllTill.cons rfl (fun K hK => ?_) AllTill.nil
     refine step_app (e := Rp) (base := W.heap.size) (B := fun _ => False) (A := fun _ => False) rfl (.tmp 18) (.tmp 20) rfl Tryz.underlying77 info_pr rfl (O2.out.ext zX) rfl (RdY.singleB (cs := q.cells) (rp_rel (fun _ => False) _ hqk) (Blk.ext (Blk.drew (Blk.at_ _ _ rfl)) E2)) rfl (fun _ _ h => h.elim) (N := l.length + 1) rfl (by simp [maxLen]; omega) (by omega) (by first | omega | (simp; omega)) ?_
     intro A5 c5 w5 o5 M5 B5
     refine hK.out _ _ (Below.trans hHeld (B5.mono (by simp))) (fun hHeld => ?_)
     clear hK K
     (try simp only [zP])
     have O5 := Lib.hid o5
     clear M5 B5 o5
     (refine till_take (i := 9) (v := ?_) rfl (by kernel_rfl) (by kernel_rfl) (by kernel_rfl) (by kernel_rfl) (fun _ _ _ h => h) (Or.inl ⟨by rfl, ?_⟩) (by assumption) ?_; rotate_left; (focus (intro w' hSw; go_simp; try with_reducible rfl)); (try simp only [zP]))
     have kb := (hbox.out.ext hHeld).two
     (refine till_ready (rs := [10]) (by kernel_rfl) (by simp) ?_; refine AllTill.last rfl (fun K hK => ?_) AllTill.nil; go_simp; refine hK.out _ _ ?_; clear hK K; (try simp only [zP]))
     refine till_done (by kernel_rfl) ?_ _
     have hz := hsz.out
     have hb5 := hHeld.size
     have hr5 := O5.out.row
     have hMz : Mod (fun k => k = w.heap.size) w5 _ := ((Mod.refl _ w5).set1 (.slice A5 (l.length + 1) c5) (o := 0)).set1 (.int .i64 (IntKind.i64.wrap (nx + 1))) (o := 1)
     have BW := Lib.hid ((hbox.out.ext hHeld).put2 (.slice A5 (l.length + 1) c5) (.int .i64 (IntKind.i64.wrap (nx + 1))))
     have hp6 := Lib.hid ((hp.out.ext hHeld).mod hMz (by show ¬ _ = _; omega))
     have hs6 := Lib.hid ((hres.out.ext hHeld).mod hMz (by show ¬ _ = _; omega))
     have O6 := Lib.hid ((O5.out.mod hMz (fun k hk he => by have := (hr5 k hk).1; omega) (fun k _ hk he => hk)))
     have hr6 := O6.out.row
     have E6 : Ext w _ := Mod.toExt (E0.trans hHeld) hMz (by intro k hk he; omega)
     clear hMz kb
     generalize (w5.setCell _ _).setCell _ _ = W1 at *
     go_wp2
     refine wp_region_held_drew (S := fun w' => Mod (fun k => k = w.heap.size + 1 + 1) W1 w') (by kernel_rfl) (Mod.of_ext (Ext.drew (Ext.refl _))) (fun hHeld => ?_)
     have Ed : Ext W1 W1.drew := Ext.drew (Ext.refl _)
     generalize W1.drew = W2 at *
     (refine zT 0 (v := ?_) rfl (Or.inl ⟨by rfl, ?_⟩) ?_; rotate_left; (focus (intro w' hSw; have kc := (BW.out.mod hSw (by omega)).two; go_simp; try with_reducible rfl)); (try simp only [zP]))
     (refine zR 1 rfl ?_; (try simp only [zP]))
     (refine zT 2 (v := ?_) rfl (Or.inl ⟨by rfl, ?_⟩) ?_; rotate_left; (focus (intro w' hSw; have kc := (prAt_blk hqk (hp6.out.mod hSw (by omega))).c0; go_simp; try with_reducible rfl)); (try simp only [zP]))
     have hr7 := hs6.out.ext Ed
     have ks := hr7.two
     (refine wpAnyH_ready (rs := [3]) (by kernel_rfl) (by simp) ?_; refine AllReadyH.cons rfl (fun K hK => ?_) AllReadyH.nil; go_simp; refine hK.out _ _ (((Mod.of_ext Ed).set1 _).set1 _) (fun hHeld => ?_); clear hK K; (try simp only [zP]))
     (refine zR 4 rfl ?_; (try simp only [zP]))
     (refine zR 5 rfl ?_; (try simp only [zP]))
     refine wpAnyH_done (by kernel_rfl) ?_ _
     have hM7 : Mod (fun k => k = w.heap.size + 1 + 1) W1 _ := ((Mod.of_ext Ed).set1 (.slice A5 (l.length + 1) c5) (o := 0)).set1 (.int .i64 (IntKind.i64.wrap (nx + 1))) (o := 1)
     obtain ⟨q0, q1, _, _⟩ := (hr7.put2 (.slice A5 (l.length + 1) c5) (.int .i64 (IntKind.i64.wrap (nx + 1)))).two
     have hz6 := E6.size
     clear ks
     go_wp2
     refine bodyPost_ret (v := .tuple #[tv A5 (l.length + 1) c5 (IntKind.i64.wrap (nx + 1)), .int .i64 q.pid, .int .i64 0]) (by simp [results, Tryz.results394, go_sem, q0, q1]) rfl ?_
     exact ⟨Mod.toExt E6 hM7 (by intro k hk he; omega), .inr ⟨hl, A5, c5, by rw [hq0.out]; rfl, by rw [← HQ.out]; exact ((O6.out.mod hM7 (fun k hk he => by have := (hr6 k hk).1; omega) (fun k _ hk he => hk)).lower (by omega))⟩⟩
end Go.Proofs.YtmmhcllibpmfnaaGreatDoor.Tb
namespace Go.Proofs.YtmmhcllibpmfnaaGreatDoor.Tb
open Go.RowKit Go.Kb
/-- more's answer, told behind other steps -/
theorem MorePost.before {l : List Pr} {nx : Int} {p : Pr} {Ad : Option Addr} {c : Nat} {w w1 : World} {e : Ending} {w' : World} (h : MorePost l nx p Ad c w1 e w') (hE : Ext w w1) : MorePost l nx p Ad c w e w' :=
 ⟨hE.trans h.1, h.2.imp id fun ⟨h1, A, c', h2, h3⟩ => ⟨h1, A, c', h2, h3.lower hE.size⟩⟩
/-- stores into a new box behind it -/
theorem MorePost.box {l : List Pr} {nx : Int} {p : Pr} {Ad : Option Addr} {c : Nat} {w w1 : World} {e : Ending} {w' w2 : World} {g : Nat} (h : MorePost l nx p Ad c w1 e w') (hE : Ext w w1) (hg : w.heap.size ≤ g) (hg1 : g < w1.heap.size) (hM : Mod (fun k => k = g) w' w2) : MorePost l nx p Ad c w e w2 :=
 ⟨Mod.toExt (hE.trans h.1) hM (by intro k hk he; omega), h.2.imp id fun ⟨h1, A, c', h2, h3⟩ => ⟨h1, A, c', h2, (h3.mod hM (fun k hk he => by have := (h3.row k hk).1; omega) (fun k _ hk _ => hk)).lower hE.size⟩⟩
def spawnP (nx prog : Int) : Pr := ⟨0, 0, nx, nx, 0, prog, 0, 0, 0, List.replicate 32 0, 0, false⟩
theorem spawnP_ok (nx prog : Int) : (spawnP nx prog).ok := rfl
def SpawnPost (l : List Pr) (nx prog : Int) (Ad : Option Addr) (c : Nat) (w : World) (e : Ending) (w' : World) : Prop :=
 (rightL l nx = false ∧ Ext w w' ∧ e = .returned (.tuple #[tv Ad l.length c nx, .int .i64 0, .int .i64 4])) ∨ (rightL l nx = true ∧ MorePost l nx (spawnP nx prog) Ad c w e w')
set_option maxRecDepth 100000 in
set_option maxHeartbeats 800000 in
theorem spawn_any {A : Nat → Prop} (Ad : Option Addr) (c : Nat) (l : List Pr) (nx prog : Int) (w : World) (h : RdY Rp A w (.slice Ad l.length c) l) :
   Calls Tryz.prog 365 #[tv Ad l.length c nx, .int .i64 prog] w (SpawnPost l nx prog Ad c w) := by
 have H := Lib.hid (rdy_pr (B := fun _ => False) h)
 have hres := Lib.hid (Blk.at_ (w := w.alloc (.cells #[.slice Ad l.length c, .int .i64 nx] 79)) (B := w.heap.size + 1) 79 #[.slice none 0 0, .int .i64 0] (by simp))
 have hbox := Lib.hid ((Blk.new w 79 #[.slice Ad l.length c, .int .i64 nx]).alloc (.cells #[.slice none 0 0, .int .i64 0] 79))
 clear h
 cases hr : rightL l nx
 · have HR := Lib.hid hr
   clear hr
   go_enter Tryz.func365, Tryz.ntmps365
   go_wp2_with fail
   refine (right_any Ad c l nx _ (H.out.ext zX)).mono ?_
   rintro e w1 ⟨rfl, E1⟩
   rw [HR.out]
   have E01 : Ext w w1 := zX
   have hs := hres.out.ext E1
   have hb := (hbox.out.ext E1).two
   have ks := hs.two
   have hM7 : Mod (fun k => k = w.heap.size + 1) w1 _ := ((Mod.refl _ w1).set1 (.slice Ad l.length c) (o := 0)).set1 (.int .i64 nx) (o := 1)
   obtain ⟨q0, q1, _, _⟩ := (hs.put2 (.slice Ad l.length c) (.int .i64 nx)).two
   go_wp2
   refine bodyPost_ret (v := .tuple #[tv Ad l.length c nx, .int .i64 0, .int .i64 4]) (by simp [results, Tryz.results365, go_sem, q0, q1]) rfl ?_
   exact .inl ⟨HR.out, Mod.toExt E01 hM7 (by intro k hk he; omega), rfl⟩
 · have HR := Lib.hid hr
   have hl := (right_len hr).1
   clear hr
   go_enter Tryz.func365, Tryz.ntmps365
   go_wp2_with fail
   refine (right_any Ad c l nx _ (H.out.ext zX)).mono ?_
   rintro e w1 ⟨rfl, E1⟩
   rw [HR.out]
   have E01 : Ext w w1 := zX
   have hs := Lib.hid (hres.out.ext E1)
   have hb := (hbox.out.ext E1).two
   have hsz := hs.out.lt
   clear E1
   go_wp2_with fail
   refine (more_any Ad c l nx (spawnP nx prog) _ (H.out.ext E01) (by omega) (spawnP_ok _ _)).mono ?_
   rintro e w2 hm
   have hE := hm.1
   obtain ⟨_, ⟨h32, rfl⟩ | ⟨h32, A', c', rfl, _⟩⟩ := id hm
   · clear h32
     have hs2 := hs.out.ext hE
     have ks := hs2.two
     have hM7 : Mod (fun k => k = w.heap.size + 1) w2 _ := ((Mod.refl _ w2).set1 (.slice Ad l.length c) (o := 0)).set1 (.int .i64 nx) (o := 1)
     obtain ⟨q0, q1, _, _⟩ := (hs2.put2 (.slice Ad l.length c) (.int .i64 nx)).two
     go_wp2
     refine bodyPost_ret (v := .tuple #[tv Ad l.length c nx, .int .i64 0, .int .i64 10]) (by simp [results, Tryz.results365, go_sem, q0, q1]) rfl ?_
     exact .inr ⟨HR.out, hm.box E01 (by omega) hsz hM7⟩
   · clear h32
     have hs2 := hs.out.ext hE
     have ks := hs2.two
     have hM7 : Mod (fun k => k = w.heap.size + 1) w2 _ := ((Mod.refl _ w2).set1 (.slice A' (l.length + 1) c') (o := 0)).set1 (.int .i64 (nextNo nx)) (o := 1)
     obtain ⟨q0, q1, _, _⟩ := (hs2.put2 (.slice A' (l.length + 1) c') (.int .i64 (nextNo nx))).two
     go_wp2
     refine bodyPost_ret (v := .tuple #[tv A' (l.length + 1) c' (nextNo nx), .int .i64 nx, .int .i64 0]) (by simp [results, Tryz.results365, go_sem, q0, q1]) rfl ?_
     exact .inr ⟨HR.out, hm.box E01 (by omega) hsz hM7⟩
end Go.Proofs.YtmmhcllibpmfnaaGreatDoor.Tb
namespace Go.Proofs.YtmmhcllibpmfnaaGreatDoor
open Go.RowKit Go.Kb
set_option maxRecDepth 100000
theorem mk_4096 (w : World) : (Instr.makeSlice 43 (.int .i64 4096) (.int .i64 4096)).run Tryz.prog w = .ok (.slice (some ⟨w.heap.size, 0, none⟩) 4096 4096) (w.alloc (.cells (madeCells #[.int .u8 0] 4096) 5)) :=
 run_make_row' 43 5 (.int .u8 0) 1 Tryz.underlying43 info_ub8 rfl .i64 .i64 4096 (by decide) (by decide) w
set_option maxHeartbeats 800000 in
theorem ring_any (w : World) : Calls Tryz.prog 369 #[.int .i64 4096] w fun e w' => ∃ r, e = .returned (.tuple #[.pointer (some ⟨r, 0, none⟩), .int .i64 0]) ∧ Ext w w' := by
 have hmk := mk_4096
 obtain ⟨c0, hc0⟩ : ∃ c0, madeCells #[.int .u8 0] 4096 = c0 := ⟨_, rfl⟩
 simp only [hc0] at hmk
 go_enter Tryz.func369, Tryz.ntmps369
 go_wp2
 go_ret2
 exact ⟨_, rfl, zX⟩
set_option maxHeartbeats 800000 in
theorem pipe_any (w : World) : Calls Tryz.prog 323 #[] w fun e w' => ∃ r, e = .returned (.pointer (some ⟨r, 0, none⟩)) ∧ Ext w w' := by
 go_enter Tryz.func323, Tryz.ntmps323
 go_wp2_with fail
 refine (ring_any _).mono ?_
 rintro e w1 ⟨r, rfl, E1⟩
 go_wp2
 go_ret
 exact ⟨_, rfl, E1⟩
/-- a kernel's cells -/
abbrev kerA (pv tv nx tk ss kn : Value) : Array Value := #[pv, tv, nx, tk, ss, kn]
set_option maxHeartbeats 800000 in
theorem kknown_any (kb : Nat) (Ap : Option Addr) (n c : Nat) (tv nx tk ss kn : Value) (i : Nat) (w : World) (h : Blk w kb 218 (kerA (.slice Ap n c) tv nx tk ss kn)) (hi : i < n) :
   Calls Tryz.prog 319 #[.pointer (some ⟨kb, 0, none⟩), .int .i64 i] w fun e w' => e = .returned (.bool true) ∧ Ext w w' := by
 have k0 := h.cell 0
 simp only [List.getElem?_toArray, List.getElem?_cons_zero] at k0
 have h0 : (0 : Int) ≤ (i : Int) := by omega
 have h1 : (i : Int) < (n : Int) := by omega
 clear h
 go_enter Tryz.func319, Tryz.ntmps319
 go_wp2
 go_ret
 exact ⟨rfl, zX⟩
end Go.Proofs.YtmmhcllibpmfnaaGreatDoor
namespace Go.Proofs.YtmmhcllibpmfnaaGreatDoor
open Go.RowKit Go.Kb
set_option maxRecDepth 100000
/-- a function value that asks something of elements of one cell, those of a list -/
def AskM {D : Type} (k : Nat) (bs fs : Array Value) (e : Rep D) (f : D → Bool) (l : List D) (w : World) : Prop :=
 (∀ args w', (callFunc k args).run Tryz.prog w' = .ok (.enter k args) w') ∧ ∀ u d w', d ∈ l → Ext w w' → e.rel (fun _ => True) w' [u] d → Calls Tryz.prog k (bs.push u ++ fs) w' fun e w'' => e = .returned (.bool (f d)) ∧ Ext w' w''
set_option maxRecDepth 100000 in
set_option maxHeartbeats 800000 in
theorem index_task {A : Nat → Prop} (k : Nat) (bs fs : Array Value) (f : Nat → Bool) (v : Value) (l : List Nat) (w : World) (h : RdY PtrR A w v l) (hf : AskM k bs fs PtrR f l w) :
   Calls Tryz.prog 407 #[v, .func (.func k) bs fs] w fun e w' => e = .returned (.int .i64 (idxG f l)) ∧ Ext w w' := by
 obtain ⟨Ad, c, rfl, hc1, hc2⟩ := h.shape
 have H := Lib.hid (h.mono (B := fun _ => True) fun _ _ _ => trivial)
 have HF := Lib.hid hf
 obtain ⟨n, hn⟩ : ∃ n, l.length = n := ⟨_, rfl⟩
 rw [hn] at H hc1 ⊢
 have HN := Lib.hid hn
 clear h hf hn
 go_enter Tryz.func407, Tryz.ntmps407
 go_wp2
 go_loopw [8] (fun i wr => ∃ m : Nat, m ≤ n ∧ i = .int .i64 m ∧ Hid (∀ p ∈ l.take m, f p = false) ∧ Ext w wr) (fun i _ => n - (intOf i).toNat)
 case atStart => exact ⟨0, Nat.zero_le _, rfl, Lib.hid (by simp), zX⟩
 case round =>
   obtain ⟨m, hm, rfl, HD, hE⟩ := hrel
   by_cases hlt : m < n
   · obtain ⟨b, off, u, d, rfl, hcell, hd, hrel2⟩ := (H.out.ext hE).at1 rfl hlt
     have HA := Lib.hid (HF.out.2 u d wr (List.mem_of_getElem? hd.out) hE hrel2.out)
     have HK := HF.out.1
     cases hp : f d
     · rw [hp] at HA
       have HP := Lib.hid hp
       clear hp
       go_wp2_with (refine HA.out.mono ?_; rintro e w2 ⟨rfl, E2⟩)
       go_roundw
       case rel => exact ⟨m + 1, by omega, by go_num, Lib.hid (by
         rw [List.take_add_one, hd.out]
         intro q hq
         rcases List.mem_append.1 hq with h | h
         · exact HD.out q h
         · simp at h; rw [h]; exact HP.out), zX⟩
       case measure => simp [intOf]; omega
     · rw [hp] at HA
       have HP := Lib.hid hp
       clear hp
       go_wp2_with (refine HA.out.mono ?_; rintro e w2 ⟨rfl, E2⟩)
       go_ret
       exact ⟨by rw [idxG_some hd.out HD.out HP.out]; rfl, zX⟩
   · go_wp2
     go_ret
     obtain rfl : m = l.length := by have := HN.out; omega
     have := HD.out
     rw [List.take_length] at this
     exact ⟨by rw [idxG_none this]; rfl, zX⟩
set_option maxHeartbeats 800000 in
theorem delete_task {A : Nat → Prop} (k : Nat) (bs fs : Array Value) (f : Nat → Bool) (v : Value) (l : List Nat) (w : World) (h : RdY PtrR A w v l) (hf : AskM k bs fs PtrR f l w) (hn : ∀ d ∈ l, f d = false) :
   Calls Tryz.prog 395 #[v, .func (.func k) bs fs] w fun e w' => e = .returned v ∧ Ext w w' := by
 obtain ⟨Ad, c, rfl, -, -⟩ := h.shape
 have HI := Lib.hid (index_task k bs fs f _ l w h hf)
 rw [idxG_none hn] at HI
 clear h hf hn
 go_enter Tryz.func395, Tryz.ntmps395
 go_wp2_with fail
 refine (HI.out).mono ?_
 rintro e w1 ⟨rfl, E1⟩
 go_wp2
 go_ret
 exact ⟨rfl, E1⟩
/-- a task that did nothing yet -/
abbrev tskA (pid sess : Int) : Array Value := #[.int .i64 pid, .int .i64 sess, .int .i64 0, .int .i64 0, .int .i64 0, .int .i64 0, .bool false, .slice none 0 0]
theorem enters_tidy1 (args : Array Value) (w : World) : (callFunc 396 args).run Tryz.prog w = .ok (.enter 396 args) w := by kernel_rfl
set_option maxHeartbeats 3000000 in
theorem tidy1_any {A : Nat → Prop} (kb nb b : Nat) (pv tk ss kn : Value) (At : Option Addr) (ct : Nat) (l : List Tb.Pr) (nx pid sess : Int) (w : World) (h : Blk w kb 218 (kerA pv (.slice At l.length ct) (.int .i64 nx) tk ss kn)) (hr : RdY Tb.Rp A w (.slice At l.length ct) l)
   (hb : Blk w nb 140 #[.pointer (some ⟨kb, 0, none⟩)]) (ht : Blk w b 329 (tskA pid sess)) (hl : Tb.liveL l nx pid = true) :
   Calls Tryz.prog 396 #[.pointer (some ⟨b, 0, none⟩), .pointer (some ⟨nb, 0, none⟩)] w fun e w' => e = .returned (.bool false) ∧ Ext w w' := by
 have hiT : (Tryz.prog.info? 79).map (·.size) = some 2 := by kernel_rfl
 have HL := Lib.hid (fun w' (E : Ext w w') => Tb.live_any At ct l nx pid w' (hr.ext E))
 rw [hl] at HL
 obtain ⟨n, hn⟩ : ∃ n, l.length = n := ⟨_, rfl⟩
 rw [hn] at HL h
 have k1 := h.cell 1
 have k2 := h.cell 2
 have b0 := hb.cell 0
 have t0 := ht.cell 0
 simp only [List.getElem?_toArray, List.getElem?_cons_zero, List.getElem?_cons_succ] at k1 k2 b0 t0
 have hLP : ∀ w', Ext w w' → ∀ i u, [.slice At n ct, .int .i64 nx][i]? = some u → w'.cell? ⟨kb, 1 + i, none⟩ = some u := by
   intro w' hSw i u hu
   rcases i with _ | _ | i
   · simp at hu; rw [← hu]; exact cell_ext hSw k1
   · simp at hu; rw [← hu]; exact cell_ext hSw k2
   · simp at hu
 clear h hr hb ht hl hn
 go_enter Tryz.func396, Tryz.ntmps396
 go_upto_region 1 with fail
 refine wp_region_held_drew (S := fun w' => Ext w w') (by kernel_rfl) (Ext.drew (Ext.refl _)) (fun hHeld => ?_)
 obtain ⟨D, hD⟩ : ∃ D, D = w.drew := ⟨_, rfl⟩
 have ED : Ext w D := by rw [hD]; exact (Ext.refl _).drew
 rw [← hD] at hHeld ⊢
 clear hD
 (refine zT 0 (v := ?_) rfl (Or.inl ⟨by rfl, ?_⟩) ?_; rotate_left; (focus (intro w' hSw; have kc := cell_ext hSw b0; go_simp; try with_reducible rfl)); (try simp only [zP]))
 (refine zR 1 rfl ?_; (try simp only [zP]))
 (refine zR 2 rfl ?_; (try simp only [zP]))
 (refine wpAnyH_take (i := 3) (v := .agg #[.slice At n ct, .int .i64 nx]) rfl (by kernel_rfl) (by kernel_rfl) (by kernel_rfl) (fun _ _ _ h => h) (yieldsIf_load_mid (by rfl) 79 _ rfl _ _ rfl [.slice At n ct, .int .i64 nx] _ (fun w' hSw => (fun i u hu => hLP w' hSw i u hu)) Tryz.underlying79 rfl hiT) (by assumption) ?_; (try simp only [zP]))
 (refine zR 4 rfl ?_; (try simp only [zP]))
 (refine zR 5 rfl ?_; (try simp only [zP]))
 (refine zR 6 rfl ?_; (try simp only [zP]))
 (refine zT 7 (v := ?_) rfl (Or.inl ⟨by rfl, ?_⟩) ?_; rotate_left; (focus (intro w' hSw; have kc := cell_ext hSw t0; go_simp; try with_reducible rfl)); (try simp only [zP]))
 (refine wpAnyH_ready (rs := [8]) (by kernel_rfl) (by simp) ?_; refine AllReadyH.cons rfl (fun K hK => ?_) AllReadyH.nil; go_simp; go_at_call 351; refine (HL.out D ED).mono ?_; rintro e w2 ⟨rfl, E2⟩; (try dsimp only); refine hK.out _ _ (ED.trans E2) (fun hHeld => ?_); clear hK K; (try simp only [zP]))
 (refine zR 9 rfl ?_; (try simp only [zP]))
 (refine zR 10 rfl ?_; (try simp only [zP]))
 refine wpAnyH_done (by kernel_rfl) ?_ _
 go_wp2
 go_ret
 exact ⟨rfl, hHeld⟩
end Go.Proofs.YtmmhcllibpmfnaaGreatDoor
namespace Go.Proofs.YtmmhcllibpmfnaaGreatDoor
open Go.RowKit Go.Kb
set_option maxRecDepth 100000
/-- tasks, by the blocks that they lie in -/
structure TskAt (w : World) (bs : List Nat) (ts : List (Int × Int)) : Prop where
 len : bs.length = ts.length
 blk : ∀ (j : Nat) b x, bs[j]? = some b → ts[j]? = some x → Blk w b 329 (tskA x.1 x.2)
/-- a session with pipes, by what matters of it -/
structure SesPipe (w : World) (b : Nat) : Prop where
 blk : ∃ (id ld i o r : Value), Blk w b 281 #[id, ld, .pointer none, i, o, r, .bool false, .bool false, .bool false, .int .i64 0]
theorem TskAt.keep {w w' : World} {bs : List Nat} {ts : List (Int × Int)} (h : TskAt w bs ts) (hk : ∀ b ∈ bs, w'.heap[b]? = w.heap[b]?) : TskAt w' bs ts :=
 ⟨h.len, fun j b x h1 h2 => by
   have h9 := h.blk j b x h1 h2
   unfold Blk at *
   rw [hk b (List.mem_of_getElem? h1)]
   exact h9⟩
theorem TskAt.mem {w : World} {bs : List Nat} {ts : List (Int × Int)} (h : TskAt w bs ts) {b : Nat} (hb : b ∈ bs) : ∃ x ∈ ts, Blk w b 329 (tskA x.1 x.2) := by
 obtain ⟨j, hj, rfl⟩ := List.getElem_of_mem hb
 have hj2 : j < ts.length := by rw [← h.len]; exact hj
 exact ⟨ts[j], List.getElem_mem hj2, h.blk j _ _ (List.getElem?_eq_getElem hj) (List.getElem?_eq_getElem hj2)⟩
theorem TskAt.mod {S : Nat → Prop} {w w' : World} {bs : List Nat} {ts : List (Int × Int)} (h : TskAt w bs ts) (M : Mod S w w') (hS : ∀ b ∈ bs, ¬ S b) : TskAt w' bs ts :=
 h.keep (fun b hb => M.block b (by obtain ⟨x, _, h9⟩ := h.mem hb; exact h9.lt) (hS b hb))
theorem TskAt.ext {w w' : World} {bs : List Nat} {ts : List (Int × Int)} (h : TskAt w bs ts) (E : Ext w w') : TskAt w' bs ts := h.mod (Mod.of_ext (S := fun _ => False) E) (fun _ _ h => h)
theorem SesPipe.mod {S : Nat → Prop} {w w' : World} {b : Nat} (h : SesPipe w b) (M : Mod S w w') (hS : ¬ S b) : SesPipe w' b := by
 obtain ⟨id, ld, i, o, r, hb⟩ := h.blk
 exact ⟨id, ld, i, o, r, hb.mod M hS⟩
theorem SesPipe.lt {w : World} {b : Nat} (h : SesPipe w b) : b < w.heap.size := by
 obtain ⟨id, ld, i, o, r, hb⟩ := h.blk
 exact hb.lt
theorem blk_ne {w : World} {a b : Nat} {t t2 : TypeId} {cs cs2 : Array Value} (h : Blk w a t cs) (h2 : Blk w b t2 cs2) (hne : t ≠ t2) : a ≠ b := by
 rintro rfl
 unfold Blk at h h2
 rw [h] at h2
 simp at h2
 exact hne h2.2
set_option maxHeartbeats 4000000 in
theorem tidy_any {A A2 : Nat → Prop} (kb base : Nat) (pv tk ss kn : Value) (At : Option Addr) (ct : Nat) (l : List Tb.Pr) (nx : Int) (tbs sbs : List Nat) (ts : List (Int × Int)) (w : World) (h : Blk w kb 218 (kerA pv (.slice At l.length ct) (.int .i64 nx) tk ss kn)) (hr : RdY Tb.Rp A w (.slice At l.length ct) l)
   (ht : RdY PtrR A2 w tk tbs) (hta : TskAt w tbs ts) (hlv : ∀ x ∈ ts, Tb.liveL l nx x.1 = true) (hs : OwnS PtrR 276 base (fun _ => False) w ss sbs) (hsa : ∀ b ∈ sbs, SesPipe w b) (hsl : sbs.length ≤ 1000) :
   Calls Tryz.prog 367 #[.pointer (some ⟨kb, 0, none⟩)] w fun e w' => e = .returned (.tuple #[]) ∧ Blk w' kb 218 (kerA pv (.slice At l.length ct) (.int .i64 nx) tk ss kn) ∧ Mod (fun k => k = kb) w w' := by
 obtain ⟨W1, hW1⟩ : ∃ W1, W1 = w.alloc (.cells #[.pointer (some ⟨kb, 0, none⟩)] 140) := ⟨_, rfl⟩
 have E1 : Ext w W1 := by rw [hW1]; exact (Ext.refl _).alloc _
 have B1 := Lib.hid (show Blk W1 w.heap.size 140 #[.pointer (some ⟨kb, 0, none⟩)] by rw [hW1]; exact Blk.new w _ _)
 have HW1 := Lib.hid hW1
 have HB := Lib.hid (h.ext E1)
 have HTA := Lib.hid (hta.ext E1)
 obtain ⟨Tt, ctt, rfl, -, -⟩ := ht.shape
 have HASK := Lib.hid (show ∀ w', Ext W1 w' → AskM 396 #[] #[.pointer (some ⟨w.heap.size, 0, none⟩)] PtrR (fun _ => false) tbs w' from fun w' E => ⟨enters_tidy1, fun u d w2 hd E2 hr2 => by
   have h9 : [u] = [.pointer (some ⟨d, 0, none⟩)] := hr2
   obtain rfl : u = .pointer (some ⟨d, 0, none⟩) := by simpa using h9
   obtain ⟨x, hx, hbx⟩ := HTA.out.mem hd
   have EE := E.trans E2
   exact tidy1_any kb w.heap.size d pv (.slice Tt tbs.length ctt) _ kn At ct l nx x.1 x.2 w2 (HB.out.ext EE) ((hr.ext E1).ext EE) (B1.out.ext EE) (hbx.ext EE) (hlv x hx)⟩)
 have HDEL := Lib.hid (fun w' (E : Ext W1 w') => delete_task _ _ _ _ _ _ w' ((ht.ext E1).ext E) (HASK.out w' E) (fun _ _ => rfl))
 have HS := Lib.hid (hs.ext E1)
 have HSA := Lib.hid (show ∀ b ∈ sbs, SesPipe W1 b from fun b hb => (hsa b hb).mod (Mod.of_ext (S := fun _ => False) E1) (fun h => h))
 obtain ⟨n, hn⟩ : ∃ n, l.length = n := ⟨_, rfl⟩
 obtain ⟨tn, htn⟩ : ∃ tn, tbs.length = tn := ⟨_, rfl⟩
 obtain ⟨As, cs, rfl, -, -⟩ := hs.shape
 obtain ⟨sn, hsn⟩ : ∃ sn, sbs.length = sn := ⟨_, rfl⟩
 have HSN := Lib.hid hsn
 rw [hn, htn, hsn] at HB ⊢
 rw [hsn] at HS hsl
 rw [htn] at HDEL
 have k3 := HB.out.cell 3
 have b0 := B1.out.cell 0
 simp only [List.getElem?_toArray, List.getElem?_cons_zero, List.getElem?_cons_succ] at k3 b0
 have hkl := h.lt
 clear h hr ht hta hlv hs hsa hW1 hn htn HASK hsn
 go_enter Tryz.func367, Tryz.ntmps367
 go_upto_region 1 with fail
 rw [← HW1.out]
 clear HW1
 refine region_till 9 (fun w' => Ext W1 w') (by kernel_rfl) (Ext.drew (Ext.refl _)) (fun hHeld => ?_)
 obtain ⟨D, hD⟩ : ∃ D, D = W1.drew := ⟨_, rfl⟩
 have ED : Ext W1 D := by rw [hD]; exact (Ext.refl _).drew
 rw [← hD] at hHeld ⊢
 clear hD
 (refine till_take (i := 0) (v := ?_) rfl (by kernel_rfl) (by kernel_rfl) (by kernel_rfl) (by kernel_rfl) (fun _ _ _ h => h) (Or.inl ⟨by rfl, ?_⟩) (by assumption) ?_; rotate_left; (focus (intro w' hSw; have kc := cell_ext hSw b0; go_simp; try with_reducible rfl)); (try simp only [zP]))
 (refine till_take (i := 1) (v := ?_) rfl (by kernel_rfl) (by kernel_rfl) (by kernel_rfl) (by kernel_rfl) (fun _ _ _ h => h) (Or.inl ⟨by rfl, ?_⟩) (by assumption) ?_; rotate_left; (focus (intro w' hSw; have kc := cell_ext hSw b0; go_simp; try with_reducible rfl)); (try simp only [zP]))
 (refine till_take (i := 2) (v := ?_) rfl (by kernel_rfl) (by kernel_rfl) (by kernel_rfl) (by kernel_rfl) (fun _ _ _ h => h) (Or.inl ⟨by rfl, ?_⟩) (by assumption) ?_; rotate_left; (focus (intro w' hSw; go_simp; try with_reducible rfl)); (try simp only [zP]))
 (refine till_take (i := 3) (v := ?_) rfl (by kernel_rfl) (by kernel_rfl) (by kernel_rfl) (by kernel_rfl) (fun _ _ _ h => h) (Or.inl ⟨by rfl, ?_⟩) (by assumption) ?_; rotate_left; (focus (intro w' hSw; go_simp; try with_reducible rfl)); (try simp only [zP]))
 (refine till_take (i := 4) (v := ?_) rfl (by kernel_rfl) (by kernel_rfl) (by kernel_rfl) (by kernel_rfl) (fun _ _ _ h => h) (Or.inl ⟨by rfl, ?_⟩) (by assumption) ?_; rotate_left; (focus (intro w' hSw; have kc := cell_ext hSw k3; go_simp; try with_reducible rfl)); (try simp only [zP]))
 (refine till_take (i := 5) (v := ?_) rfl (by kernel_rfl) (by kernel_rfl) (by kernel_rfl) (by kernel_rfl) (fun _ _ _ h => h) (Or.inl ⟨by rfl, ?_⟩) (by assumption) ?_; rotate_left; (focus (intro w' hSw; go_simp; try with_reducible rfl)); (try simp only [zP]))
 refine till_ready (rs := [6]) (by kernel_rfl) (by simp) ?_
 refine AllTill.cons rfl (fun K hK => ?_) AllTill.nil
 go_simp
 refine (HDEL.out D ED).mono ?_
 rintro e w2 ⟨rfl, E2⟩
 (try dsimp only)
 have E12 := ED.trans E2
 refine hK.out _ _ E12 (fun hHeld => ?_)
 clear hK K
 (try simp only [zP])
 (refine till_ready (rs := [7]) (by kernel_rfl) (by simp) ?_; refine AllTill.cons rfl (fun K hK => ?_) AllTill.nil; go_simp; refine hK.out _ _ E12 (fun hHeld => ?_); clear hK K; (try simp only [zP]))
 (refine till_take (i := 8) (v := ?_) rfl (by kernel_rfl) (by kernel_rfl) (by kernel_rfl) (by kernel_rfl) (fun _ _ _ h => h) (Or.inl ⟨by rfl, ?_⟩) (by assumption) ?_; rotate_left; (focus (intro w' hSw; go_simp; try with_reducible rfl)); (try simp only [zP]))
 have HB2 := Lib.hid (HB.out.ext E12)
 have k3 := HB2.out.cell 3
 have f3 := HB2.out.frozen 3
 simp only [List.getElem?_toArray, List.getElem?_cons_zero, List.getElem?_cons_succ] at k3
 (refine till_ready (rs := [9]) (by kernel_rfl) (by simp) ?_; refine AllTill.last rfl (fun K hK => ?_) AllTill.nil; go_simp; refine hK.out _ _ ?_; clear hK K; (try simp only [zP]))
 refine till_done (by kernel_rfl) ?_ _
 have HB3 := Lib.hid (show Blk (w2.setCell ⟨kb, 3, none⟩ (.slice Tt tn ctt)) kb 218 (kerA pv (.slice At n ct) (.int .i64 nx) (.slice Tt tn ctt) (.slice As sn cs) kn) by simpa using HB2.out.set_ 3 (.slice Tt tn ctt))
 have M3 : Kb.Mod (fun k => k = kb) w2 (w2.setCell ⟨kb, 3, none⟩ (.slice Tt tn ctt)) := (Mod.refl _ _).set1 _
 have hssk : (Value.slice As sn cs).ownBlock ≠ some kb := by
   obtain ⟨us, ho, _⟩ := HS.out
   exact own_blk_ne ho HB.out (by decide)
 have HS3 := Lib.hid ((HS.out.ext E12).mod M3 (fun k hk he => hssk (by rw [hk, he])) (fun k _ hk => hk.elim))
 have HSA3 := Lib.hid (show ∀ b ∈ sbs, SesPipe (w2.setCell ⟨kb, 3, none⟩ (.slice Tt tn ctt)) b from fun b hb => by
   have h9 := HSA.out b hb
   refine (h9.mod (Mod.of_ext (S := fun _ => False) E12) (fun h => h)).mod M3 (fun he => ?_)
   obtain ⟨id, ld, i, o, r, hb9⟩ := h9.blk
   exact blk_ne hb9 HB.out (by decide) he)
 have B13 := Lib.hid ((B1.out.ext E12).mod M3 (by omega))
 have M03 := Lib.hid (show Kb.Mod (fun k => k = kb) w _ from (Mod.of_ext (E1.trans E12)).trans M3)
 generalize w2.setCell ⟨kb, 3, none⟩ (.slice Tt tn ctt) = w3 at *
 have k4 := HB3.out.cell 4
 have b0 := B13.out.cell 0
 simp only [List.getElem?_toArray, List.getElem?_cons_zero, List.getElem?_cons_succ] at k4 b0
 clear HB HB2 HTA HDEL HS HSA B1 hHeld E12 ED E2 E1 M3 k3 f3 hssk
 go_upto_region 3 with fail
 go_wp2
 go_loopw [18] (fun i wr => ∃ m : Nat, m ≤ sn ∧ i = .int .i64 m ∧ Hid (Ext w3 wr)) (fun i _ => sn - (intOf i).toNat)
 case atStart => exact ⟨0, Nat.zero_le _, rfl, Lib.hid (Ext.refl _)⟩
 case round =>
   obtain ⟨m, hm, rfl, hE⟩ := hrel
   by_cases hms : m < sn
   · obtain ⟨b0, off, u, d, rfl, hcell, hd, hrel2⟩ := ((HS3.out.ext hE.out).rdT.y).at1 rfl hms
     obtain rfl : u = .pointer (some ⟨d, 0, none⟩) := by
       have h9 : [u] = [.pointer (some ⟨d, 0, none⟩)] := hrel2.out
       simpa using h9
     obtain ⟨id, ld, i9, o9, r9, hb9⟩ := ((HSA3.out d (List.mem_of_getElem? hd.out)).mod (Mod.of_ext (S := fun _ => False) hE.out) (fun h => h)).blk
     have q2 := hb9.cell 2
     simp only [List.getElem?_toArray, List.getElem?_cons_zero, List.getElem?_cons_succ] at q2
     clear hd hrel2 hb9
     go_wp2
     go_roundw
     case rel => exact ⟨m + 1, by omega, by go_num, hE⟩
     case measure => simp [intOf]; omega
   · obtain rfl : m = sn := by omega
     go_wp2
     go_end0
     exact ⟨rfl, HB3.out.ext hE.out, M03.out.trans (Mod.of_ext hE.out)⟩
end Go.Proofs.YtmmhcllibpmfnaaGreatDoor
namespace Go.Kb
open Go.RowKit Go.Proofs.YtmmhcllibpmfnaaGreatDoor
set_option maxRecDepth 100000
/-- the blocks from base on that are of some types -/
def TySet (ts : List TypeId) (base : Nat) (w : World) (k : Nat) : Prop := base ≤ k ∧ ∃ cs t fr, w.heap[k]? = some (.cells cs t fr) ∧ t ∈ ts
theorem TySet.mono {ts ts2 : List TypeId} {base base2 : Nat} {w : World} {k : Nat} (h : TySet ts base w k) (hs : ∀ t ∈ ts, t ∈ ts2) (hb : base2 ≤ base) : TySet ts2 base2 w k := by
 obtain ⟨h1, cs, t, fr, h2, h3⟩ := h
 exact ⟨by omega, cs, t, fr, h2, hs t h3⟩
/-- only blocks of some types turn, from base on -/
def ModT (ts : List TypeId) (base : Nat) (w w' : World) : Prop := Mod (TySet ts base w) w w'
theorem ModT.of_mod {S : Nat → Prop} {ts : List TypeId} {base : Nat} {a b : World} (h : Mod S a b) (hS : ∀ k, k < a.heap.size → S k → TySet ts base a k) : ModT ts base a b := Mod.mono h hS
theorem Blk.ty {w : World} {k : Nat} {t : TypeId} {cs : Array Value} (h : Blk w k t cs) {ts : List TypeId} {base : Nat} (ht : t ∈ ts) (hb : base ≤ k) : TySet ts base w k := ⟨hb, _, _, _, h, ht⟩
theorem Blk.nty {w : World} {k : Nat} {t : TypeId} {cs : Array Value} (h : Blk w k t cs) {ts : List TypeId} {base : Nat} (ht : t ∉ ts) : ¬ TySet ts base w k := by
 rintro ⟨_, cs2, t2, fr2, h2, h3⟩
 unfold Blk at h
 rw [h] at h2
 simp at h2
 exact ht (by rw [h2.2.1]; exact h3)
theorem OwnS.blkE {D : Type} {e : Rep D} {T : TypeId} {base : Nat} {B : Nat → Prop} {w : World} {v : Value} {l : List D} (h : OwnS e T base B w v l) {k : Nat} (hk : v.ownBlock = some k) : base ≤ k ∧ ∃ cs fr, w.heap[k]? = some (.cells cs T fr) := by
 refine ⟨(h.row k hk).1, ?_⟩
 obtain ⟨us, ho, _⟩ := h
 obtain ⟨_, ⟨hv, _⟩ | ⟨g, cap, cur, hv, hb0, hb, _⟩⟩ := ho
 · rw [hv] at hk; cases hk
 · rw [hv] at hk
   have h9 : some g = some k := hk
   obtain rfl := Option.some.inj h9
   exact ⟨_, _, hb⟩
theorem OwnS.ty {D : Type} {e : Rep D} {T : TypeId} {base : Nat} {B : Nat → Prop} {w : World} {v : Value} {l : List D} (h : OwnS e T base B w v l) {k : Nat} (hk : v.ownBlock = some k) {ts : List TypeId} {base2 : Nat} (ht : T ∈ ts) (hb : base2 ≤ base) : TySet ts base2 w k := by
 obtain ⟨h1, cs, fr, h2⟩ := h.blkE hk
 exact ⟨by omega, cs, T, fr, h2, ht⟩
theorem OwnS.nty {D : Type} {e : Rep D} {T : TypeId} {base : Nat} {B : Nat → Prop} {w : World} {v : Value} {l : List D} (h : OwnS e T base B w v l) {k : Nat} (hk : v.ownBlock = some k) {ts : List TypeId} {base2 : Nat} (ht : T ∉ ts) : ¬ TySet ts base2 w k := by
 obtain ⟨h1, cs, fr, h2⟩ := h.blkE hk
 rintro ⟨_, cs2, t2, fr2, h3, h4⟩
 rw [h2] at h3
 simp at h3
 exact ht (by rw [h3.2.1]; exact h4)
theorem OwnS.modT {D : Type} {e : Rep D} {T : TypeId} {base : Nat} {w w' : World} {v : Value} {l : List D} (h : OwnS e T base (fun _ => False) w v l) {ts : List TypeId} {base2 : Nat} (M : ModT ts base2 w w') (ht : T ∉ ts) : OwnS e T base (fun _ => False) w' v l :=
 h.mod M (fun _ hk => h.nty hk ht) (fun _ _ hk => hk.elim)
theorem Blk.modT {w w' : World} {k : Nat} {t : TypeId} {cs : Array Value} (h : Blk w k t cs) {ts : List TypeId} {base : Nat} (M : ModT ts base w w') (ht : t ∉ ts) : Blk w' k t cs := h.mod M (h.nty ht)
end Go.Kb
namespace Go.Proofs.YtmmhcllibpmfnaaGreatDoor
open Go.RowKit Go.Kb
set_option maxRecDepth 100000
theorem own_ne {D : Type} {e : Rep D} {T t : TypeId} {base : Nat} {B : Nat → Prop} {w : World} {v : Value} {l : List D} {g : Nat} {cs : Array Value} (h : OwnS e T base B w v l) (hb : Blk w g t cs) (hne : T ≠ t) : v.ownBlock ≠ some g := by
 obtain ⟨us, ho, _⟩ := h
 exact own_blk_ne ho hb hne
theorem own_two {D D2 : Type} {e : Rep D} {e2 : Rep D2} {T T2 : TypeId} {base base2 : Nat} {B B2 : Nat → Prop} {w : World} {v v2 : Value} {l : List D} {l2 : List D2} (h : OwnS e T base B w v l) (h2 : OwnS e2 T2 base2 B2 w v2 l2) (hne : T ≠ T2) {k : Nat} (hk : v.ownBlock = some k) : v2.ownBlock ≠ some k := fun h9 => by
 obtain ⟨_, cs, fr, h3⟩ := h.blkE hk
 obtain ⟨_, cs2, fr2, h4⟩ := h2.blkE h9
 rw [h3] at h4
 simp at h4
 exact hne h4.2.1
theorem TskAt.snoc {w : World} {bs : List Nat} {ts : List (Int × Int)} {b : Nat} {x : Int × Int} (h : TskAt w bs ts) (hb : Blk w b 329 (tskA x.1 x.2)) : TskAt w (bs ++ [b]) (ts ++ [x]) := by
 refine ⟨by simp [h.len], fun j b2 x2 h1 h2 => ?_⟩
 have hl := h.len
 rcases Nat.lt_or_ge j bs.length with hj | hj
 · rw [List.getElem?_append_left hj] at h1
   rw [List.getElem?_append_left (by omega)] at h2
   exact h.blk j b2 x2 h1 h2
 · rw [List.getElem?_append_right hj] at h1
   rw [List.getElem?_append_right (by omega)] at h2
   have h9 := (List.getElem?_eq_some_iff.1 h1).1
   simp at h9
   have e1 : j - bs.length = 0 := by omega
   have e2 : j - ts.length = 0 := by omega
   rw [e1] at h1
   rw [e2] at h2
   simp at h1 h2
   rw [← h1, ← h2]
   exact hb
/-- a kernel of processes, tasks, and sessions with pipes -/
def KerS (kb base : Nat) (w : World) (pv : Value) (l : List Tb.Pr) (nx kn : Int) (tbs sbs : List Nat) (ts : List (Int × Int)) : Prop :=
 base ≤ kb ∧ ∃ At ct tk ss, Blk w kb 218 (kerA pv (.slice At l.length ct) (.int .i64 nx) tk ss (.int .i64 kn)) ∧ OwnS Tb.Rp 234 base (fun _ => False) w (.slice At l.length ct) l ∧
   OwnS PtrR 327 base (fun _ => False) w tk tbs ∧ TskAt w tbs ts ∧ OwnS PtrR 276 base (fun _ => False) w ss sbs ∧ (∀ b ∈ sbs, SesPipe w b)
abbrev kTys : List TypeId := [218, 327, 276]
abbrev sesA (id ld i o r : Value) : Array Value := #[id, ld, .pointer none, i, o, r, .bool false, .bool false, .bool false, .int .i64 0]
theorem info_tp : (Tryz.prog.info? 327).map (fun i => (i.zero, i.size, i.bytes)) = some (some (.pointer none), PtrR.size, 8) := by kernel_rfl
theorem info_sp : (Tryz.prog.info? 276).map (fun i => (i.zero, i.size, i.bytes)) = some (some (.pointer none), PtrR.size, 8) := by kernel_rfl
def newP (nx prog : Int) : Tb.Pr := (Tb.spawnP nx prog).newAs nx
def BeginP (kb base sb : Nat) (pv : Value) (l : List Tb.Pr) (nx kn prog : Int) (tbs sbs : List Nat) (ts : List (Int × Int)) (w : World) (e : Ending) (w' : World) : Prop :=
 e = .returned (.tuple #[.int .i64 kn, .int .i64 0]) ∧ (∃ tb, KerS kb base w' pv (l ++ [newP nx prog]) (nx + 1) (kn + 1) (tbs ++ [tb]) (sbs ++ [sb]) (ts ++ [(nx, kn)])) ∧ Mod (fun k => k = sb ∨ TySet kTys base w k) w w'
theorem spawn_ok {A : Nat → Prop} (Ad : Option Addr) (c : Nat) (l : List Tb.Pr) (nx prog : Int) (w : World) (h : RdY Tb.Rp A w (.slice Ad l.length c) l) (hr : Tb.rightL l nx = true) (hl : l.length < 32) (hnx : 1 ≤ nx ∧ nx ≤ 1000) :
   Calls Tryz.prog 365 #[.agg #[.slice Ad l.length c, .int .i64 nx], .int .i64 prog] w fun e w' => ∃ A' c', e = .returned (.tuple #[.agg #[.slice A' (l.length + 1) c', .int .i64 (nx + 1)], .int .i64 nx, .int .i64 0]) ∧
     OwnS Tb.Rp 234 w.heap.size (fun _ => False) w' (.slice A' (l.length + 1) c') (l ++ [newP nx prog]) ∧ Ext w w' := by
 have hw : Tb.nextNo nx = nx + 1 := by unfold Tb.nextNo IntKind.wrap; simp [IntKind.bits, IntKind.signed]; omega
 refine (Tb.spawn_any Ad c l nx prog w h).mono ?_
 rintro e w' (⟨h1, -, -⟩ | ⟨-, E, ⟨h1, -⟩ | ⟨-, A', c', rfl, ho⟩⟩)
 · rw [hr] at h1; cases h1
 · omega
 · rw [hw]
   exact ⟨A', c', rfl, ho, E⟩
set_option maxHeartbeats 8000000 in
theorem begin_any (kb base sb : Nat) (pv : Value) (l : List Tb.Pr) (nx kn prog : Int) (tbs sbs : List Nat) (ts : List (Int × Int)) (i o r : Value) (w : World) (h : KerS kb base w pv l nx kn tbs sbs ts) (hb : base ≤ w.heap.size)
   (hsb : Blk w sb 281 (sesA (.int .i64 0) (.int .i64 0) i o r)) (hsn : sb ∉ sbs) (hnx : 1 ≤ nx ∧ nx ≤ 1000) (hkn : 1 ≤ kn ∧ kn ≤ 1000) (hr : Tb.rightL l nx = true) (hl : l.length < 32) (hs8 : sbs.length < 8) (ht8 : tbs.length ≤ 100)
   (hlv : ∀ x ∈ ts ++ [(nx, kn)], Tb.liveL (l ++ [newP nx prog]) (nx + 1) x.1 = true) :
   Calls Tryz.prog 321 #[.pointer (some ⟨kb, 0, none⟩), .int .i64 prog, .pointer (some ⟨sb, 0, none⟩)] w (BeginP kb base sb pv l nx kn prog tbs sbs ts w) := by
 have hiT : (Tryz.prog.info? 79).map (·.size) = some 2 := by kernel_rfl
 obtain ⟨hkb, At, ct, tk, ss, HB, HP, HT, HTA, HS, HSA⟩ := h
 have HSP := Lib.hid (fun w' (E : Ext w w') => spawn_ok At ct l nx prog w' (HP.ext E).rdT.y hr hl hnx)
 obtain ⟨Tt, ctt, rfl, -, -⟩ := HT.shape
 obtain ⟨As, cs, rfl, -, -⟩ := HS.shape
 obtain ⟨ln, hln⟩ : ∃ ln, l.length = ln := ⟨_, rfl⟩
 obtain ⟨tn, htn⟩ : ∃ tn, tbs.length = tn := ⟨_, rfl⟩
 obtain ⟨sn, hsn9⟩ : ∃ sn, sbs.length = sn := ⟨_, rfl⟩
 have HLN := Lib.hid hln
 have HTN := Lib.hid htn
 have HSN := Lib.hid hsn9
 have HB := Lib.hid HB
 have HP := Lib.hid HP
 have HT := Lib.hid HT
 have HTA := Lib.hid HTA
 have HS := Lib.hid HS
 have HSA := Lib.hid HSA
 have HSB := Lib.hid hsb
 have HBZ := Lib.hid HB.out
 have HTZ := Lib.hid HT.out
 have HSZ := Lib.hid HS.out
 have HR := Lib.hid hr
 have HLV := Lib.hid hlv
 have HNI := Lib.hid hsn
 rw [hln] at HB hl HSP HP HBZ
 rw [htn] at HB ht8 HT HBZ HTZ
 rw [hsn9] at HB hs8 HS HBZ HSZ
 have hkl := HB.out.lt
 have hsl := hsb.lt
 have hks : kb ≠ sb := blk_ne HB.out hsb (by decide)
 have k1 := HB.out.cell 1
 have k2 := HB.out.cell 2
 have k4 := HB.out.cell 4
 simp only [List.getElem?_toArray, List.getElem?_cons_zero, List.getElem?_cons_succ] at k1 k2 k4
 have h8 : ¬ (sn : Int) = 8 := by omega
 have hLP : ∀ i u, [.slice At ln ct, .int .i64 nx][i]? = some u → w.cell? ⟨kb, 1 + i, none⟩ = some u := by
   intro i u hu
   rcases i with _ | _ | i
   · simp at hu; rw [← hu]; exact k1
   · simp at hu; rw [← hu]; exact k2
   · simp at hu
 clear hsb hsn hr hlv hln htn hsn9
 unfold BeginP
 go_enter Tryz.func321, Tryz.ntmps321
 go_upto_region 3 with fail
 go_wp2_with (first | (refine wpList_load_mid rfl 79 _ rfl kb 1 rfl [.slice At ln ct, .int .i64 nx] _ hLP Tryz.underlying79 rfl hiT ?_) | fail)
 refine (HSP.out _ (Ext.refl _)).mono ?_
 rintro e w1 ⟨A1, c1, rfl, HP1, E1⟩
 have HB1 := Lib.hid (HB.out.ext E1)
 have HT1 := Lib.hid (HT.out.ext E1)
 have HTA1 := Lib.hid (HTA.out.ext E1)
 have HS1 := Lib.hid (HS.out.ext E1)
 have HSA1 := Lib.hid (show ∀ b ∈ sbs, SesPipe w1 b from fun b hb => (HSA.out b hb).mod (Mod.of_ext (S := fun _ => False) E1) (fun h => h))
 have HSB1 := Lib.hid (HSB.out.ext E1)
 have hs01 := E1.size
 clear HSP HB HP HT HTA HS HSA HSB k1 k2 k4 hLP
 have B8 := Lib.hid (Blk.new w1 79 #[.slice none 0 0, .int .i64 0])
 go_upto_region 6 with (refine wpList_store_M rfl 79 _ _ rfl w1.heap.size _ rfl rfl 79 _ B8.out hiT rfl (by simp [Value.oneCell']) ?_; intro w2 P2 M2)
 have E12 : Ext w1 w2 := Mod.toExt ((Ext.refl _).alloc _) M2 (fun k hk he => by omega)
 have HB2 := Lib.hid (HB1.out.ext E12)
 have k1 := HB2.out.cell 1
 have k2 := HB2.out.cell 2
 simp only [List.getElem?_toArray, List.getElem?_cons_zero, List.getElem?_cons_succ] at k1 k2
 have hth : w2.there kb 1 2 := fun t ht => ⟨by
   rcases t with _ | _ | t
   · rw [k1]; rfl
   · rw [k2]; rfl
   · omega, HB2.out.frozen _⟩
 have P2 := Lib.hid P2
 have HB3 := Lib.hid (show Blk (w2.setCells kb 1 [.slice A1 (ln + 1) c1, .int .i64 (nx + 1)]) kb 218 (kerA pv (.slice A1 (ln + 1) c1) (.int .i64 (nx + 1)) (.slice Tt tn ctt) (.slice As sn cs) (.int .i64 kn)) from Blk.setCells [.slice A1 (ln + 1) c1, .int .i64 (nx + 1)] 1 w2 _ HB2.out (by simp))
 have M3 := Lib.hid (Mod.setCells [.slice A1 (ln + 1) c1, .int .i64 (nx + 1)] 1 w2 w2 (Mod.refl (fun k => k = kb) w2))
 go_upto_region 7 with (first | (refine wpList_load_row rfl 79 _ rfl _ rfl 79 _ _ _ P2.out Tryz.underlying79 rfl hiT ?_) | (refine wpList_store_mid rfl 79 _ _ rfl kb 1 #[.slice A1 (ln + 1) c1, .int .i64 (nx + 1)] rfl rfl (by exact hth) hiT (by simp [Value.oneCell']) ?_))
 (try simp only [zP])
 have hsk : (Value.slice As sn cs).ownBlock ≠ some kb := by
   obtain ⟨us, ho, _⟩ := HS1.out
   exact own_blk_ne ho HB1.out (by decide)
 have htk : (Value.slice Tt tn ctt).ownBlock ≠ some kb := by
   obtain ⟨us, ho, _⟩ := HT1.out
   exact own_blk_ne ho HB1.out (by decide)
 have hpk : (Value.slice A1 (ln + 1) c1).ownBlock ≠ some kb := by
   obtain ⟨us, ho, _⟩ := HP1
   exact own_blk_ne ho HB1.out (by decide)
 have HP3 := Lib.hid ((HP1.ext E12).mod M3.out (fun k hk he => hpk (by rw [hk, he])) (fun k _ hk => hk.elim))
 have HT3 := Lib.hid ((HT1.out.ext E12).mod M3.out (fun k hk he => htk (by rw [hk, he])) (fun k _ hk => hk.elim))
 have HS3 := Lib.hid ((HS1.out.ext E12).mod M3.out (fun k hk he => hsk (by rw [hk, he])) (fun k _ hk => hk.elim))
 have HTA3 := Lib.hid ((HTA1.out.ext E12).mod M3.out (fun b hb he => by
   obtain ⟨x, _, h9⟩ := HTA1.out.mem hb
   exact blk_ne h9 HB1.out (by decide) he))
 have HSA3 := Lib.hid (show ∀ b ∈ sbs, SesPipe (w2.setCells kb 1 [.slice A1 (ln + 1) c1, .int .i64 (nx + 1)]) b from fun b hb => by
   have h9 := HSA1.out b hb
   refine (h9.mod (Mod.of_ext (S := fun _ => False) E12) (fun h => h)).mod M3.out (fun he => ?_)
   obtain ⟨id, ld, i, o, r, hb9⟩ := h9.blk
   exact blk_ne hb9 HB1.out (by decide) he)
 have HSB3 := Lib.hid ((HSB1.out.ext E12).mod M3.out (fun he => hks he.symm))
 have M03 := Lib.hid (show Kb.Mod (fun k => k = kb) w _ from (Mod.of_ext (E1.trans E12)).trans M3.out)
 clear HB1 HT1 HTA1 HS1 HSA1 HSB1 HP1 HB2 B8 P2 M2 M3 E12 hth k1 k2
 obtain ⟨w3, hw3⟩ : ∃ w3, w3 = w2.setCells kb 1 [.slice A1 (ln + 1) c1, .int .i64 (nx + 1)] := ⟨_, rfl⟩
 rw [← hw3] at HB3 HP3 HT3 HS3 HTA3 HSA3 HSB3 M03
 first | rw [← hw3] | (change Code.wp _ _ _ _ (w2.setCells kb 1 [.slice A1 (ln + 1) c1, .int .i64 (nx + 1)]); rw [← hw3])
 clear hw3
 generalize w1.heap.size = g8 at *
 have hnx1 := hnx.1
 have hnx2 := hnx.2
 have hkn1 := hkn.1
 have hkn2 := hkn.2
 have q0 := HSB3.out.cell 0
 have q1 := HSB3.out.cell 1
 have q2 := HSB3.out.cell 2
 have r0 := HSB3.out.frozen 0
 have r1 := HSB3.out.frozen 1
 have k4 := HB3.out.cell 4
 have k5 := HB3.out.cell 5
 have f5 := HB3.out.frozen 5
 simp only [List.getElem?_toArray, List.getElem?_cons_zero, List.getElem?_cons_succ] at q0 q1 q2 k4 k5
 have hksl : ¬ sb = kb := fun he => hks he.symm
 go_upto_region 11 with fail
 obtain ⟨w6, hw6⟩ : ∃ w6, w6 = ((w3.setCell ⟨sb, 0, none⟩ (.int .i64 kn)).setCell ⟨sb, 1, none⟩ (.int .i64 nx)).setCell ⟨kb, 5, none⟩ (.int .i64 (kn + 1)) := ⟨_, rfl⟩
 have M36 : Kb.Mod (fun k => k = sb ∨ k = kb) w3 w6 := by
   rw [hw6]
   exact ((((Mod.refl (fun k => k = sb) w3).set1 _).set1 _).mono (fun k _ hk => .inl hk)).trans (((Mod.refl (fun k => k = kb) _).set1 _).mono (fun k _ hk => .inr hk))
 have HSB6 := Lib.hid (show Blk w6 sb 281 (sesA (.int .i64 kn) (.int .i64 nx) i o r) by
   rw [hw6]
   exact ((by simpa using (HSB3.out.set_ 0 (.int .i64 kn)).set_ 1 (.int .i64 nx) : Blk _ sb 281 (sesA (.int .i64 kn) (.int .i64 nx) i o r))).far (p := ⟨kb, 5, none⟩) (fun he => hks he.symm) _)
 have HB6 := Lib.hid (show Blk w6 kb 218 (kerA pv (.slice A1 (ln + 1) c1) (.int .i64 (nx + 1)) (.slice Tt tn ctt) (.slice As sn cs) (.int .i64 (kn + 1))) by
   rw [hw6]
   simpa using (((HB3.out.far (p := ⟨sb, 0, none⟩) hks (.int .i64 kn)).far (p := ⟨sb, 1, none⟩) hks (.int .i64 nx)).set_ 5 (.int .i64 (kn + 1))))
 rw [← hw6]
 clear hw6
 have HP6 := Lib.hid (HP3.out.mod M36 (fun k hk he => he.elim (fun h9 => own_ne HP3.out HSB3.out (by decide) (by rw [hk, h9])) (fun h9 => own_ne HP3.out HB3.out (by decide) (by rw [hk, h9]))) (fun k _ hk => hk.elim))
 have HT6 := Lib.hid (HT3.out.mod M36 (fun k hk he => he.elim (fun h9 => own_ne HT3.out HSB3.out (by decide) (by rw [hk, h9])) (fun h9 => own_ne HT3.out HB3.out (by decide) (by rw [hk, h9]))) (fun k _ hk => hk.elim))
 have HS6 := Lib.hid (HS3.out.mod M36 (fun k hk he => he.elim (fun h9 => own_ne HS3.out HSB3.out (by decide) (by rw [hk, h9])) (fun h9 => own_ne HS3.out HB3.out (by decide) (by rw [hk, h9]))) (fun k _ hk => hk.elim))
 have HTA6 := Lib.hid (HTA3.out.mod M36 (fun b hb he => by
   obtain ⟨x, _, h9⟩ := HTA3.out.mem hb
   exact he.elim (fun h8 => blk_ne h9 HSB3.out (by decide) h8) (fun h8 => blk_ne h9 HB3.out (by decide) h8)))
 have HSA6 := Lib.hid (show ∀ b ∈ sbs, SesPipe w6 b from fun b hb => by
   refine (HSA3.out b hb).mod M36 (fun he => he.elim (fun h8 => HNI.out (by rw [← h8]; exact hb)) (fun h8 => ?_))
   obtain ⟨id, ld, i, o, r, hb9⟩ := (HSA3.out b hb).blk
   exact blk_ne hb9 HB3.out (by decide) h8)
 have M06 := Lib.hid (show Kb.Mod (fun k => k = sb ∨ k = kb) w w6 from (M03.out.mono (fun k _ hk => .inr hk)).trans M36)
 have hs06 := M06.out.size
 clear M36 HP3 HT3 HS3 HTA3 HSA3 HSB3 HB3 M03 q0 q1 q2 r0 r1 k4 k5 f5
 have k4 := HB6.out.cell 4
 simp only [List.getElem?_toArray, List.getElem?_cons_zero, List.getElem?_cons_succ] at k4
 have E67 : Ext w6 (w6.alloc (.cells #[.pointer (some ⟨sb, 0, none⟩)] 276)) := (Ext.refl _).alloc _
 have HY := Lib.hid (Blk.new w6 276 #[.pointer (some ⟨sb, 0, none⟩)])
 have HS7 := Lib.hid (HS6.out.ext E67)
 have HB7 := Lib.hid (HB6.out.ext E67)
 have hb7 := E67.size
 go_upto_region 12 with (at_builtin; refine wpList_appX (e := PtrR) (base := base) (B := fun _ => False) (A := fun _ => False) rfl (.tmp 68) (.tmp 70) rfl Tryz.underlying216 info_sp rfl HS7.out rfl (RdY.singleB (e := PtrR) (cs := [.pointer (some ⟨sb, 0, none⟩)]) (d := sb) rfl HY.out) rfl (fun _ _ h => h.elim) (N := sn + 1) (by rw [HSN.out]; rfl) (by unfold maxLen; omega) (by omega) (by omega) ?_; intro A9 c9 w8 o9 M9 L9 X9; have HB8 := Lib.hid (HB7.out.mod M9 (own_ne HS7.out HB7.out (by decide))); have f4 := HB8.out.frozen 4; have k48 := HB8.out.cell 4; simp only [List.getElem?_toArray, List.getElem?_cons_zero, List.getElem?_cons_succ] at k48)
 obtain ⟨w9, hw9⟩ : ∃ w9, w9 = w8.setCell ⟨kb, 4, none⟩ (.slice A9 (sn + 1) c9) := ⟨_, rfl⟩
 have M89 : Kb.Mod (fun k => k = kb) w8 w9 := by rw [hw9]; exact (Mod.refl _ _).set1 _
 have M69 : Kb.Mod (fun k => k = kb ∨ (Value.slice As sn cs).ownBlock = some k) w6 w9 := ((Mod.of_ext E67).trans (M9.mono (fun k _ hk => .inr hk))).trans (M89.mono (fun k _ hk => .inl hk))
 have HB9 := Lib.hid (show Blk w9 kb 218 (kerA pv (.slice A1 (ln + 1) c1) (.int .i64 (nx + 1)) (.slice Tt tn ctt) (.slice A9 (sn + 1) c9) (.int .i64 (kn + 1))) by rw [hw9]; simpa using HB8.out.set_ 4 (.slice A9 (sn + 1) c9))
 rw [← hw9]
 clear hw9
 have HO9 := Lib.hid (o9.mod M89 (fun k hk he => own_ne o9 HB8.out (by decide) (by rw [hk, he])) (fun k _ hk => hk.elim))
 have HP9 := Lib.hid (HP6.out.mod M69 (fun k hk he => he.elim (fun h9 => own_ne HP6.out HB6.out (by decide) (by rw [hk, h9])) (fun h9 => own_two HP6.out HS6.out (by decide) hk h9)) (fun k _ hk => hk.elim))
 have HT9 := Lib.hid (HT6.out.mod M69 (fun k hk he => he.elim (fun h9 => own_ne HT6.out HB6.out (by decide) (by rw [hk, h9])) (fun h9 => own_two HT6.out HS6.out (by decide) hk h9)) (fun k _ hk => hk.elim))
 have HTA9 := Lib.hid (HTA6.out.mod M69 (fun b hb he => by
   obtain ⟨x, _, h9⟩ := HTA6.out.mem hb
   exact he.elim (fun h8 => blk_ne h9 HB6.out (by decide) h8) (fun h8 => own_ne HS6.out h9 (by decide) h8)))
 have HSB9 := Lib.hid (HSB6.out.mod M69 (fun he => he.elim (fun h8 => hks h8.symm) (fun h8 => own_ne HS6.out HSB6.out (by decide) h8)))
 have HSA9 := Lib.hid (show ∀ b ∈ sbs ++ [sb], SesPipe w9 b from fun b hb => by
   rcases List.mem_append.1 hb with hb | hb
   · have h7 := HSA6.out b hb
     refine h7.mod M69 (fun he => ?_)
     obtain ⟨id, ld, i, o, r, hb9⟩ := h7.blk
     exact he.elim (fun h8 => blk_ne hb9 HB6.out (by decide) h8) (fun h8 => own_ne HS6.out hb9 (by decide) h8)
   · simp at hb
     rw [hb]
     exact ⟨_, _, _, _, _, HSB9.out⟩)
 have M09 := Lib.hid (show Kb.Mod (fun k => k = sb ∨ k = kb ∨ (Value.slice As sn cs).ownBlock = some k) w w9 from Mod.trans (M06.out.mono (fun k _ hk => hk.elim .inl (fun h => .inr (.inl h)))) (M69.mono (fun k _ hk => .inr hk)))
 have hs09 := M09.out.size
 clear M69 M89 M9 L9 X9 E67 HY HS7 HB7 HB8 HB6 HP6 HT6 HS6 HTA6 HSA6 HSB6 o9 M06 k4 k48 f4 hb7
 have k3 := HB9.out.cell 3
 have q0 := HSB9.out.cell 0
 simp only [List.getElem?_toArray, List.getElem?_cons_zero, List.getElem?_cons_succ] at k3 q0
 have hkw := HB9.out.lt
 have hsw := HSB9.out.lt
 have ntk : ¬ (Value.slice Tt tn ctt).ownBlock = some kb := own_ne HT9.out HB9.out (by decide)
 have nts : ¬ (Value.slice Tt tn ctt).ownBlock = some sb := own_ne HT9.out HSB9.out (by decide)
 refine region_till 16 (fun w' => Kb.Mod (fun k => (Value.slice Tt tn ctt).ownBlock = some k) w9 w') (by kernel_rfl) (Mod.of_ext (Ext.drew (Ext.refl _))) (fun hHeld => ?_)
 obtain ⟨D, hD⟩ : ∃ D, D = w9.drew := ⟨_, rfl⟩
 have ED : Ext w9 D := by rw [hD]; exact (Ext.refl _).drew
 rw [← hD] at hHeld ⊢
 clear hD
 (refine till_take (i := 0) (v := ?_) rfl (by kernel_rfl) (by kernel_rfl) (by kernel_rfl) (by kernel_rfl) (fun _ _ _ h => h) (Or.inl ⟨by rfl, ?_⟩) (by assumption) ?_; rotate_left; (focus (intro w' hSw; go_simp; try with_reducible rfl)); (try simp only [zP]))
 (refine till_take (i := 1) (v := ?_) rfl (by kernel_rfl) (by kernel_rfl) (by kernel_rfl) (by kernel_rfl) (fun _ _ _ h => h) (Or.inl ⟨by rfl, ?_⟩) (by assumption) ?_; rotate_left; (focus (intro w' hSw; go_simp; try with_reducible rfl)); (try simp only [zP]))
 (refine till_take (i := 2) (v := ?_) rfl (by kernel_rfl) (by kernel_rfl) (by kernel_rfl) (by kernel_rfl) (fun _ _ _ h => h) (Or.inl ⟨by rfl, ?_⟩) (by assumption) ?_; rotate_left; (focus (intro w' hSw; go_simp; try with_reducible rfl)); (try simp only [zP]))
 (refine till_take (i := 3) (v := ?_) rfl (by kernel_rfl) (by kernel_rfl) (by kernel_rfl) (by kernel_rfl) (fun _ _ _ h => h) (Or.inl ⟨by rfl, ?_⟩) (by assumption) ?_; rotate_left; (focus (intro w' hSw; go_simp; try with_reducible rfl)); (try simp only [zP]))
 (refine till_take (i := 4) (v := ?_) rfl (by kernel_rfl) (by kernel_rfl) (by kernel_rfl) (by kernel_rfl) (fun _ _ _ h => h) (Or.inl ⟨by rfl, ?_⟩) (by assumption) ?_; rotate_left; (focus (intro w' hSw; have kc := (hSw.cell kb 3 hkw ntk).trans k3; go_simp; try with_reducible rfl)); (try simp only [zP]))
 (refine till_take (i := 5) (v := ?_) rfl (by kernel_rfl) (by kernel_rfl) (by kernel_rfl) (by kernel_rfl) (fun _ _ _ h => h) (Or.inl ⟨by rfl, ?_⟩) (by assumption) ?_; rotate_left; (focus (intro w' hSw; go_simp; try with_reducible rfl)); (try simp only [zP]))
 (refine till_take (i := 6) (v := ?_) rfl (by kernel_rfl) (by kernel_rfl) (by kernel_rfl) (by kernel_rfl) (fun _ _ _ h => h) (Or.inl ⟨by rfl, ?_⟩) (by assumption) ?_; rotate_left; (focus (intro w' hSw; go_simp; try with_reducible rfl)); (try simp only [zP]))
 (refine till_take (i := 7) (v := ?_) rfl (by kernel_rfl) (by kernel_rfl) (by kernel_rfl) (by kernel_rfl) (fun _ _ _ h => h) (Or.inl ⟨by rfl, ?_⟩) (by assumption) ?_; rotate_left; (focus (intro w' hSw; go_simp; try with_reducible rfl)); (try simp only [zP]))
 (refine till_take (i := 8) (v := ?_) rfl (by kernel_rfl) (by kernel_rfl) (by kernel_rfl) (by kernel_rfl) (fun _ _ _ h => h) (Or.inl ⟨by rfl, ?_⟩) (by assumption) ?_; rotate_left; (focus (intro w' hSw; go_simp; try with_reducible rfl)); (try simp only [zP]))
 (refine till_take (i := 9) (v := ?_) rfl (by kernel_rfl) (by kernel_rfl) (by kernel_rfl) (by kernel_rfl) (fun _ _ _ h => h) (Or.inl ⟨by rfl, ?_⟩) (by assumption) ?_; rotate_left; (focus (intro w' hSw; have kc := (hSw.cell sb 0 hsw nts).trans q0; go_simp; try with_reducible rfl)); (try simp only [zP]))
 (refine till_take (i := 10) (v := .agg (tskA nx kn)) rfl (by kernel_rfl) (by kernel_rfl) (by kernel_rfl) (by kernel_rfl) (fun _ _ _ h => h) (yieldsIf_build (by rfl) 329 _ rfl (by simp [go_sem]; exact (by kernel_rfl))) (by assumption) ?_; (try simp only [zP]))
 refine till_ready (rs := [11]) (by kernel_rfl) (by simp) ?_
 refine AllTill.cons rfl (fun K hK => ?_) AllTill.nil
 go_simp
 have HX := Lib.hid (Blk.new D 329 (tskA nx kn))
 have EX : Ext D (D.alloc (.cells (tskA nx kn) 329)) := (Ext.refl _).alloc _
 refine hK.out _ _ (Mod.of_ext (ED.trans EX)) (fun hHeld => ?_)
 clear hK K
 (try simp only [zP])
 have hds : w9.heap.size ≤ D.heap.size := ED.size
 have E4 := ED.trans EX
 have hx4 := HX.out.lt
 have HT4 := Lib.hid (HT9.out.ext E4)
 generalize D.alloc (.cells (tskA nx kn) 329) = u4 at *
 obtain ⟨tb, htb⟩ : ∃ tb, D.heap.size = tb := ⟨_, rfl⟩
 rw [htb] at HX hds hx4 ⊢
 clear EX ED htb
 refine till_ready (rs := [12]) (by kernel_rfl) (by simp) ?_
 refine AllTill.cons rfl (fun K hK => ?_) AllTill.nil
 go_simp
 have HY := Lib.hid (Blk.new u4 327 #[.pointer (some ⟨tb, 0, none⟩)])
 have EY : Ext u4 (u4.alloc (.cells #[.pointer (some ⟨tb, 0, none⟩)] 327)) := (Ext.refl _).alloc _
 refine hK.out _ _ (Mod.of_ext (E4.trans EY)) (fun hHeld => ?_)
 clear hK K
 (try simp only [zP])
 have HT5 := Lib.hid (HT4.out.ext EY)
 have HX5 := Lib.hid (HX.out.ext EY)
 have E5 := E4.trans EY
 have hs4 := E4.size
 have hs45 := EY.size
 generalize u4.alloc (.cells #[.pointer (some ⟨tb, 0, none⟩)] 327) = u5 at *
 generalize u4.heap.size = nY at *
 clear EY E4 HT4 HX
 refine till_ready (rs := [13]) (by kernel_rfl) (by simp) ?_
 refine AllTill.cons rfl (fun K hK => ?_) AllTill.nil
 refine step_appX (e := PtrR) (base := base) (B := fun _ => False) (A := fun _ => False) rfl (.tmp 78) (.tmp 86) rfl Tryz.underlying215 info_tp rfl HT5.out rfl (RdY.singleB (e := PtrR) (cs := [.pointer (some ⟨tb, 0, none⟩)]) (d := tb) rfl HY.out) rfl (fun _ _ h => h.elim) (N := tn + 1) (by rw [HTN.out]; rfl) (by unfold maxLen; omega) (by omega) (by omega) ?_
 intro A8 c8 u6 o8 M8 X8
 have M96 := (Mod.of_ext E5).trans M8
 refine hK.out _ _ M96 (fun hHeld => ?_)
 clear hK K
 (try simp only [zP])
 have HX6 := Lib.hid (HX5.out.mod M8 (own_ne HT5.out HX5.out (by decide)))
 have HB6 := Lib.hid (HB9.out.mod M96 ntk)
 have HSB6 := Lib.hid (HSB9.out.mod M96 nts)
 have HP6 := Lib.hid (HP9.out.mod M96 (fun k hk he => own_two HP9.out HT9.out (by decide) hk he) (fun k _ hk => hk.elim))
 have HO6 := Lib.hid (HO9.out.mod M96 (fun k hk he => own_two HO9.out HT9.out (by decide) hk he) (fun k _ hk => hk.elim))
 have HTA6 := Lib.hid (HTA9.out.mod M96 (fun b hb he => by
   obtain ⟨x, _, h9⟩ := HTA9.out.mem hb
   exact own_ne HT9.out h9 (by decide) he))
 have HSA6 := Lib.hid (show ∀ b ∈ sbs ++ [sb], SesPipe u6 b from fun b hb => by
   have h7 := HSA9.out b hb
   refine h7.mod M96 (fun he => ?_)
   obtain ⟨id, ld, i, o, r, hb9⟩ := h7.blk
   exact own_ne HT9.out hb9 (by decide) he)
 have o8 := Lib.hid o8
 have hs6 := M96.size
 have M06 := Lib.hid (show Kb.Mod (fun k => k = sb ∨ k = kb ∨ (Value.slice As sn cs).ownBlock = some k ∨ (Value.slice Tt tn ctt).ownBlock = some k) w u6 from Mod.trans (M09.out.mono (fun k _ hk => hk.elim .inl (fun h => .inr (h.elim .inl (fun h => .inr (.inl h)))))) (M96.mono (fun k _ hk => .inr (.inr (.inr hk)))))
 clear M8 HY HT5 HX5 E5 HB9 HSB9 HP9 HO9 HTA9 HSA9 HT9 M09 k3 q0 hHeld
 (refine till_ready (rs := [14]) (by kernel_rfl) (by simp) ?_; refine AllTill.cons rfl (fun K hK => ?_) AllTill.nil; go_simp; refine hK.out _ _ M96 (fun hHeld => ?_); clear hK K; (try simp only [zP]))
 (refine till_take (i := 15) (v := ?_) rfl (by kernel_rfl) (by kernel_rfl) (by kernel_rfl) (by kernel_rfl) (fun _ _ _ h => h) (Or.inl ⟨by rfl, ?_⟩) (by assumption) ?_; rotate_left; (focus (intro w' hSw; go_simp; try with_reducible rfl)); (try simp only [zP]))
 have k3 := HB6.out.cell 3
 have f3 := HB6.out.frozen 3
 simp only [List.getElem?_toArray, List.getElem?_cons_succ, List.getElem?_cons_zero] at k3
 (refine till_ready (rs := [16]) (by kernel_rfl) (by simp) ?_; refine AllTill.last rfl (fun K hK => ?_) AllTill.nil; go_simp; refine hK.out _ _ ?_; clear hK K; (try simp only [zP]))
 refine till_done (by kernel_rfl) ?_ _
 obtain ⟨wA, hwA⟩ : ∃ wA, wA = u6.setCell ⟨kb, 3, none⟩ (.slice A8 (tn + 1) c8) := ⟨_, rfl⟩
 have MA : Kb.Mod (fun k => k = kb) u6 wA := by rw [hwA]; exact (Mod.refl _ _).set1 _
 have HBA := Lib.hid (show Blk wA kb 218 (kerA pv (.slice A1 (ln + 1) c1) (.int .i64 (nx + 1)) (.slice A8 (tn + 1) c8) (.slice A9 (sn + 1) c9) (.int .i64 (kn + 1))) by rw [hwA]; simpa using HB6.out.set_ 3 (.slice A8 (tn + 1) c8))
 rw [← hwA]
 clear hwA
 have HPA := Lib.hid (HP6.out.mod MA (fun k hk he => own_ne HP6.out HB6.out (by decide) (by rw [hk, he])) (fun k _ hk => hk.elim))
 have HOA := Lib.hid (HO6.out.mod MA (fun k hk he => own_ne HO6.out HB6.out (by decide) (by rw [hk, he])) (fun k _ hk => hk.elim))
 have HTKA := Lib.hid (o8.out.mod MA (fun k hk he => own_ne o8.out HB6.out (by decide) (by rw [hk, he])) (fun k _ hk => hk.elim))
 have HTAA := Lib.hid ((HTA6.out.snoc (x := (nx, kn)) HX6.out).mod MA (fun b hb he => by
   obtain ⟨x, _, h9⟩ := (HTA6.out.snoc (x := (nx, kn)) HX6.out).mem hb
   exact blk_ne h9 HB6.out (by decide) he))
 have HSAA := Lib.hid (show ∀ b ∈ sbs ++ [sb], SesPipe wA b from fun b hb => by
   have h7 := HSA6.out b hb
   refine h7.mod MA (fun he => ?_)
   obtain ⟨id, ld, i, o, r, hb9⟩ := h7.blk
   exact blk_ne hb9 HB6.out (by decide) he)
 have HSBA := Lib.hid (HSB6.out.mod MA (fun he => hks he.symm))
 have M0A := Lib.hid (show Kb.Mod (fun k => k = sb ∨ k = kb ∨ (Value.slice As sn cs).ownBlock = some k ∨ (Value.slice Tt tn ctt).ownBlock = some k) w wA from Mod.trans M06.out (MA.mono (fun k _ hk => .inr (.inl hk))))
 have hlen : (l ++ [newP nx prog]).length = ln + 1 := by simp [HLN.out]
 have HTI := tidy_any (A := fun _ => True) (A2 := fun _ => True) kb base pv (.slice A8 (tn + 1) c8) (.slice A9 (sn + 1) c9) (.int .i64 (kn + 1)) A1 c1 (l ++ [newP nx prog]) (nx + 1) (tbs ++ [tb]) (sbs ++ [sb]) (ts ++ [(nx, kn)]) wA (by rw [hlen]; exact HBA.out) (by rw [hlen]; exact HPA.out.rdT.y) HTKA.out.rdT.y HTAA.out HLV.out HOA.out HSAA.out (by simp [HSN.out]; omega)
 rw [hlen] at HTI
 have HTI := Lib.hid HTI
 clear HB6 HP6 HO6 o8 HTA6 HX6 HSA6 HSB6 MA M06 k3 f3 M96
 go_wp2_with fail
 refine (HTI.out).mono ?_
 rintro e wB ⟨rfl, HBB, MB⟩
 have HSBB := HSBA.out.mod MB (fun he => hks he.symm)
 have q0 := HSBB.cell 0
 simp only [List.getElem?_toArray, List.getElem?_cons_zero] at q0
 have HBB := Lib.hid HBB
 clear HTI
 go_wp2
 go_ret2
 refine ⟨rfl, ⟨tb, hkb, A1, c1, .slice A8 (tn + 1) c8, .slice A9 (sn + 1) c9, by rw [hlen]; exact HBB.out, by rw [hlen]; exact (HPA.out.mod MB (fun k hk he => own_ne HPA.out HBA.out (by decide) (by rw [hk, he])) (fun k _ hk => hk.elim)).lower hb, HTKA.out.mod MB (fun k hk he => own_ne HTKA.out HBA.out (by decide) (by rw [hk, he])) (fun k _ hk => hk.elim), HTAA.out.mod MB (fun b hb he => by
   obtain ⟨x, _, h9⟩ := HTAA.out.mem hb
   exact blk_ne h9 HBA.out (by decide) he), HOA.out.mod MB (fun k hk he => own_ne HOA.out HBA.out (by decide) (by rw [hk, he])) (fun k _ hk => hk.elim), fun b hb => by
   have h7 := HSAA.out b hb
   refine h7.mod MB (fun he => ?_)
   obtain ⟨id, ld, i, o, r, hb9⟩ := h7.blk
   exact blk_ne hb9 HBA.out (by decide) he⟩, ?_⟩
 refine Mod.mono (Mod.trans M0A.out (MB.mono (fun k _ hk => .inr (.inl hk)))) (fun k hk he => ?_)
 rcases he with he | he | he | he
 · exact .inl he
 · exact .inr (by rw [he]; exact HBZ.out.ty (by simp) hkb)
 · exact .inr (HSZ.out.ty he (by simp) (Nat.le_refl _))
 · exact .inr (HTZ.out.ty he (by simp) (Nat.le_refl _))
end Go.Proofs.YtmmhcllibpmfnaaGreatDoor
namespace Go.Proofs.YtmmhcllibpmfnaaGreatDoor
open Go.RowKit Go.Kb
set_option maxRecDepth 100000
theorem KerS.ext {kb base : Nat} {w w' : World} {pv : Value} {l : List Tb.Pr} {nx kn : Int} {tbs sbs : List Nat} {ts : List (Int × Int)} (h : KerS kb base w pv l nx kn tbs sbs ts) (E : Ext w w') : KerS kb base w' pv l nx kn tbs sbs ts := by
 obtain ⟨hkb, At, ct, tk, ss, HB, HP, HT, HTA, HS, HSA⟩ := h
 exact ⟨hkb, At, ct, tk, ss, HB.ext E, HP.ext E, HT.ext E, HTA.ext E, HS.ext E, fun b hb => (HSA b hb).mod (Mod.of_ext (S := fun _ => False) E) (fun h => h)⟩
theorem KerS.modT {kb base : Nat} {w w' : World} {pv : Value} {l : List Tb.Pr} {nx kn : Int} {tbs sbs : List Nat} {ts : List (Int × Int)} (h : KerS kb base w pv l nx kn tbs sbs ts) {tys : List TypeId} {base2 : Nat} (M : ModT tys base2 w w')
   (h1 : 218 ∉ tys) (h2 : 234 ∉ tys) (h3 : 327 ∉ tys) (h4 : 329 ∉ tys) (h5 : 276 ∉ tys) (h6 : 281 ∉ tys) : KerS kb base w' pv l nx kn tbs sbs ts := by
 obtain ⟨hkb, At, ct, tk, ss, HB, HP, HT, HTA, HS, HSA⟩ := h
 refine ⟨hkb, At, ct, tk, ss, HB.modT M h1, HP.modT M h2, HT.modT M h3, HTA.mod M (fun b hb => ?_), HS.modT M h5, fun b hb => (HSA b hb).mod M ?_⟩
 · obtain ⟨x, _, h9⟩ := HTA.mem hb
   exact h9.nty h4
 · obtain ⟨id, ld, i, o, r, hb9⟩ := (HSA b hb).blk
   exact hb9.nty h6
theorem KerS.lts {kb base : Nat} {w : World} {pv : Value} {l : List Tb.Pr} {nx kn : Int} {tbs sbs : List Nat} {ts : List (Int × Int)} (h : KerS kb base w pv l nx kn tbs sbs ts) : ∀ b ∈ sbs, b < w.heap.size := by
 obtain ⟨hkb, At, ct, tk, ss, HB, HP, HT, HTA, HS, HSA⟩ := h
 exact fun b hb => (HSA b hb).lt
def OpenPP (kb base : Nat) (pv : Value) (l : List Tb.Pr) (nx kn prog : Int) (tbs sbs : List Nat) (ts : List (Int × Int)) (w : World) (e : Ending) (w' : World) : Prop :=
 e = .returned (.tuple #[.int .i64 kn, .int .i64 0]) ∧ (∃ tb sb, KerS kb base w' pv (l ++ [newP nx prog]) (nx + 1) (kn + 1) (tbs ++ [tb]) (sbs ++ [sb]) (ts ++ [(nx, kn)])) ∧ ModT kTys base w w'
set_option maxHeartbeats 4000000 in
theorem openPipe_any (kb base : Nat) (Ap : Option Addr) (np cp : Nat) (l : List Tb.Pr) (nx kn : Int) (prog : Nat) (tbs sbs : List Nat) (ts : List (Int × Int)) (w : World) (h : KerS kb base w (.slice Ap np cp) l nx kn tbs sbs ts) (hb : base ≤ w.heap.size) (hp : prog < np)
   (hnx : 1 ≤ nx ∧ nx ≤ 1000) (hkn : 1 ≤ kn ∧ kn ≤ 1000) (hr : Tb.rightL l nx = true) (hl : l.length < 32) (hs8 : sbs.length < 8) (ht8 : tbs.length ≤ 100) (hlv : ∀ x ∈ ts ++ [(nx, kn)], Tb.liveL (l ++ [newP nx prog]) (nx + 1) x.1 = true) :
   Calls Tryz.prog 285 #[.pointer (some ⟨kb, 0, none⟩), .int .i64 prog] w (OpenPP kb base (.slice Ap np cp) l nx kn prog tbs sbs ts w) := by
 have HKN := Lib.hid (show ∀ w', Ext w w' → Calls Tryz.prog 319 #[.pointer (some ⟨kb, 0, none⟩), .int .i64 prog] w' (fun e w'' => e = .returned (.bool true) ∧ Ext w' w'') from fun w' E => by
   obtain ⟨hkb, At, ct, tk, ss, HB, -⟩ := h
   exact kknown_any kb Ap np cp _ _ _ _ _ prog w' (HB.ext E) hp)
 have HK := Lib.hid h
 have HBG := Lib.hid (fun (w' : World) (sb : Nat) (i o r : Value) (hk : KerS kb base w' (.slice Ap np cp) l nx kn tbs sbs ts) (hb' : base ≤ w'.heap.size) (hsb : Blk w' sb 281 (sesA (.int .i64 0) (.int .i64 0) i o r)) (hsn : sb ∉ sbs) =>
   begin_any kb base sb (.slice Ap np cp) l nx kn prog tbs sbs ts i o r w' hk hb' hsb hsn hnx hkn hr hl hs8 ht8 hlv)
 unfold BeginP at HBG
 unfold OpenPP
 clear h hnx hkn hr hl hs8 ht8 hlv hp
 go_enter Tryz.func285, Tryz.ntmps285
 go_wp2_with fail
 refine (HKN.out _ (Ext.refl _)).mono ?_
 rintro e w1 ⟨rfl, E1⟩
 go_wp2_with fail
 refine (pipe_any _).mono ?_
 rintro e w2 ⟨r1, rfl, E2⟩
 go_wp2_with fail
 refine (pipe_any _).mono ?_
 rintro e w3 ⟨r2, rfl, E3⟩
 go_wp2_with fail
 refine (pipe_any _).mono ?_
 rintro e w4 ⟨r3, rfl, E4⟩
 have E04 := ((E1.trans E2).trans E3).trans E4
 obtain ⟨w5, hw5⟩ : ∃ w5, w5 = w4.alloc (.cells (sesA (.int .i64 0) (.int .i64 0) (.pointer (some ⟨r1, 0, none⟩)) (.pointer (some ⟨r2, 0, none⟩)) (.pointer (some ⟨r3, 0, none⟩))) 281) := ⟨_, rfl⟩
 have E45 : Ext w4 w5 := by rw [hw5]; exact (Ext.refl _).alloc _
 have HSB := Lib.hid (show Blk w5 w4.heap.size 281 (sesA (.int .i64 0) (.int .i64 0) (.pointer (some ⟨r1, 0, none⟩)) (.pointer (some ⟨r2, 0, none⟩)) (.pointer (some ⟨r3, 0, none⟩))) by rw [hw5]; exact Blk.new w4 _ _)
 have E05 := E04.trans E45
 have hs04 := E04.size
 have hs05 := E05.size
 have HK5 := Lib.hid (HK.out.ext E05)
 have HNI := Lib.hid (show w4.heap.size ∉ sbs from fun h9 => by have := HK.out.lts _ h9; omega)
 have HW5 := Lib.hid hw5
 clear hw5 HKN HK E1 E2 E3 E4 E45 E04
 go_wp2_with fail
 rw [← HW5.out]
 refine (HBG.out w5 _ _ _ _ HK5.out (by omega) HSB.out HNI.out).mono ?_
 rintro e w6 ⟨rfl, ⟨tb, HK6⟩, M6⟩
 have HK6 := Lib.hid HK6
 have M6 := Lib.hid M6
 have HS4 := Lib.hid hs04
 clear HBG HK5 HSB HNI HW5
 go_wp2
 go_ret2
 refine ⟨rfl, ⟨tb, _, HK6.out⟩, ?_⟩
 refine ModT.of_mod (Mod.transN (Mod.of_ext (S := TySet kTys base w) E05) M6.out (fun k hk he => ?_)) (fun k _ hk => hk)
 rcases he with he | he
 · have := HS4.out; omega
 · obtain ⟨h1, cs, t, fr, h3, h4⟩ := he
   rw [E05.block k hk] at h3
   exact ⟨h1, cs, t, fr, h3, h4⟩
end Go.Proofs.YtmmhcllibpmfnaaGreatDoor
namespace Go.Proofs.YtmmhcllibpmfnaaGreatDoor
open Go.RowKit Go.Kb
set_option maxRecDepth 100000
theorem lnL_1 {x : Ln} {u : Value} (h : x.sc[0]? = some u) : (lnL x)[1]? = some u := by
 unfold lnL
 rw [List.getElem?_cons_succ, List.getElem?_append_left (List.getElem?_eq_some_iff.1 h).1]
 exact h
theorem lnL_33 {x : Ln} (h : x.sc.length = 32) : (lnL x)[33]? = some (.int .i64 x.kid) := by
 unfold lnL
 rw [List.getElem?_cons_succ, List.getElem?_append_right (by omega), h]
 rfl
theorem lnL_set {x : Ln} (h : x.sc.length = 32) (k : Int) : (lnL x).toArray.setIfInBounds 33 (.int .i64 k) = (lnL { x with kid := k }).toArray := by
 unfold lnL
 rw [List.setIfInBounds_toArray, List.set_cons_succ, List.set_append_right _ _ (by omega), h]
 rfl
def StartP (kb base b : Nat) (pp : Value) (x : Ln) (l : List Tb.Pr) (nx kn prog : Int) (tbs sbs : List Nat) (ts : List (Int × Int)) (w : World) (e : Ending) (w' : World) : Prop :=
 e = .returned (.bool true) ∧ (∃ tb sb, KerS kb base w' pp (l ++ [newP nx prog]) (nx + 1) (kn + 1) (tbs ++ [tb]) (sbs ++ [sb]) (ts ++ [(nx, kn)])) ∧ Blk w' b 311 (lnL { x with kid := kn }).toArray ∧ Mod (fun k => k = b ∨ TySet kTys base w k) w w'
set_option maxHeartbeats 4000000 in
theorem start_any (g kb base b : Nat) (pv fv bd cv lm dd lv lf sv : Value) (x : Ln) (Ap : Option Addr) (np cp : Nat) (l : List Tb.Pr) (nx kn : Int) (prog : Nat) (tbs sbs : List Nat) (ts : List (Int × Int)) (w : World)
   (hg : Blk w g 143 (srvA pv fv bd cv lm dd (.pointer (some ⟨kb, 0, none⟩)) lv lf sv)) (hx : Blk w b 311 (lnL x).toArray) (hsc : x.sc.length = 32) (hpt : x.sc[0]? = some (.bool false)) (h : KerS kb base w (.slice Ap np cp) l nx kn tbs sbs ts) (hb : base ≤ w.heap.size) (hp : prog < np)
   (hnx : 1 ≤ nx ∧ nx ≤ 1000) (hkn : 1 ≤ kn ∧ kn ≤ 1000) (hr : Tb.rightL l nx = true) (hl : l.length < 32) (hs8 : sbs.length < 8) (ht8 : tbs.length ≤ 100) (hlv : ∀ x ∈ ts ++ [(nx, kn)], Tb.liveL (l ++ [newP nx prog]) (nx + 1) x.1 = true) :
   Calls Tryz.prog 225 #[.pointer (some ⟨g, 0, none⟩), .pointer (some ⟨b, 0, none⟩), .int .i64 prog] w (StartP kb base b (.slice Ap np cp) x l nx kn prog tbs sbs ts w) := by
 have HOP := Lib.hid (openPipe_any kb base Ap np cp l nx kn prog tbs sbs ts w h hb hp hnx hkn hr hl hs8 ht8 hlv)
 unfold OpenPP at HOP
 unfold StartP
 have HX := Lib.hid hx
 have HSC := Lib.hid hsc
 have k6 := hg.cell 6
 have x1 := hx.cell 1
 simp only [List.getElem?_toArray, List.getElem?_cons_zero, List.getElem?_cons_succ] at k6
 rw [List.getElem?_toArray, lnL_1 hpt] at x1
 clear hg hx hsc hpt h hb hp hnx hkn hr hl hs8 ht8 hlv
 go_enter Tryz.func225, Tryz.ntmps225
 go_wp2_with fail
 refine (HOP.out).mono ?_
 rintro e w1 ⟨rfl, ⟨tb, sb, HK1⟩, M1⟩
 have HX1 := Lib.hid (HX.out.modT M1 (by decide))
 have x33 := HX1.out.cell 33
 have f33 := HX1.out.frozen 33
 rw [List.getElem?_toArray, lnL_33 HSC.out] at x33
 have HK1 := Lib.hid HK1
 have M1 := Lib.hid M1
 clear HOP
 go_wp2
 go_ret
 have M2 : Kb.Mod (fun k => k = b) w1 (w1.setCell ⟨b, 33, none⟩ (.int .i64 kn)) := (Mod.refl _ _).set1 _
 have hB2 : Blk (w1.setCell ⟨b, 33, none⟩ (.int .i64 kn)) b 311 (lnL { x with kid := kn }).toArray := by
   have h9 := HX1.out.set_ 33 (.int .i64 kn)
   rw [lnL_set HSC.out] at h9
   exact h9
 refine ⟨rfl, ⟨tb, sb, HK1.out.modT (tys := [311]) (base2 := 0) (ModT.of_mod M2 (fun k _ hk => by rw [hk]; exact HX1.out.ty (by simp) (Nat.zero_le _))) (by decide) (by decide) (by decide) (by decide) (by decide) (by decide)⟩, hB2, Mod.trans (Mod.mono M1.out (fun k _ hk => .inr hk)) (M2.mono (fun k _ hk => .inl hk))⟩
end Go.Proofs.YtmmhcllibpmfnaaGreatDoor
namespace Go.Proofs.YtmmhcllibpmfnaaGreatDoor
open Go.RowKit Go.Kb
set_option maxRecDepth 100000
/-- a word of so many signs at least: an error's number -/
def wordE (s : ByteArray) (least : Int) : Int := if decide (least ≤ (s.size : Int)) && decide (s.size ≤ 64) && (bsL s).all (fun c => decide (33 ≤ c ∧ c ≤ 126)) then 0 else 4
theorem wordE_yes {s : ByteArray} {least : Int} (h1 : least ≤ (s.size : Int)) (h2 : s.size ≤ 64) (h3 : ∀ c ∈ bsL s, 33 ≤ c ∧ c ≤ 126) : wordE s least = 0 := by
 unfold wordE
 rw [if_pos]
 simp only [Bool.and_eq_true, decide_eq_true_eq, List.all_eq_true]
 exact ⟨⟨h1, h2⟩, h3⟩
theorem wordE_no {s : ByteArray} {least : Int} (h : ¬ (least ≤ (s.size : Int) ∧ s.size ≤ 64 ∧ ∀ c ∈ bsL s, 33 ≤ c ∧ c ≤ 126)) : wordE s least = 4 := by
 unfold wordE
 rw [if_neg]
 simp only [Bool.and_eq_true, decide_eq_true_eq, List.all_eq_true]
 exact fun h9 => h ⟨h9.1.1, h9.1.2, h9.2⟩
theorem wordE_zero {s : ByteArray} {least : Int} (h : wordE s least = 0) : s.size ≤ 64 := by
 apply Classical.byContradiction
 intro hn
 rw [wordE_no (fun h9 => hn h9.2.1)] at h
 cases h
set_option maxHeartbeats 800000 in
theorem word_any (s : ByteArray) (least : Int) (w : World) : Calls Tryz.prog 201 #[.string s, .int .i64 least] w fun e w' => e = .returned (.int .i64 (wordE s least)) ∧ Ext w w' := by
 have HL := Lib.hid (bsL_len s)
 have HIX := Lib.hid (str_ix s)
 obtain ⟨z, hz⟩ : ∃ z, wordE s least = z := ⟨_, rfl⟩
 rw [hz]
 have HZ := Lib.hid hz
 clear hz
 obtain ⟨N, hN⟩ : ∃ N, s.size = N := ⟨_, rfl⟩
 have hg : goInt (s.size : Int) = .int .i64 (N : Int) := by rw [hN]; rfl
 have HN := Lib.hid hN
 by_cases h1 : (N : Int) < least
 · have h0 : z = 4 := by rw [← HZ.out]; exact wordE_no (fun h => by have := h.1; rw [HN.out] at this; omega)
   subst h0
   go_enter Tryz.func201, Tryz.ntmps201
   go_wp2
   go_ret
   exact ⟨rfl, zX⟩
 · by_cases h2 : 64 < N
   · have h3 : (64 : Int) < N := by omega
     have h0 : z = 4 := by rw [← HZ.out]; exact wordE_no (fun h => by have := h.2.1; rw [HN.out] at this; omega)
     subst h0
     go_enter Tryz.func201, Tryz.ntmps201
     go_wp2
     go_ret
     exact ⟨rfl, zX⟩
   · have h3 : ¬ (64 : Int) < N := by omega
     go_enter Tryz.func201, Tryz.ntmps201
     go_wp2
     go_loopw [17] (fun i wr => ∃ m : Nat, m ≤ N ∧ i = .int .i64 m ∧ Hid (∀ c ∈ (bsL s).take m, 33 ≤ c ∧ c ≤ 126) ∧ Hid (Ext w wr)) (fun i _ => N - (intOf i).toNat)
     case atStart => exact ⟨0, Nat.zero_le _, rfl, Lib.hid (by simp), Lib.hid (Ext.refl _)⟩
     case round =>
       obtain ⟨m, hm, rfl, HC, hE⟩ := hrel
       by_cases hmn : m < N
       · obtain ⟨c, hc, hix⟩ := HIX.out m (by rw [hN]; exact hmn)
         by_cases c1 : c < 33
         · have h0 : z = 4 := by rw [← HZ.out]; exact wordE_no (fun h => by have := (h.2.2 c (List.mem_of_getElem? hc.out)).1; omega)
           subst h0
           go_wp2
           go_ret
           exact ⟨rfl, hE.out⟩
         · by_cases c2 : 126 < c
           · have h0 : z = 4 := by rw [← HZ.out]; exact wordE_no (fun h => by have := (h.2.2 c (List.mem_of_getElem? hc.out)).2; omega)
             subst h0
             go_wp2
             go_ret
             exact ⟨rfl, hE.out⟩
           · go_wp2
             go_roundw
             case rel => exact ⟨m + 1, by omega, by go_num, Lib.hid (by
               rw [List.take_add_one, hc.out]
               intro x hx
               rcases List.mem_append.1 hx with h | h
               · exact HC.out x h
               · simp at h; rw [h]; omega), hE⟩
             case measure => simp [intOf]; omega
       · obtain rfl : m = N := by omega
         have h0 : z = 0 := by
           rw [← HZ.out]
           have h9 := HC.out
           rw [← HN.out, ← HL.out, List.take_length] at h9
           exact wordE_yes (by rw [HN.out]; omega) (by rw [HN.out]; omega) h9
         subst h0
         go_wp2
         go_ret
         exact ⟨rfl, hE.out⟩
/-- at most so many -/
def longE (n : Int) : Int := if 1024 < n then 6 else 0
set_option maxHeartbeats 400000 in
theorem long_any (n : Int) (w : World) : Calls Tryz.prog 202 #[.int .i64 n] w fun e w' => e = .returned (.int .i64 (longE n)) ∧ Ext w w' := by
 by_cases h : 1024 < n
 · rw [show longE n = 6 from if_pos h]
   go_enter Tryz.func202, Tryz.ntmps202
   go_wp2
   go_ret
   exact ⟨rfl, zX⟩
 · rw [show longE n = 0 from if_neg h]
   go_enter Tryz.func202, Tryz.ntmps202
   go_wp2
   go_ret
   exact ⟨rfl, zX⟩
/-- the first that is no nought -/
def firstE : List Int → Int | [] => 0 | e :: r => if e = 0 then firstE r else e
theorem firstE_take {l : List Int} {j : Nat} (h : ∀ e ∈ l.take j, e = 0) : firstE l = firstE (l.drop j) := by
 induction l generalizing j with
 | nil => simp
 | cons a r ih =>
   cases j with
   | zero => rfl
   | succ j =>
     have ha : a = 0 := h a (by simp)
     rw [List.drop_succ_cons, ← ih (fun e he => h e (by simp [he]))]
     simp [firstE, ha]
set_option maxHeartbeats 800000 in
theorem first_any (v : Value) (l : List Int) (w : World) (h : RI .i64 w v l) : Calls Tryz.prog 200 #[v] w fun e w' => e = .returned (.int .i64 (firstE l)) ∧ Ext w w' := by
 obtain ⟨A, c, rfl, hc1, hc2⟩ := h.shape
 obtain ⟨N, hN⟩ : ∃ N, l.length = N := ⟨_, rfl⟩
 have HN := Lib.hid hN
 obtain ⟨z, hz⟩ : ∃ z, firstE l = z := ⟨_, rfl⟩
 rw [hz]
 have HZ := Lib.hid hz
 have H := Lib.hid (show RdN w 1 (.slice A N c) l.length (l.map (Value.int .i64)) by rw [← hN]; exact h)
 rw [hN] at hc1 ⊢
 clear h hN hz
 go_enter Tryz.func200, Tryz.ntmps200
 go_wp2
 go_loopw [7] (fun i wr => ∃ m : Nat, m ≤ N ∧ i = .int .i64 m ∧ Hid (∀ e ∈ l.take m, e = 0) ∧ Hid (Ext w wr)) (fun i _ => N - (intOf i).toNat)
 case atStart => exact ⟨0, Nat.zero_le _, rfl, Lib.hid (by simp), Lib.hid (Ext.refl _)⟩
 case round =>
   obtain ⟨m, hm, rfl, HC, hE⟩ := hrel
   by_cases hmn : m < N
   · obtain ⟨b, off, x, rfl, hx, hd⟩ := (RdN.ext H.out hE.out).icell hmn
     by_cases hx0 : x = 0
     · subst hx0
       go_wp2
       go_roundw
       case rel => exact ⟨m + 1, by omega, by go_num, Lib.hid (by
         rw [List.take_add_one, hd.out]
         intro e he
         rcases List.mem_append.1 he with h | h
         · exact HC.out e h
         · simpa using h), hE⟩
       case measure => simp [intOf]; omega
     · have hxb : (x == 0) = false := by simpa using hx0
       have hzx : z = x := by
         rw [← HZ.out, firstE_take HC.out]
         have h9 := hd.out
         obtain ⟨hlt, h8⟩ := List.getElem?_eq_some_iff.1 h9
         rw [List.drop_eq_getElem_cons hlt, h8]
         simp [firstE, hx0]
       subst hzx
       go_wp2
       go_ret
       exact ⟨rfl, hE.out⟩
   · obtain rfl : m = N := by omega
     have hz0 : z = 0 := by
       rw [← HZ.out, firstE_take HC.out, List.drop_of_length_le (by rw [HN.out]; exact Nat.le_refl _)]
       rfl
     subst hz0
     go_wp2
     go_ret
     exact ⟨rfl, hE.out⟩
/-- a text has '=' -/
def hasEq (s : ByteArray) : Bool := decide (0 ≤ Go.Lib.indexByte s.data.toList 61)
set_option maxHeartbeats 800000 in
theorem ixb_any (s : ByteArray) (w : World) : Calls Tryz.prog 335 #[.string s, .int .u8 61] w fun e w' => e = .returned (.int .i64 (Go.Lib.indexByte s.data.toList 61)) ∧ Ext w w' := by
 go_enter Tryz.func335, Tryz.ntmps335
 go_wp2
 rw [run_callFunc_extern Tryz.func371 (by kernel_rfl) (by kernel_rfl) (by kernel_rfl) (e := Extern.BytealgIndexByte.indexByte) (by kernel_rfl), Go.Lib.run_indexByteString]
 simp only [Result.andThen]
 rw [Oper.upon_value]
 go_wp2
 go_ret
 exact ⟨rfl, zX⟩
set_option maxHeartbeats 800000 in
theorem sindex_any (s : ByteArray) (w : World) : Calls Tryz.prog 299 #[.string s, .string ⟨#[61]⟩] w fun e w' => e = .returned (.int .i64 (Go.Lib.indexByte s.data.toList 61)) ∧ Ext w w' := by
 cases hb : (([61] : List UInt8) == s.toList) with
 | true =>
   have hs : s.data.toList = [61] := (Go.Lib.toList_data s).symm.trans (beq_iff_eq.1 hb).symm
   have h0 : Go.Lib.indexByte s.data.toList 61 = 0 := by rw [hs]; rfl
   have H0 := Lib.hid h0
   clear hs h0
   go_enter Tryz.func299, Tryz.ntmps299
   go_wp2
   go_ret
   exact ⟨by rw [H0.out]; rfl, zX⟩
 | false =>
   have h61 : ((({ data := #[61] } : ByteArray)[0].toNat : Nat) : Int) = 61 := by rfl
   go_enter Tryz.func299, Tryz.ntmps299
   go_wp2_with fail
   refine (ixb_any s _).mono ?_
   rintro e w1 ⟨rfl, E1⟩
   go_wp2
   go_ret
   exact ⟨rfl, zX⟩
set_option maxHeartbeats 800000 in
theorem index_any4 (s : ByteArray) (w : World) : Calls Tryz.prog 260 #[.string s, .string ⟨#[61]⟩] w fun e w' => e = .returned (.int .i64 (Go.Lib.indexByte s.data.toList 61)) ∧ Ext w w' := by
 go_enter Tryz.func260, Tryz.ntmps260
 go_wp2_with fail
 refine (sindex_any s _).mono ?_
 rintro e w1 ⟨rfl, E1⟩
 go_wp2
 go_ret
 exact ⟨rfl, zX⟩
set_option maxHeartbeats 800000 in
theorem contains_any4 (s : ByteArray) (w : World) : Calls Tryz.prog 204 #[.string s, .string ⟨#[61]⟩] w fun e w' => e = .returned (.bool (hasEq s)) ∧ Ext w w' := by
 obtain ⟨n, hn⟩ : ∃ n, Go.Lib.indexByte s.data.toList 61 = n := ⟨_, rfl⟩
 have HI := Lib.hid (fun w' => index_any4 s w')
 unfold hasEq
 rw [hn] at HI ⊢
 clear hn
 go_enter Tryz.func204, Tryz.ntmps204
 go_wp2_with fail
 refine (HI.out _).mono ?_
 rintro e w1 ⟨rfl, E1⟩
 go_wp2
 go_ret
 exact ⟨rfl, zX⟩
set_option maxHeartbeats 800000 in
theorem text_any4 (s : ByteArray) (A : Nat → Prop) (w : World) (hs : s.size ≤ 1000000) : Calls Tryz.prog 203 #[.string s] w (GetP A 0 (bsL s) w) := by
 have hi : (Tryz.prog.info? 86).map (·.size) = some 4 := by kernel_rfl
 have HCV : ∀ (b : ByteArray) w', (convert 9 43 (.string b)).run Tryz.prog w' = _ := fun b w' => run_bytes_of_string w' 9 43 5 b Tryz.underlying9 Tryz.underlying43 Tryz.underlying5
 have B0 := Lib.hid (Blk.new w 86 #[.int .i64 0, .int .u32 0, .slice none 0 0, .slice none 0 0])
 go_enter Tryz.func203, Tryz.ntmps203
 go_wp2_with (refine wpList_store_row rfl 86 _ _ rfl w.heap.size _ rfl rfl 86 _ (B0.out.ext zX) hi rfl (by simp [Value.oneCell']) ?_)
 refine bodyPost_ret_by (results_cell_row Tryz.results203 _ _ w.heap.size 86 _ _ _ rfl (Blk.setRow (B0.out.ext zX) _) Tryz.underlying86 rfl hi) rfl ?_
 refine ⟨_, rfl, RdS.mono (RdS.mod (RdS.ext (txt_rds s _ _ _ (n := w.heap.size + 1) (by simp) (grownCap_ge _ _ _ _) (grownCap_le_maxLen _ _ _ _ (by simp [maxLen]; omega))) (Ext.drew (Ext.refl _))) (mod_setRow _) (fun k _ hk => by omega)) (fun k _ hk => .inr (by omega)), below_setRow (show Below w.heap.size w _ from zX) (Nat.le_refl _) _⟩
set_option maxHeartbeats 800000 in
theorem flag_any4 (x : Bool) (A : Nat → Prop) (w : World) : Calls Tryz.prog 205 #[.bool x] w (GetP A (if x = true then 1 else 0) [] w) := by
 have hi : (Tryz.prog.info? 86).map (·.size) = some 4 := by kernel_rfl
 cases x with
 | true =>
   go_enter Tryz.func205, Tryz.ntmps205
   go_wp2_with (refine wpList_store_A rfl 86 _ _ rfl w.heap.size _ rfl rfl 86 _ (show Blk _ _ _ _ from Blk.at_ _ _ (by simp)) hi rfl (by simp [Value.oneCell']) ?_; intro w2 HB E2; have E2 := E2 w.heap.size w zX (Nat.le_refl _))
   refine bodyPost_ret_by (results_cell_row Tryz.results205 _ _ w.heap.size 86 _ _ _ rfl HB Tryz.underlying86 rfl hi) rfl ?_
   exact ⟨_, rfl, RdS.nil _ _ _, E2⟩
 | false =>
   go_enter Tryz.func205, Tryz.ntmps205
   go_wp2_with (refine wpList_store_A rfl 86 _ _ rfl w.heap.size _ rfl rfl 86 _ (show Blk _ _ _ _ from Blk.at_ _ _ (by simp)) hi rfl (by simp [Value.oneCell']) ?_; intro w2 HB E2; have E2 := E2 w.heap.size w zX (Nat.le_refl _))
   refine bodyPost_ret_by (results_cell_row Tryz.results205 _ _ w.heap.size 86 _ _ _ rfl HB Tryz.underlying86 rfl hi) rfl ?_
   exact ⟨_, rfl, RdS.nil _ _ _, E2⟩
end Go.Proofs.YtmmhcllibpmfnaaGreatDoor
namespace Go.Proofs.YtmmhcllibpmfnaaGreatDoor
open Go.RowKit Go.Kb
set_option maxRecDepth 100000
/-- a request -/
structure Rq where
 k : Int
 tx : ByteArray
 vl : ByteArray
 la : ByteArray
 c1 : Int
 c2 : Int
 c3 : Int
 c4 : Int
 mo : List Int
 on : Bool
 co : Int
abbrev rqA (r : Rq) (v : Value) : Array Value := #[.int .i64 r.k, .string r.tx, .string r.vl, .string r.la, .int .u32 r.c1, .int .u32 r.c2, .int .u32 r.c3, .int .u32 r.c4, v, .bool r.on, .int .u32 r.co]
structure RqC (w : World) (g : Nat) (r : Rq) (v : Value) : Prop where
 k0 : w.cell? ⟨g, 0, none⟩ = some (.int .i64 r.k)
 k1 : w.cell? ⟨g, 1, none⟩ = some (.string r.tx)
 k2 : w.cell? ⟨g, 2, none⟩ = some (.string r.vl)
 k3 : w.cell? ⟨g, 3, none⟩ = some (.string r.la)
 k4 : w.cell? ⟨g, 4, none⟩ = some (.int .u32 r.c1)
 k5 : w.cell? ⟨g, 5, none⟩ = some (.int .u32 r.c2)
 k6 : w.cell? ⟨g, 6, none⟩ = some (.int .u32 r.c3)
 k7 : w.cell? ⟨g, 7, none⟩ = some (.int .u32 r.c4)
 k8 : w.cell? ⟨g, 8, none⟩ = some v
 k9 : w.cell? ⟨g, 9, none⟩ = some (.bool r.on)
 k10 : w.cell? ⟨g, 10, none⟩ = some (.int .u32 r.co)
theorem rqC {w : World} {g : Nat} {t : TypeId} {r : Rq} {v : Value} (h : Blk w g t (rqA r v)) : RqC w g r v :=
 ⟨by simpa using h.cell 0, by simpa using h.cell 1, by simpa using h.cell 2, by simpa using h.cell 3, by simpa using h.cell 4, by simpa using h.cell 5, by simpa using h.cell 6, by simpa using h.cell 7, by simpa using h.cell 8, by simpa using h.cell 9, by simpa using h.cell 10⟩
/-- what is asked of a request: an error's number -/
def askQ (r : Rq) : Int :=
 if r.k = 1 then firstE [wordE r.tx 0, longE r.mo.length] else if r.k = 2 then (if hasEq r.tx = true then 4 else firstE [wordE r.tx 1, longE r.vl.size]) else if r.k = 4 then longE r.tx.size else if r.k = 5 ∨ r.k = 8 then wordE r.tx 1 else if r.k = 10 then firstE [wordE r.tx 1, wordE r.la 0, longE r.vl.size] else 0
/-- what an asker answers -/
def AskQP (q : Int) (w : World) (e : Ending) (w' : World) : Prop := e = .returned (.int .i64 q) ∧ Ext w w'
set_option maxHeartbeats 400000 in
theorem qaskNone (g : Nat) (w : World) : Calls Tryz.prog 114 #[.pointer (some ⟨g, 0, none⟩)] w (AskQP 0 w) := by
 go_enter Tryz.func114, Tryz.ntmps114
 go_wp2
 go_ret
 exact ⟨rfl, zX⟩
set_option maxHeartbeats 800000 in
theorem qaskWord (g : Nat) (r : Rq) (v : Value) (w : World) (h : Blk w g 119 (rqA r v)) : Calls Tryz.prog 118 #[.pointer (some ⟨g, 0, none⟩)] w (AskQP (wordE r.tx 1) w) := by
 have kc := (rqC h).k1
 have HW := Lib.hid (fun w' => word_any r.tx 1 w')
 obtain ⟨z, hz⟩ : ∃ z, wordE r.tx 1 = z := ⟨_, rfl⟩
 rw [hz] at HW ⊢
 clear h hz
 go_enter Tryz.func118, Tryz.ntmps118
 go_wp2_with fail
 refine (HW.out _).mono ?_
 rintro e w1 ⟨rfl, E1⟩
 go_wp2
 go_ret
 exact ⟨rfl, zX⟩
set_option maxHeartbeats 800000 in
theorem qaskExec (g : Nat) (r : Rq) (v : Value) (w : World) (h : Blk w g 119 (rqA r v)) : Calls Tryz.prog 117 #[.pointer (some ⟨g, 0, none⟩)] w (AskQP (longE r.tx.size) w) := by
 have kc := (rqC h).k1
 have HW := Lib.hid (fun w' => long_any r.tx.size w')
 obtain ⟨z, hz⟩ : ∃ z, longE r.tx.size = z := ⟨_, rfl⟩
 rw [hz] at HW ⊢
 clear h hz
 go_enter Tryz.func117, Tryz.ntmps117
 go_wp2_with fail
 refine (HW.out _).mono ?_
 rintro e w1 ⟨rfl, E1⟩
 go_wp2
 go_ret
 exact ⟨rfl, zX⟩
set_option maxHeartbeats 3000000 in
theorem qaskPty (g : Nat) (r : Rq) (Av : Option Addr) (cv : Nat) (w : World) (h : Blk w g 119 (rqA r (.slice Av r.mo.length cv))) : Calls Tryz.prog 108 #[.pointer (some ⟨g, 0, none⟩)] w (AskQP (firstE [wordE r.tx 0, longE r.mo.length]) w) := by
 have kt := (rqC h).k1
 have km := (rqC h).k8
 have HW := Lib.hid (fun w' => word_any r.tx 0 w')
 obtain ⟨L, hL⟩ : ∃ L, r.mo.length = L := ⟨_, rfl⟩
 rw [hL] at km ⊢
 have HO := Lib.hid (fun w' => long_any (L : Int) w')
 obtain ⟨z1, hz1⟩ : ∃ z, wordE r.tx 0 = z := ⟨_, rfl⟩
 obtain ⟨z2, hz2⟩ : ∃ z, longE (L : Int) = z := ⟨_, rfl⟩
 rw [hz1] at HW ⊢
 rw [hz2] at HO ⊢
 have HF := Lib.hid (fun v' w' (h' : RI .i64 w' v' [z1, z2]) => first_any v' [z1, z2] w' h')
 obtain ⟨z, hz⟩ : ∃ z, firstE [z1, z2] = z := ⟨_, rfl⟩
 rw [hz] at HF ⊢
 clear h hL hz1 hz2 hz
 go_enter Tryz.func108, Tryz.ntmps108
 go_upto_region 1 with fail
 refine wp_region_held_drew (S := fun w' => Ext w w') (by kernel_rfl) (Ext.drew (Ext.refl _)) (fun hHeld => ?_)
 (refine zR 0 rfl ?_; (try simp only [zP]))
 (refine zR 1 rfl ?_; (try simp only [zP]))
 (refine zR 2 rfl ?_; (try simp only [zP]))
 (refine zR 3 rfl ?_; (try simp only [zP]))
 (refine zT 4 (v := ?_) rfl (Or.inl ⟨by rfl, ?_⟩) ?_; rotate_left; (focus (intro w' hSw; have kc := cell_ext hSw kt; go_simp; try with_reducible rfl)); (try simp only [zP]))
 (refine zR 6 rfl ?_; (try simp only [zP]))
 (refine zR 7 rfl ?_; (try simp only [zP]))
 (refine zR 8 rfl ?_; (try simp only [zP]))
 (refine zR 9 rfl ?_; (try simp only [zP]))
 (refine zT 10 (v := ?_) rfl (Or.inl ⟨by rfl, ?_⟩) ?_; rotate_left; (focus (intro w' hSw; have kc := cell_ext hSw km; go_simp; try with_reducible rfl)); (try simp only [zP]))
 (refine zR 11 rfl ?_; (try simp only [zP]))
 (refine wpAnyH_ready (rs := [5]) (by kernel_rfl) (by simp) ?_; refine AllReadyH.cons rfl (fun K hK => ?_) AllReadyH.nil; go_simp; go_at_call 201; refine (HW.out _).mono ?_; rintro e w1 ⟨rfl, E1⟩; (try dsimp only); refine hK.out _ _ zX (fun hHeld => ?_); clear hK K; (try simp only [zP]))
 have E01 : Ext w w1 := zX
 (refine wpAnyH_ready (rs := [12]) (by kernel_rfl) (by simp) ?_; refine AllReadyH.cons rfl (fun K hK => ?_) AllReadyH.nil; go_simp; go_at_call 202; refine (HO.out _).mono ?_; rintro e w2 ⟨rfl, E2⟩; (try dsimp only); refine hK.out _ _ zX (fun hHeld => ?_); clear hK K; (try simp only [zP]))
 have E02 : Ext w w2 := E01.trans E2
 (refine wpAnyH_ready (rs := [13]) (by kernel_rfl) (by simp) ?_; refine AllReadyH.cons rfl (fun K hK => ?_) AllReadyH.nil; go_simp; refine hK.out _ _ (E02.alloc _) (fun hHeld => ?_); clear hK K; (try simp only [zP]))
 (refine wpAnyH_ready (rs := [14]) (by kernel_rfl) (by simp) ?_; refine AllReadyH.cons rfl (fun K hK => ?_) AllReadyH.nil; go_simp; go_at_call 200; refine (HF.out _ _ (RI.lit .i64 [z1, z2] 26 rfl (by simp))).mono ?_; rintro e w3 ⟨rfl, E3⟩; (try dsimp only); refine hK.out _ _ ((E02.alloc _).trans E3) (fun hHeld => ?_); clear hK K; (try simp only [zP]))
 (refine zR 15 rfl ?_; (try simp only [zP]))
 refine wpAnyH_done (by kernel_rfl) ?_ _
 go_wp2
 go_ret
 exact ⟨rfl, hHeld⟩
set_option maxHeartbeats 3000000 in
theorem qaskEnv (g : Nat) (r : Rq) (v : Value) (w : World) (h : Blk w g 119 (rqA r v)) : Calls Tryz.prog 111 #[.pointer (some ⟨g, 0, none⟩)] w (AskQP (if hasEq r.tx = true then 4 else firstE [wordE r.tx 1, longE r.vl.size]) w) := by
 have kt := (rqC h).k1
 have HB := Lib.hid h
 have HC := Lib.hid (fun w' => contains_any4 r.tx w')
 have HW := Lib.hid (fun w' => word_any r.tx 1 w')
 have HO := Lib.hid (fun w' => long_any (r.vl.size : Int) w')
 obtain ⟨z1, hz1⟩ : ∃ z, wordE r.tx 1 = z := ⟨_, rfl⟩
 obtain ⟨z2, hz2⟩ : ∃ z, longE (r.vl.size : Int) = z := ⟨_, rfl⟩
 rw [hz1] at HW ⊢
 rw [hz2] at HO ⊢
 have HF := Lib.hid (fun v' w' (h' : RI .i64 w' v' [z1, z2]) => first_any v' [z1, z2] w' h')
 obtain ⟨z, hz⟩ : ∃ z, firstE [z1, z2] = z := ⟨_, rfl⟩
 rw [hz] at HF ⊢
 clear h hz1 hz2 hz
 cases hh : hasEq r.tx with
 | true =>
   rw [hh] at HC
   rw [if_pos rfl]
   clear hh
   go_enter Tryz.func111, Tryz.ntmps111
   go_wp2_with fail
   refine (HC.out _).mono ?_
   rintro e w1 ⟨rfl, E1⟩
   go_wp2
   go_ret
   exact ⟨rfl, zX⟩
 | false =>
   rw [hh] at HC
   rw [if_neg (by decide)]
   clear hh
   go_enter Tryz.func111, Tryz.ntmps111
   go_wp2_with fail
   refine (HC.out _).mono ?_
   rintro e w1 ⟨rfl, E1⟩
   have kt := (rqC (HB.out.ext E1)).k1
   have kv := (rqC (HB.out.ext E1)).k2
   have E01 : Ext w w1 := zX
   go_upto_region 3 with fail
   refine wp_region_held_drew (S := fun w' => Ext w1 w') (by kernel_rfl) (Ext.drew (Ext.refl _)) (fun hHeld => ?_)
   (refine zR 0 rfl ?_; (try simp only [zP]))
   (refine zR 1 rfl ?_; (try simp only [zP]))
   (refine zR 2 rfl ?_; (try simp only [zP]))
   (refine zR 3 rfl ?_; (try simp only [zP]))
   (refine zT 4 (v := ?_) rfl (Or.inl ⟨by rfl, ?_⟩) ?_; rotate_left; (focus (intro w' hSw; have kc := cell_ext hSw kt; go_simp; try with_reducible rfl)); (try simp only [zP]))
   (refine zR 6 rfl ?_; (try simp only [zP]))
   (refine zR 7 rfl ?_; (try simp only [zP]))
   (refine zR 8 rfl ?_; (try simp only [zP]))
   (refine zR 9 rfl ?_; (try simp only [zP]))
   (refine zT 10 (v := ?_) rfl (Or.inl ⟨by rfl, ?_⟩) ?_; rotate_left; (focus (intro w' hSw; have kc := cell_ext hSw kv; go_simp; try with_reducible rfl)); (try simp only [zP]))
   (refine zR 11 rfl ?_; (try simp only [zP]))
   (refine wpAnyH_ready (rs := [5]) (by kernel_rfl) (by simp) ?_; refine AllReadyH.cons rfl (fun K hK => ?_) AllReadyH.nil; go_simp; go_at_call 201; refine (HW.out _).mono ?_; rintro e w2 ⟨rfl, E2⟩; (try dsimp only); refine hK.out _ _ zX (fun hHeld => ?_); clear hK K; (try simp only [zP]))
   have E12 : Ext w1 w2 := zX
   (refine wpAnyH_ready (rs := [12]) (by kernel_rfl) (by simp) ?_; refine AllReadyH.cons rfl (fun K hK => ?_) AllReadyH.nil; go_simp; go_at_call 202; refine (HO.out _).mono ?_; rintro e w3 ⟨rfl, E3⟩; (try dsimp only); refine hK.out _ _ zX (fun hHeld => ?_); clear hK K; (try simp only [zP]))
   have E13 : Ext w1 w3 := E12.trans E3
   (refine wpAnyH_ready (rs := [13]) (by kernel_rfl) (by simp) ?_; refine AllReadyH.cons rfl (fun K hK => ?_) AllReadyH.nil; go_simp; refine hK.out _ _ (E13.alloc _) (fun hHeld => ?_); clear hK K; (try simp only [zP]))
   (refine wpAnyH_ready (rs := [14]) (by kernel_rfl) (by simp) ?_; refine AllReadyH.cons rfl (fun K hK => ?_) AllReadyH.nil; go_simp; go_at_call 200; refine (HF.out _ _ (RI.lit .i64 [z1, z2] 26 rfl (by simp))).mono ?_; rintro e w4 ⟨rfl, E4⟩; (try dsimp only); refine hK.out _ _ ((E13.alloc _).trans E4) (fun hHeld => ?_); clear hK K; (try simp only [zP]))
   (refine zR 15 rfl ?_; (try simp only [zP]))
   refine wpAnyH_done (by kernel_rfl) ?_ _
   go_wp2
   go_ret
   exact ⟨rfl, E01.trans hHeld⟩
set_option maxHeartbeats 3000000 in
theorem qaskDeath (g : Nat) (r : Rq) (v : Value) (w : World) (h : Blk w g 119 (rqA r v)) : Calls Tryz.prog 127 #[.pointer (some ⟨g, 0, none⟩)] w (AskQP (firstE [wordE r.tx 1, wordE r.la 0, longE r.vl.size]) w) := by
 have kt := (rqC h).k1
 have kl := (rqC h).k3
 have kv := (rqC h).k2
 have HW := Lib.hid (fun w' => word_any r.tx 1 w')
 have HV := Lib.hid (fun w' => word_any r.la 0 w')
 have HO := Lib.hid (fun w' => long_any (r.vl.size : Int) w')
 obtain ⟨z1, hz1⟩ : ∃ z, wordE r.tx 1 = z := ⟨_, rfl⟩
 obtain ⟨z3, hz3⟩ : ∃ z, wordE r.la 0 = z := ⟨_, rfl⟩
 obtain ⟨z2, hz2⟩ : ∃ z, longE (r.vl.size : Int) = z := ⟨_, rfl⟩
 rw [hz1] at HW ⊢
 rw [hz3] at HV ⊢
 rw [hz2] at HO ⊢
 have HF := Lib.hid (fun v' w' (h' : RI .i64 w' v' [z1, z3, z2]) => first_any v' [z1, z3, z2] w' h')
 obtain ⟨z, hz⟩ : ∃ z, firstE [z1, z3, z2] = z := ⟨_, rfl⟩
 rw [hz] at HF ⊢
 clear h hz1 hz2 hz3 hz
 go_enter Tryz.func127, Tryz.ntmps127
 go_upto_region 1 with fail
 refine wp_region_held_drew (S := fun w' => Ext w w') (by kernel_rfl) (Ext.drew (Ext.refl _)) (fun hHeld => ?_)
 (refine zR 0 rfl ?_; (try simp only [zP]))
 (refine zR 1 rfl ?_; (try simp only [zP]))
 (refine zR 2 rfl ?_; (try simp only [zP]))
 (refine zR 3 rfl ?_; (try simp only [zP]))
 (refine zT 4 (v := ?_) rfl (Or.inl ⟨by rfl, ?_⟩) ?_; rotate_left; (focus (intro w' hSw; have kc := cell_ext hSw kt; go_simp; try with_reducible rfl)); (try simp only [zP]))
 (refine zR 6 rfl ?_; (try simp only [zP]))
 (refine zR 7 rfl ?_; (try simp only [zP]))
 (refine zR 8 rfl ?_; (try simp only [zP]))
 (refine zR 9 rfl ?_; (try simp only [zP]))
 (refine zT 10 (v := ?_) rfl (Or.inl ⟨by rfl, ?_⟩) ?_; rotate_left; (focus (intro w' hSw; have kc := cell_ext hSw kl; go_simp; try with_reducible rfl)); (try simp only [zP]))
 (refine zR 12 rfl ?_; (try simp only [zP]))
 (refine zR 13 rfl ?_; (try simp only [zP]))
 (refine zR 14 rfl ?_; (try simp only [zP]))
 (refine zR 15 rfl ?_; (try simp only [zP]))
 (refine zT 16 (v := ?_) rfl (Or.inl ⟨by rfl, ?_⟩) ?_; rotate_left; (focus (intro w' hSw; have kc := cell_ext hSw kv; go_simp; try with_reducible rfl)); (try simp only [zP]))
 (refine zR 17 rfl ?_; (try simp only [zP]))
 (refine wpAnyH_ready (rs := [5]) (by kernel_rfl) (by simp) ?_; refine AllReadyH.cons rfl (fun K hK => ?_) AllReadyH.nil; go_simp; go_at_call 201; refine (HW.out _).mono ?_; rintro e w1 ⟨rfl, E1⟩; (try dsimp only); refine hK.out _ _ zX (fun hHeld => ?_); clear hK K; (try simp only [zP]))
 have E01 : Ext w w1 := zX
 (refine wpAnyH_ready (rs := [11]) (by kernel_rfl) (by simp) ?_; refine AllReadyH.cons rfl (fun K hK => ?_) AllReadyH.nil; go_simp; go_at_call 201; refine (HV.out _).mono ?_; rintro e w2 ⟨rfl, E2⟩; (try dsimp only); refine hK.out _ _ zX (fun hHeld => ?_); clear hK K; (try simp only [zP]))
 have E02 : Ext w w2 := E01.trans E2
 (refine wpAnyH_ready (rs := [18]) (by kernel_rfl) (by simp) ?_; refine AllReadyH.cons rfl (fun K hK => ?_) AllReadyH.nil; go_simp; go_at_call 202; refine (HO.out _).mono ?_; rintro e w3 ⟨rfl, E3⟩; (try dsimp only); refine hK.out _ _ zX (fun hHeld => ?_); clear hK K; (try simp only [zP]))
 have E03 : Ext w w3 := E02.trans E3
 (refine wpAnyH_ready (rs := [19]) (by kernel_rfl) (by simp) ?_; refine AllReadyH.cons rfl (fun K hK => ?_) AllReadyH.nil; go_simp; refine hK.out _ _ (E03.alloc _) (fun hHeld => ?_); clear hK K; (try simp only [zP]))
 (refine wpAnyH_ready (rs := [20]) (by kernel_rfl) (by simp) ?_; refine AllReadyH.cons rfl (fun K hK => ?_) AllReadyH.nil; go_simp; go_at_call 200; refine (HF.out _ _ (RI.lit .i64 [z1, z3, z2] 26 rfl (by simp))).mono ?_; rintro e w4 ⟨rfl, E4⟩; (try dsimp only); refine hK.out _ _ ((E03.alloc _).trans E4) (fun hHeld => ?_); clear hK K; (try simp only [zP]))
 (refine zR 21 rfl ?_; (try simp only [zP]))
 refine wpAnyH_done (by kernel_rfl) ?_ _
 go_wp2
 go_ret
 exact ⟨rfl, hHeld⟩
end Go.Proofs.YtmmhcllibpmfnaaGreatDoor
namespace Go.Proofs.YtmmhcllibpmfnaaGreatDoor
open Go.RowKit Go.Kb
set_option maxRecDepth 100000
/-- what a getter answers: fields without their kinds, a row of its own -/
def GetLP (A : Nat → Prop) (fs : List Fd) (w : World) (e : Ending) (w' : World) : Prop :=
 ∃ v, e = .returned v ∧ OwnS FdR 86 w.heap.size (fun k => A k ∨ w.heap.size ≤ k) w' v fs ∧ Ext w w'
theorem fdE {A : Nat → Prop} {w : World} {k n : Int} {vt : Value} {t : List Int} (h : RdS Ub8 A w vt t) : RdE FdR A w [.int .i64 k, .int .u32 n, vt, .slice none 0 0] [⟨k, n, t⟩] := RdE.single (e := FdR) ⟨vt, rfl, h⟩
theorem lit_fields {A B : Nat → Prop} {w : World} {cs : List Value} {fs : List Fd} {base m : Nat} (h : RdE FdR A w cs fs) (hA : ∀ k, k < w.heap.size → A k → B k) (hb : base ≤ w.heap.size) (hm : fs.length = m) (hx : m ≤ 1000) :
   OwnS FdR 86 base B (w.alloc (.cells cs.toArray 86)) (.slice (some ⟨w.heap.size, 0, none⟩) m m) fs :=
 OwnS.litB (A := fun k => A k ∧ k < w.heap.size) (h.keep (fun k hk ha => ⟨⟨ha, hk⟩, ((Ext.refl w).alloc _).block k hk⟩)) (Blk.new _ _ _) (fun k _ hk => ⟨hA k hk.2 hk.1, by omega⟩) hb hm (by omega)
set_option maxHeartbeats 800000 in
theorem qgetNone (g : Nat) (A : Nat → Prop) (w : World) : Calls Tryz.prog 112 #[.pointer (some ⟨g, 0, none⟩)] w (GetLP A [] w) := by
 go_enter Tryz.func112, Tryz.ntmps112
 go_wp2
 go_ret
 exact ⟨_, rfl, OwnS.nil _ _ _ _ _, zX⟩
set_option maxHeartbeats 800000 in
theorem qgetText (g : Nat) (r : Rq) (v : Value) (A : Nat → Prop) (w : World) (h : Blk w g 119 (rqA r v)) (hs : r.tx.size ≤ 1000000) : Calls Tryz.prog 115 #[.pointer (some ⟨g, 0, none⟩)] w (GetLP A [⟨0, 0, bsL r.tx⟩] w) := by
 have kc := (rqC h).k1
 have HT := Lib.hid (fun w' => text_any4 r.tx A w' hs)
 clear h hs
 go_enter Tryz.func115, Tryz.ntmps115
 go_wp2_with fail
 refine (HT.out _).mono ?_
 rintro e w1 ⟨vt, rfl, T1, E1⟩
 obtain ⟨At, ct, rfl, -, -⟩ := T1.shape
 have E01 : Ext w w1 := zX
 have HO := Lib.hid (lit_fields (B := fun k => A k ∨ w.heap.size ≤ k) (base := w.heap.size) (m := 1) (fdE (k := 0) (n := 0) T1) (fun k _ hk => by first | exact hk | simpa using hk) E01.size rfl (by omega))
 have EE := Lib.hid (E01.alloc (.cells #[.int .i64 0, .int .u32 0, .slice At (bsL r.tx).length ct, .slice none 0 0] 86))
 clear T1 E1 E01 kc HT
 go_wp2
 go_ret
 exact ⟨_, rfl, HO.out, EE.out⟩
set_option maxHeartbeats 800000 in
theorem qgetOn (g : Nat) (r : Rq) (v : Value) (A : Nat → Prop) (w : World) (h : Blk w g 119 (rqA r v)) : Calls Tryz.prog 121 #[.pointer (some ⟨g, 0, none⟩)] w (GetLP A [⟨0, if r.on = true then 1 else 0, []⟩] w) := by
 have kc := (rqC h).k9
 obtain ⟨z, hz⟩ : ∃ z : Int, (if r.on = true then 1 else 0) = z := ⟨_, rfl⟩
 have HT := Lib.hid (fun w' => flag_any4 r.on A w')
 rw [hz] at HT ⊢
 clear h hz
 go_enter Tryz.func121, Tryz.ntmps121
 go_wp2_with fail
 refine (HT.out _).mono ?_
 rintro e w1 ⟨vt, rfl, T1, E1⟩
 obtain ⟨At, ct, rfl, -, -⟩ := T1.shape
 have E01 : Ext w w1 := zX
 have HO := Lib.hid (lit_fields (B := fun k => A k ∨ w.heap.size ≤ k) (base := w.heap.size) (m := 1) (fdE (k := 0) (n := z) T1) (fun k _ hk => by first | exact hk | simpa using hk) E01.size rfl (by omega))
 have EE := Lib.hid (E01.alloc (.cells #[.int .i64 0, .int .u32 z, .slice At 0 ct, .slice none 0 0] 86))
 clear T1 E1 E01 kc HT
 go_wp2
 go_ret
 exact ⟨_, rfl, HO.out, EE.out⟩
set_option maxHeartbeats 800000 in
theorem qgetCode (g : Nat) (r : Rq) (v : Value) (A : Nat → Prop) (w : World) (h : Blk w g 119 (rqA r v)) : Calls Tryz.prog 123 #[.pointer (some ⟨g, 0, none⟩)] w (GetLP A [⟨0, r.co, []⟩] w) := by
 have kc := (rqC h).k10
 have HO := Lib.hid (lit_fields (A := fun _ => False) (B := fun k => A k ∨ w.heap.size ≤ k) (base := w.heap.size) (m := 1) (w := w) (fdE (k := 0) (n := r.co) (RdS.nil _ _ _)) (fun k _ hk => hk.elim) (Nat.le_refl _) rfl (by omega))
 have EE := Lib.hid ((Ext.refl w).alloc (.cells #[.int .i64 0, .int .u32 r.co, .slice none 0 0, .slice none 0 0] 86))
 clear h
 go_enter Tryz.func123, Tryz.ntmps123
 go_wp2
 go_ret
 exact ⟨_, rfl, HO.out, EE.out⟩
set_option maxHeartbeats 3000000 in
theorem qgetSize (g : Nat) (r : Rq) (v : Value) (w : World) (h : Blk w g 119 (rqA r v)) : Calls Tryz.prog 119 #[.pointer (some ⟨g, 0, none⟩)] w
   fun e w' => ∃ v, e = .returned v ∧ OwnS FdR 86 w.heap.size (fun _ => False) w' v [⟨0, r.c1, []⟩, ⟨0, r.c2, []⟩, ⟨0, r.c3, []⟩, ⟨0, r.c4, []⟩] ∧ Ext w w' := by
 have kc := rqC h
 obtain ⟨k4, k5, k6, k7⟩ : _ ∧ _ ∧ _ ∧ _ := ⟨kc.k4, kc.k5, kc.k6, kc.k7⟩
 have HO := Lib.hid (fun w' (E : Ext w w') => lit_fields (A := fun _ => False) (B := fun _ => False) (base := w.heap.size) (m := 4) (w := w') ((((fdE (k := 0) (n := r.c1) (RdS.nil _ _ _)).append (fdE (k := 0) (n := r.c2) (RdS.nil _ _ _))).append (fdE (k := 0) (n := r.c3) (RdS.nil _ _ _))).append (fdE (k := 0) (n := r.c4) (RdS.nil _ _ _))) (fun k _ hk => hk.elim) E.size rfl (by omega))
 clear h kc
 go_enter Tryz.func119, Tryz.ntmps119
 go_upto_region 1 with fail
 refine wp_region_held_drew (S := fun w' => Ext w w') (by kernel_rfl) (Ext.drew (Ext.refl _)) (fun hHeld => ?_)
 (refine zR 0 rfl ?_; (try simp only [zP]))
 (refine zR 1 rfl ?_; (try simp only [zP]))
 (refine zR 2 rfl ?_; (try simp only [zP]))
 (refine zR 3 rfl ?_; (try simp only [zP]))
 (refine zR 4 rfl ?_; (try simp only [zP]))
 (refine zT 5 (v := ?_) rfl (Or.inl ⟨by rfl, ?_⟩) ?_; rotate_left; (focus (intro w' hSw; have kc := cell_ext hSw k4; go_simp; try with_reducible rfl)); (try simp only [zP]))
 (refine wpAnyH_take (i := 6) (v := .agg #[.int .i64 0, .int .u32 r.c1, .slice none 0 0, .slice none 0 0]) rfl (by kernel_rfl) (by kernel_rfl) (by kernel_rfl) (fun _ _ _ h => h) (yieldsIf_build (by rfl) 86 _ rfl (by simp [go_sem]; exact (by kernel_rfl))) (by assumption) ?_; (try simp only [zP]))
 (refine zR 7 rfl ?_; (try simp only [zP]))
 (refine zR 8 rfl ?_; (try simp only [zP]))
 (refine zR 9 rfl ?_; (try simp only [zP]))
 (refine zR 10 rfl ?_; (try simp only [zP]))
 (refine zR 11 rfl ?_; (try simp only [zP]))
 (refine zT 12 (v := ?_) rfl (Or.inl ⟨by rfl, ?_⟩) ?_; rotate_left; (focus (intro w' hSw; have kc := cell_ext hSw k5; go_simp; try with_reducible rfl)); (try simp only [zP]))
 (refine wpAnyH_take (i := 13) (v := .agg #[.int .i64 0, .int .u32 r.c2, .slice none 0 0, .slice none 0 0]) rfl (by kernel_rfl) (by kernel_rfl) (by kernel_rfl) (fun _ _ _ h => h) (yieldsIf_build (by rfl) 86 _ rfl (by simp [go_sem]; exact (by kernel_rfl))) (by assumption) ?_; (try simp only [zP]))
 (refine zR 14 rfl ?_; (try simp only [zP]))
 (refine zR 15 rfl ?_; (try simp only [zP]))
 (refine zR 16 rfl ?_; (try simp only [zP]))
 (refine zR 17 rfl ?_; (try simp only [zP]))
 (refine zR 18 rfl ?_; (try simp only [zP]))
 (refine zT 19 (v := ?_) rfl (Or.inl ⟨by rfl, ?_⟩) ?_; rotate_left; (focus (intro w' hSw; have kc := cell_ext hSw k6; go_simp; try with_reducible rfl)); (try simp only [zP]))
 (refine wpAnyH_take (i := 20) (v := .agg #[.int .i64 0, .int .u32 r.c3, .slice none 0 0, .slice none 0 0]) rfl (by kernel_rfl) (by kernel_rfl) (by kernel_rfl) (fun _ _ _ h => h) (yieldsIf_build (by rfl) 86 _ rfl (by simp [go_sem]; exact (by kernel_rfl))) (by assumption) ?_; (try simp only [zP]))
 (refine zR 21 rfl ?_; (try simp only [zP]))
 (refine zR 22 rfl ?_; (try simp only [zP]))
 (refine zR 23 rfl ?_; (try simp only [zP]))
 (refine zR 24 rfl ?_; (try simp only [zP]))
 (refine zR 25 rfl ?_; (try simp only [zP]))
 (refine zT 26 (v := ?_) rfl (Or.inl ⟨by rfl, ?_⟩) ?_; rotate_left; (focus (intro w' hSw; have kc := cell_ext hSw k7; go_simp; try with_reducible rfl)); (try simp only [zP]))
 (refine wpAnyH_take (i := 27) (v := .agg #[.int .i64 0, .int .u32 r.c4, .slice none 0 0, .slice none 0 0]) rfl (by kernel_rfl) (by kernel_rfl) (by kernel_rfl) (fun _ _ _ h => h) (yieldsIf_build (by rfl) 86 _ rfl (by simp [go_sem]; exact (by kernel_rfl))) (by assumption) ?_; (try simp only [zP]))
 obtain ⟨D, hD⟩ : ∃ D, D = w.drew := ⟨_, rfl⟩
 have ED : Ext w D := by rw [hD]; exact (Ext.refl _).drew
 rw [← hD] at hHeld ⊢
 clear hD
 have HOD := Lib.hid (HO.out D ED)
 (refine wpAnyH_ready (rs := [28]) (by kernel_rfl) (by simp) ?_; refine AllReadyH.cons rfl (fun K hK => ?_) AllReadyH.nil; go_simp; refine hK.out _ _ (ED.alloc _) (fun hHeld => ?_); clear hK K; (try simp only [zP]))
 (refine zR 29 rfl ?_; (try simp only [zP]))
 refine wpAnyH_done (by kernel_rfl) ?_ _
 go_wp2
 go_ret
 exact ⟨_, rfl, HOD.out, hHeld⟩
set_option maxHeartbeats 3000000 in
theorem qgetEnv (g : Nat) (r : Rq) (v : Value) (A : Nat → Prop) (w : World) (h : Blk w g 119 (rqA r v)) (hs : r.tx.size ≤ 1000000) (hs2 : r.vl.size ≤ 1000000) : Calls Tryz.prog 109 #[.pointer (some ⟨g, 0, none⟩)] w (GetLP A [⟨0, 0, bsL r.tx⟩, ⟨0, 0, bsL r.vl⟩] w) := by
 have k1 := (rqC h).k1
 have k2 := (rqC h).k2
 have HT := Lib.hid (fun w' => text_any4 r.tx (fun _ => False) w' hs)
 have HV := Lib.hid (fun w' => text_any4 r.vl (fun _ => False) w' hs2)
 clear h hs hs2
 go_enter Tryz.func109, Tryz.ntmps109
 go_upto_region 1 with fail
 refine wp_region_held_drew (S := fun w' => Ext w w') (by kernel_rfl) (Ext.drew (Ext.refl _)) (fun hHeld => ?_)
 obtain ⟨D, hD⟩ : ∃ D, D = w.drew := ⟨_, rfl⟩
 have ED : Ext w D := by rw [hD]; exact (Ext.refl _).drew
 rw [← hD] at hHeld ⊢
 clear hD
 (refine zR 0 rfl ?_; (try simp only [zP]))
 (refine zR 1 rfl ?_; (try simp only [zP]))
 (refine zR 2 rfl ?_; (try simp only [zP]))
 (refine zR 3 rfl ?_; (try simp only [zP]))
 (refine zT 4 (v := ?_) rfl (Or.inl ⟨by rfl, ?_⟩) ?_; rotate_left; (focus (intro w' hSw; have kc := cell_ext hSw k1; go_simp; try with_reducible rfl)); (try simp only [zP]))
 (refine zR 6 rfl ?_; (try simp only [zP]))
 (refine zR 7 rfl ?_; (try simp only [zP]))
 (refine zR 8 rfl ?_; (try simp only [zP]))
 (refine zR 9 rfl ?_; (try simp only [zP]))
 (refine zT 10 (v := ?_) rfl (Or.inl ⟨by rfl, ?_⟩) ?_; rotate_left; (focus (intro w' hSw; have kc := cell_ext hSw k2; go_simp; try with_reducible rfl)); (try simp only [zP]))
 (refine wpAnyH_ready (rs := [5]) (by kernel_rfl) (by simp) ?_; refine AllReadyH.cons rfl (fun K hK => ?_) AllReadyH.nil; go_simp; go_at_call 203; refine (HT.out _).mono ?_; rintro e w1 ⟨vt, rfl, T1, E1⟩; (try dsimp only); refine hK.out _ _ (ED.trans E1) (fun hHeld => ?_); clear hK K; (try simp only [zP]))
 obtain ⟨At, ct, rfl, -, -⟩ := T1.shape
 have E01 : Ext w w1 := ED.trans E1
 have T1 := Lib.hid T1
 (refine wpAnyH_ready (rs := [11]) (by kernel_rfl) (by simp) ?_; refine AllReadyH.cons rfl (fun K hK => ?_) AllReadyH.nil; go_simp; go_at_call 203; refine (HV.out _).mono ?_; rintro e w2 ⟨vu, rfl, T2, E2⟩; (try dsimp only); refine hK.out _ _ (E01.trans E2) (fun hHeld => ?_); clear hK K; (try simp only [zP]))
 obtain ⟨Au, cu, rfl, -, -⟩ := T2.shape
 have E02 : Ext w w2 := E01.trans E2
 have hz1 := ED.size
 have hz2 := E01.size
 have HO := Lib.hid (lit_fields (B := fun k => A k ∨ w.heap.size ≤ k) (base := w.heap.size) (m := 2) ((fdE (k := 0) (n := 0) ((T1.out.ext E2).mono (B := fun k => w.heap.size ≤ k) (fun k _ hk => by rcases hk with hk | hk; exact hk.elim; omega))).append (fdE (k := 0) (n := 0) (T2.mono (B := fun k => w.heap.size ≤ k) (fun k _ hk => by rcases hk with hk | hk; exact hk.elim; omega)))) (fun k _ hk => .inr hk) E02.size rfl (by omega))
 clear T1 T2
 (refine wpAnyH_ready (rs := [12]) (by kernel_rfl) (by simp) ?_; refine AllReadyH.cons rfl (fun K hK => ?_) AllReadyH.nil; go_simp; refine hK.out _ _ (E02.alloc _) (fun hHeld => ?_); clear hK K; (try simp only [zP]))
 (refine zR 13 rfl ?_; (try simp only [zP]))
 refine wpAnyH_done (by kernel_rfl) ?_ _
 go_wp2
 go_ret
 exact ⟨_, rfl, HO.out, hHeld⟩
set_option maxHeartbeats 3000000 in
theorem qgetDeath (g : Nat) (r : Rq) (v : Value) (A : Nat → Prop) (w : World) (h : Blk w g 119 (rqA r v)) (hs : r.tx.size ≤ 1000000) (hs2 : r.vl.size ≤ 1000000) (hs3 : r.la.size ≤ 1000000) :
   Calls Tryz.prog 125 #[.pointer (some ⟨g, 0, none⟩)] w (GetLP A [⟨0, 0, bsL r.tx⟩, ⟨0, if r.on = true then 1 else 0, []⟩, ⟨0, 0, bsL r.vl⟩, ⟨0, 0, bsL r.la⟩] w) := by
 have k1 := (rqC h).k1
 have k2 := (rqC h).k2
 have k3 := (rqC h).k3
 have k9 := (rqC h).k9
 obtain ⟨z, hz⟩ : ∃ z : Int, (if r.on = true then 1 else 0) = z := ⟨_, rfl⟩
 have HF := Lib.hid (fun w' => flag_any4 r.on (fun _ => False) w')
 rw [hz] at HF ⊢
 have HT := Lib.hid (fun w' => text_any4 r.tx (fun _ => False) w' hs)
 have HV := Lib.hid (fun w' => text_any4 r.vl (fun _ => False) w' hs2)
 have HL := Lib.hid (fun w' => text_any4 r.la (fun _ => False) w' hs3)
 clear h hs hs2 hs3 hz
 go_enter Tryz.func125, Tryz.ntmps125
 go_upto_region 1 with fail
 refine wp_region_held_drew (S := fun w' => Ext w w') (by kernel_rfl) (Ext.drew (Ext.refl _)) (fun hHeld => ?_)
 obtain ⟨D, hD⟩ : ∃ D, D = w.drew := ⟨_, rfl⟩
 have ED : Ext w D := by rw [hD]; exact (Ext.refl _).drew
 rw [← hD] at hHeld ⊢
 clear hD
 (refine zR 0 rfl ?_; (try simp only [zP]))
 (refine zR 1 rfl ?_; (try simp only [zP]))
 (refine zR 2 rfl ?_; (try simp only [zP]))
 (refine zR 3 rfl ?_; (try simp only [zP]))
 (refine zT 4 (v := ?_) rfl (Or.inl ⟨by rfl, ?_⟩) ?_; rotate_left; (focus (intro w' hSw; have kc := cell_ext hSw k1; go_simp; try with_reducible rfl)); (try simp only [zP]))
 (refine zR 6 rfl ?_; (try simp only [zP]))
 (refine zR 7 rfl ?_; (try simp only [zP]))
 (refine zR 8 rfl ?_; (try simp only [zP]))
 (refine zR 9 rfl ?_; (try simp only [zP]))
 (refine zT 10 (v := ?_) rfl (Or.inl ⟨by rfl, ?_⟩) ?_; rotate_left; (focus (intro w' hSw; have kc := cell_ext hSw k9; go_simp; try with_reducible rfl)); (try simp only [zP]))
 (refine zR 12 rfl ?_; (try simp only [zP]))
 (refine zR 13 rfl ?_; (try simp only [zP]))
 (refine zR 14 rfl ?_; (try simp only [zP]))
 (refine zR 15 rfl ?_; (try simp only [zP]))
 (refine zT 16 (v := ?_) rfl (Or.inl ⟨by rfl, ?_⟩) ?_; rotate_left; (focus (intro w' hSw; have kc := cell_ext hSw k2; go_simp; try with_reducible rfl)); (try simp only [zP]))
 (refine zR 18 rfl ?_; (try simp only [zP]))
 (refine zR 19 rfl ?_; (try simp only [zP]))
 (refine zR 20 rfl ?_; (try simp only [zP]))
 (refine zR 21 rfl ?_; (try simp only [zP]))
 (refine zT 22 (v := ?_) rfl (Or.inl ⟨by rfl, ?_⟩) ?_; rotate_left; (focus (intro w' hSw; have kc := cell_ext hSw k3; go_simp; try with_reducible rfl)); (try simp only [zP]))
 (refine wpAnyH_ready (rs := [5]) (by kernel_rfl) (by simp) ?_; refine AllReadyH.cons rfl (fun K hK => ?_) AllReadyH.nil; go_simp; go_at_call 203; refine (HT.out _).mono ?_; rintro e w1 ⟨vt, rfl, T1, E1⟩; (try dsimp only); refine hK.out _ _ (ED.trans E1) (fun hHeld => ?_); clear hK K; (try simp only [zP]))
 obtain ⟨At, ct, rfl, -, -⟩ := T1.shape
 have E01 : Ext w w1 := ED.trans E1
 have T1 := Lib.hid T1
 (refine wpAnyH_ready (rs := [11]) (by kernel_rfl) (by simp) ?_; refine AllReadyH.cons rfl (fun K hK => ?_) AllReadyH.nil; go_simp; go_at_call 205; refine (HF.out _).mono ?_; rintro e w2 ⟨vu, rfl, T2, E2⟩; (try dsimp only); refine hK.out _ _ (E01.trans E2) (fun hHeld => ?_); clear hK K; (try simp only [zP]))
 obtain ⟨Au, cu, rfl, -, -⟩ := T2.shape
 have E02 : Ext w w2 := E01.trans E2
 have T2 := Lib.hid T2
 (refine wpAnyH_ready (rs := [17]) (by kernel_rfl) (by simp) ?_; refine AllReadyH.cons rfl (fun K hK => ?_) AllReadyH.nil; go_simp; go_at_call 203; refine (HV.out _).mono ?_; rintro e w3 ⟨vx, rfl, T3, E3⟩; (try dsimp only); refine hK.out _ _ (E02.trans E3) (fun hHeld => ?_); clear hK K; (try simp only [zP]))
 obtain ⟨Ax, cx, rfl, -, -⟩ := T3.shape
 have E03 : Ext w w3 := E02.trans E3
 have T3 := Lib.hid T3
 (refine wpAnyH_ready (rs := [23]) (by kernel_rfl) (by simp) ?_; refine AllReadyH.cons rfl (fun K hK => ?_) AllReadyH.nil; go_simp; go_at_call 203; refine (HL.out _).mono ?_; rintro e w4 ⟨vy, rfl, T4, E4⟩; (try dsimp only); refine hK.out _ _ (E03.trans E4) (fun hHeld => ?_); clear hK K; (try simp only [zP]))
 obtain ⟨Ay, cy, rfl, -, -⟩ := T4.shape
 have E04 : Ext w w4 := E03.trans E4
 have hz1 := ED.size
 have hz2 := E01.size
 have hz3 := E02.size
 have hz4 := E03.size
 have HO := Lib.hid (lit_fields (B := fun k => A k ∨ w.heap.size ≤ k) (base := w.heap.size) (m := 4) ((((fdE (k := 0) (n := 0) ((T1.out.ext (E2.trans (E3.trans E4))).mono (B := fun k => w.heap.size ≤ k) (fun k _ hk => by rcases hk with hk | hk; exact hk.elim; omega))).append (fdE (k := 0) (n := z) ((T2.out.ext (E3.trans E4)).mono (B := fun k => w.heap.size ≤ k) (fun k _ hk => by rcases hk with hk | hk; exact hk.elim; omega)))).append (fdE (k := 0) (n := 0) ((T3.out.ext E4).mono (B := fun k => w.heap.size ≤ k) (fun k _ hk => by rcases hk with hk | hk; exact hk.elim; omega)))).append (fdE (k := 0) (n := 0) (T4.mono (B := fun k => w.heap.size ≤ k) (fun k _ hk => by rcases hk with hk | hk; exact hk.elim; omega)))) (fun k _ hk => .inr hk) E04.size rfl (by omega))
 clear T1 T2 T3 T4
 (refine wpAnyH_ready (rs := [24]) (by kernel_rfl) (by simp) ?_; refine AllReadyH.cons rfl (fun K hK => ?_) AllReadyH.nil; go_simp; refine hK.out _ _ (E04.alloc _) (fun hHeld => ?_); clear hK K; (try simp only [zP]))
 (refine zR 25 rfl ?_; (try simp only [zP]))
 refine wpAnyH_done (by kernel_rfl) ?_ _
 go_wp2
 go_ret
 exact ⟨_, rfl, HO.out, hHeld⟩
end Go.Proofs.YtmmhcllibpmfnaaGreatDoor
namespace Go.Proofs.YtmmhcllibpmfnaaGreatDoor
open Go.RowKit Go.Kb
set_option maxRecDepth 100000
set_option maxHeartbeats 6000000 in
theorem qgetPty (g : Nat) (r : Rq) (v : Value) (A : Nat → Prop) (w : World) (h : Blk w g 119 (rqA r v)) (hv : RdS Ub8 A w v r.mo) (hA : ∀ k, A k → k < w.heap.size) (hs : r.tx.size ≤ 1000000) :
   Calls Tryz.prog 106 #[.pointer (some ⟨g, 0, none⟩)] w (GetLP A [⟨0, 0, bsL r.tx⟩, ⟨0, r.c1, []⟩, ⟨0, r.c2, []⟩, ⟨0, r.c3, []⟩, ⟨0, r.c4, []⟩, ⟨0, 0, r.mo⟩] w) := by
 obtain ⟨Am, cm, rfl, -, -⟩ := hv.shape
 have HB := Lib.hid h
 obtain ⟨L, hL⟩ : ∃ L, r.mo.length = L := ⟨_, rfl⟩
 have k8 := (rqC h).k8
 rw [hL] at hv k8 HB
 have HM := Lib.hid hv
 have HT := Lib.hid (fun w' (E : Ext w w') => qgetText g r _ A w' (HB.out.ext E) hs)
 have HS := Lib.hid (fun w' (E : Ext w w') => qgetSize g r _ w' (HB.out.ext E))
 clear h hv hs hL
 go_enter Tryz.func106, Tryz.ntmps106
 go_upto_region 1 with fail
 refine wp_region_held_drew (S := fun w' => Ext w w') (by kernel_rfl) (Ext.drew (Ext.refl _)) (fun hHeld => ?_)
 obtain ⟨D, hD⟩ : ∃ D, D = w.drew := ⟨_, rfl⟩
 have EE : Ext w D := by rw [hD]; exact (Ext.refl _).drew
 rw [← hD] at hHeld ⊢
 clear hD
 (refine zR 0 rfl ?_; (try simp only [zP]))
 (refine zR 2 rfl ?_; (try simp only [zP]))
 (refine zR 5 rfl ?_; (try simp only [zP]))
 (refine zR 6 rfl ?_; (try simp only [zP]))
 (refine zR 7 rfl ?_; (try simp only [zP]))
 (refine zR 8 rfl ?_; (try simp only [zP]))
 (refine zT 9 (v := ?_) rfl (Or.inl ⟨by rfl, ?_⟩) ?_; rotate_left; (focus (intro w' hSw; have kc := cell_ext hSw k8; go_simp; try with_reducible rfl)); (try simp only [zP]))
 (refine wpAnyH_take (i := 10) (v := .agg #[.int .i64 0, .int .u32 0, .slice Am L cm, .slice none 0 0]) rfl (by kernel_rfl) (by kernel_rfl) (by kernel_rfl) (fun _ _ _ h => h) (yieldsIf_build (by rfl) 86 _ rfl (by simp [go_sem]; exact (by kernel_rfl))) (by assumption) ?_; (try simp only [zP]))
 refine wpAnyH_ready (rs := [1, 11]) (by kernel_rfl) (by simp) ?_
 refine AllReadyH.cons rfl (fun K hK => ?_) (AllReadyH.cons rfl (fun K hK => ?_) AllReadyH.nil)
 · skip
   go_simp
   refine (HT.out D EE).mono ?_
   rintro e u1 ⟨v1, rfl, o1, E1⟩
   (try dsimp only)
   refine hK.out _ _ (EE.trans E1) (fun hHeld => ?_)
   clear hK K
   (try simp only [zP])
   obtain ⟨A1, c1, rfl, -, -⟩ := o1.shape
   have O1 := Lib.hid ((o1.lower EE.size).mono (B := fun k => A k ∨ w.heap.size ≤ k) (fun k _ hk => by have := EE.size; rcases hk with hk | hk; exact .inl hk; exact .inr (by omega)))
   have EE := EE.trans E1
   clear o1
   refine wpAnyH_ready (rs := [3, 11]) (by kernel_rfl) (by simp) ?_
   refine AllReadyH.cons rfl (fun K hK => ?_) (AllReadyH.cons rfl (fun K hK => ?_) AllReadyH.nil)
   · skip
     go_simp
     refine (HS.out u1 EE).mono ?_
     rintro e u2 ⟨v3, rfl, o3, E2⟩
     (try dsimp only)
     refine hK.out _ _ (EE.trans E2) (fun hHeld => ?_)
     clear hK K
     (try simp only [zP])
     obtain ⟨A3, c3, rfl, -, -⟩ := o3.shape
     have O3 := Lib.hid o3
     have O1 := Lib.hid (O1.out.ext E2)
     have EE := EE.trans E2
     clear o3
     refine wpAnyH_ready (rs := [4, 11]) (by kernel_rfl) (by simp) ?_
     refine AllReadyH.cons rfl (fun K hK => ?_) (AllReadyH.cons rfl (fun K hK => ?_) AllReadyH.nil)
     · skip
       refine step_app (e := FdR) (base := w.heap.size) (B := fun k => A k ∨ w.heap.size ≤ k) (A := fun _ => False) rfl (.tmp 4) (.tmp 6) rfl Tryz.underlying87 info_fd rfl O1.out rfl (O3.out.y.mono (fun k _ hk => hk.1)) rfl (fun k _ hk => hk.elim) (N := 5) rfl (by unfold maxLen; omega) (by omega) EE.size ?_
       intro A7 c7 u3 o7 M7 L7
       have hrow := O1.out.row
       have E7 : Ext w u3 := Mod.toExt EE M7 (fun k hk he => by have := (hrow k he).1; omega)
       refine hK.out _ _ E7 (fun hHeld => ?_)
       clear hK K
       (try simp only [zP])
       have O7 := Lib.hid o7
       have EE := E7
       clear o7 O1 O3 M7 L7 E7 hrow
       refine wpAnyH_ready (rs := [11]) (by kernel_rfl) (by simp) ?_
       refine AllReadyH.cons rfl (fun K hK => ?_) AllReadyH.nil
       go_simp
       have HX := Lib.hid (Blk.new u3 86 #[.int .i64 0, .int .u32 0, .slice Am L cm, .slice none 0 0])
       have EX : Ext u3 (u3.alloc (.cells #[.int .i64 0, .int .u32 0, .slice Am L cm, .slice none 0 0] 86)) := (Ext.refl _).alloc _
       refine hK.out _ _ (EE.trans EX) (fun hHeld => ?_)
       clear hK K
       (try simp only [zP])
       have O7 := Lib.hid (O7.out.ext EX)
       have EE := EE.trans EX
       generalize u3.alloc (.cells #[.int .i64 0, .int .u32 0, .slice Am L cm, .slice none 0 0] 86) = u4 at *
       generalize u3.heap.size = nX at *
       refine wpAnyH_ready (rs := [12]) (by kernel_rfl) (by simp) ?_
       refine AllReadyH.cons rfl (fun K hK => ?_) AllReadyH.nil
       have HMD := Lib.hid (HM.out.ext EE)
       refine step_app (e := FdR) (base := w.heap.size) (B := fun k => A k ∨ w.heap.size ≤ k) (A := A) rfl (.tmp 7) (.tmp 14) rfl Tryz.underlying87 info_fd rfl O7.out rfl (RdY.singleB (e := FdR) (cs := [.int .i64 0, .int .u32 0, .slice Am L cm, .slice none 0 0]) (d := ⟨0, 0, r.mo⟩) ⟨_, rfl, HMD.out⟩ HX.out) rfl (fun k _ hk => ⟨.inl hk, fun he => by have := (O7.out.row k he).1; have := hA k hk; omega⟩) (N := 6) rfl (by unfold maxLen; omega) (by omega) EE.size ?_
       intro A9 c9 u5 o9 M9 L9
       have hrow := O7.out.row
       have E9 : Ext w u5 := Mod.toExt EE M9 (fun k hk he => by have := (hrow k he).1; omega)
       refine hK.out _ _ E9 (fun hHeld => ?_)
       clear hK K
       (try simp only [zP])
       have O9 := Lib.hid o9
       clear o9 O7 M9 L9 E9 hrow HX HMD EE
       (refine zR 13 rfl ?_; (try simp only [zP]))
       refine wpAnyH_done (by kernel_rfl) ?_ _
       go_wp2
       go_ret
       exact ⟨_, rfl, O9.out, hHeld⟩
     · skip
       go_simp
       have HX := Lib.hid (Blk.new u2 86 #[.int .i64 0, .int .u32 0, .slice Am L cm, .slice none 0 0])
       have EX : Ext u2 (u2.alloc (.cells #[.int .i64 0, .int .u32 0, .slice Am L cm, .slice none 0 0] 86)) := (Ext.refl _).alloc _
       refine hK.out _ _ (EE.trans EX) (fun hHeld => ?_)
       clear hK K
       (try simp only [zP])
       have hne : ∀ k, (Value.slice A1 1 c1).ownBlock = some k → ¬ u2.heap.size = k := fun k hk he => by have := (O1.out.row k hk).2; omega
       have O1 := Lib.hid (O1.out.ext EX)
       have O3 := Lib.hid (O3.out.ext EX)
       have EE := EE.trans EX
       generalize u2.alloc (.cells #[.int .i64 0, .int .u32 0, .slice Am L cm, .slice none 0 0] 86) = u6 at *
       generalize u2.heap.size = nX at *
       refine wpAnyH_ready (rs := [4]) (by kernel_rfl) (by simp) ?_
       refine AllReadyH.cons rfl (fun K hK => ?_) AllReadyH.nil
       refine step_app (e := FdR) (base := w.heap.size) (B := fun k => A k ∨ w.heap.size ≤ k) (A := fun _ => False) rfl (.tmp 4) (.tmp 6) rfl Tryz.underlying87 info_fd rfl O1.out rfl (O3.out.y.mono (fun k _ hk => hk.1)) rfl (fun k _ hk => hk.elim) (N := 5) rfl (by unfold maxLen; omega) (by omega) EE.size ?_
       intro A7 c7 u7 o7 M7 L7
       have hrow := O1.out.row
       have E7 : Ext w u7 := Mod.toExt EE M7 (fun k hk he => by have := (hrow k he).1; omega)
       refine hK.out _ _ E7 (fun hHeld => ?_)
       clear hK K
       (try simp only [zP])
       have O7 := Lib.hid o7
       have HX := Lib.hid (HX.out.mod M7 (fun he => hne _ he rfl))
       have EE := E7
       clear o7 O1 O3 M7 L7 E7 hrow
       refine wpAnyH_ready (rs := [12]) (by kernel_rfl) (by simp) ?_
       refine AllReadyH.cons rfl (fun K hK => ?_) AllReadyH.nil
       have HMD := Lib.hid (HM.out.ext EE)
       refine step_app (e := FdR) (base := w.heap.size) (B := fun k => A k ∨ w.heap.size ≤ k) (A := A) rfl (.tmp 7) (.tmp 14) rfl Tryz.underlying87 info_fd rfl O7.out rfl (RdY.singleB (e := FdR) (cs := [.int .i64 0, .int .u32 0, .slice Am L cm, .slice none 0 0]) (d := ⟨0, 0, r.mo⟩) ⟨_, rfl, HMD.out⟩ HX.out) rfl (fun k _ hk => ⟨.inl hk, fun he => by have := (O7.out.row k he).1; have := hA k hk; omega⟩) (N := 6) rfl (by unfold maxLen; omega) (by omega) EE.size ?_
       intro A9 c9 u8 o9 M9 L9
       have hrow := O7.out.row
       have E9 : Ext w u8 := Mod.toExt EE M9 (fun k hk he => by have := (hrow k he).1; omega)
       refine hK.out _ _ E9 (fun hHeld => ?_)
       clear hK K
       (try simp only [zP])
       have O9 := Lib.hid o9
       clear o9 O7 M9 L9 E9 hrow HX HMD EE
       (refine zR 13 rfl ?_; (try simp only [zP]))
       refine wpAnyH_done (by kernel_rfl) ?_ _
       go_wp2
       go_ret
       exact ⟨_, rfl, O9.out, hHeld⟩
   · skip
     go_simp
     have HX := Lib.hid (Blk.new u1 86 #[.int .i64 0, .int .u32 0, .slice Am L cm, .slice none 0 0])
     have EX : Ext u1 (u1.alloc (.cells #[.int .i64 0, .int .u32 0, .slice Am L cm, .slice none 0 0] 86)) := (Ext.refl _).alloc _
     refine hK.out _ _ (EE.trans EX) (fun hHeld => ?_)
     clear hK K
     (try simp only [zP])
     have hne : ∀ k, (Value.slice A1 1 c1).ownBlock = some k → ¬ u1.heap.size = k := fun k hk he => by have := (O1.out.row k hk).2; omega
     have O1 := Lib.hid (O1.out.ext EX)
     have EE := EE.trans EX
     generalize u1.alloc (.cells #[.int .i64 0, .int .u32 0, .slice Am L cm, .slice none 0 0] 86) = u9 at *
     generalize u1.heap.size = nX at *
     refine wpAnyH_ready (rs := [3]) (by kernel_rfl) (by simp) ?_
     refine AllReadyH.cons rfl (fun K hK => ?_) AllReadyH.nil
     go_simp
     refine (HS.out u9 EE).mono ?_
     rintro e u10 ⟨v3, rfl, o3, E10⟩
     (try dsimp only)
     refine hK.out _ _ (EE.trans E10) (fun hHeld => ?_)
     clear hK K
     (try simp only [zP])
     obtain ⟨A3, c3, rfl, -, -⟩ := o3.shape
     have O3 := Lib.hid o3
     have O1 := Lib.hid (O1.out.ext E10)
     have HX := Lib.hid (HX.out.ext E10)
     have EE := EE.trans E10
     clear o3
     refine wpAnyH_ready (rs := [4]) (by kernel_rfl) (by simp) ?_
     refine AllReadyH.cons rfl (fun K hK => ?_) AllReadyH.nil
     refine step_app (e := FdR) (base := w.heap.size) (B := fun k => A k ∨ w.heap.size ≤ k) (A := fun _ => False) rfl (.tmp 4) (.tmp 6) rfl Tryz.underlying87 info_fd rfl O1.out rfl (O3.out.y.mono (fun k _ hk => hk.1)) rfl (fun k _ hk => hk.elim) (N := 5) rfl (by unfold maxLen; omega) (by omega) EE.size ?_
     intro A7 c7 u11 o7 M7 L7
     have hrow := O1.out.row
     have E7 : Ext w u11 := Mod.toExt EE M7 (fun k hk he => by have := (hrow k he).1; omega)
     refine hK.out _ _ E7 (fun hHeld => ?_)
     clear hK K
     (try simp only [zP])
     have O7 := Lib.hid o7
     have HX := Lib.hid (HX.out.mod M7 (fun he => hne _ he rfl))
     have EE := E7
     clear o7 O1 O3 M7 L7 E7 hrow
     refine wpAnyH_ready (rs := [12]) (by kernel_rfl) (by simp) ?_
     refine AllReadyH.cons rfl (fun K hK => ?_) AllReadyH.nil
     have HMD := Lib.hid (HM.out.ext EE)
     refine step_app (e := FdR) (base := w.heap.size) (B := fun k => A k ∨ w.heap.size ≤ k) (A := A) rfl (.tmp 7) (.tmp 14) rfl Tryz.underlying87 info_fd rfl O7.out rfl (RdY.singleB (e := FdR) (cs := [.int .i64 0, .int .u32 0, .slice Am L cm, .slice none 0 0]) (d := ⟨0, 0, r.mo⟩) ⟨_, rfl, HMD.out⟩ HX.out) rfl (fun k _ hk => ⟨.inl hk, fun he => by have := (O7.out.row k he).1; have := hA k hk; omega⟩) (N := 6) rfl (by unfold maxLen; omega) (by omega) EE.size ?_
     intro A9 c9 u12 o9 M9 L9
     have hrow := O7.out.row
     have E9 : Ext w u12 := Mod.toExt EE M9 (fun k hk he => by have := (hrow k he).1; omega)
     refine hK.out _ _ E9 (fun hHeld => ?_)
     clear hK K
     (try simp only [zP])
     have O9 := Lib.hid o9
     clear o9 O7 M9 L9 E9 hrow HX HMD EE
     (refine zR 13 rfl ?_; (try simp only [zP]))
     refine wpAnyH_done (by kernel_rfl) ?_ _
     go_wp2
     go_ret
     exact ⟨_, rfl, O9.out, hHeld⟩
 · skip
   go_simp
   have HX := Lib.hid (Blk.new D 86 #[.int .i64 0, .int .u32 0, .slice Am L cm, .slice none 0 0])
   have EX : Ext D (D.alloc (.cells #[.int .i64 0, .int .u32 0, .slice Am L cm, .slice none 0 0] 86)) := (Ext.refl _).alloc _
   refine hK.out _ _ (EE.trans EX) (fun hHeld => ?_)
   clear hK K
   (try simp only [zP])
   have EE := EE.trans EX
   generalize D.alloc (.cells #[.int .i64 0, .int .u32 0, .slice Am L cm, .slice none 0 0] 86) = u13 at *
   generalize D.heap.size = nX at *
   refine wpAnyH_ready (rs := [1]) (by kernel_rfl) (by simp) ?_
   refine AllReadyH.cons rfl (fun K hK => ?_) AllReadyH.nil
   go_simp
   refine (HT.out u13 EE).mono ?_
   rintro e u14 ⟨v1, rfl, o1, E14⟩
   (try dsimp only)
   refine hK.out _ _ (EE.trans E14) (fun hHeld => ?_)
   clear hK K
   (try simp only [zP])
   obtain ⟨A1, c1, rfl, -, -⟩ := o1.shape
   have O1 := Lib.hid ((o1.lower EE.size).mono (B := fun k => A k ∨ w.heap.size ≤ k) (fun k _ hk => by have := EE.size; rcases hk with hk | hk; exact .inl hk; exact .inr (by omega)))
   have hne : ∀ k, (Value.slice A1 1 c1).ownBlock = some k → ¬ nX = k := fun k hk he => by have := (o1.row k hk).1; have := HX.out.lt; omega
   have HX := Lib.hid (HX.out.ext E14)
   have EE := EE.trans E14
   clear o1
   refine wpAnyH_ready (rs := [3]) (by kernel_rfl) (by simp) ?_
   refine AllReadyH.cons rfl (fun K hK => ?_) AllReadyH.nil
   go_simp
   refine (HS.out u14 EE).mono ?_
   rintro e u15 ⟨v3, rfl, o3, E15⟩
   (try dsimp only)
   refine hK.out _ _ (EE.trans E15) (fun hHeld => ?_)
   clear hK K
   (try simp only [zP])
   obtain ⟨A3, c3, rfl, -, -⟩ := o3.shape
   have O3 := Lib.hid o3
   have O1 := Lib.hid (O1.out.ext E15)
   have HX := Lib.hid (HX.out.ext E15)
   have EE := EE.trans E15
   clear o3
   refine wpAnyH_ready (rs := [4]) (by kernel_rfl) (by simp) ?_
   refine AllReadyH.cons rfl (fun K hK => ?_) AllReadyH.nil
   refine step_app (e := FdR) (base := w.heap.size) (B := fun k => A k ∨ w.heap.size ≤ k) (A := fun _ => False) rfl (.tmp 4) (.tmp 6) rfl Tryz.underlying87 info_fd rfl O1.out rfl (O3.out.y.mono (fun k _ hk => hk.1)) rfl (fun k _ hk => hk.elim) (N := 5) rfl (by unfold maxLen; omega) (by omega) EE.size ?_
   intro A7 c7 u16 o7 M7 L7
   have hrow := O1.out.row
   have E7 : Ext w u16 := Mod.toExt EE M7 (fun k hk he => by have := (hrow k he).1; omega)
   refine hK.out _ _ E7 (fun hHeld => ?_)
   clear hK K
   (try simp only [zP])
   have O7 := Lib.hid o7
   have HX := Lib.hid (HX.out.mod M7 (fun he => hne _ he rfl))
   have EE := E7
   clear o7 O1 O3 M7 L7 E7 hrow
   refine wpAnyH_ready (rs := [12]) (by kernel_rfl) (by simp) ?_
   refine AllReadyH.cons rfl (fun K hK => ?_) AllReadyH.nil
   have HMD := Lib.hid (HM.out.ext EE)
   refine step_app (e := FdR) (base := w.heap.size) (B := fun k => A k ∨ w.heap.size ≤ k) (A := A) rfl (.tmp 7) (.tmp 14) rfl Tryz.underlying87 info_fd rfl O7.out rfl (RdY.singleB (e := FdR) (cs := [.int .i64 0, .int .u32 0, .slice Am L cm, .slice none 0 0]) (d := ⟨0, 0, r.mo⟩) ⟨_, rfl, HMD.out⟩ HX.out) rfl (fun k _ hk => ⟨.inl hk, fun he => by have := (O7.out.row k he).1; have := hA k hk; omega⟩) (N := 6) rfl (by unfold maxLen; omega) (by omega) EE.size ?_
   intro A9 c9 u17 o9 M9 L9
   have hrow := O7.out.row
   have E9 : Ext w u17 := Mod.toExt EE M9 (fun k hk he => by have := (hrow k he).1; omega)
   refine hK.out _ _ E9 (fun hHeld => ?_)
   clear hK K
   (try simp only [zP])
   have O9 := Lib.hid o9
   clear o9 O7 M9 L9 E9 hrow HX HMD EE
   (refine zR 13 rfl ?_; (try simp only [zP]))
   refine wpAnyH_done (by kernel_rfl) ?_ _
   go_wp2
   go_ret
   exact ⟨_, rfl, O9.out, hHeld⟩
end Go.Proofs.YtmmhcllibpmfnaaGreatDoor
namespace Go.Proofs.YtmmhcllibpmfnaaGreatDoor
open Go.RowKit Go.Kb
set_option maxRecDepth 100000
/-- what a putter leaves -/
def PuP (g : Nat) (A : Nat → Prop) (r : Rq) (w : World) (e : Ending) (w' : World) : Prop :=
 e = .returned (.tuple #[]) ∧ ∃ v, Blk w' g 119 (rqA r v) ∧ RdS Ub8 A w' v r.mo ∧ Mod (fun k => k = g) w w'
theorem fds_some {A : Nat → Prop} {w : World} {Ad : Option Addr} {n c : Nat} {fs : List Fd} (h : RdS FdR A w (.slice Ad n c) fs) (hn : 0 < n) : ∃ b off, Ad = some ⟨b, off, none⟩ ∧ A b := by
 obtain ⟨b, off, At, ct, f, rfl, -⟩ := fd_at h.1 hn
 obtain ⟨_, _, hv, _⟩ := h.1.shape
 simp only [Value.slice.injEq] at hv
 exact ⟨b, off, rfl, h.2 (by omega) b rfl⟩
theorem fds_at {A : Nat → Prop} {w : World} {b off n c j : Nat} {fs : List Fd} {f : Fd} (h : RdS FdR A w (.slice (some ⟨b, off, none⟩) n c) fs) (hf : fs[j]? = some f) :
   j < n ∧ ∃ At ct, w.cell? ⟨b, off + j * 4 + 1, none⟩ = some (.int .u32 f.n) ∧ w.cell? ⟨b, off + j * 4 + 2, none⟩ = some (.slice At f.t.length ct) ∧ Hid (RdS Ub8 A w (.slice At f.t.length ct) f.t) := by
 obtain ⟨_, _, hv, _⟩ := h.1.shape
 simp only [Value.slice.injEq] at hv
 have hj : j < n := by have := (List.getElem?_eq_some_iff.1 hf).1; omega
 obtain ⟨b', off', At, ct, f', he, c0, c1, c2, c3, hd, ht⟩ := fd_at h.1 hj
 simp only [Option.some.injEq, Addr.mk.injEq, and_true] at he
 obtain ⟨rfl, rfl⟩ := he
 have hff : f' = f := by
   have h9 := hd.out
   rw [hf] at h9
   simpa using h9.symm
 subst hff
 exact ⟨hj, At, ct, c1, c2, ht⟩
set_option maxHeartbeats 800000 in
theorem qputNone (g : Nat) (r : Rq) (v vl : Value) (A : Nat → Prop) (w : World) (h : Blk w g 119 (rqA r v)) (hv : RdS Ub8 A w v r.mo) : Calls Tryz.prog 113 #[.pointer (some ⟨g, 0, none⟩), vl] w (PuP g A r w) := by
 go_enter Tryz.func113, Tryz.ntmps113
 go_wp2
 go_end0
 exact ⟨rfl, v, h, hv, Mod.refl _ _⟩
set_option maxHeartbeats 800000 in
theorem qputText (g : Nat) (r : Rq) (v : Value) (Ad : Option Addr) (n c : Nat) (fs : List Fd) (f : Fd) (A : Nat → Prop) (w : World) (h : Blk w g 119 (rqA r v)) (hv : RdS Ub8 A w v r.mo) (hl : RdS FdR A w (.slice Ad n c) fs) (hf : fs[0]? = some f) (hn : 0 < n) (hA : ∀ k, A k → k ≠ g ∧ k < w.heap.size) :
   Calls Tryz.prog 116 #[.pointer (some ⟨g, 0, none⟩), .slice Ad n c] w (PuP g A { r with tx := strOfNums f.t } w) := by
 obtain ⟨b, off, rfl, -⟩ := fds_some hl hn
 obtain ⟨-, At, ct, k1, k2, ht⟩ := fds_at hl hf
 simp only [Nat.zero_mul, Nat.add_zero] at k1 k2
 have hcv : (convert 43 9 (.slice At f.t.length ct)).run Tryz.prog w = _ := RI.str Tryz.underlying43 Tryz.underlying5 Tryz.underlying9 (RdS.ri ht.out)
 obtain ⟨Av, cv, rfl, -, -⟩ := hv.shape
 have kg := (rqC h).k1
 have fg := h.frozen 1
 have HB := Lib.hid h
 have HV := Lib.hid hv
 have hn0 : (0 : Int) < (n : Int) := by omega
 clear h hv hl ht
 go_enter Tryz.func116, Tryz.ntmps116
 go_wp2
 go_end0
 have M1 : Mod (fun k => k = g) w (w.setCell ⟨g, 1, none⟩ (.string (strOfNums f.t))) := (Mod.refl _ _).set1 _
 exact ⟨rfl, _, by simpa using HB.out.set_ 1 (.string (strOfNums f.t)), HV.out.mod M1 (fun k _ hk he => (hA k hk).1 he), M1⟩
set_option maxHeartbeats 800000 in
theorem qputOn (g : Nat) (r : Rq) (v : Value) (Ad : Option Addr) (n c : Nat) (fs : List Fd) (f : Fd) (A : Nat → Prop) (w : World) (h : Blk w g 119 (rqA r v)) (hv : RdS Ub8 A w v r.mo) (hl : RdS FdR A w (.slice Ad n c) fs) (hf : fs[0]? = some f) (hn : 0 < n) (hA : ∀ k, A k → k ≠ g ∧ k < w.heap.size) :
   Calls Tryz.prog 122 #[.pointer (some ⟨g, 0, none⟩), .slice Ad n c] w (PuP g A { r with on := (f.n == 1) } w) := by
 obtain ⟨b, off, rfl, -⟩ := fds_some hl hn
 obtain ⟨-, At, ct, k1, k2, ht⟩ := fds_at hl hf
 simp only [Nat.zero_mul, Nat.add_zero] at k1 k2
 obtain ⟨Av, cv, rfl, -, -⟩ := hv.shape
 have kg := (rqC h).k9
 have fg := h.frozen 9
 have HB := Lib.hid h
 have HV := Lib.hid hv
 have hn0 : (0 : Int) < (n : Int) := by omega
 clear h hv hl ht
 go_enter Tryz.func122, Tryz.ntmps122
 go_wp2
 go_end0
 have M1 : Mod (fun k => k = g) w (w.setCell ⟨g, 9, none⟩ (.bool (f.n == 1))) := (Mod.refl _ _).set1 _
 exact ⟨rfl, _, by simpa using HB.out.set_ 9 (.bool (f.n == 1)), HV.out.mod M1 (fun k _ hk he => (hA k hk).1 he), M1⟩
set_option maxHeartbeats 800000 in
theorem qputCode (g : Nat) (r : Rq) (v : Value) (Ad : Option Addr) (n c : Nat) (fs : List Fd) (f : Fd) (A : Nat → Prop) (w : World) (h : Blk w g 119 (rqA r v)) (hv : RdS Ub8 A w v r.mo) (hl : RdS FdR A w (.slice Ad n c) fs) (hf : fs[0]? = some f) (hn : 0 < n) (hA : ∀ k, A k → k ≠ g ∧ k < w.heap.size) :
   Calls Tryz.prog 124 #[.pointer (some ⟨g, 0, none⟩), .slice Ad n c] w (PuP g A { r with co := f.n } w) := by
 obtain ⟨b, off, rfl, -⟩ := fds_some hl hn
 obtain ⟨-, At, ct, k1, k2, ht⟩ := fds_at hl hf
 simp only [Nat.zero_mul, Nat.add_zero] at k1 k2
 obtain ⟨Av, cv, rfl, -, -⟩ := hv.shape
 have kg := (rqC h).k10
 have fg := h.frozen 10
 have HB := Lib.hid h
 have HV := Lib.hid hv
 have hn0 : (0 : Int) < (n : Int) := by omega
 clear h hv hl ht
 go_enter Tryz.func124, Tryz.ntmps124
 go_wp2
 go_end0
 have M1 : Mod (fun k => k = g) w (w.setCell ⟨g, 10, none⟩ (.int .u32 f.n)) := (Mod.refl _ _).set1 _
 exact ⟨rfl, _, by simpa using HB.out.set_ 10 (.int .u32 f.n), HV.out.mod M1 (fun k _ hk he => (hA k hk).1 he), M1⟩
set_option maxHeartbeats 4000000 in
theorem qputEnv (g : Nat) (r : Rq) (v : Value) (Ad : Option Addr) (n c : Nat) (fs : List Fd) (f f2 : Fd) (A : Nat → Prop) (w : World) (h : Blk w g 119 (rqA r v)) (hv : RdS Ub8 A w v r.mo) (hl : RdS FdR A w (.slice Ad n c) fs) (hf : fs[0]? = some f) (hf2 : fs[1]? = some f2) (hn : 0 < n) (hA : ∀ k, A k → k ≠ g ∧ k < w.heap.size) :
   Calls Tryz.prog 110 #[.pointer (some ⟨g, 0, none⟩), .slice Ad n c] w (PuP g A { r with tx := strOfNums f.t, vl := strOfNums f2.t } w) := by
 obtain ⟨b, off, rfl, hb⟩ := fds_some hl hn
 obtain ⟨-, At, ct, k1, k2, ht⟩ := fds_at hl hf
 obtain ⟨hn1, Au, cu, m1, m2, hu⟩ := fds_at hl hf2
 simp only [Nat.zero_mul, Nat.add_zero, Nat.one_mul] at k1 k2 m1 m2
 obtain ⟨Av, cv, rfl, -, -⟩ := hv.shape
 have HB := Lib.hid h
 have HV := Lib.hid hv
 have hn0 : (0 : Int) < (n : Int) := by omega
 have hi1 : (1 : Int) < (n : Int) := by omega
 have hi2 : 1 < n := by omega
 have hbg : ¬ b = g := (hA b hb).1
 have hbw : b < w.heap.size := (hA b hb).2
 clear h hv hl
 go_enter Tryz.func110, Tryz.ntmps110
 refine wp_region_held_drew (S := fun w' => Mod (fun k => k = g) w w') (by kernel_rfl) (Mod.of_ext (Ext.drew (Ext.refl _))) (fun hHeld => ?_)
 obtain ⟨D, hD⟩ : ∃ D, D = w.drew := ⟨_, rfl⟩
 have ED : Ext w D := by rw [hD]; exact (Ext.refl _).drew
 rw [← hD] at hHeld ⊢
 clear hD
 (refine zR 0 rfl ?_; (try simp only [zP]))
 (refine zR 1 rfl ?_; (try simp only [zP]))
 (refine zR 2 rfl ?_; (try simp only [zP]))
 (refine zR 3 rfl ?_; (try simp only [zP]))
 (refine zR 4 rfl ?_; (try simp only [zP]))
 (refine zT 5 (v := ?_) rfl (Or.inl ⟨by rfl, ?_⟩) ?_; rotate_left; (focus (intro w' hSw; have kc := (hSw.cell b (off + 2) hbw hbg).trans k2; go_simp; try with_reducible rfl)); (try simp only [zP]))
 (refine zT 6 (v := ?_) rfl (Or.inl ⟨by rfl, ?_⟩) ?_; rotate_left; (focus (intro w' hSw; have hcv := RI.str (P := Tryz.prog) Tryz.underlying43 Tryz.underlying5 Tryz.underlying9 (RdS.ri (ht.out.mod hSw (fun k _ hk he => (hA k hk).1 he))); go_simp; try with_reducible rfl)); (try simp only [zP]))
 (refine zR 7 rfl ?_; (try simp only [zP]))
 (refine zR 8 rfl ?_; (try simp only [zP]))
 (refine zR 9 rfl ?_; (try simp only [zP]))
 (refine zT 10 (v := ?_) rfl (Or.inl ⟨by rfl, ?_⟩) ?_; rotate_left; (focus (intro w' hSw; have kc := (hSw.cell b (off + 4 + 2) hbw hbg).trans m2; go_simp; try with_reducible rfl)); (try simp only [zP]))
 (refine zT 11 (v := ?_) rfl (Or.inl ⟨by rfl, ?_⟩) ?_; rotate_left; (focus (intro w' hSw; have hcv := RI.str (P := Tryz.prog) Tryz.underlying43 Tryz.underlying5 Tryz.underlying9 (RdS.ri (hu.out.mod hSw (fun k _ hk he => (hA k hk).1 he))); go_simp; try with_reducible rfl)); (try simp only [zP]))
 (refine zR 12 rfl ?_; (try simp only [zP]))
 (refine zR 13 rfl ?_; (try simp only [zP]))
 (refine zR 14 rfl ?_; (try simp only [zP]))
 have BD := HB.out.ext ED
 have g1 := BD.cell 1
 have f1 := BD.frozen 1
 have g2 := BD.cell 2
 have f2' := BD.frozen 2
 simp only [List.getElem?_toArray, List.getElem?_cons_succ, List.getElem?_cons_zero] at g1 g2
 (refine wpAnyH_ready (rs := [15]) (by kernel_rfl) (by simp) ?_; refine AllReadyH.cons rfl (fun K hK => ?_) AllReadyH.nil; go_simp; refine hK.out _ _ ((Mod.of_ext (S := fun k => k = g) ED).set1 (o := 1) (.string (strOfNums f.t))) (fun hHeld => ?_); clear hK K; (try simp only [zP]))
 (refine zR 16 rfl ?_; (try simp only [zP]))
 (refine zR 17 rfl ?_; (try simp only [zP]))
 (refine zR 18 rfl ?_; (try simp only [zP]))
 (refine wpAnyH_ready (rs := [19]) (by kernel_rfl) (by simp) ?_; refine AllReadyH.cons rfl (fun K hK => ?_) AllReadyH.nil; go_simp; refine hK.out _ _ (((Mod.of_ext (S := fun k => k = g) ED).set1 (o := 1) (.string (strOfNums f.t))).set1 (o := 2) (.string (strOfNums f2.t))) (fun hHeld => ?_); clear hK K; (try simp only [zP]))
 refine wpAnyH_done (by kernel_rfl) ?_ _
 go_end0
 exact ⟨rfl, _, by simpa using (BD.set_ 1 (.string (strOfNums f.t))).set_ 2 (.string (strOfNums f2.t)), HV.out.mod hHeld (fun k _ hk he => (hA k hk).1 he), hHeld⟩
end Go.Proofs.YtmmhcllibpmfnaaGreatDoor
namespace Go.Proofs.YtmmhcllibpmfnaaGreatDoor
open Go.RowKit Go.Kb
set_option maxRecDepth 100000
set_option maxHeartbeats 4000000 in
theorem qputSize (g : Nat) (r : Rq) (v : Value) (Ad : Option Addr) (n c : Nat) (fs : List Fd) (f1 f2 f3 f4 : Fd) (A : Nat → Prop) (w : World) (h : Blk w g 119 (rqA r v)) (hv : RdS Ub8 A w v r.mo) (hl : RdS FdR A w (.slice Ad n c) fs) (hf1 : fs[0]? = some f1) (hf2 : fs[1]? = some f2) (hf3 : fs[2]? = some f3) (hf4 : fs[3]? = some f4) (hA : ∀ k, A k → k ≠ g ∧ k < w.heap.size) :
   Calls Tryz.prog 120 #[.pointer (some ⟨g, 0, none⟩), .slice Ad n c] w (PuP g A { r with c1 := f1.n, c2 := f2.n, c3 := f3.n, c4 := f4.n } w) := by
 have hn : 0 < n := by
   obtain ⟨_, _, hv9, _⟩ := hl.1.shape
   simp only [Value.slice.injEq] at hv9
   have := (List.getElem?_eq_some_iff.1 hf1).1
   omega
 obtain ⟨b, off, rfl, hb⟩ := fds_some hl hn
 obtain ⟨-, _, _, k1, -, -⟩ := fds_at hl hf1
 obtain ⟨-, _, _, k2, -, -⟩ := fds_at hl hf2
 obtain ⟨-, _, _, k3, -, -⟩ := fds_at hl hf3
 obtain ⟨hn4, _, _, k4, -, -⟩ := fds_at hl hf4
 simp only [Nat.zero_mul, Nat.add_zero, Nat.one_mul, Nat.reduceMul] at k1 k2 k3 k4
 obtain ⟨Av, cv, rfl, -, -⟩ := hv.shape
 have HB := Lib.hid h
 have HV := Lib.hid hv
 have hn0 : (0 : Int) < (n : Int) := by omega
 have hi1 : (1 : Int) < (n : Int) := by omega
 have hi2 : 1 < n := by omega
 have hj1 : (2 : Int) < (n : Int) := by omega
 have hj2 : 2 < n := by omega
 have hl1 : (3 : Int) < (n : Int) := by omega
 have hbg : ¬ b = g := (hA b hb).1
 have hbw : b < w.heap.size := (hA b hb).2
 clear h hv hl
 go_enter Tryz.func120, Tryz.ntmps120
 refine wp_region_held_drew (S := fun w' => Mod (fun k => k = g) w w') (by kernel_rfl) (Mod.of_ext (Ext.drew (Ext.refl _))) (fun hHeld => ?_)
 obtain ⟨D, hD⟩ : ∃ D, D = w.drew := ⟨_, rfl⟩
 have ED : Ext w D := by rw [hD]; exact (Ext.refl _).drew
 rw [← hD] at hHeld ⊢
 clear hD
 (refine zR 0 rfl ?_; (try simp only [zP]))
 (refine zR 1 rfl ?_; (try simp only [zP]))
 (refine zR 2 rfl ?_; (try simp only [zP]))
 (refine zR 3 rfl ?_; (try simp only [zP]))
 (refine zT 4 (v := ?_) rfl (Or.inl ⟨by rfl, ?_⟩) ?_; rotate_left; (focus (intro w' hSw; have kc := (hSw.cell b (off + 1) hbw hbg).trans k1; go_simp; try with_reducible rfl)); (try simp only [zP]))
 (refine zR 5 rfl ?_; (try simp only [zP]))
 (refine zR 6 rfl ?_; (try simp only [zP]))
 (refine zR 7 rfl ?_; (try simp only [zP]))
 (refine zT 8 (v := ?_) rfl (Or.inl ⟨by rfl, ?_⟩) ?_; rotate_left; (focus (intro w' hSw; have kc := (hSw.cell b (off + 4 + 1) hbw hbg).trans k2; go_simp; try with_reducible rfl)); (try simp only [zP]))
 (refine zR 9 rfl ?_; (try simp only [zP]))
 (refine zR 10 rfl ?_; (try simp only [zP]))
 (refine zR 11 rfl ?_; (try simp only [zP]))
 (refine zT 12 (v := ?_) rfl (Or.inl ⟨by rfl, ?_⟩) ?_; rotate_left; (focus (intro w' hSw; have kc := (hSw.cell b (off + 8 + 1) hbw hbg).trans k3; go_simp; try with_reducible rfl)); (try simp only [zP]))
 (refine zR 13 rfl ?_; (try simp only [zP]))
 (refine zR 14 rfl ?_; (try simp only [zP]))
 (refine zR 15 rfl ?_; (try simp only [zP]))
 (refine zT 16 (v := ?_) rfl (Or.inl ⟨by rfl, ?_⟩) ?_; rotate_left; (focus (intro w' hSw; have kc := (hSw.cell b (off + 12 + 1) hbw hbg).trans k4; go_simp; try with_reducible rfl)); (try simp only [zP]))
 (refine wpAnyH_take (i := 17) (v := .agg #[.int .u32 f1.n, .int .u32 f2.n, .int .u32 f3.n, .int .u32 f4.n]) rfl (by kernel_rfl) (by kernel_rfl) (by kernel_rfl) (fun _ _ _ h => h) (yieldsIf_build (by rfl) 35 _ rfl (by simp [go_sem]; exact (by kernel_rfl))) (by assumption) ?_; (try simp only [zP]))
 (refine zR 18 rfl ?_; (try simp only [zP]))
 (refine zR 19 rfl ?_; (try simp only [zP]))
 (refine zR 20 rfl ?_; (try simp only [zP]))
 have BD := HB.out.ext ED
 have g4 := BD.cell 4
 have fz4 := BD.frozen 4
 have g5 := BD.cell 5
 have fz5 := BD.frozen 5
 have g6 := BD.cell 6
 have fz6 := BD.frozen 6
 have g7 := BD.cell 7
 have fz7 := BD.frozen 7
 simp only [List.getElem?_toArray, List.getElem?_cons_succ, List.getElem?_cons_zero] at g4 g5 g6 g7
 (refine wpAnyH_ready (rs := [21]) (by kernel_rfl) (by simp) ?_; refine AllReadyH.cons rfl (fun K hK => ?_) AllReadyH.nil; go_simp; refine hK.out _ _ (((((Mod.of_ext (S := fun k => k = g) ED).set1 (o := 4) (.int .u32 f1.n)).set1 (o := 5) (.int .u32 f2.n)).set1 (o := 6) (.int .u32 f3.n)).set1 (o := 7) (.int .u32 f4.n)) (fun hHeld => ?_); clear hK K; (try simp only [zP]))
 refine wpAnyH_done (by kernel_rfl) ?_ _
 go_end0
 exact ⟨rfl, _, by simpa using (((BD.set_ 4 (.int .u32 f1.n)).set_ 5 (.int .u32 f2.n)).set_ 6 (.int .u32 f3.n)).set_ 7 (.int .u32 f4.n), HV.out.mod hHeld (fun k _ hk he => (hA k hk).1 he), hHeld⟩
set_option maxHeartbeats 4000000 in
theorem qputDeath (g : Nat) (r : Rq) (v : Value) (Ad : Option Addr) (n c : Nat) (fs : List Fd) (f1 f2 f3 f4 : Fd) (A : Nat → Prop) (w : World) (h : Blk w g 119 (rqA r v)) (hv : RdS Ub8 A w v r.mo) (hl : RdS FdR A w (.slice Ad n c) fs) (hf1 : fs[0]? = some f1) (hf2 : fs[1]? = some f2) (hf3 : fs[2]? = some f3) (hf4 : fs[3]? = some f4) (hA : ∀ k, A k → k ≠ g ∧ k < w.heap.size) :
   Calls Tryz.prog 126 #[.pointer (some ⟨g, 0, none⟩), .slice Ad n c] w (PuP g A { r with tx := strOfNums f1.t, on := (f2.n == 1), vl := strOfNums f3.t, la := strOfNums f4.t } w) := by
 have hn : 0 < n := by
   obtain ⟨_, _, hv9, _⟩ := hl.1.shape
   simp only [Value.slice.injEq] at hv9
   have := (List.getElem?_eq_some_iff.1 hf1).1
   omega
 obtain ⟨b, off, rfl, hb⟩ := fds_some hl hn
 obtain ⟨-, A1, c1, -, k1, h1⟩ := fds_at hl hf1
 obtain ⟨-, _, _, k2, -, -⟩ := fds_at hl hf2
 obtain ⟨-, A3, c3, -, k3, h3⟩ := fds_at hl hf3
 obtain ⟨hn4, A4, c4, -, k4, h4⟩ := fds_at hl hf4
 simp only [Nat.zero_mul, Nat.add_zero, Nat.one_mul, Nat.reduceMul] at k1 k2 k3 k4
 obtain ⟨Av, cv, rfl, -, -⟩ := hv.shape
 have HB := Lib.hid h
 have HV := Lib.hid hv
 have hn0 : (0 : Int) < (n : Int) := by omega
 have hi1 : (1 : Int) < (n : Int) := by omega
 have hi2 : 1 < n := by omega
 have hj1 : (2 : Int) < (n : Int) := by omega
 have hj2 : 2 < n := by omega
 have hl1 : (3 : Int) < (n : Int) := by omega
 have hbg : ¬ b = g := (hA b hb).1
 have hbw : b < w.heap.size := (hA b hb).2
 clear h hv hl
 go_enter Tryz.func126, Tryz.ntmps126
 refine wp_region_held_drew (S := fun w' => Mod (fun k => k = g) w w') (by kernel_rfl) (Mod.of_ext (Ext.drew (Ext.refl _))) (fun hHeld => ?_)
 obtain ⟨D, hD⟩ : ∃ D, D = w.drew := ⟨_, rfl⟩
 have ED : Ext w D := by rw [hD]; exact (Ext.refl _).drew
 rw [← hD] at hHeld ⊢
 clear hD
 (refine zR 0 rfl ?_; (try simp only [zP]))
 (refine zR 1 rfl ?_; (try simp only [zP]))
 (refine zR 2 rfl ?_; (try simp only [zP]))
 (refine zR 3 rfl ?_; (try simp only [zP]))
 (refine zR 4 rfl ?_; (try simp only [zP]))
 (refine zR 5 rfl ?_; (try simp only [zP]))
 (refine zR 6 rfl ?_; (try simp only [zP]))
 (refine zT 7 (v := ?_) rfl (Or.inl ⟨by rfl, ?_⟩) ?_; rotate_left; (focus (intro w' hSw; have kc := (hSw.cell b (off + 2) hbw hbg).trans k1; go_simp; try with_reducible rfl)); (try simp only [zP]))
 (refine zT 8 (v := ?_) rfl (Or.inl ⟨by rfl, ?_⟩) ?_; rotate_left; (focus (intro w' hSw; have hcv := RI.str (P := Tryz.prog) Tryz.underlying43 Tryz.underlying5 Tryz.underlying9 (RdS.ri (h1.out.mod hSw (fun k _ hk he => (hA k hk).1 he))); go_simp; try with_reducible rfl)); (try simp only [zP]))
 (refine zR 9 rfl ?_; (try simp only [zP]))
 (refine zR 10 rfl ?_; (try simp only [zP]))
 (refine zR 11 rfl ?_; (try simp only [zP]))
 (refine zT 12 (v := ?_) rfl (Or.inl ⟨by rfl, ?_⟩) ?_; rotate_left; (focus (intro w' hSw; have kc := (hSw.cell b (off + 4 + 1) hbw hbg).trans k2; go_simp; try with_reducible rfl)); (try simp only [zP]))
 (refine zR 13 rfl ?_; (try simp only [zP]))
 (refine zR 14 rfl ?_; (try simp only [zP]))
 (refine zR 15 rfl ?_; (try simp only [zP]))
 (refine zR 16 rfl ?_; (try simp only [zP]))
 (refine zT 17 (v := ?_) rfl (Or.inl ⟨by rfl, ?_⟩) ?_; rotate_left; (focus (intro w' hSw; have kc := (hSw.cell b (off + 8 + 2) hbw hbg).trans k3; go_simp; try with_reducible rfl)); (try simp only [zP]))
 (refine zT 18 (v := ?_) rfl (Or.inl ⟨by rfl, ?_⟩) ?_; rotate_left; (focus (intro w' hSw; have hcv := RI.str (P := Tryz.prog) Tryz.underlying43 Tryz.underlying5 Tryz.underlying9 (RdS.ri (h3.out.mod hSw (fun k _ hk he => (hA k hk).1 he))); go_simp; try with_reducible rfl)); (try simp only [zP]))
 (refine zR 19 rfl ?_; (try simp only [zP]))
 (refine zR 20 rfl ?_; (try simp only [zP]))
 (refine zR 21 rfl ?_; (try simp only [zP]))
 (refine zT 22 (v := ?_) rfl (Or.inl ⟨by rfl, ?_⟩) ?_; rotate_left; (focus (intro w' hSw; have kc := (hSw.cell b (off + 12 + 2) hbw hbg).trans k4; go_simp; try with_reducible rfl)); (try simp only [zP]))
 (refine zT 23 (v := ?_) rfl (Or.inl ⟨by rfl, ?_⟩) ?_; rotate_left; (focus (intro w' hSw; have hcv := RI.str (P := Tryz.prog) Tryz.underlying43 Tryz.underlying5 Tryz.underlying9 (RdS.ri (h4.out.mod hSw (fun k _ hk he => (hA k hk).1 he))); go_simp; try with_reducible rfl)); (try simp only [zP]))
 have BD := HB.out.ext ED
 have g1 := BD.cell 1
 have fz1 := BD.frozen 1
 have g9 := BD.cell 9
 have fz9 := BD.frozen 9
 have g2 := BD.cell 2
 have fz2 := BD.frozen 2
 have g3 := BD.cell 3
 have fz3 := BD.frozen 3
 simp only [List.getElem?_toArray, List.getElem?_cons_succ, List.getElem?_cons_zero] at g1 g9 g2 g3
 (refine zR 24 rfl ?_; (try simp only [zP]))
 (refine zR 25 rfl ?_; (try simp only [zP]))
 (refine zR 26 rfl ?_; (try simp only [zP]))
 (refine wpAnyH_ready (rs := [27]) (by kernel_rfl) (by simp) ?_; refine AllReadyH.cons rfl (fun K hK => ?_) AllReadyH.nil; go_simp; refine hK.out _ _ ((Mod.of_ext (S := fun k => k = g) ED).set1 (o := 1) (.string (strOfNums f1.t))) (fun hHeld => ?_); clear hK K; (try simp only [zP]))
 (refine zR 28 rfl ?_; (try simp only [zP]))
 (refine zR 29 rfl ?_; (try simp only [zP]))
 (refine zR 30 rfl ?_; (try simp only [zP]))
 (refine wpAnyH_ready (rs := [31]) (by kernel_rfl) (by simp) ?_; refine AllReadyH.cons rfl (fun K hK => ?_) AllReadyH.nil; go_simp; refine hK.out _ _ (((Mod.of_ext (S := fun k => k = g) ED).set1 (o := 1) (.string (strOfNums f1.t))).set1 (o := 9) (.bool (f2.n == 1))) (fun hHeld => ?_); clear hK K; (try simp only [zP]))
 (refine zR 32 rfl ?_; (try simp only [zP]))
 (refine zR 33 rfl ?_; (try simp only [zP]))
 (refine zR 34 rfl ?_; (try simp only [zP]))
 (refine wpAnyH_ready (rs := [35]) (by kernel_rfl) (by simp) ?_; refine AllReadyH.cons rfl (fun K hK => ?_) AllReadyH.nil; go_simp; refine hK.out _ _ ((((Mod.of_ext (S := fun k => k = g) ED).set1 (o := 1) (.string (strOfNums f1.t))).set1 (o := 9) (.bool (f2.n == 1))).set1 (o := 2) (.string (strOfNums f3.t))) (fun hHeld => ?_); clear hK K; (try simp only [zP]))
 (refine zR 36 rfl ?_; (try simp only [zP]))
 (refine zR 37 rfl ?_; (try simp only [zP]))
 (refine zR 38 rfl ?_; (try simp only [zP]))
 (refine wpAnyH_ready (rs := [39]) (by kernel_rfl) (by simp) ?_; refine AllReadyH.cons rfl (fun K hK => ?_) AllReadyH.nil; go_simp; refine hK.out _ _ (((((Mod.of_ext (S := fun k => k = g) ED).set1 (o := 1) (.string (strOfNums f1.t))).set1 (o := 9) (.bool (f2.n == 1))).set1 (o := 2) (.string (strOfNums f3.t))).set1 (o := 3) (.string (strOfNums f4.t))) (fun hHeld => ?_); clear hK K; (try simp only [zP]))
 refine wpAnyH_done (by kernel_rfl) ?_ _
 go_end0
 exact ⟨rfl, _, by simpa using ((((BD.set_ 1 (.string (strOfNums f1.t))).set_ 9 (.bool (f2.n == 1))).set_ 2 (.string (strOfNums f3.t))).set_ 3 (.string (strOfNums f4.t))), HV.out.mod hHeld (fun k _ hk he => (hA k hk).1 he), hHeld⟩
set_option maxHeartbeats 4000000 in
theorem qputPty (g : Nat) (r : Rq) (v : Value) (Ad : Option Addr) (n c : Nat) (fs : List Fd) (f0 f1 f2 f3 f4 f5 : Fd) (A : Nat → Prop) (w : World) (h : Blk w g 119 (rqA r v)) (hv : RdS Ub8 A w v r.mo) (hl : RdS FdR A w (.slice Ad n c) fs) (hfs : fs = [f0, f1, f2, f3, f4, f5]) (hA : ∀ k, A k → k ≠ g ∧ k < w.heap.size) :
   Calls Tryz.prog 107 #[.pointer (some ⟨g, 0, none⟩), .slice Ad n c] w (PuP g A { r with tx := strOfNums f0.t, c1 := f1.n, c2 := f2.n, c3 := f3.n, c4 := f4.n, mo := f5.t } w) := by
 have hn : n = 6 := by
   obtain ⟨_, _, hv9, _⟩ := hl.1.shape
   simp only [Value.slice.injEq] at hv9
   rw [hv9.2.1, hfs]
   rfl
 subst hn
 have hcc : 6 ≤ c := by
   obtain ⟨_, _, hv9, h9, _⟩ := hl.1.shape
   simp only [Value.slice.injEq] at hv9
   omega
 obtain ⟨b, off, rfl, hb⟩ := fds_some hl (by omega)
 have HB := Lib.hid h
 have HV := Lib.hid hv
 have HLL := Lib.hid hl
 have HT := Lib.hid (qputText g r v (some ⟨b, off, none⟩) 6 c fs f0 A w h hv hl (by rw [hfs]; rfl) (by omega) hA)
 have hc1 : (1 : Int) ≤ (c : Int) := by omega
 have HFS := Lib.hid hfs
 clear h hv hl hfs
 go_enter Tryz.func107, Tryz.ntmps107
 go_wp2_with fail
 refine HT.out.mono ?_
 rintro e w1 ⟨rfl, v1, B1, V1, M1⟩
 have B1 := Lib.hid B1
 have V1 := Lib.hid V1
 have L1 := Lib.hid (HLL.out.mod M1 (fun k _ hk he => (hA k hk).1 he))
 have hA1 : ∀ k, A k → k ≠ g ∧ k < w1.heap.size := fun k hk => ⟨(hA k hk).1, Nat.lt_of_lt_of_le (hA k hk).2 M1.size⟩
 have L2 := Lib.hid (show RdS FdR A w1 (.slice (some ⟨b, off + 4, none⟩) 5 (c - 1)) [f1, f2, f3, f4, f5] from by
   have h9 := RdS.from_ L1.out (k := 1) (by omega)
   have e1 : Option.map (fun x : Addr => x.add (1 * FdR.size)) (some ⟨b, off, none⟩) = some ⟨b, off + 4, none⟩ := by simp [Addr.add_lit, FdR]
   rw [e1, if_neg (by omega), HFS.out] at h9
   exact h9)
 have HM1 := Lib.hid M1
 clear M1 HT
 go_wp2_with fail
 with_reducible refine (qputSize g _ v1 (some ⟨b, off + 4, none⟩) 5 (c - 1) [f1, f2, f3, f4, f5] f1 f2 f3 f4 A w1 B1.out V1.out L2.out rfl rfl rfl rfl hA1).mono ?_
 rintro e w2 ⟨rfl, v2, B2, V2, M2⟩
 have HM2 := Lib.hid (HM1.out.trans M2)
 have L3 := L1.out.mod M2 (fun k _ hk he => (hA k hk).1 he)
 obtain ⟨-, A5, c5, -, k5, h5⟩ := fds_at (j := 5) (f := f5) L3 (by rw [HFS.out]; rfl)
 simp only [Nat.reduceMul] at k5
 obtain ⟨Av, cv, rfl, -, -⟩ := V2.shape
 have kg := (rqC B2).k8
 have fg := B2.frozen 8
 have B2 := Lib.hid B2
 have V2 := Lib.hid V2
 clear M2 L3
 go_wp2
 go_end0
 have M3 : Mod (fun k => k = g) w2 (w2.setCell ⟨g, 8, none⟩ (.slice A5 f5.t.length c5)) := (Mod.refl _ _).set1 _
 exact ⟨rfl, _, by simpa using B2.out.set_ 8 (.slice A5 f5.t.length c5), h5.out.mod M3 (fun k _ hk he => (hA k hk).1 he), HM2.out.trans M3⟩
end Go.Proofs.YtmmhcllibpmfnaaGreatDoor
namespace Go.Proofs.YtmmhcllibpmfnaaGreatDoor
open Go.RowKit Go.Kb
set_option maxRecDepth 100000
/-- the names of requests, by their kinds -/
def nmQ : Nat → ByteArray
 | 1 => ⟨#[112, 116, 121, 45, 114, 101, 113]⟩
 | 2 => ⟨#[101, 110, 118]⟩
 | 3 => ⟨#[115, 104, 101, 108, 108]⟩
 | 4 => ⟨#[101, 120, 101, 99]⟩
 | 5 => ⟨#[115, 117, 98, 115, 121, 115, 116, 101, 109]⟩
 | 6 => ⟨#[119, 105, 110, 100, 111, 119, 45, 99, 104, 97, 110, 103, 101]⟩
 | 7 => ⟨#[120, 111, 110, 45, 120, 111, 102, 102]⟩
 | 8 => ⟨#[115, 105, 103, 110, 97, 108]⟩
 | 9 => ⟨#[101, 120, 105, 116, 45, 115, 116, 97, 116, 117, 115]⟩
 | 10 => ⟨#[101, 120, 105, 116, 45, 115, 105, 103, 110, 97, 108]⟩
 | _ => ⟨#[]⟩
/-- the kinds of their fields -/
def kindsQ : Nat → List Int
 | 1 => [4, 3, 3, 3, 3, 4]
 | 2 => [4, 4]
 | 4 => [4]
 | 5 => [4]
 | 6 => [3, 3, 3, 3]
 | 7 => [2]
 | 8 => [4]
 | 9 => [3]
 | 10 => [4, 2, 4, 4]
 | _ => []
def gQ : Nat → Nat
 | 1 => 106
 | 2 => 109
 | 3 => 112
 | 4 => 115
 | 5 => 115
 | 6 => 119
 | 7 => 121
 | 8 => 115
 | 9 => 123
 | 10 => 125
 | _ => 0
def pQ : Nat → Nat
 | 1 => 107
 | 2 => 110
 | 3 => 113
 | 4 => 116
 | 5 => 116
 | 6 => 120
 | 7 => 122
 | 8 => 116
 | 9 => 124
 | 10 => 126
 | _ => 0
def aQ : Nat → Nat
 | 1 => 108
 | 2 => 111
 | 3 => 114
 | 4 => 117
 | 5 => 118
 | 6 => 114
 | 7 => 114
 | 8 => 118
 | 9 => 114
 | 10 => 127
 | _ => 0
/-- where the kinds lie -/
def kvQ (n : Nat) : Nat → Value
 | 1 => .slice (some ⟨n + 1, 0, none⟩) 6 6
 | 2 => .slice (some ⟨n + 1 + 1, 0, none⟩) 2 2
 | 4 => .slice (some ⟨n + 1 + 1 + 1, 0, none⟩) 1 1
 | 5 => .slice (some ⟨n + 1 + 1 + 1 + 1, 0, none⟩) 1 1
 | 6 => .slice (some ⟨n + 1 + 1 + 1 + 1 + 1, 0, none⟩) 4 4
 | 7 => .slice (some ⟨n + 1 + 1 + 1 + 1 + 1 + 1, 0, none⟩) 1 1
 | 8 => .slice (some ⟨n + 1 + 1 + 1 + 1 + 1 + 1 + 1, 0, none⟩) 1 1
 | 9 => .slice (some ⟨n + 1 + 1 + 1 + 1 + 1 + 1 + 1 + 1, 0, none⟩) 1 1
 | 10 => .slice (some ⟨n + 1 + 1 + 1 + 1 + 1 + 1 + 1 + 1 + 1, 0, none⟩) 4 4
 | _ => .slice none 0 0
/-- a rule's cells -/
def ruleL (n : Nat) : Nat → List Value
 | 0 => [.string ⟨#[]⟩, .slice none 0 0, .nilFunc, .nilFunc, .nilFunc]
 | 1 => [.string ⟨#[112, 116, 121, 45, 114, 101, 113]⟩, .slice (some ⟨n + 1, 0, none⟩) 6 6, .func (.func 106) #[] #[], .func (.func 107) #[] #[], .func (.func 108) #[] #[]]
 | 2 => [.string ⟨#[101, 110, 118]⟩, .slice (some ⟨n + 1 + 1, 0, none⟩) 2 2, .func (.func 109) #[] #[], .func (.func 110) #[] #[], .func (.func 111) #[] #[]]
 | 3 => [.string ⟨#[115, 104, 101, 108, 108]⟩, .slice none 0 0, .func (.func 112) #[] #[], .func (.func 113) #[] #[], .func (.func 114) #[] #[]]
 | 4 => [.string ⟨#[101, 120, 101, 99]⟩, .slice (some ⟨n + 1 + 1 + 1, 0, none⟩) 1 1, .func (.func 115) #[] #[], .func (.func 116) #[] #[], .func (.func 117) #[] #[]]
 | 5 => [.string ⟨#[115, 117, 98, 115, 121, 115, 116, 101, 109]⟩, .slice (some ⟨n + 1 + 1 + 1 + 1, 0, none⟩) 1 1, .func (.func 115) #[] #[], .func (.func 116) #[] #[], .func (.func 118) #[] #[]]
 | 6 => [.string ⟨#[119, 105, 110, 100, 111, 119, 45, 99, 104, 97, 110, 103, 101]⟩, .slice (some ⟨n + 1 + 1 + 1 + 1 + 1, 0, none⟩) 4 4, .func (.func 119) #[] #[], .func (.func 120) #[] #[], .func (.func 114) #[] #[]]
 | 7 => [.string ⟨#[120, 111, 110, 45, 120, 111, 102, 102]⟩, .slice (some ⟨n + 1 + 1 + 1 + 1 + 1 + 1, 0, none⟩) 1 1, .func (.func 121) #[] #[], .func (.func 122) #[] #[], .func (.func 114) #[] #[]]
 | 8 => [.string ⟨#[115, 105, 103, 110, 97, 108]⟩, .slice (some ⟨n + 1 + 1 + 1 + 1 + 1 + 1 + 1, 0, none⟩) 1 1, .func (.func 115) #[] #[], .func (.func 116) #[] #[], .func (.func 118) #[] #[]]
 | 9 => [.string ⟨#[101, 120, 105, 116, 45, 115, 116, 97, 116, 117, 115]⟩, .slice (some ⟨n + 1 + 1 + 1 + 1 + 1 + 1 + 1 + 1, 0, none⟩) 1 1, .func (.func 123) #[] #[], .func (.func 124) #[] #[], .func (.func 114) #[] #[]]
 | 10 => [.string ⟨#[101, 120, 105, 116, 45, 115, 105, 103, 110, 97, 108]⟩, .slice (some ⟨n + 1 + 1 + 1 + 1 + 1 + 1 + 1 + 1 + 1, 0, none⟩) 4 4, .func (.func 125) #[] #[], .func (.func 126) #[] #[], .func (.func 127) #[] #[]]
 | _ => []
def rulesA (n : Nat) : Array Value := (ruleL n 0 ++ ruleL n 1 ++ ruleL n 2 ++ ruleL n 3 ++ ruleL n 4 ++ ruleL n 5 ++ ruleL n 6 ++ ruleL n 7 ++ ruleL n 8 ++ ruleL n 9 ++ ruleL n 10).toArray
/-- what rules answers -/
def RulP (w : World) (e : Ending) (w' : World) : Prop := e = .returned (.agg (rulesA w.heap.size)) ∧ Ext w w' ∧ ∀ i, i ≤ 10 → RI .i64 w' (kvQ w.heap.size i) (kindsQ i)
theorem hold_build {P : Program} {ops : Array Oper} {rest : List Oper} {o : Oper} {a : Act} {w : World} {Q : Exit → Act → World → Prop} (_ : o.guard = none) (t : TypeId) (parts : Array (Nat × Operand)) (_ : o.op = .build t parts) (h : ∀ Z : Prop, Z = wpList P ops Q (o :: rest) a w → Z) : wpList P ops Q (o :: rest) a w := h _ rfl
set_option maxHeartbeats 4000000 in
theorem rules_any (w : World) : Calls Tryz.prog 60 #[] w (RulP w) := by
 have hiR : (Tryz.prog.info? 177).map (·.size) = some 55 := by kernel_rfl
 obtain ⟨W9, hW9⟩ : ∃ W9, W9 = (((((((((w.alloc (.cells #[.string ⟨#[]⟩, .slice none 0 0, .nilFunc, .nilFunc, .nilFunc, .string ⟨#[]⟩, .slice none 0 0, .nilFunc, .nilFunc, .nilFunc, .string ⟨#[]⟩, .slice none 0 0, .nilFunc, .nilFunc, .nilFunc, .string ⟨#[]⟩, .slice none 0 0, .nilFunc, .nilFunc, .nilFunc, .string ⟨#[]⟩, .slice none 0 0, .nilFunc, .nilFunc, .nilFunc, .string ⟨#[]⟩, .slice none 0 0, .nilFunc, .nilFunc, .nilFunc, .string ⟨#[]⟩, .slice none 0 0, .nilFunc, .nilFunc, .nilFunc, .string ⟨#[]⟩, .slice none 0 0, .nilFunc, .nilFunc, .nilFunc, .string ⟨#[]⟩, .slice none 0 0, .nilFunc, .nilFunc, .nilFunc, .string ⟨#[]⟩, .slice none 0 0, .nilFunc, .nilFunc, .nilFunc, .string ⟨#[]⟩, .slice none 0 0, .nilFunc, .nilFunc, .nilFunc] 177)).alloc (.cells #[.int .i64 4, .int .i64 3, .int .i64 3, .int .i64 3, .int .i64 3, .int .i64 4] 3)).alloc (.cells #[.int .i64 4, .int .i64 4] 3)).alloc (.cells #[.int .i64 4] 3)).alloc (.cells #[.int .i64 4] 3)).alloc (.cells #[.int .i64 3, .int .i64 3, .int .i64 3, .int .i64 3] 3)).alloc (.cells #[.int .i64 2] 3)).alloc (.cells #[.int .i64 4] 3)).alloc (.cells #[.int .i64 3] 3)).alloc (.cells #[.int .i64 4, .int .i64 2, .int .i64 4, .int .i64 4] 3) := ⟨_, rfl⟩
 have E9 : Ext w W9 := by rw [hW9]; exact zX
 have B9 := Lib.hid (show Blk W9 w.heap.size 177 #[.string ⟨#[]⟩, .slice none 0 0, .nilFunc, .nilFunc, .nilFunc, .string ⟨#[]⟩, .slice none 0 0, .nilFunc, .nilFunc, .nilFunc, .string ⟨#[]⟩, .slice none 0 0, .nilFunc, .nilFunc, .nilFunc, .string ⟨#[]⟩, .slice none 0 0, .nilFunc, .nilFunc, .nilFunc, .string ⟨#[]⟩, .slice none 0 0, .nilFunc, .nilFunc, .nilFunc, .string ⟨#[]⟩, .slice none 0 0, .nilFunc, .nilFunc, .nilFunc, .string ⟨#[]⟩, .slice none 0 0, .nilFunc, .nilFunc, .nilFunc, .string ⟨#[]⟩, .slice none 0 0, .nilFunc, .nilFunc, .nilFunc, .string ⟨#[]⟩, .slice none 0 0, .nilFunc, .nilFunc, .nilFunc, .string ⟨#[]⟩, .slice none 0 0, .nilFunc, .nilFunc, .nilFunc, .string ⟨#[]⟩, .slice none 0 0, .nilFunc, .nilFunc, .nilFunc] by rw [hW9]; exact (by repeat (first | ((with_reducible refine Blk.at_ _ _ ?_); simp; done) | with_reducible refine Blk.drew ?_ | with_reducible refine Blk.alloc ?_ _ | refine Blk.ext ?_ (by assumption))))
 obtain ⟨n, hn⟩ : ∃ n, w.heap.size = n := ⟨_, rfl⟩
 have R1 := Lib.hid (show RI .i64 W9 (.slice (some ⟨w.heap.size + 1, 0, none⟩) 6 6) [4, 3, 3, 3, 3, 4] from blk_ri (ks := [4, 3, 3, 3, 3, 4]) (show Blk W9 _ 3 #[.int .i64 4, .int .i64 3, .int .i64 3, .int .i64 3, .int .i64 3, .int .i64 4] by rw [hW9]; exact (by repeat (first | ((with_reducible refine Blk.at_ _ _ ?_); simp; done) | with_reducible refine Blk.drew ?_ | with_reducible refine Blk.alloc ?_ _ | refine Blk.ext ?_ (by assumption)))) (by simp))
 have R2 := Lib.hid (show RI .i64 W9 (.slice (some ⟨w.heap.size + 1 + 1, 0, none⟩) 2 2) [4, 4] from blk_ri (ks := [4, 4]) (show Blk W9 _ 3 #[.int .i64 4, .int .i64 4] by rw [hW9]; exact (by repeat (first | ((with_reducible refine Blk.at_ _ _ ?_); simp; done) | with_reducible refine Blk.drew ?_ | with_reducible refine Blk.alloc ?_ _ | refine Blk.ext ?_ (by assumption)))) (by simp))
 have R4 := Lib.hid (show RI .i64 W9 (.slice (some ⟨w.heap.size + 1 + 1 + 1, 0, none⟩) 1 1) [4] from blk_ri (ks := [4]) (show Blk W9 _ 3 #[.int .i64 4] by rw [hW9]; exact (by repeat (first | ((with_reducible refine Blk.at_ _ _ ?_); simp; done) | with_reducible refine Blk.drew ?_ | with_reducible refine Blk.alloc ?_ _ | refine Blk.ext ?_ (by assumption)))) (by simp))
 have R5 := Lib.hid (show RI .i64 W9 (.slice (some ⟨w.heap.size + 1 + 1 + 1 + 1, 0, none⟩) 1 1) [4] from blk_ri (ks := [4]) (show Blk W9 _ 3 #[.int .i64 4] by rw [hW9]; exact (by repeat (first | ((with_reducible refine Blk.at_ _ _ ?_); simp; done) | with_reducible refine Blk.drew ?_ | with_reducible refine Blk.alloc ?_ _ | refine Blk.ext ?_ (by assumption)))) (by simp))
 have R6 := Lib.hid (show RI .i64 W9 (.slice (some ⟨w.heap.size + 1 + 1 + 1 + 1 + 1, 0, none⟩) 4 4) [3, 3, 3, 3] from blk_ri (ks := [3, 3, 3, 3]) (show Blk W9 _ 3 #[.int .i64 3, .int .i64 3, .int .i64 3, .int .i64 3] by rw [hW9]; exact (by repeat (first | ((with_reducible refine Blk.at_ _ _ ?_); simp; done) | with_reducible refine Blk.drew ?_ | with_reducible refine Blk.alloc ?_ _ | refine Blk.ext ?_ (by assumption)))) (by simp))
 have R7 := Lib.hid (show RI .i64 W9 (.slice (some ⟨w.heap.size + 1 + 1 + 1 + 1 + 1 + 1, 0, none⟩) 1 1) [2] from blk_ri (ks := [2]) (show Blk W9 _ 3 #[.int .i64 2] by rw [hW9]; exact (by repeat (first | ((with_reducible refine Blk.at_ _ _ ?_); simp; done) | with_reducible refine Blk.drew ?_ | with_reducible refine Blk.alloc ?_ _ | refine Blk.ext ?_ (by assumption)))) (by simp))
 have R8 := Lib.hid (show RI .i64 W9 (.slice (some ⟨w.heap.size + 1 + 1 + 1 + 1 + 1 + 1 + 1, 0, none⟩) 1 1) [4] from blk_ri (ks := [4]) (show Blk W9 _ 3 #[.int .i64 4] by rw [hW9]; exact (by repeat (first | ((with_reducible refine Blk.at_ _ _ ?_); simp; done) | with_reducible refine Blk.drew ?_ | with_reducible refine Blk.alloc ?_ _ | refine Blk.ext ?_ (by assumption)))) (by simp))
 have R9 := Lib.hid (show RI .i64 W9 (.slice (some ⟨w.heap.size + 1 + 1 + 1 + 1 + 1 + 1 + 1 + 1, 0, none⟩) 1 1) [3] from blk_ri (ks := [3]) (show Blk W9 _ 3 #[.int .i64 3] by rw [hW9]; exact (by repeat (first | ((with_reducible refine Blk.at_ _ _ ?_); simp; done) | with_reducible refine Blk.drew ?_ | with_reducible refine Blk.alloc ?_ _ | refine Blk.ext ?_ (by assumption)))) (by simp))
 have R10 := Lib.hid (show RI .i64 W9 (.slice (some ⟨w.heap.size + 1 + 1 + 1 + 1 + 1 + 1 + 1 + 1 + 1, 0, none⟩) 4 4) [4, 2, 4, 4] from blk_ri (ks := [4, 2, 4, 4]) (show Blk W9 _ 3 #[.int .i64 4, .int .i64 2, .int .i64 4, .int .i64 4] by rw [hW9]; exact (by repeat (first | ((with_reducible refine Blk.at_ _ _ ?_); simp; done) | with_reducible refine Blk.drew ?_ | with_reducible refine Blk.alloc ?_ _ | refine Blk.ext ?_ (by assumption)))) (by simp))
 have HW9 := Lib.hid hW9
 clear hW9 hn
 go_enter Tryz.func60, Tryz.ntmps60
 have hb : Tryz.prog.built 177 [(1, .agg #[.string ⟨#[112, 116, 121, 45, 114, 101, 113]⟩, .slice (some ⟨w.heap.size + 1, 0, none⟩) 6 6, .func (.func 106) #[] #[], .func (.func 107) #[] #[], .func (.func 108) #[] #[]]), (2, .agg #[.string ⟨#[101, 110, 118]⟩, .slice (some ⟨w.heap.size + 1 + 1, 0, none⟩) 2 2, .func (.func 109) #[] #[], .func (.func 110) #[] #[], .func (.func 111) #[] #[]]), (3, .agg #[.string ⟨#[115, 104, 101, 108, 108]⟩, .slice none 0 0, .func (.func 112) #[] #[], .func (.func 113) #[] #[], .func (.func 114) #[] #[]]), (4, .agg #[.string ⟨#[101, 120, 101, 99]⟩, .slice (some ⟨w.heap.size + 1 + 1 + 1, 0, none⟩) 1 1, .func (.func 115) #[] #[], .func (.func 116) #[] #[], .func (.func 117) #[] #[]]), (5, .agg #[.string ⟨#[115, 117, 98, 115, 121, 115, 116, 101, 109]⟩, .slice (some ⟨w.heap.size + 1 + 1 + 1 + 1, 0, none⟩) 1 1, .func (.func 115) #[] #[], .func (.func 116) #[] #[], .func (.func 118) #[] #[]]), (6, .agg #[.string ⟨#[119, 105, 110, 100, 111, 119, 45, 99, 104, 97, 110, 103, 101]⟩, .slice (some ⟨w.heap.size + 1 + 1 + 1 + 1 + 1, 0, none⟩) 4 4, .func (.func 119) #[] #[], .func (.func 120) #[] #[], .func (.func 114) #[] #[]]), (7, .agg #[.string ⟨#[120, 111, 110, 45, 120, 111, 102, 102]⟩, .slice (some ⟨w.heap.size + 1 + 1 + 1 + 1 + 1 + 1, 0, none⟩) 1 1, .func (.func 121) #[] #[], .func (.func 122) #[] #[], .func (.func 114) #[] #[]]), (8, .agg #[.string ⟨#[115, 105, 103, 110, 97, 108]⟩, .slice (some ⟨w.heap.size + 1 + 1 + 1 + 1 + 1 + 1 + 1, 0, none⟩) 1 1, .func (.func 115) #[] #[], .func (.func 116) #[] #[], .func (.func 118) #[] #[]]), (9, .agg #[.string ⟨#[101, 120, 105, 116, 45, 115, 116, 97, 116, 117, 115]⟩, .slice (some ⟨w.heap.size + 1 + 1 + 1 + 1 + 1 + 1 + 1 + 1, 0, none⟩) 1 1, .func (.func 123) #[] #[], .func (.func 124) #[] #[], .func (.func 114) #[] #[]]), (10, .agg #[.string ⟨#[101, 120, 105, 116, 45, 115, 105, 103, 110, 97, 108]⟩, .slice (some ⟨w.heap.size + 1 + 1 + 1 + 1 + 1 + 1 + 1 + 1 + 1, 0, none⟩) 4 4, .func (.func 125) #[] #[], .func (.func 126) #[] #[], .func (.func 127) #[] #[]])] = some #[.string ⟨#[]⟩, .slice none 0 0, .nilFunc, .nilFunc, .nilFunc, .string ⟨#[112, 116, 121, 45, 114, 101, 113]⟩, .slice (some ⟨w.heap.size + 1, 0, none⟩) 6 6, .func (.func 106) #[] #[], .func (.func 107) #[] #[], .func (.func 108) #[] #[], .string ⟨#[101, 110, 118]⟩, .slice (some ⟨w.heap.size + 1 + 1, 0, none⟩) 2 2, .func (.func 109) #[] #[], .func (.func 110) #[] #[], .func (.func 111) #[] #[], .string ⟨#[115, 104, 101, 108, 108]⟩, .slice none 0 0, .func (.func 112) #[] #[], .func (.func 113) #[] #[], .func (.func 114) #[] #[], .string ⟨#[101, 120, 101, 99]⟩, .slice (some ⟨w.heap.size + 1 + 1 + 1, 0, none⟩) 1 1, .func (.func 115) #[] #[], .func (.func 116) #[] #[], .func (.func 117) #[] #[], .string ⟨#[115, 117, 98, 115, 121, 115, 116, 101, 109]⟩, .slice (some ⟨w.heap.size + 1 + 1 + 1 + 1, 0, none⟩) 1 1, .func (.func 115) #[] #[], .func (.func 116) #[] #[], .func (.func 118) #[] #[], .string ⟨#[119, 105, 110, 100, 111, 119, 45, 99, 104, 97, 110, 103, 101]⟩, .slice (some ⟨w.heap.size + 1 + 1 + 1 + 1 + 1, 0, none⟩) 4 4, .func (.func 119) #[] #[], .func (.func 120) #[] #[], .func (.func 114) #[] #[], .string ⟨#[120, 111, 110, 45, 120, 111, 102, 102]⟩, .slice (some ⟨w.heap.size + 1 + 1 + 1 + 1 + 1 + 1, 0, none⟩) 1 1, .func (.func 121) #[] #[], .func (.func 122) #[] #[], .func (.func 114) #[] #[], .string ⟨#[115, 105, 103, 110, 97, 108]⟩, .slice (some ⟨w.heap.size + 1 + 1 + 1 + 1 + 1 + 1 + 1, 0, none⟩) 1 1, .func (.func 115) #[] #[], .func (.func 116) #[] #[], .func (.func 118) #[] #[], .string ⟨#[101, 120, 105, 116, 45, 115, 116, 97, 116, 117, 115]⟩, .slice (some ⟨w.heap.size + 1 + 1 + 1 + 1 + 1 + 1 + 1 + 1, 0, none⟩) 1 1, .func (.func 123) #[] #[], .func (.func 124) #[] #[], .func (.func 114) #[] #[], .string ⟨#[101, 120, 105, 116, 45, 115, 105, 103, 110, 97, 108]⟩, .slice (some ⟨w.heap.size + 1 + 1 + 1 + 1 + 1 + 1 + 1 + 1 + 1, 0, none⟩) 4 4, .func (.func 125) #[] #[], .func (.func 126) #[] #[], .func (.func 127) #[] #[]] := by kernel_rfl
 go_wp2_with (refine hold_build rfl 177 _ rfl ?_; intro Z hZ; have HZ := Lib.hid hZ; clear hZ)
 rw [HZ.out]; clear HZ Z
 refine wpList_build_eq rfl 177 _ rfl (L := #[.string ⟨#[]⟩, .slice none 0 0, .nilFunc, .nilFunc, .nilFunc, .string ⟨#[112, 116, 121, 45, 114, 101, 113]⟩, .slice (some ⟨w.heap.size + 1, 0, none⟩) 6 6, .func (.func 106) #[] #[], .func (.func 107) #[] #[], .func (.func 108) #[] #[], .string ⟨#[101, 110, 118]⟩, .slice (some ⟨w.heap.size + 1 + 1, 0, none⟩) 2 2, .func (.func 109) #[] #[], .func (.func 110) #[] #[], .func (.func 111) #[] #[], .string ⟨#[115, 104, 101, 108, 108]⟩, .slice none 0 0, .func (.func 112) #[] #[], .func (.func 113) #[] #[], .func (.func 114) #[] #[], .string ⟨#[101, 120, 101, 99]⟩, .slice (some ⟨w.heap.size + 1 + 1 + 1, 0, none⟩) 1 1, .func (.func 115) #[] #[], .func (.func 116) #[] #[], .func (.func 117) #[] #[], .string ⟨#[115, 117, 98, 115, 121, 115, 116, 101, 109]⟩, .slice (some ⟨w.heap.size + 1 + 1 + 1 + 1, 0, none⟩) 1 1, .func (.func 115) #[] #[], .func (.func 116) #[] #[], .func (.func 118) #[] #[], .string ⟨#[119, 105, 110, 100, 111, 119, 45, 99, 104, 97, 110, 103, 101]⟩, .slice (some ⟨w.heap.size + 1 + 1 + 1 + 1 + 1, 0, none⟩) 4 4, .func (.func 119) #[] #[], .func (.func 120) #[] #[], .func (.func 114) #[] #[], .string ⟨#[120, 111, 110, 45, 120, 111, 102, 102]⟩, .slice (some ⟨w.heap.size + 1 + 1 + 1 + 1 + 1 + 1, 0, none⟩) 1 1, .func (.func 121) #[] #[], .func (.func 122) #[] #[], .func (.func 114) #[] #[], .string ⟨#[115, 105, 103, 110, 97, 108]⟩, .slice (some ⟨w.heap.size + 1 + 1 + 1 + 1 + 1 + 1 + 1, 0, none⟩) 1 1, .func (.func 115) #[] #[], .func (.func 116) #[] #[], .func (.func 118) #[] #[], .string ⟨#[101, 120, 105, 116, 45, 115, 116, 97, 116, 117, 115]⟩, .slice (some ⟨w.heap.size + 1 + 1 + 1 + 1 + 1 + 1 + 1 + 1, 0, none⟩) 1 1, .func (.func 123) #[] #[], .func (.func 124) #[] #[], .func (.func 114) #[] #[], .string ⟨#[101, 120, 105, 116, 45, 115, 105, 103, 110, 97, 108]⟩, .slice (some ⟨w.heap.size + 1 + 1 + 1 + 1 + 1 + 1 + 1 + 1 + 1, 0, none⟩) 4 4, .func (.func 125) #[] #[], .func (.func 126) #[] #[], .func (.func 127) #[] #[]]) ?_ ?_
 · simp [go_sem]; exact hb
 refine wpList_store_M rfl 177 _ _ rfl w.heap.size (#[.string ⟨#[]⟩, .slice none 0 0, .nilFunc, .nilFunc, .nilFunc, .string ⟨#[112, 116, 121, 45, 114, 101, 113]⟩, .slice (some ⟨w.heap.size + 1, 0, none⟩) 6 6, .func (.func 106) #[] #[], .func (.func 107) #[] #[], .func (.func 108) #[] #[], .string ⟨#[101, 110, 118]⟩, .slice (some ⟨w.heap.size + 1 + 1, 0, none⟩) 2 2, .func (.func 109) #[] #[], .func (.func 110) #[] #[], .func (.func 111) #[] #[], .string ⟨#[115, 104, 101, 108, 108]⟩, .slice none 0 0, .func (.func 112) #[] #[], .func (.func 113) #[] #[], .func (.func 114) #[] #[], .string ⟨#[101, 120, 101, 99]⟩, .slice (some ⟨w.heap.size + 1 + 1 + 1, 0, none⟩) 1 1, .func (.func 115) #[] #[], .func (.func 116) #[] #[], .func (.func 117) #[] #[], .string ⟨#[115, 117, 98, 115, 121, 115, 116, 101, 109]⟩, .slice (some ⟨w.heap.size + 1 + 1 + 1 + 1, 0, none⟩) 1 1, .func (.func 115) #[] #[], .func (.func 116) #[] #[], .func (.func 118) #[] #[], .string ⟨#[119, 105, 110, 100, 111, 119, 45, 99, 104, 97, 110, 103, 101]⟩, .slice (some ⟨w.heap.size + 1 + 1 + 1 + 1 + 1, 0, none⟩) 4 4, .func (.func 119) #[] #[], .func (.func 120) #[] #[], .func (.func 114) #[] #[], .string ⟨#[120, 111, 110, 45, 120, 111, 102, 102]⟩, .slice (some ⟨w.heap.size + 1 + 1 + 1 + 1 + 1 + 1, 0, none⟩) 1 1, .func (.func 121) #[] #[], .func (.func 122) #[] #[], .func (.func 114) #[] #[], .string ⟨#[115, 105, 103, 110, 97, 108]⟩, .slice (some ⟨w.heap.size + 1 + 1 + 1 + 1 + 1 + 1 + 1, 0, none⟩) 1 1, .func (.func 115) #[] #[], .func (.func 116) #[] #[], .func (.func 118) #[] #[], .string ⟨#[101, 120, 105, 116, 45, 115, 116, 97, 116, 117, 115]⟩, .slice (some ⟨w.heap.size + 1 + 1 + 1 + 1 + 1 + 1 + 1 + 1, 0, none⟩) 1 1, .func (.func 123) #[] #[], .func (.func 124) #[] #[], .func (.func 114) #[] #[], .string ⟨#[101, 120, 105, 116, 45, 115, 105, 103, 110, 97, 108]⟩, .slice (some ⟨w.heap.size + 1 + 1 + 1 + 1 + 1 + 1 + 1 + 1 + 1, 0, none⟩) 4 4, .func (.func 125) #[] #[], .func (.func 126) #[] #[], .func (.func 127) #[] #[]]) ?_ ?_ 177 #[.string ⟨#[]⟩, .slice none 0 0, .nilFunc, .nilFunc, .nilFunc, .string ⟨#[]⟩, .slice none 0 0, .nilFunc, .nilFunc, .nilFunc, .string ⟨#[]⟩, .slice none 0 0, .nilFunc, .nilFunc, .nilFunc, .string ⟨#[]⟩, .slice none 0 0, .nilFunc, .nilFunc, .nilFunc, .string ⟨#[]⟩, .slice none 0 0, .nilFunc, .nilFunc, .nilFunc, .string ⟨#[]⟩, .slice none 0 0, .nilFunc, .nilFunc, .nilFunc, .string ⟨#[]⟩, .slice none 0 0, .nilFunc, .nilFunc, .nilFunc, .string ⟨#[]⟩, .slice none 0 0, .nilFunc, .nilFunc, .nilFunc, .string ⟨#[]⟩, .slice none 0 0, .nilFunc, .nilFunc, .nilFunc, .string ⟨#[]⟩, .slice none 0 0, .nilFunc, .nilFunc, .nilFunc, .string ⟨#[]⟩, .slice none 0 0, .nilFunc, .nilFunc, .nilFunc] ?_ hiR ?_ ?_ ?_
 · simp [go_sem]
 · simp [go_sem]
 · rw [← HW9.out]; exact B9.out
 · rfl
 · first | (simp [Value.oneCell']; done) | (kernel_rfl) | trace_state
 intro w2 HB M2
 rw [← HW9.out] at M2
 go_wp2
 refine bodyPost_ret_by (results_cell_row Tryz.results60 _ _ w.heap.size 177 _ _ _ rfl HB Tryz.underlying177 rfl hiR) rfl ?_
 have hlit : rulesA w.heap.size = #[.string ⟨#[]⟩, .slice none 0 0, .nilFunc, .nilFunc, .nilFunc, .string ⟨#[112, 116, 121, 45, 114, 101, 113]⟩, .slice (some ⟨w.heap.size + 1, 0, none⟩) 6 6, .func (.func 106) #[] #[], .func (.func 107) #[] #[], .func (.func 108) #[] #[], .string ⟨#[101, 110, 118]⟩, .slice (some ⟨w.heap.size + 1 + 1, 0, none⟩) 2 2, .func (.func 109) #[] #[], .func (.func 110) #[] #[], .func (.func 111) #[] #[], .string ⟨#[115, 104, 101, 108, 108]⟩, .slice none 0 0, .func (.func 112) #[] #[], .func (.func 113) #[] #[], .func (.func 114) #[] #[], .string ⟨#[101, 120, 101, 99]⟩, .slice (some ⟨w.heap.size + 1 + 1 + 1, 0, none⟩) 1 1, .func (.func 115) #[] #[], .func (.func 116) #[] #[], .func (.func 117) #[] #[], .string ⟨#[115, 117, 98, 115, 121, 115, 116, 101, 109]⟩, .slice (some ⟨w.heap.size + 1 + 1 + 1 + 1, 0, none⟩) 1 1, .func (.func 115) #[] #[], .func (.func 116) #[] #[], .func (.func 118) #[] #[], .string ⟨#[119, 105, 110, 100, 111, 119, 45, 99, 104, 97, 110, 103, 101]⟩, .slice (some ⟨w.heap.size + 1 + 1 + 1 + 1 + 1, 0, none⟩) 4 4, .func (.func 119) #[] #[], .func (.func 120) #[] #[], .func (.func 114) #[] #[], .string ⟨#[120, 111, 110, 45, 120, 111, 102, 102]⟩, .slice (some ⟨w.heap.size + 1 + 1 + 1 + 1 + 1 + 1, 0, none⟩) 1 1, .func (.func 121) #[] #[], .func (.func 122) #[] #[], .func (.func 114) #[] #[], .string ⟨#[115, 105, 103, 110, 97, 108]⟩, .slice (some ⟨w.heap.size + 1 + 1 + 1 + 1 + 1 + 1 + 1, 0, none⟩) 1 1, .func (.func 115) #[] #[], .func (.func 116) #[] #[], .func (.func 118) #[] #[], .string ⟨#[101, 120, 105, 116, 45, 115, 116, 97, 116, 117, 115]⟩, .slice (some ⟨w.heap.size + 1 + 1 + 1 + 1 + 1 + 1 + 1 + 1, 0, none⟩) 1 1, .func (.func 123) #[] #[], .func (.func 124) #[] #[], .func (.func 114) #[] #[], .string ⟨#[101, 120, 105, 116, 45, 115, 105, 103, 110, 97, 108]⟩, .slice (some ⟨w.heap.size + 1 + 1 + 1 + 1 + 1 + 1 + 1 + 1 + 1, 0, none⟩) 4 4, .func (.func 125) #[] #[], .func (.func 126) #[] #[], .func (.func 127) #[] #[]] := by kernel_rfl
 refine ⟨by rw [hlit], Mod.toExt E9 M2 (by intro k hk he; omega), ?_⟩
 intro i hi
 have hi2 : i = 0 ∨ i = 1 ∨ i = 2 ∨ i = 3 ∨ i = 4 ∨ i = 5 ∨ i = 6 ∨ i = 7 ∨ i = 8 ∨ i = 9 ∨ i = 10 := by omega
 rcases hi2 with rfl|rfl|rfl|rfl|rfl|rfl|rfl|rfl|rfl|rfl|rfl
 · exact RdN.nil _ _
 · exact RdN.mod R1.out M2 (fun k hk he => by have h1 := Option.some.inj (show some (w.heap.size + 1) = some k from hk); have h2 : k = w.heap.size := he; omega)
 · exact RdN.mod R2.out M2 (fun k hk he => by have h1 := Option.some.inj (show some (w.heap.size + 1 + 1) = some k from hk); have h2 : k = w.heap.size := he; omega)
 · exact RdN.nil _ _
 · exact RdN.mod R4.out M2 (fun k hk he => by have h1 := Option.some.inj (show some (w.heap.size + 1 + 1 + 1) = some k from hk); have h2 : k = w.heap.size := he; omega)
 · exact RdN.mod R5.out M2 (fun k hk he => by have h1 := Option.some.inj (show some (w.heap.size + 1 + 1 + 1 + 1) = some k from hk); have h2 : k = w.heap.size := he; omega)
 · exact RdN.mod R6.out M2 (fun k hk he => by have h1 := Option.some.inj (show some (w.heap.size + 1 + 1 + 1 + 1 + 1) = some k from hk); have h2 : k = w.heap.size := he; omega)
 · exact RdN.mod R7.out M2 (fun k hk he => by have h1 := Option.some.inj (show some (w.heap.size + 1 + 1 + 1 + 1 + 1 + 1) = some k from hk); have h2 : k = w.heap.size := he; omega)
 · exact RdN.mod R8.out M2 (fun k hk he => by have h1 := Option.some.inj (show some (w.heap.size + 1 + 1 + 1 + 1 + 1 + 1 + 1) = some k from hk); have h2 : k = w.heap.size := he; omega)
 · exact RdN.mod R9.out M2 (fun k hk he => by have h1 := Option.some.inj (show some (w.heap.size + 1 + 1 + 1 + 1 + 1 + 1 + 1 + 1) = some k from hk); have h2 : k = w.heap.size := he; omega)
 · exact RdN.mod R10.out M2 (fun k hk he => by have h1 := Option.some.inj (show some (w.heap.size + 1 + 1 + 1 + 1 + 1 + 1 + 1 + 1 + 1) = some k from hk); have h2 : k = w.heap.size := he; omega)
end Go.Proofs.YtmmhcllibpmfnaaGreatDoor
namespace Go.Proofs.YtmmhcllibpmfnaaGreatDoor
open Go.RowKit Go.Kb
set_option maxRecDepth 100000
set_option maxHeartbeats 4000000 in
theorem index_rules (k : Nat) (hk : k < 11) (n : Nat) : ∀ w, (Instr.index 177 (.agg (rulesA n)) (.int .i64 (k : Int))).run Tryz.prog w = .ok (.agg (ruleL n k).toArray) w := by
 rcases k with _ | _ | _ | _ | _ | _ | _ | _ | _ | _ | _ | k
 all_goals first | exact fun w => by kernel_rfl | omega
theorem rule_cells (k : Nat) (hk : k < 11) (n : Nat) : (ruleL n k).toArray.size = 5 ∧ (ruleL n k).toArray.all (·.oneCell') = true := by
 rcases k with _ | _ | _ | _ | _ | _ | _ | _ | _ | _ | _ | k
 all_goals first | exact ⟨rfl, by simp [ruleL, Value.oneCell']⟩ | omega
theorem kv_own (k n b : Nat) (h : (kvQ n k).ownBlock = some b) : n < b := by
 unfold kvQ at h
 split at h <;> simp [Value.ownBlock] at h <;> omega
theorem rules_any2 (w : World) : Calls Tryz.prog 60 #[] w fun e w' => e = .returned (.agg (rulesA w.heap.size)) ∧ Ext w w' ∧ Hid (∀ i, i ≤ 10 → RI .i64 w' (kvQ w.heap.size i) (kindsQ i)) :=
 (rules_any w).mono fun _ _ h => h
set_option maxHeartbeats 4000000 in
theorem of_in (k : Nat) (h1 : 1 ≤ k) (h10 : k ≤ 10) (w : World) : Calls Tryz.prog 28 #[.int .i64 (k : Int)] w fun e w' =>
   ∃ n, e = .returned (.tuple #[.agg (ruleL n k).toArray, .bool true]) ∧ Ext w w' ∧ RI .i64 w' (kvQ n k) (kindsQ k) := by
 have hiR : (Tryz.prog.info? 114).map (·.size) = some 5 := by kernel_rfl
 have hix := fun n => index_rules k (by omega) n
 have hc := Lib.hid fun n => rule_cells k (by omega) n
 have HR := Lib.hid fun w' => rules_any2 w'
 have hi : ∀ n, (Tryz.prog.info? 114).map (·.size) = some (ruleL n k).toArray.size := fun n => by rw [hiR, (hc.out n).1]
 have hi' := Lib.hid hi
 clear hi
 go_enter Tryz.func28, Tryz.ntmps28
 go_wp2_with (first | ((go_at_call 60; (with_reducible refine (HR.out _).mono ?_); rintro e w1 ⟨rfl, E1, R1⟩)) | (refine wpList_store_M rfl 114 _ _ rfl w.heap.size _ rfl rfl 114 #[.string ⟨#[]⟩, .slice none 0 0, .nilFunc, .nilFunc, .nilFunc] ?_ (hi'.out _) ?_ (hc.out _).2 ?_; exact Blk.ext (Blk.new _ _ _) E1; (rw [(hc.out _).1]; rfl); intro w2 HB M2))
 have hi := hi'.out (w.heap.size + 1)
 refine bodyPost_ret_by (Kb.results_cell_tmp Tryz.results28 _ _ w.heap.size 114 _ _ _ rfl _ rfl HB Tryz.underlying114 rfl hi) rfl ?_
 refine ⟨w.heap.size + 1, rfl, Mod.toExt zX M2 (by intro k hk he; omega), ?_⟩
 have hs : ∀ o, (w.alloc o).heap.size = w.heap.size + 1 := fun o => by first | rfl | simp [go_sem] | simp
 have R2 := R1.out k h10
 rw [hs] at R2
 exact RdN.mod R2 M2 (fun b hb he => by have h1 := kv_own _ _ _ hb; have h2 : b = w.heap.size := he; omega)
end Go.Proofs.YtmmhcllibpmfnaaGreatDoor
namespace Go.Proofs.YtmmhcllibpmfnaaGreatDoor
open Go.RowKit Go.Kb
set_option maxRecDepth 100000
theorem rule_eq (k : Nat) (h1 : 1 ≤ k) (h10 : k ≤ 10) (n : Nat) : ruleL n k = [.string (nmQ k), kvQ n k, .func (.func (gQ k)) #[] #[], .func (.func (pQ k)) #[] #[], .func (.func (aQ k)) #[] #[]] := by
 rcases k with _ | _ | _ | _ | _ | _ | _ | _ | _ | _ | _ | k
 all_goals first | rfl | omega
theorem of_in2 (k : Nat) (h1 : 1 ≤ k) (h10 : k ≤ 10) (w : World) : Calls Tryz.prog 28 #[.int .i64 (k : Int)] w fun e w' =>
   ∃ A c, e = .returned (.tuple #[.agg #[.string (nmQ k), .slice A (kindsQ k).length c, .func (.func (gQ k)) #[] #[], .func (.func (pQ k)) #[] #[], .func (.func (aQ k)) #[] #[]], .bool true]) ∧ Ext w w' ∧ RI .i64 w' (.slice A (kindsQ k).length c) (kindsQ k) :=
 (of_in k h1 h10 w).mono fun e w' h => by
   obtain ⟨n, rfl, hE, hR⟩ := h
   obtain ⟨A, c, hs, -, -⟩ := hR.shape
   rw [rule_eq k h1 h10 n, hs]
   exact ⟨A, c, rfl, hE, by rw [← hs]; exact hR⟩
set_option maxHeartbeats 800000 in
theorem of_out (k : Int) (h : k < 1 ∨ 10 < k) (w : World) : Calls Tryz.prog 28 #[.int .i64 k] w fun e w' =>
   e = .returned (.tuple #[.agg #[.string ⟨#[]⟩, .slice none 0 0, .nilFunc, .nilFunc, .nilFunc], .bool false]) ∧ Ext w w' := by
 have hi : (Tryz.prog.info? 114).map (·.size) = some 5 := by kernel_rfl
 by_cases h1 : k < 1
 · go_enter Tryz.func28, Tryz.ntmps28
   go_wp2_with (refine wpList_store_M rfl 114 _ _ rfl w.heap.size _ rfl rfl 114 _ (Blk.new _ _ _) hi rfl (by simp [Value.oneCell']) ?_; intro w2 HB M2)
   refine bodyPost_ret_by (Kb.results_cell_tmp Tryz.results28 _ _ w.heap.size 114 _ _ _ rfl _ rfl HB Tryz.underlying114 rfl hi) rfl ?_
   exact ⟨rfl, Mod.toExt zX M2 (by intro k hk he; omega)⟩
 · have h2 : 10 < k := by omega
   go_enter Tryz.func28, Tryz.ntmps28
   go_wp2_with (refine wpList_store_M rfl 114 _ _ rfl w.heap.size _ rfl rfl 114 _ (Blk.new _ _ _) hi rfl (by simp [Value.oneCell']) ?_; intro w2 HB M2)
   refine bodyPost_ret_by (Kb.results_cell_tmp Tryz.results28 _ _ w.heap.size 114 _ _ _ rfl _ rfl HB Tryz.underlying114 rfl hi) rfl ?_
   exact ⟨rfl, Mod.toExt zX M2 (by intro k hk he; omega)⟩
/-- a request's fields -/
def fldsQ (r : Rq) : Nat → List Fd
 | 1 => [⟨4, 0, bsL r.tx⟩, ⟨3, r.c1, []⟩, ⟨3, r.c2, []⟩, ⟨3, r.c3, []⟩, ⟨3, r.c4, []⟩, ⟨4, 0, r.mo⟩]
 | 2 => [⟨4, 0, bsL r.tx⟩, ⟨4, 0, bsL r.vl⟩]
 | 4 => [⟨4, 0, bsL r.tx⟩]
 | 5 => [⟨4, 0, bsL r.tx⟩]
 | 6 => [⟨3, r.c1, []⟩, ⟨3, r.c2, []⟩, ⟨3, r.c3, []⟩, ⟨3, r.c4, []⟩]
 | 7 => [⟨2, if r.on = true then 1 else 0, []⟩]
 | 8 => [⟨4, 0, bsL r.tx⟩]
 | 9 => [⟨3, r.co, []⟩]
 | 10 => [⟨4, 0, bsL r.tx⟩, ⟨2, if r.on = true then 1 else 0, []⟩, ⟨4, 0, bsL r.vl⟩, ⟨4, 0, bsL r.la⟩]
 | _ => []
/-- the same without their kinds -/
def bareQ (r : Rq) (k : Nat) : List Fd := (fldsQ r k).map (fun f => ⟨0, f.n, f.t⟩)
/-- numbers that fit, and texts that aren't too long -/
structure Rq.Ok (r : Rq) : Prop where
 tx : r.tx.size ≤ 10000
 vl : r.vl.size ≤ 10000
 la : r.la.size ≤ 10000
 mo : r.mo.length ≤ 10000
 bs : Bs r.mo
 c1 : 0 ≤ r.c1 ∧ r.c1 ≤ 4294967295
 c2 : 0 ≤ r.c2 ∧ r.c2 ≤ 4294967295
 c3 : 0 ≤ r.c3 ∧ r.c3 ≤ 4294967295
 c4 : 0 ≤ r.c4 ∧ r.c4 ≤ 4294967295
 co : 0 ≤ r.co ∧ r.co ≤ 4294967295
theorem flds_kQ (r : Rq) (k : Nat) : (fldsQ r k).map (·.k) = kindsQ k := by
 rcases k with _ | _ | _ | _ | _ | _ | _ | _ | _ | _ | _ | k
 all_goals rfl
theorem flds_lenQ (r : Rq) (k : Nat) : (fldsQ r k).length = (kindsQ k).length := by rw [← flds_kQ r k, List.length_map]
theorem kinds_len (k : Nat) : (kindsQ k).length ≤ 6 := by
 unfold kindsQ
 split <;> decide
theorem kinds_row (k : Nat) : RowOk (kindsQ k) := by
 unfold RowOk kindsQ
 split
 all_goals
   intro i x h
   rcases i with _ | _ | _ | _ | _ | _ | i
   all_goals simp at h
   all_goals first | (subst h; exact ⟨by omega, by omega⟩) | (exact absurd h (by simp))
/-- what gets a request's fields by its kind -/
structure GetsQ (r : Rq) (k : Nat) : Prop where
 enters : ∀ args w', (callFunc (gQ k) args).run Tryz.prog w' = .ok (.enter (gQ k) args) w'
 gets : ∀ g v A w, Blk w g 119 (rqA r v) → RdS Ub8 A w v r.mo → (∀ j, A j → j < w.heap.size) → Calls Tryz.prog (gQ k) #[.pointer (some ⟨g, 0, none⟩)] w (GetLP A (bareQ r k) w)
theorem gen_Pty (args : Array Value) (w : World) : (callFunc 106 args).run Tryz.prog w = .ok (.enter 106 args) w := by kernel_rfl
theorem gen_Env (args : Array Value) (w : World) : (callFunc 109 args).run Tryz.prog w = .ok (.enter 109 args) w := by kernel_rfl
theorem gen_None (args : Array Value) (w : World) : (callFunc 112 args).run Tryz.prog w = .ok (.enter 112 args) w := by kernel_rfl
theorem gen_Text (args : Array Value) (w : World) : (callFunc 115 args).run Tryz.prog w = .ok (.enter 115 args) w := by kernel_rfl
theorem gen_Size (args : Array Value) (w : World) : (callFunc 119 args).run Tryz.prog w = .ok (.enter 119 args) w := by kernel_rfl
theorem gen_On (args : Array Value) (w : World) : (callFunc 121 args).run Tryz.prog w = .ok (.enter 121 args) w := by kernel_rfl
theorem gen_Code (args : Array Value) (w : World) : (callFunc 123 args).run Tryz.prog w = .ok (.enter 123 args) w := by kernel_rfl
theorem gen_Death (args : Array Value) (w : World) : (callFunc 125 args).run Tryz.prog w = .ok (.enter 125 args) w := by kernel_rfl
theorem getsQ {r : Rq} (hr : r.Ok) (k : Nat) (h1 : 1 ≤ k) (h10 : k ≤ 10) : GetsQ r k := by
 have e1 : r.tx.size ≤ 1000000 := by have := hr.tx; omega
 have e2 : r.vl.size ≤ 1000000 := by have := hr.vl; omega
 have e3 : r.la.size ≤ 1000000 := by have := hr.la; omega
 rcases k with _ | _ | _ | _ | _ | _ | _ | _ | _ | _ | _ | k
 · omega
 · exact ⟨gen_Pty, fun g v A w h hv hA => qgetPty g r v A w h hv hA e1⟩
 · exact ⟨gen_Env, fun g v A w h _ _ => qgetEnv g r v A w h e1 e2⟩
 · exact ⟨gen_None, fun g _ A w _ _ _ => qgetNone g A w⟩
 · exact ⟨gen_Text, fun g v A w h _ _ => qgetText g r v A w h e1⟩
 · exact ⟨gen_Text, fun g v A w h _ _ => qgetText g r v A w h e1⟩
 · exact ⟨gen_Size, fun g v A w h _ _ => (qgetSize g r v w h).mono fun _ _ ⟨v2, he, ho, hE⟩ => ⟨v2, he, ho.mono (fun _ _ h9 => h9.elim), hE⟩⟩
 · exact ⟨gen_On, fun g v A w h _ _ => qgetOn g r v A w h⟩
 · exact ⟨gen_Text, fun g v A w h _ _ => qgetText g r v A w h e1⟩
 · exact ⟨gen_Code, fun g v A w h _ _ => qgetCode g r v A w h⟩
 · exact ⟨gen_Death, fun g v A w h _ _ => qgetDeath g r v A w h e1 e2 e3⟩
 · omega
/-- what asks a request by its kind -/
structure AsksQ (r : Rq) (k : Nat) : Prop where
 enters : ∀ args w', (callFunc (aQ k) args).run Tryz.prog w' = .ok (.enter (aQ k) args) w'
 asks : ∀ g Av cv w, Blk w g 119 (rqA r (.slice Av r.mo.length cv)) → Calls Tryz.prog (aQ k) #[.pointer (some ⟨g, 0, none⟩)] w (AskQP (askQ r) w)
theorem aen_Pty (args : Array Value) (w : World) : (callFunc 108 args).run Tryz.prog w = .ok (.enter 108 args) w := by kernel_rfl
theorem aen_Env (args : Array Value) (w : World) : (callFunc 111 args).run Tryz.prog w = .ok (.enter 111 args) w := by kernel_rfl
theorem aen_None (args : Array Value) (w : World) : (callFunc 114 args).run Tryz.prog w = .ok (.enter 114 args) w := by kernel_rfl
theorem aen_Exec (args : Array Value) (w : World) : (callFunc 117 args).run Tryz.prog w = .ok (.enter 117 args) w := by kernel_rfl
theorem aen_Word (args : Array Value) (w : World) : (callFunc 118 args).run Tryz.prog w = .ok (.enter 118 args) w := by kernel_rfl
theorem aen_Death (args : Array Value) (w : World) : (callFunc 127 args).run Tryz.prog w = .ok (.enter 127 args) w := by kernel_rfl
theorem asksQ {r : Rq} (k : Nat) (hk : r.k = (k : Int)) (h1 : 1 ≤ k) (h10 : k ≤ 10) : AsksQ r k := by
 rcases k with _ | _ | _ | _ | _ | _ | _ | _ | _ | _ | _ | k
 · omega
 · exact ⟨aen_Pty, fun g Av cv w h => by rw [show askQ r = firstE [wordE r.tx 0, longE r.mo.length] by simp [askQ, hk]]; exact qaskPty g r Av cv w h⟩
 · exact ⟨aen_Env, fun g Av cv w h => by rw [show askQ r = (if hasEq r.tx = true then 4 else firstE [wordE r.tx 1, longE r.vl.size]) by simp [askQ, hk]]; exact qaskEnv g r _ w h⟩
 · exact ⟨aen_None, fun g Av cv w _ => by rw [show askQ r = 0 by simp [askQ, hk]]; exact qaskNone g w⟩
 · exact ⟨aen_Exec, fun g Av cv w h => by rw [show askQ r = longE r.tx.size by simp [askQ, hk]]; exact qaskExec g r _ w h⟩
 · exact ⟨aen_Word, fun g Av cv w h => by rw [show askQ r = wordE r.tx 1 by simp [askQ, hk]]; exact qaskWord g r _ w h⟩
 · exact ⟨aen_None, fun g Av cv w _ => by rw [show askQ r = 0 by simp [askQ, hk]]; exact qaskNone g w⟩
 · exact ⟨aen_None, fun g Av cv w _ => by rw [show askQ r = 0 by simp [askQ, hk]]; exact qaskNone g w⟩
 · exact ⟨aen_Word, fun g Av cv w h => by rw [show askQ r = wordE r.tx 1 by simp [askQ, hk]]; exact qaskWord g r _ w h⟩
 · exact ⟨aen_None, fun g Av cv w _ => by rw [show askQ r = 0 by simp [askQ, hk]]; exact qaskNone g w⟩
 · exact ⟨aen_Death, fun g Av cv w h => by rw [show askQ r = firstE [wordE r.tx 1, wordE r.la 0, longE r.vl.size] by simp [askQ, hk]]; exact qaskDeath g r _ w h⟩
 · omega
/-- a request of a kind with nothing put -/
def rq0 (k : Nat) : Rq := ⟨k, ⟨#[]⟩, ⟨#[]⟩, ⟨#[]⟩, 0, 0, 0, 0, [], false, 0⟩
/-- a request with the fields of its kind alone -/
def ownQ (r : Rq) : Nat → Rq
 | 1 => ⟨1, r.tx, ⟨#[]⟩, ⟨#[]⟩, r.c1, r.c2, r.c3, r.c4, r.mo, false, 0⟩
 | 2 => ⟨2, r.tx, r.vl, ⟨#[]⟩, 0, 0, 0, 0, [], false, 0⟩
 | 4 => ⟨4, r.tx, ⟨#[]⟩, ⟨#[]⟩, 0, 0, 0, 0, [], false, 0⟩
 | 5 => ⟨5, r.tx, ⟨#[]⟩, ⟨#[]⟩, 0, 0, 0, 0, [], false, 0⟩
 | 6 => ⟨6, ⟨#[]⟩, ⟨#[]⟩, ⟨#[]⟩, r.c1, r.c2, r.c3, r.c4, [], false, 0⟩
 | 7 => ⟨7, ⟨#[]⟩, ⟨#[]⟩, ⟨#[]⟩, 0, 0, 0, 0, [], r.on, 0⟩
 | 8 => ⟨8, r.tx, ⟨#[]⟩, ⟨#[]⟩, 0, 0, 0, 0, [], false, 0⟩
 | 9 => ⟨9, ⟨#[]⟩, ⟨#[]⟩, ⟨#[]⟩, 0, 0, 0, 0, [], false, r.co⟩
 | 10 => ⟨10, r.tx, r.vl, r.la, 0, 0, 0, 0, [], r.on, 0⟩
 | k => rq0 k
theorem ask_own {r : Rq} (k : Nat) (hk : r.k = (k : Int)) (h1 : 1 ≤ k) (h10 : k ≤ 10) : askQ (ownQ r k) = askQ r := by
 rcases k with _ | _ | _ | _ | _ | _ | _ | _ | _ | _ | _ | k
 · omega
 all_goals first | omega | simp [askQ, ownQ, rq0, hk]
theorem own_k (r : Rq) (k : Nat) : (ownQ r k).k = (k : Int) := by
 unfold ownQ
 split <;> rfl
theorem flagI (b : Bool) : ((if b = true then (1 : Int) else 0) == 1) = b := by cases b <;> rfl
/-- what puts a request's fields by its kind -/
structure PutsQ (r : Rq) (k : Nat) : Prop where
 enters : ∀ args w', (callFunc (pQ k) args).run Tryz.prog w' = .ok (.enter (pQ k) args) w'
 puts : ∀ g v Ad n c A w, Blk w g 119 (rqA (rq0 k) v) → RdS Ub8 A w v [] → RdS FdR A w (.slice Ad n c) (fldsQ r k) → (∀ j, A j → j ≠ g ∧ j < w.heap.size) → Calls Tryz.prog (pQ k) #[.pointer (some ⟨g, 0, none⟩), .slice Ad n c] w (PuP g A (ownQ r k) w)
theorem pen_Pty (args : Array Value) (w : World) : (callFunc 107 args).run Tryz.prog w = .ok (.enter 107 args) w := by kernel_rfl
theorem pen_Env (args : Array Value) (w : World) : (callFunc 110 args).run Tryz.prog w = .ok (.enter 110 args) w := by kernel_rfl
theorem pen_None (args : Array Value) (w : World) : (callFunc 113 args).run Tryz.prog w = .ok (.enter 113 args) w := by kernel_rfl
theorem pen_Text (args : Array Value) (w : World) : (callFunc 116 args).run Tryz.prog w = .ok (.enter 116 args) w := by kernel_rfl
theorem pen_Size (args : Array Value) (w : World) : (callFunc 120 args).run Tryz.prog w = .ok (.enter 120 args) w := by kernel_rfl
theorem pen_On (args : Array Value) (w : World) : (callFunc 122 args).run Tryz.prog w = .ok (.enter 122 args) w := by kernel_rfl
theorem pen_Code (args : Array Value) (w : World) : (callFunc 124 args).run Tryz.prog w = .ok (.enter 124 args) w := by kernel_rfl
theorem pen_Death (args : Array Value) (w : World) : (callFunc 126 args).run Tryz.prog w = .ok (.enter 126 args) w := by kernel_rfl
theorem rds_len {D : Type} {e : Rep D} {A : Nat → Prop} {w : World} {Ad : Option Addr} {n c : Nat} {fs : List D} (h : RdS e A w (.slice Ad n c) fs) : n = fs.length := by
 obtain ⟨_, _, hv, _⟩ := h.1.shape
 simp only [Value.slice.injEq] at hv
 exact hv.2.1
theorem putsQ (r : Rq) (k : Nat) (h1 : 1 ≤ k) (h10 : k ≤ 10) : PutsQ r k := by
 rcases k with _ | _ | _ | _ | _ | _ | _ | _ | _ | _ | _ | k
 · omega
 · refine ⟨pen_Pty, fun g v Ad n c A w h hv hl hA => ?_⟩
   have h9 := qputPty g (rq0 1) v Ad n c _ ⟨4, 0, bsL r.tx⟩ ⟨3, r.c1, []⟩ ⟨3, r.c2, []⟩ ⟨3, r.c3, []⟩ ⟨3, r.c4, []⟩ ⟨4, 0, r.mo⟩ A w h hv hl rfl hA
   simp only [str_back] at h9
   exact h9
 · refine ⟨pen_Env, fun g v Ad n c A w h hv hl hA => ?_⟩
   have h9 := qputEnv g (rq0 2) v Ad n c _ ⟨4, 0, bsL r.tx⟩ ⟨4, 0, bsL r.vl⟩ A w h hv hl rfl rfl (by rw [rds_len hl]; show 0 < 2; omega) hA
   simp only [str_back] at h9
   exact h9
 · exact ⟨pen_None, fun g v Ad n c A w h hv _ _ => qputNone g (rq0 3) v _ A w h hv⟩
 · refine ⟨pen_Text, fun g v Ad n c A w h hv hl hA => ?_⟩
   have h9 := qputText g (rq0 4) v Ad n c _ ⟨4, 0, bsL r.tx⟩ A w h hv hl rfl (by rw [rds_len hl]; show 0 < 1; omega) hA
   simp only [str_back] at h9
   exact h9
 · refine ⟨pen_Text, fun g v Ad n c A w h hv hl hA => ?_⟩
   have h9 := qputText g (rq0 5) v Ad n c _ ⟨4, 0, bsL r.tx⟩ A w h hv hl rfl (by rw [rds_len hl]; show 0 < 1; omega) hA
   simp only [str_back] at h9
   exact h9
 · exact ⟨pen_Size, fun g v Ad n c A w h hv hl hA => qputSize g (rq0 6) v Ad n c _ ⟨3, r.c1, []⟩ ⟨3, r.c2, []⟩ ⟨3, r.c3, []⟩ ⟨3, r.c4, []⟩ A w h hv hl rfl rfl rfl rfl hA⟩
 · refine ⟨pen_On, fun g v Ad n c A w h hv hl hA => ?_⟩
   have h9 := qputOn g (rq0 7) v Ad n c _ ⟨2, if r.on = true then 1 else 0, []⟩ A w h hv hl rfl (by rw [rds_len hl]; show 0 < 1; omega) hA
   simp only [flagI] at h9
   exact h9
 · refine ⟨pen_Text, fun g v Ad n c A w h hv hl hA => ?_⟩
   have h9 := qputText g (rq0 8) v Ad n c _ ⟨4, 0, bsL r.tx⟩ A w h hv hl rfl (by rw [rds_len hl]; show 0 < 1; omega) hA
   simp only [str_back] at h9
   exact h9
 · exact ⟨pen_Code, fun g v Ad n c A w h hv hl hA => qputCode g (rq0 9) v Ad n c _ ⟨3, r.co, []⟩ A w h hv hl rfl (by rw [rds_len hl]; show 0 < 1; omega) hA⟩
 · refine ⟨pen_Death, fun g v Ad n c A w h hv hl hA => ?_⟩
   have h9 := qputDeath g (rq0 10) v Ad n c _ ⟨4, 0, bsL r.tx⟩ ⟨2, if r.on = true then 1 else 0, []⟩ ⟨4, 0, bsL r.vl⟩ ⟨4, 0, bsL r.la⟩ A w h hv hl rfl rfl rfl rfl hA
   simp only [str_back, flagI] at h9
   exact h9
 · omega
end Go.Proofs.YtmmhcllibpmfnaaGreatDoor
namespace Go.Proofs.YtmmhcllibpmfnaaGreatDoor
open Go.RowKit Go.Kb
set_option maxRecDepth 100000
theorem first2 {a b : Int} (h : firstE [a, b] = 0) : a = 0 ∧ b = 0 := by
 unfold firstE at h
 by_cases ha : a = 0
 · rw [if_pos ha] at h
   unfold firstE at h
   by_cases hb : b = 0
   · exact ⟨ha, hb⟩
   · rw [if_neg hb] at h; exact ⟨ha, h⟩
 · rw [if_neg ha] at h; exact absurd h ha
theorem first3 {a b c : Int} (h : firstE [a, b, c] = 0) : a = 0 ∧ b = 0 ∧ c = 0 := by
 unfold firstE at h
 by_cases ha : a = 0
 · rw [if_pos ha] at h
   exact ⟨ha, first2 h⟩
 · rw [if_neg ha] at h; exact absurd h ha
theorem longE_zero {n : Nat} (h : longE (n : Int) = 0) : n ≤ 1024 := by
 unfold longE at h
 by_cases hn : (1024 : Int) < n
 · rw [if_pos hn] at h; cases h
 · omega
theorem u32_flag (b : Bool) : 0 ≤ (if b = true then (1 : Int) else 0) ∧ (if b = true then (1 : Int) else 0) ≤ 1 := by cases b <;> decide
theorem flds_okQ {r : Rq} (hr : r.Ok) (k : Nat) : ∀ f ∈ fldsQ r k, FdOk f := by
 obtain ⟨-, -, -, -, -, h1, h2, h3, h4, h5⟩ := hr
 have hf := u32_flag r.on
 unfold fldsQ
 split
 all_goals
   intro f hm
   simp only [List.mem_cons, List.not_mem_nil, or_false] at hm
 · rcases hm with rfl | rfl | rfl | rfl | rfl | rfl
   all_goals exact ⟨by simp, by dsimp only; omega⟩
 · rcases hm with rfl | rfl
   all_goals exact ⟨by simp, by dsimp only; omega⟩
 · subst hm; exact ⟨by simp, by dsimp only; omega⟩
 · subst hm; exact ⟨by simp, by dsimp only; omega⟩
 · rcases hm with rfl | rfl | rfl | rfl
   all_goals exact ⟨by simp, by dsimp only; omega⟩
 · subst hm; exact ⟨by simp, by dsimp only; omega⟩
 · subst hm; exact ⟨by simp, by dsimp only; omega⟩
 · subst hm; exact ⟨by simp, by dsimp only; omega⟩
 · rcases hm with rfl | rfl | rfl | rfl
   all_goals exact ⟨by simp, by dsimp only; omega⟩
/-- a field that is short -/
structure FdSm (f : Fd) : Prop where
 can : FdCan f
 sh : f.t.length ≤ 1024
theorem can3 {n : Int} (h : 0 ≤ n ∧ n ≤ 4294967295) : FdSm ⟨3, n, []⟩ := ⟨.inr (.inr (.inl ⟨rfl, h, rfl⟩)), by simp⟩
theorem can4 {t : List Int} (h : t.length ≤ 1024) : FdSm ⟨4, 0, t⟩ := ⟨.inr (.inr (.inr (.inl ⟨rfl, rfl, by dsimp only; omega⟩))), h⟩
theorem can2 (b : Bool) : FdSm ⟨2, if b = true then 1 else 0, []⟩ := ⟨.inr (.inl ⟨rfl, u32_flag b, rfl⟩), by simp⟩
theorem can4s {s : ByteArray} (h : s.size ≤ 1024) : FdSm ⟨4, 0, bsL s⟩ := can4 (by rw [bsL_len]; exact h)
theorem flds_smQ {r : Rq} (hr : r.Ok) (k : Nat) (hk : r.k = (k : Int)) (ha : askQ r = 0) : ∀ f ∈ fldsQ r k, FdSm f := by
 obtain ⟨-, -, -, -, -, h1, h2, h3, h4, h5⟩ := hr
 have w64 : ∀ {s : ByteArray} {n : Int}, wordE s n = 0 → s.size ≤ 1024 := fun h => Nat.le_trans (wordE_zero h) (by omega)
 rcases k with _ | _ | _ | _ | _ | _ | _ | _ | _ | _ | _ | k
 · intro f hm; simp [fldsQ] at hm
 · have ha : firstE [wordE r.tx 0, longE r.mo.length] = 0 := by simpa [askQ, hk] using ha
   obtain ⟨a1, a2⟩ := first2 ha
   intro f hm
   simp only [fldsQ, List.mem_cons, List.not_mem_nil, or_false] at hm
   rcases hm with rfl | rfl | rfl | rfl | rfl | rfl
   · exact can4s (w64 a1)
   · exact can3 h1
   · exact can3 h2
   · exact can3 h3
   · exact can3 h4
   · exact can4 (longE_zero a2)
 · have ha : (if hasEq r.tx = true then 4 else firstE [wordE r.tx 1, longE r.vl.size]) = 0 := by simpa [askQ, hk] using ha
   have ha : firstE [wordE r.tx 1, longE r.vl.size] = 0 := by
     by_cases hh : hasEq r.tx = true
     · rw [if_pos hh] at ha; cases ha
     · rwa [if_neg hh] at ha
   obtain ⟨a1, a2⟩ := first2 ha
   intro f hm
   simp only [fldsQ, List.mem_cons, List.not_mem_nil, or_false] at hm
   rcases hm with rfl | rfl
   · exact can4s (w64 a1)
   · exact can4s (longE_zero a2)
 · intro f hm; simp [fldsQ] at hm
 · have ha : longE r.tx.size = 0 := by simpa [askQ, hk] using ha
   intro f hm
   simp only [fldsQ, List.mem_cons, List.not_mem_nil, or_false] at hm
   subst hm
   exact can4s (longE_zero ha)
 · have ha : wordE r.tx 1 = 0 := by simpa [askQ, hk] using ha
   intro f hm
   simp only [fldsQ, List.mem_cons, List.not_mem_nil, or_false] at hm
   subst hm
   exact can4s (w64 ha)
 · intro f hm
   simp only [fldsQ, List.mem_cons, List.not_mem_nil, or_false] at hm
   rcases hm with rfl | rfl | rfl | rfl
   · exact can3 h1
   · exact can3 h2
   · exact can3 h3
   · exact can3 h4
 · intro f hm
   simp only [fldsQ, List.mem_cons, List.not_mem_nil, or_false] at hm
   subst hm
   exact can2 _
 · have ha : wordE r.tx 1 = 0 := by simpa [askQ, hk] using ha
   intro f hm
   simp only [fldsQ, List.mem_cons, List.not_mem_nil, or_false] at hm
   subst hm
   exact can4s (w64 ha)
 · intro f hm
   simp only [fldsQ, List.mem_cons, List.not_mem_nil, or_false] at hm
   subst hm
   exact can3 h5
 · have ha : firstE [wordE r.tx 1, wordE r.la 0, longE r.vl.size] = 0 := by simpa [askQ, hk] using ha
   obtain ⟨a1, a2, a3⟩ := first3 ha
   intro f hm
   simp only [fldsQ, List.mem_cons, List.not_mem_nil, or_false] at hm
   rcases hm with rfl | rfl | rfl | rfl
   · exact can4s (w64 a1)
   · exact can2 _
   · exact can4s (longE_zero a3)
   · exact can4s (w64 a2)
 · intro f hm; simp [fldsQ] at hm
theorem flt_sm {f : Fd} (h : FdSm f) : fltF f.k f.n f.t = 0 := by
 obtain ⟨k, n, t⟩ := f
 obtain ⟨h, hs⟩ := h
 dsimp only at hs
 rcases h with ⟨rfl, hn, ht⟩ | ⟨rfl, hn, ht⟩ | ⟨rfl, hn, ht⟩ | ⟨rfl, hn, ht⟩ | ⟨rfl, hn, ht⟩ <;> dsimp only at hn ht
 · have : ¬ (255 : Int) < n := by omega
   simp [fltF, this]
 · have : ¬ (1 : Int) < n := by omega
   simp [fltF, this]
 · simp [fltF]
 · have : ¬ 32768 < t.length := by omega
   simp [fltF, this]
 · have : ¬ 33792 < t.length := by omega
   simp [fltF, this]
theorem enc_sm {f : Fd} (h : FdSm f) : (encF f.k f.n f.t).length ≤ 1028 := by
 obtain ⟨k, n, t⟩ := f
 obtain ⟨h, hs⟩ := h
 dsimp only at hs
 rcases h with ⟨rfl, hn, ht⟩ | ⟨rfl, hn, ht⟩ | ⟨rfl, hn, ht⟩ | ⟨rfl, hn, ht⟩ | ⟨rfl, hn, ht⟩ <;> dsimp only at hn ht
 · simp [encF]
 · simp [encF]
 · simp [encF, Fr.four]
 · simp [encF, Fr.four]; omega
 · simp [encF]; omega
theorem encL_sm : ∀ (fs : List Fd), (∀ f ∈ fs, FdSm f) → (encL fs).length ≤ fs.length * 1028
 | [], _ => by simp [encL]
 | f :: fs, h => by
   have h1 := enc_sm (h f (List.mem_cons_self))
   have h2 := encL_sm fs (fun g hg => h g (List.mem_cons_of_mem _ hg))
   have e : encL (f :: fs) = encF f.k f.n f.t ++ encL fs := rfl
   rw [e, List.length_append, List.length_cons]
   omega
/-- fields whose kinds are put, and behind them fields whose kinds aren't -/
def mixF (fs : List Fd) (m : Nat) : List Fd := fs.take m ++ (fs.drop m).map (fun f => ⟨0, f.n, f.t⟩)
theorem mix_len (fs : List Fd) (m : Nat) : (mixF fs m).length = fs.length := by
 unfold mixF
 rw [List.length_append, List.length_map, ← List.length_append, List.take_append_drop]
theorem mix_zero (fs : List Fd) : mixF fs 0 = fs.map (fun f => ⟨0, f.n, f.t⟩) := by simp [mixF]
theorem mix_end (fs : List Fd) : mixF fs fs.length = fs := by simp [mixF]
theorem mix_at {fs : List Fd} {m : Nat} {f : Fd} (h : fs[m]? = some f) : (mixF fs m)[m]? = some ⟨0, f.n, f.t⟩ := by
 obtain ⟨hlt, he⟩ := List.getElem?_eq_some_iff.1 h
 unfold mixF
 have hl : (fs.take m).length = m := by rw [List.length_take]; omega
 rw [List.getElem?_append_right (by omega), hl, Nat.sub_self, List.drop_eq_getElem_cons hlt, he]
 rfl
theorem mix_set {fs : List Fd} {m : Nat} {f : Fd} (h : fs[m]? = some f) : (mixF fs m).set m f = mixF fs (m + 1) := by
 obtain ⟨hlt, he⟩ := List.getElem?_eq_some_iff.1 h
 unfold mixF
 have hl : (fs.take m).length = m := by rw [List.length_take]; omega
 rw [List.set_append_right _ _ (by omega), hl, Nat.sub_self, List.drop_eq_getElem_cons hlt, he, List.map_cons, List.set_cons_zero, List.take_add_one, h]
 simp
end Go.Proofs.YtmmhcllibpmfnaaGreatDoor
namespace Go.Proofs.YtmmhcllibpmfnaaGreatDoor
open Go.RowKit Go.Kb
set_option maxRecDepth 100000
/-- what Encode answers -/
def EncQP (r : Rq) (w : World) (e : Ending) (w' : World) : Prop :=
 ∃ (nm : ByteArray) (u : Value) (q : Int), e = .returned (.tuple #[.string nm, u, .int .i64 q]) ∧ Ext w w' ∧
   (q = 0 → ∃ k : Nat, r.k = (k : Int) ∧ 1 ≤ k ∧ k ≤ 10 ∧ nm = nmQ k ∧ askQ r = 0 ∧ OwnS Ub8 5 w.heap.size (fun _ => False) w' u (encL (fldsQ r k))) ∧ (q ≠ 0 → nm = ⟨#[]⟩ ∧ u = .slice none 0 0) ∧ (∀ k : Nat, r.k = (k : Int) → 1 ≤ k → k ≤ 10 → askQ r = 0 → q = 0)
set_option maxHeartbeats 4000000 in
theorem qencode_any (r : Rq) (v : Value) (w : World) (hv : RdS Ub8 (fun j => j < w.heap.size) w v r.mo) (hr : r.Ok) : Calls Tryz.prog 11 #[.agg (rqA r v)] w (EncQP r w) := by
 obtain ⟨Av, cv, rfl, -, -⟩ := hv.shape
 have HD := Lib.hid hv
 have HOK := Lib.hid hr
 have hiQ : (Tryz.prog.info? 46).map (·.size) = some 11 := by kernel_rfl
 have hiR : (Tryz.prog.info? 114).map (·.size) = some 5 := by kernel_rfl
 obtain ⟨W1, hW1⟩ : ∃ W1, W1 = w.alloc (.cells (rqA r (.slice Av r.mo.length cv)) 46) := ⟨_, rfl⟩
 have E1 : Ext w W1 := by rw [hW1]; exact (Ext.refl _).alloc _
 have P1 := Lib.hid (show Blk W1 w.heap.size 46 (rqA r (.slice Av r.mo.length cv)) by rw [hW1]; exact Blk.new w _ _)
 have HW1 := Lib.hid hW1
 have k0 := (rqC P1.out).k0
 have hs1 : w.heap.size < W1.heap.size := P1.out.lt
 clear hv hr hW1
 by_cases hin : 1 ≤ r.k ∧ r.k ≤ 10
 · obtain ⟨k, hk⟩ : ∃ k : Nat, r.k = (k : Int) := ⟨r.k.toNat, by omega⟩
   have h1 : 1 ≤ k := by omega
   have h10 : k ≤ 10 := by omega
   have HOF := Lib.hid (show ∀ w', Calls Tryz.prog 28 #[.int .i64 r.k] w' _ from fun w' => by rw [hk]; exact of_in2 k h1 h10 w')
   have hasks := asksQ k hk h1 h10
   have hgets := getsQ HOK.out k h1 h10
   have hen1 := hasks.enters
   have hen2 := hgets.enters
   have HA := Lib.hid hasks.asks
   have HG := Lib.hid hgets.gets
   have HK := Lib.hid (show r.k = (k : Int) ∧ 1 ≤ k ∧ k ≤ 10 from ⟨hk, h1, h10⟩)
   clear hasks hgets hk h1 h10 hin
   go_enter Tryz.func11, Tryz.ntmps11
   go_upto_region 1 with fail
   rw [← HW1.out]
   clear HW1
   go_wp2_with fail
   refine (HOF.out _).mono ?_
   rintro e w2 ⟨Ak, ck, rfl, E2, RK⟩
   have E02 : Ext w w2 := E1.trans E2
   have P2 := Lib.hid (P1.out.ext E2)
   have RK := Lib.hid RK
   clear k0 P1 E1 HOF
   go_upto_region 2 with (refine wpList_store_M rfl 114 _ _ rfl w2.heap.size _ rfl rfl 114 _ (Blk.new _ _ _) hiR rfl (by simp [Value.oneCell']) ?_; intro w3 P3 M3)
   have E3 : Ext w2 w3 := Mod.toExt ((Ext.refl w2).alloc _) M3 (fun k hk he => by omega)
   have E03 := E02.trans E3
   have P2 := Lib.hid (P2.out.ext E3)
   have RK := Lib.hid (RdN.ext RK.out E3)
   obtain ⟨n3, hn3⟩ : ∃ n3, w2.heap.size = n3 := ⟨_, rfl⟩
   rw [hn3] at P3 ⊢
   have P3 := Lib.hid P3
   clear M3 E3 E2 E02 hn3
   go_upto_region 5 with (refine wpList_load_row rfl 46 _ rfl _ rfl 46 _ _ _ P2.out Tryz.underlying46 rfl hiQ ?_)
   obtain ⟨W6, hW6⟩ : ∃ W6, W6 = w3.alloc (.cells (rqA r (.slice Av r.mo.length cv)) 119) := ⟨_, rfl⟩
   have E6 : Ext w3 W6 := by rw [hW6]; exact (Ext.refl _).alloc _
   have P6 := Lib.hid (show Blk W6 w3.heap.size 119 (rqA r (.slice Av r.mo.length cv)) by rw [hW6]; exact Blk.new w3 _ _)
   have hs3 : w.heap.size ≤ w3.heap.size := E03.size
   obtain ⟨n6, hn6⟩ : ∃ n6, w3.heap.size = n6 := ⟨_, rfl⟩
   rw [← hW6]
   rw [hn6] at P6 hs3 ⊢
   have E06 := E03.trans E6
   have P3 := Lib.hid (P3.out.ext E6)
   have RK := Lib.hid (RdN.ext RK.out E6)
   have kf4 := P3.out.cell 4
   clear hW6 hn6 P2 E6 E03
   generalize Value.agg (rqA r (.slice Av r.mo.length cv)) = z21
   obtain ⟨z, hz⟩ : ∃ z, askQ r = z := ⟨_, rfl⟩
   rw [hz] at HA
   have HZ := Lib.hid hz
   clear hz
   go_wp2_with fail
   refine (HA.out n6 Av cv _ P6.out).mono ?_
   rintro e w7 ⟨rfl, E7⟩
   have E07 := E06.trans E7
   have P3 := Lib.hid (P3.out.ext E7)
   have P6 := Lib.hid (P6.out.ext E7)
   have RK := Lib.hid (RdN.ext RK.out E7)
   clear kf4 E06 E7 HA hen1
   by_cases hz0 : z = 0
   · subst hz0
     have kf2 := P3.out.cell 2
     obtain ⟨N, hN⟩ : ∃ N, (fldsQ r k).length = N := ⟨_, rfl⟩
     have HN := Lib.hid hN
     have hNK : (kindsQ k).length = N := by rw [← flds_lenQ r k]; exact hN
     have hN6 : N ≤ 6 := by rw [← hNK]; exact kinds_len k
     clear hN
     go_wp2_with fail
     refine (HG.out n6 _ (fun j => j < w.heap.size) w7 P6.out (HD.out.ext E07) (fun j hj => by have := E07.size; omega)).mono ?_
     rintro e w8 ⟨vl, rfl, o8, E8⟩
     have hbl : (bareQ r k).length = N := by unfold bareQ; rw [List.length_map]; exact HN.out
     obtain ⟨A8, c8, rfl, -, -⟩ := o8.shape
     have O8 := Lib.hid (show OwnS FdR 86 w7.heap.size (fun j => j < w.heap.size ∨ w7.heap.size ≤ j) w8 (.slice A8 N c8) (mixF (fldsQ r k) 0) by rw [mix_zero, ← hbl]; exact o8)
     rw [hbl]
     have E8 := Lib.hid E8
     have HS7 := Lib.hid E07.size
     have RK := Lib.hid (show RI .i64 w7 (.slice Ak N ck) (kindsQ k) by have h9 := RK.out; rw [← hNK]; exact h9)
     rw [hNK] at P3
     clear o8 hbl kf2 HG hen2 P6
     go_wp2
     go_loopw [37] (fun i wr => ∃ m : Nat, m ≤ N ∧ i = .int .i64 m ∧ Hid (OwnS FdR 86 w7.heap.size (fun j => j < w.heap.size ∨ w7.heap.size ≤ j) wr (.slice A8 N c8) (mixF (fldsQ r k) m)) ∧ Hid (Ext w7 wr)) (fun i _ => N - (intOf i).toNat)
     case atStart => exact ⟨0, Nat.zero_le _, rfl, O8, E8⟩
     case round =>
       clear O8 E8
       obtain ⟨m, hm, rfl, HO, hE⟩ := hrel
       by_cases hmn : m < N
       · obtain ⟨bk, offk, x, rfl, hx, hdx⟩ := (RdN.ext RK.out hE.out).icell hmn
         obtain ⟨g8, rfl, hg8, hfz⟩ := HO.out.addr (by omega)
         obtain ⟨f, hf⟩ : ∃ f, (fldsQ r k)[m]? = some f := ⟨_, List.getElem?_eq_getElem (by rw [HN.out]; exact hmn)⟩
         have hfx : f.k = x := by
           have h9 := hdx.out
           rw [← flds_kQ r k, List.getElem?_map, hf] at h9
           simpa using h9
         obtain ⟨b9, o9, At, ct, f9, he9, c0, -, -, -, -, -⟩ := fd_at HO.out.y hmn
         simp only [Option.some.injEq, Addr.mk.injEq, and_true] at he9
         obtain ⟨rfl, rfl⟩ := he9
         have kr1 := (P3.out.ext hE.out).cell 1
         have hfz0 := hfz (m * 4)
         have c0 : wr.cell? ⟨g8, m * 4, none⟩ = some (.int .i64 f9.k) := by simpa using c0
         have HO2 := Lib.hid (show OwnS FdR 86 w7.heap.size (fun j => j < w.heap.size ∨ w7.heap.size ≤ j) (wr.setCell ⟨g8, m * 4, none⟩ (.int .i64 x)) (.slice (some ⟨g8, 0, none⟩) N c8) (mixF (fldsQ r k) (m + 1)) from by
           rw [← mix_set hf]
           refine OwnS.store (i := 0) HO.out (by rw [mix_len, HN.out]; exact hmn) (by show 0 < 4; omega) ?_
           rintro cs d hd ⟨vt, rfl, ht⟩
           rw [mix_at hf] at hd
           obtain rfl := Option.some.inj hd
           exact ⟨vt, by rw [hfx]; rfl, ht⟩)
         have hE2 := Lib.hid (Mod.toExt hE.out ((Mod.refl (fun j => j = g8) wr).set1 (o := m * 4) (.int .i64 x)) (fun j hj he => by omega))
         clear HO hE hfz
         go_wp2
         go_roundw
         case rel => exact ⟨m + 1, by omega, by go_num, HO2, hE2⟩
         case measure => simp [intOf]; omega
       · obtain rfl : m = N := by omega
         have HOE := Lib.hid (show OwnS FdR 86 w7.heap.size (fun j => j < w.heap.size ∨ w7.heap.size ≤ j) wr (.slice A8 m c8) (fldsQ r k) by
           have h9 := HO.out
           rw [show mixF (fldsQ r k) m = fldsQ r k by rw [← HN.out]; exact mix_end _] at h9
           exact h9)
         have HW := Lib.hid (owrite_any _ (fldsQ r k) wr HOE.out.rdT.y (by rw [HN.out]; omega) (by rw [flds_kQ]; exact kinds_row k) (flds_okQ HOK.out k))
         have HEE := Lib.hid (E07.trans hE.out)
         have P3 := Lib.hid (P3.out.ext hE.out)
         have hes := HEE.out.size
         clear HO hE HOE
         go_wp2_with fail
         refine (HW.out).mono ?_
         rintro e w9 ⟨u, q, rfl, E9, hq0, hq1, hq2⟩
         have HQ0 := Lib.hid hq0
         have HQ1 := Lib.hid hq1
         have HQ2 := Lib.hid hq2
         have E09 := HEE.out.trans E9
         have kr0 := (P3.out.ext E9).cell 0
         clear hq0 hq1 hq2 E9
         by_cases hqz : q = 0
         · have HQ3 := Lib.hid ((HQ0.out hqz).2.2.lower hes)
           subst hqz
           clear HQ0 HQ1
           go_wp2
           go_ret3
           exact ⟨_, u, 0, rfl, E09, fun _ => ⟨k, HK.out.1, HK.out.2.1, HK.out.2.2, rfl, HZ.out, HQ3.out⟩, fun h => absurd rfl h, fun _ _ _ _ _ => rfl⟩
         · have hqb : (q == 0) = false := by simpa using hqz
           go_wp2
           go_ret3
           exact ⟨_, _, q, rfl, E09, fun h => absurd h hqz, fun _ => ⟨rfl, rfl⟩, fun _ _ _ _ _ => HQ2.out (fun f hf => flt_sm (flds_smQ HOK.out k HK.out.1 HZ.out f hf)) (by
             have h8 := encL_sm _ (flds_smQ HOK.out k HK.out.1 HZ.out)
             rw [HN.out] at h8
             omega)⟩
   · have hzb : (z == 0) = false := by simpa using hz0
     go_wp2
     go_ret3
     exact ⟨_, _, z, rfl, E07, fun h => absurd h hz0, fun _ => ⟨rfl, rfl⟩, fun _ _ _ _ ha => absurd (HZ.out.symm.trans ha) hz0⟩
 · have HOF := Lib.hid (fun w' => of_out r.k (by omega) w')
   have HNI := Lib.hid hin
   clear hin
   go_enter Tryz.func11, Tryz.ntmps11
   go_upto_region 1 with fail
   rw [← HW1.out]
   clear HW1
   go_wp2_with fail
   refine (HOF.out _).mono ?_
   rintro e w2 ⟨rfl, E2⟩
   have E02 : Ext w w2 := E1.trans E2
   clear k0 P1 E1 HOF
   go_upto_region 2 with (refine wpList_store_M rfl 114 _ _ rfl w2.heap.size _ rfl rfl 114 _ (Blk.new _ _ _) hiR rfl (by simp [Value.oneCell']) ?_; intro w3 P3 M3)
   have E03 := E02.trans (Mod.toExt ((Ext.refl w2).alloc _) M3 (fun k hk he => by omega))
   clear M3 P3 E2 E02
   go_wp2
   go_ret3
   exact ⟨_, _, 8, rfl, E03, fun h => absurd h (by decide), fun _ => ⟨rfl, rfl⟩, fun k hk h1 h10 _ => absurd ⟨by omega, by omega⟩ HNI.out⟩
end Go.Proofs.YtmmhcllibpmfnaaGreatDoor
namespace Go.Proofs.YtmmhcllibpmfnaaGreatDoor
open Go.RowKit Go.Kb
set_option maxRecDepth 100000
theorem rule_zero (n : Nat) : ruleL n 0 = [.string ⟨#[]⟩, .slice none 0 0, .nilFunc, .nilFunc, .nilFunc] := rfl
theorem nm_ne (m k : Nat) (h : m < k) (hk : k ≤ 10) : ((nmQ m).toList == (nmQ k).toList) = false := by
 have h9 : ∀ m : Fin 11, ∀ k : Fin 11, m.1 < k.1 → ((nmQ m.1).data.toList == (nmQ k.1).data.toList) = false := by decide
 rw [Go.Lib.toList_data, Go.Lib.toList_data]
 exact h9 ⟨m, by omega⟩ ⟨k, by omega⟩ h
/-- what Decode answers -/
def DecQP (r : Rq) (k : Nat) (w : World) (e : Ending) (w' : World) : Prop :=
 ∃ v, e = .returned (.tuple #[.agg (rqA (ownQ r k) v), .int .i64 0]) ∧ RdS Ub8 (fun j => w.heap.size ≤ j) w' v (ownQ r k).mo ∧ Ext w w'
set_option maxHeartbeats 6000000 in
theorem qdecode_any (r : Rq) (k : Nat) (vb : Value) (w : World) (h : RI .u8 w vb (encL (fldsQ r k))) (hk : r.k = (k : Int)) (h1 : 1 ≤ k) (h10 : k ≤ 10) (ha : askQ r = 0) (hr : r.Ok) :
   Calls Tryz.prog 282 #[.string (nmQ k), vb] w (DecQP r k w) := by
 have hiQ : (Tryz.prog.info? 46).map (·.size) = some 11 := by kernel_rfl
 have hiR : (Tryz.prog.info? 114).map (·.size) = some 5 := by kernel_rfl
 obtain ⟨A, c, rfl, hc1, hc2⟩ := h.shape
 obtain ⟨L, hL⟩ : ∃ L, (encL (fldsQ r k)).length = L := ⟨_, rfl⟩
 have H := Lib.hid (show RdN w 1 (.slice A L c) (encL (fldsQ r k)).length ((encL (fldsQ r k)).map (Value.int .u8)) by rw [← hL]; exact h)
 have HOK := Lib.hid hr
 have HSM := Lib.hid (flds_smQ hr k hk ha)
 have hputs := putsQ r k h1 h10
 have hasks := asksQ (r := ownQ r k) k (own_k r k) h1 h10
 have hen1 := hasks.enters
 have hen2 := hputs.enters
 have HA := Lib.hid (show ∀ g Av cv w, Blk w g 119 (rqA (ownQ r k) (.slice Av (ownQ r k).mo.length cv)) → Calls Tryz.prog (aQ k) #[.pointer (some ⟨g, 0, none⟩)] w (AskQP 0 w) from fun g Av cv w h9 => by
   have h8 := hasks.asks g Av cv w h9
   rw [ask_own k hk h1 h10, ha] at h8
   exact h8)
 have HP := Lib.hid hputs.puts
 have HR := Lib.hid fun w' => rules_any2 w'
 have hk11 : (k : Int) < 11 := by omega
 obtain ⟨W1, hW1⟩ : ∃ W1, W1 = w.alloc (.cells #[.int .i64 0, .string ⟨#[]⟩, .string ⟨#[]⟩, .string ⟨#[]⟩, .int .u32 0, .int .u32 0, .int .u32 0, .int .u32 0, .slice none 0 0, .bool false, .int .u32 0] 46) := ⟨_, rfl⟩
 have E1 : Ext w W1 := by rw [hW1]; exact (Ext.refl _).alloc _
 have P1 := Lib.hid (show Blk W1 w.heap.size 46 (rqA (rq0 0) (.slice none 0 0)) by rw [hW1]; exact Blk.new w _ _)
 have HW1 := Lib.hid hW1
 rw [hL] at hc1 ⊢
 clear h hr ha hL hputs hasks hW1 hk
 go_enter Tryz.func282, Tryz.ntmps282
 go_upto_region 1 with fail
 rw [← HW1.out]
 clear HW1
 go_wp2_with fail
 refine (HR.out _).mono ?_
 rintro e w2 ⟨rfl, E2, R2⟩
 obtain ⟨n, hn⟩ : ∃ n, W1.heap.size = n := ⟨_, rfl⟩
 rw [hn] at R2 ⊢
 have R2 := Lib.hid (R2.out k h10)
 have E02 := E1.trans E2
 have P2 := Lib.hid (P1.out.ext E2)
 have hs2 : w.heap.size < w2.heap.size := P2.out.lt
 clear E1 E2 P1 hn HR
 go_wp2
 go_loopw [13] (fun i wr => ∃ m : Nat, m ≤ k ∧ i = .int .i64 m ∧ Hid (Ext w2 wr)) (fun i _ => k - (intOf i).toNat)
 case atStart => exact ⟨0, Nat.zero_le _, rfl, Lib.hid (Ext.refl _)⟩
 case round =>
   obtain ⟨m, hm, rfl, hE⟩ := hrel
   have hm11 : (m : Int) < 11 := by omega
   by_cases hm0 : m = 0
   · subst hm0
     have hix := index_rules 0 (by omega) n
     rw [rule_zero] at hix
     have h00 : ((0 : Nat) : Int) = 0 := rfl
     rw [h00] at hix hm11
     rw [h00]
     clear h00
     go_upto_region 4 with (refine wpList_store_M rfl 114 _ _ rfl wr.heap.size _ rfl rfl 114 _ (Blk.new _ _ _) hiR rfl (by simp [Value.oneCell']) ?_; intro w3 P3 M3)
     have E3 := Lib.hid (hE.out.trans (Mod.toExt ((Ext.refl wr).alloc _) M3 (fun k hk he => by omega)))
     clear M3 P3
     go_wp2_with (refine wpList_openG rfl rfl ?_)
     exact ⟨⟨1, by omega, by go_num, E3⟩, by simp [intOf]; omega⟩
   · have hmi : ¬ ((m : Int) = 0) := by omega
     have hmb : ((m : Int) == 0) = false := by simpa using hmi
     have hix := index_rules m (by omega) n
     rw [rule_eq m (by omega) (by omega) n] at hix
     by_cases hmk : m < k
     · have hne := nm_ne m k hmk h10
       obtain ⟨kvm, hkv⟩ : ∃ kvm, kvQ n m = kvm := ⟨_, rfl⟩
       have hk1 : kvm.oneCell' = true := by
         rw [← hkv]
         unfold kvQ
         split <;> rfl
       rw [hkv] at hix
       clear hkv
       go_upto_region 4 with (refine wpList_store_M rfl 114 _ _ rfl wr.heap.size _ rfl rfl 114 _ (Blk.new _ _ _) hiR rfl (by simp [Value.oneCell']; exact hk1) ?_; intro w3 P3 M3)
       have kp0 := P3.cell 0
       simp only [List.getElem?_toArray, List.getElem?_cons_zero] at kp0
       have E3 := Lib.hid (hE.out.trans (Mod.toExt ((Ext.refl wr).alloc _) M3 (fun k hk he => by omega)))
       clear M3 P3
       go_wp2_with (refine wpList_openG rfl rfl ?_)
       exact ⟨⟨m + 1, by omega, by go_num, E3⟩, by simp [intOf]; omega⟩
     · obtain rfl : m = k := by omega
       obtain ⟨Ak, ck, hkv, -, -⟩ := R2.out.shape
       rw [hkv] at R2 hix
       obtain ⟨NK, hNK⟩ : ∃ NK, (kindsQ m).length = NK := ⟨_, rfl⟩
       have R2 := Lib.hid (show RdN w2 1 (.slice Ak NK ck) (kindsQ m).length ((kindsQ m).map (Value.int .i64)) by rw [← hNK]; exact R2.out)
       rw [hNK] at hix
       clear hkv hmk
       obtain ⟨wq, rfl⟩ : ∃ wq, wq = wr := ⟨_, rfl⟩
       go_upto_region 4 with (refine wpList_store_M rfl 114 _ _ rfl wq.heap.size _ rfl rfl 114 _ (Blk.new _ _ _) hiR rfl (by simp [Value.oneCell']) ?_; intro w3 P3 M3)
       have E23 := Lib.hid (hE.out.trans (Mod.toExt ((Ext.refl wq).alloc _) M3 (fun k hk he => by omega)))
       obtain ⟨n3, hn3⟩ : ∃ n3, wq.heap.size = n3 := ⟨_, rfl⟩
       rw [hn3] at P3 ⊢
       have P3 := Lib.hid P3
       have kp0 := P3.out.cell 0
       have kp1 := P3.out.cell 1
       simp only [List.getElem?_toArray, List.getElem?_cons_zero, List.getElem?_cons_succ] at kp0 kp1
       have E03 := E02.trans E23.out
       have HRD := Lib.hid (oread_any (.slice Ak NK ck) (.slice A L c) (fldsQ r m) w3 (by rw [flds_kQ]; exact RdN.ext R2.out E23.out) (RdN.ext H.out E03) (by rw [flds_lenQ]; have := kinds_len m; omega) (by rw [flds_kQ]; exact kinds_row m) (fun f hf => (HSM.out f hf).can))
       clear hE M3 hn3 hix
       go_wp2_with (first | (refine wpList_openG rfl rfl ?_) | fail)
       with_reducible refine (HRD.out).mono ?_
       rintro e w4 ⟨vl, rfl, o4, E4⟩
       obtain ⟨Al, cl, rfl, -, -⟩ := o4.shape
       obtain ⟨NF, hNF⟩ : ∃ NF, (fldsQ r m).length = NF := ⟨_, rfl⟩
       have HL4 := Lib.hid ((o4.rd (A := fun j => w3.heap.size ≤ j) (fun j hj => hj) (fun j hj => hj)).lt)
       rw [hNF] at HL4 ⊢
       have E04 := E03.trans E4
       have P3 := Lib.hid (P3.out.ext E4)
       have P2 := Lib.hid (P2.out.ext (E23.out.trans E4))
       have hn3l : n3 < w4.heap.size := P3.out.lt
       have hw34 : w.heap.size < w3.heap.size := Nat.lt_of_lt_of_le hs2 E23.out.size
       have hw04 : w.heap.size < w4.heap.size := P2.out.lt
       clear o4 E4 kp0 kp1 HRD E03 E23 R2
       go_upto_region 9 with fail
       obtain ⟨W5, hW5⟩ : ∃ W5, W5 = w4.alloc (.cells #[.int .i64 m, .string ⟨#[]⟩, .string ⟨#[]⟩, .string ⟨#[]⟩, .int .u32 0, .int .u32 0, .int .u32 0, .int .u32 0, .slice none 0 0, .bool false, .int .u32 0] 119) := ⟨_, rfl⟩
       have E5 : Ext w4 W5 := by rw [hW5]; exact (Ext.refl _).alloc _
       have P5 := Lib.hid (show Blk W5 w4.heap.size 119 (rqA (rq0 m) (.slice none 0 0)) by rw [hW5]; exact Blk.new w4 _ _)
       rw [← hW5]
       clear hW5
       obtain ⟨n5, hn5⟩ : ∃ n5, w4.heap.size = n5 := ⟨_, rfl⟩
       have HL5 := Lib.hid ((HL4.out.mono (B := fun j => w3.heap.size ≤ j ∧ j < n5) (fun j _ hj => by rw [← hn5]; exact hj)).ext E5)
       have P3 := Lib.hid (P3.out.ext E5)
       have P2 := Lib.hid (P2.out.ext E5)
       have E05 := E04.trans E5
       have hw5 : n5 < W5.heap.size := by rw [← hn5]; exact P5.out.lt
       rw [hn5] at P5 hn3l hw04 ⊢
       have kp3 := P3.out.cell 3
       simp only [List.getElem?_toArray, List.getElem?_cons_zero, List.getElem?_cons_succ] at kp3
       clear HL4 E5 E04 hn5
       go_wp2_with fail
       refine (HP.out n5 _ Al NF cl (fun j => w3.heap.size ≤ j ∧ j < n5) W5 P5.out (RdS.nil _ _ _) HL5.out (fun j hj => ⟨by omega, by omega⟩)).mono ?_
       rintro e w6 ⟨rfl, v6, B6, V6, M6⟩
       have B6 := Lib.hid B6
       have V6 := Lib.hid V6
       have HM6 := Lib.hid M6
       have P3 := Lib.hid (P3.out.mod M6 (by omega))
       have P2 := Lib.hid (P2.out.mod M6 (by omega))
       have kp4 := P3.out.cell 4
       simp only [List.getElem?_toArray, List.getElem?_cons_zero, List.getElem?_cons_succ] at kp4
       obtain ⟨Av, cv, rfl, -, -⟩ := V6.out.shape
       have HA := Lib.hid (fun w' h9 => HA.out n5 Av cv w' h9)
       have HRES := Lib.hid (show ∀ v e w', (e = .returned (.tuple #[.agg (rqA (ownQ r m) v), .int .i64 0]) ∧ RdS Ub8 (fun j => w.heap.size ≤ j) w' v (ownQ r m).mo ∧ Ext w w') → DecQP r m w e w' from fun v _ _ h => ⟨v, h⟩)
       generalize ownQ r m = om at *
       clear M6 kp3 HP hen2 HL5 HSM HOK H
       go_wp2_with fail
       refine (HA.out _ B6.out).mono ?_
       rintro e w7 ⟨rfl, E7⟩
       have B7 := Lib.hid (B6.out.ext E7)
       have V7 := Lib.hid (V6.out.ext E7)
       have P2 := Lib.hid (P2.out.ext E7)
       have HM7 := Lib.hid (HM6.out.ext E7)
       clear B6 V6 P3 HM6 E7 kp4 HA hen1
       go_wp2_with (first | (refine wpList_load_row rfl 46 _ rfl _ rfl 119 _ _ _ B7.out Tryz.underlying46 rfl hiQ ?_) | (refine wpList_store_M rfl 46 _ _ rfl w.heap.size _ rfl rfl 46 _ P2.out hiQ rfl (by simp [Value.oneCell']) ?_; intro w10 P10 M10))
       refine bodyPost_ret_by (Kb.results_cell_tmp Tryz.results282 _ _ w.heap.size 46 _ _ _ rfl _ rfl P10 Tryz.underlying46 rfl hiQ) rfl ?_
       refine HRES.out _ _ _ ⟨rfl, ?_, ?_⟩
       · exact (V7.out.mod M10 (fun j _ hj he => by omega)).mono (fun j _ hj => by omega)
       · exact Mod.toExt (Mod.toExt E05 HM7.out (fun j hj he => by omega)) M10 (fun j hj he => by omega)
end Go.Proofs.YtmmhcllibpmfnaaGreatDoor
namespace Go.Proofs.YtmmhcllibpmfnaaGreatDoor
open Go.RowKit Go.Kb
set_option maxRecDepth 100000
set_option maxHeartbeats 800000 in
theorem owrite1 (g : Nat) (w : World) (h : Blk w g 86 fld1) :
   Calls Tryz.prog 22 #[.slice (some ⟨g, 0, none⟩) 1 1] w fun e w' => ∃ A c, e = .returned (.tuple #[.slice A 1 c, .int .i64 0]) ∧ OwnS Ub8 5 w.heap.size (fun _ => False) w' (.slice A 1 c) [1] ∧ Ext w w' := by
 unfold fld1 at h
 have HG := Lib.hid h
 clear h
 have mk : ∀ w, (Instr.makeSlice 109 (.int .i64 1) (.int .i64 1)).run Tryz.prog w = .ok (.slice (some ⟨w.heap.size, 0, none⟩) 1 1) (w.alloc (.cells #[.int .i64 0] 3)) := fun w => by kernel_rfl
 have hi21 : (Tryz.prog.info? 163).map (·.size) = some 21 := by kernel_rfl
 have hone : sortsV.all (·.oneCell') = true := by simp [sortsV, fnV, Value.oneCell']
 go_enter Tryz.func22, Tryz.ntmps22
 go_upto_region 2 with fail
 obtain ⟨W1, hW1⟩ : ∃ W1, W1 = w.alloc (.cells #[.int .i64 0] 3) := ⟨_, rfl⟩
 have B1 := Lib.hid (show Blk W1 w.heap.size 3 #[.int .i64 0] by rw [hW1]; exact Blk.new w _ _)
 have E01 : Ext w W1 := by rw [hW1]; exact (Ext.refl _).alloc _
 rw [← hW1]
 have hgl := HG.out.lt
 clear hW1
 have B1' := Lib.hid (show Blk W1 w.heap.size 3 #[.int .i64 (if (0 : Nat) = 0 then 0 else 2)] from B1.out)
 go_wp2
 go_loopw [17] (fun i wr => ∃ m : Nat, m ≤ 1 ∧ i = .int .i64 m ∧ Hid (Blk wr w.heap.size 3 #[.int .i64 (if m = 0 then 0 else 2)]) ∧ Hid (Ext w wr)) (fun i _ => 1 - (intOf i).toNat)
 case atStart => exact ⟨0, Nat.zero_le _, rfl, B1', Lib.hid E01⟩
 case round =>
   clear B1 B1'
   obtain ⟨m, hm, rfl, BK, hE⟩ := hrel
   by_cases hmn : m < 1
   · obtain rfl : m = 0 := by omega
     have kg := HG.out.ext hE.out
     have k0 := kg.cell 0
     have k1 := kg.cell 1
     have k2 := kg.cell 2
     have k3 := kg.cell 3
     go_upto_region 5 with fail
     obtain ⟨W5, hW5⟩ : ∃ W5, W5 = wr.alloc (.cells #[.int .i64 2, .int .u32 1, .slice none 0 0, .slice none 0 0] 86) := ⟨_, rfl⟩
     have E5 : Ext wr W5 := by rw [hW5]; exact (Ext.refl _).alloc _
     have P5 : Blk W5 wr.heap.size 86 #[.int .i64 2, .int .u32 1, .slice none 0 0, .slice none 0 0] := by rw [hW5]; exact Blk.new wr _ _
     rw [← hW5]
     clear hW5
     have kp0 := P5.cell 0
     have BK5 := BK.out.ext E5
     have kb := BK5.cell0
     have fb := BK5.frozen 0
     have BK2 := Lib.hid (BK5.set_ 0 (.int .i64 2))
     have M2 : Mod (fun k => k = w.heap.size) W5 _ := (Mod.refl _ _).set1 (.int .i64 2) (o := 0)
     have hE2 := Lib.hid (Mod.toExt (hE.out.trans E5) M2 (by intro k hk he; omega))
     clear M2 kg k0 k1 k2 k3 BK hE E5
     go_wp2
     go_roundw
     case rel => exact ⟨1, by omega, by go_num, BK2, hE2⟩
     case measure => simp [intOf]
   · obtain rfl : m = 1 := by omega
     have BK := Lib.hid (show Blk wr w.heap.size 3 #[.int .i64 2] from BK.out)
     go_wp2_with fail
     refine (row2 _ _ BK.out).mono ?_
     rintro e w2 ⟨rfl, E2⟩
     have E02 := hE.out.trans E2
     go_wp2_with fail
     refine (sorts_any _).mono ?_
     rintro e w3 ⟨rfl, E3⟩
     have E03 := Lib.hid (E02.trans E3)
     clear E02 E2 E3 hE BK
     go_upto_region 10 with (refine wpList_store_A rfl 163 _ _ rfl w3.heap.size sortsV rfl rfl 163 _ (show Blk _ _ _ _ from Blk.at_ _ _ rfl) hi21 rfl hone ?_; intro w4 HB4 E4; have E4 : Ext w3 w4 := E4 w3.heap.size w3 ((Ext.refl w3).alloc _) (by omega))
     have E04 := Lib.hid (E03.out.trans E4)
     have B7 := Lib.hid HB4
     obtain ⟨n7, hn7⟩ : ∃ n7, w3.heap.size = n7 := ⟨_, rfl⟩
     rw [hn7] at B7 ⊢
     have HN7 := Lib.hid (show w.heap.size ≤ n7 by rw [← hn7]; exact E03.out.size)
     clear E4 E03 HB4 hn7
     go_upto_region 11 with fail
     obtain ⟨W8, hW8⟩ : ∃ W8, W8 = w4.alloc (.cells #[.slice none 0 0] 167) := ⟨_, rfl⟩
     have E48 : Ext w4 W8 := by rw [hW8]; exact (Ext.refl _).alloc _
     have B8 := Lib.hid (show Blk W8 w4.heap.size 167 #[.slice none 0 0] by rw [hW8]; exact Blk.new w4 _ _)
     obtain ⟨n8, hn8⟩ : ∃ n8, w4.heap.size = n8 := ⟨_, rfl⟩
     have HN8 := Lib.hid (show n7 < n8 by rw [← hn8]; exact B7.out.lt)
     rw [← hW8]
     rw [hn8] at B8 ⊢
     have E08 := Lib.hid (E04.out.trans E48)
     have B7 := Lib.hid (B7.out.ext E48)
     clear hW8 E04 E48 hn8
     go_wp2
     go_loopw [36] (fun i wr => ∃ m : Nat, m ≤ 1 ∧ i = .int .i64 m ∧ Hid (if m = 0 then wr = W8 else ∃ A c, Blk wr n8 167 #[.slice A 1 c] ∧ OwnS Ub8 5 w.heap.size (fun _ => False) wr (.slice A 1 c) [1]) ∧ Hid (Ext w wr)) (fun i _ => 1 - (intOf i).toNat)
     case atStart => exact ⟨0, Nat.zero_le _, rfl, Lib.hid (by rw [if_pos rfl]), E08⟩
     case round =>
       obtain ⟨m, hm, rfl, HWR, hE⟩ := hrel
       by_cases hmn : m < 1
       · obtain rfl : m = 0 := by omega
         have hwr : wr = W8 := by simpa using HWR.out
         subst hwr
         have kg := HG.out.ext E08.out
         have k0 := kg.cell 0
         have k1 := kg.cell 1
         have k2 := kg.cell 2
         have k3 := kg.cell 3
         go_upto_region 14 with fail
         obtain ⟨W10, hW10⟩ : ∃ W10, W10 = wr.alloc (.cells #[.int .i64 2, .int .u32 1, .slice none 0 0, .slice none 0 0] 86) := ⟨_, rfl⟩
         have E10 : Ext wr W10 := by rw [hW10]; exact (Ext.refl _).alloc _
         have P10 := Lib.hid (show Blk W10 wr.heap.size 86 #[.int .i64 2, .int .u32 1, .slice none 0 0, .slice none 0 0] by rw [hW10]; exact Blk.new wr _ _)
         rw [← hW10]
         clear hW10
         obtain ⟨n10, hn10⟩ : ∃ n10, wr.heap.size = n10 := ⟨_, rfl⟩
         have HN10 := Lib.hid (show n8 < n10 by rw [← hn10]; exact B8.out.lt)
         rw [hn10] at P10 ⊢
         have hs6 : sortsV[6]? = some (.func (.func 88) #[] #[]) := by rfl
         have hs7 : sortsV[7]? = some (.func (.func 86) #[] #[]) := by rfl
         have S6 := Lib.hid (show W10.cell? ⟨n7, 6, none⟩ = some (.func (.func 88) #[] #[]) by rw [(B7.out.ext E10).cell, hs6])
         have HS7 := Lib.hid hs7
         have B7 := Lib.hid (B7.out.ext E10)
         have B8 := Lib.hid (B8.out.ext E10)
         have E010 := Lib.hid (E08.out.trans E10)
         clear hs6 hs7 hn10 kg k0 k1 k2 k3 E10 hE HWR
         refine wp_region_held_drew (S := fun w' => Ext W10 w') (by kernel_rfl) (Ext.drew (Ext.refl _)) (fun hHeld => ?_)
         (refine zT 0 (v := ?_) rfl (Or.inl ⟨by rfl, ?_⟩) ?_; rotate_left; (focus (intro w' hSw; skip; go_simp; try with_reducible rfl)); (try simp only [zP]))
         (refine zT 1 (v := ?_) rfl (Or.inl ⟨by rfl, ?_⟩) ?_; rotate_left; (focus (intro w' hSw; have kc := (P10.out.ext hSw).cell 0; go_simp; try with_reducible rfl)); (try simp only [zP]))
         (refine zR 2 rfl ?_; (try simp only [zP]))
         (refine zR 3 rfl ?_; (try simp only [zP]))
         (refine zT 4 (v := ?_) rfl (Or.inl ⟨by rfl, ?_⟩) ?_; rotate_left; (focus (intro w' hSw; have kc := cell_ext hSw S6.out; go_simp; try with_reducible rfl)); (try simp only [zP]))
         (refine zT 5 (v := ?_) rfl (Or.inl ⟨by rfl, ?_⟩) ?_; rotate_left; (focus (intro w' hSw; have c0 := (P10.out.ext hSw).cell 0; have c1 := (P10.out.ext hSw).cell 1; have c2 := (P10.out.ext hSw).cell 2; have c3 := (P10.out.ext hSw).cell 3; go_simp; try with_reducible rfl)); (try simp only [zP]))
         (refine wpAnyH_ready (rs := [6]) (by kernel_rfl) (by simp) ?_; refine AllReadyH.cons rfl (fun K hK => ?_) AllReadyH.nil; go_simp; go_at_call 88; refine (flagFault1 _).mono ?_; rintro e w11 ⟨rfl, E11⟩; (try dsimp only); refine hK.out _ _ zX (fun hHeld => ?_); clear hK K; (try simp only [zP]))
         (refine zR 7 rfl ?_; (try simp only [zP]))
         refine wpAnyH_done (by kernel_rfl) ?_ _
         have B7 := Lib.hid (B7.out.ext hHeld)
         have B8 := Lib.hid (B8.out.ext hHeld)
         have P10 := Lib.hid (P10.out.ext hHeld)
         have E011 := Lib.hid (E010.out.trans hHeld)
         clear hHeld E11 E010 S6
         go_upto_region 17 with fail
         have h78 := HN8.out
         have h810 := HN10.out
         refine wp_region_held_drew (S := fun w' => Mod (fun k => k = n8) w11 w') (by kernel_rfl) (Mod.of_ext (Ext.drew (Ext.refl _))) (fun hHeld => ?_)
         obtain ⟨D, hD⟩ : ∃ D, D = w11.drew := ⟨_, rfl⟩
         have ED : Ext w11 D := by rw [hD]; exact (Ext.refl _).drew
         rw [← hD] at hHeld ⊢
         clear hD
         (refine zR 0 rfl ?_; (try simp only [zP]))
         (refine zT 1 (v := ?_) rfl (Or.inl ⟨by rfl, ?_⟩) ?_; rotate_left; (focus (intro w' hSw; have kc := (P10.out.mod hSw (by omega)).cell 0; go_simp; try with_reducible rfl)); (try simp only [zP]))
         (refine zR 2 rfl ?_; (try simp only [zP]))
         (refine zR 3 rfl ?_; (try simp only [zP]))
         (refine zT 4 (v := ?_) rfl (Or.inl ⟨by rfl, ?_⟩) ?_; rotate_left; (focus (intro w' hSw; have kc := (B7.out.mod hSw (by omega)).cell 7; rw [HS7.out] at kc; go_simp; try with_reducible rfl)); (try simp only [zP]))
         (refine zR 5 rfl ?_; (try simp only [zP]))
         (refine zT 6 (v := ?_) rfl (Or.inl ⟨by rfl, ?_⟩) ?_; rotate_left; (focus (intro w' hSw; have c0 := (P10.out.mod hSw (by omega)).cell 0; have c1 := (P10.out.mod hSw (by omega)).cell 1; have c2 := (P10.out.mod hSw (by omega)).cell 2; have c3 := (P10.out.mod hSw (by omega)).cell 3; go_simp; try with_reducible rfl)); (try simp only [zP]))
         (refine wpAnyH_ready (rs := [7]) (by kernel_rfl) (by simp) ?_; refine AllReadyH.cons rfl (fun K hK => ?_) AllReadyH.nil; go_simp; go_at_call 86; refine (woct1 n8 _ (B8.out.ext ED)).mono ?_; rintro e w12 ⟨rfl, A12, c12, B12, O12, M12⟩; (try dsimp only); refine hK.out _ _ ((Mod.of_ext ED).trans M12) (fun hHeld => ?_); clear hK K; (try simp only [zP]))
         refine wpAnyH_done (by kernel_rfl) ?_ _
         have kb := B12.cell 0
         have hE12 := Lib.hid (Mod.toExt E011.out hHeld (by intro k hk he; have := HN7.out; omega))
         have HWR2 := Lib.hid (show (if (1 : Nat) = 0 then w12 = wr else ∃ A c, Blk w12 n8 167 #[.slice A 1 c] ∧ OwnS Ub8 5 w.heap.size (fun _ => False) w12 (.slice A 1 c) [1]) from ⟨A12, c12, B12, O12.lower (Nat.le_trans E011.out.size ED.size)⟩)
         clear hHeld B12 O12 M12 ED
         go_wp2
         go_roundw
         case rel => exact ⟨1, by omega, by go_num, HWR2, hE12⟩
         case measure => simp [intOf]
       · obtain rfl : m = 1 := by omega
         obtain ⟨A, c, B, O⟩ : ∃ A c, Blk wr n8 167 #[.slice A 1 c] ∧ OwnS Ub8 5 w.heap.size (fun _ => False) wr (.slice A 1 c) [1] := by simpa using HWR.out
         have kb := B.cell 0
         have O := Lib.hid O
         go_wp2
         refine bodyPost_ret (v := .tuple #[.slice A 1 c, .int .i64 0]) (by simp [results, Tryz.results22, go_sem]) rfl ?_
         exact ⟨A, c, rfl, O.out, hE.out⟩
end Go.Proofs.YtmmhcllibpmfnaaGreatDoor
namespace Go.Proofs.YtmmhcllibpmfnaaGreatDoor
open Go.RowKit Go.Kb Go.Kb.Frame
open Fr
set_option maxRecDepth 100000
theorem exs1 : Hid (fput [1] = ([0, 0, 0, 1, 1], 0)) := Lib.hid (by decide)
theorem exs2 : Hid (feedR false ([] ++ [0, 0, 0, 1, 1]) = (([], false), ([[1]], 0))) := Lib.hid (by decide)
theorem bs_of {l : List Int} (h : l.all (fun x => decide (0 ≤ x ∧ x ≤ 255)) = true) : Bs l := fun x hx => of_decide_eq_true (List.all_eq_true.1 h x hx)
set_option maxHeartbeats 800000 in
theorem shaken_any (w : World) : Calls Tryz.prog 5 #[] w fun e w' => e = .returned (.bool true) ∧ Ext w w' := by
 go_enter Tryz.func5, Tryz.ntmps5
 go_wp2_with fail
 refine (owrite1 _ _ (Blk.new _ _ _)).mono ?_
 rintro e w1 ⟨A1, c1, rfl, o1, E1⟩
 have R1 := Lib.hid (RdY.ri o1.y)
 clear o1
 go_wp2_with fail
 refine (put_any _ [1] _ R1.out (by simp)).mono ?_
 rintro e w2 ⟨v2, rfl, o2, E2⟩
 rw [exs1.out] at o2 ⊢
 obtain ⟨A2, c2, rfl⟩ := own_shape o2
 have P2 := Lib.hid o2.rd
 clear o2 R1
 go_wp2_with fail
 refine (feed_any _ _ false [] [0, 0, 0, 1, 1] _ (RdN.nil _ _) P2.out (bs_of rfl) (bs_of rfl) (by simp) (by simp)).mono ?_
 rintro e w3 ⟨v3, l3, rfl, ⟨vs3, m3, o3, _, r3⟩, E3⟩
 rw [exs2.out] at o3 r3 ⊢
 obtain ⟨A3, c3, rfl⟩ := own_shape r3
 obtain ⟨g, d3, A5, c5, rfl, hg, hcell, hrd⟩ := o3.one
 have P3 := Lib.hid hrd
 clear o3 r3 hrd
 go_wp2_with fail
 refine (bytes_any _ _ [1] [1] _ (P3.out.ext zX) (RI.lit .u8 [1] _ (by simp) (by simp))).mono ?_
 rintro e w4 ⟨rfl, E4⟩
 go_wp2
 go_ret
 exact ⟨rfl, zX⟩
end Go.Proofs.YtmmhcllibpmfnaaGreatDoor
namespace Go.Proofs.YtmmhcllibpmfnaaGreatDoor
open Go.RowKit Go.Kb Go.Kb.Frame
set_option maxRecDepth 100000
/-- a request as a message of a channel -/
def mgQ (r : Rq) (k : Nat) (ch : Int) (wa : Bool) : Mg := ⟨98, ch, 0, 0, 0, 0, nmQ k, ⟨#[]⟩, wa, encL (fldsQ r k)⟩
def psQ : List Pa := [paChan, paName, paWant, paRest]
theorem mgQ_row (r : Rq) (k : Nat) (ch : Int) (wa : Bool) : rowL (mgQ r k ch wa).k = some psQ := by simp [mgQ, rowL, psQ]
theorem mgQ_flds (r : Rq) (k : Nat) (ch : Int) (wa : Bool) : flds (mgQ r k ch wa) psQ = [⟨1, 98, []⟩, ⟨3, ch, []⟩, ⟨4, 0, bsL (nmQ k)⟩, ⟨2, if wa = true then 1 else 0, []⟩, ⟨6, 0, encL (fldsQ r k)⟩] := by rfl
theorem mgQ_own (r : Rq) (k : Nat) (ch : Int) (wa : Bool) : ownM (mgQ r k ch wa) = mgQ r k ch wa := by
 cases wa <;> simp [ownM, mgQ, rowL, putAll, putM, vOf, mg0, paChan, paName, paWant, paRest, str_back]
theorem nmQ_fit (k : Nat) (h1 : 1 ≤ k) (h10 : k ≤ 10) : WordP (nmQ k) 1 := by
 have h9 : ∀ k : Fin 11, 1 ≤ k.1 → (1 ≤ (nmQ k.1).size ∧ (nmQ k.1).size ≤ 64) ∧ ∀ c ∈ bsL (nmQ k.1), 33 ≤ c ∧ c ≤ 126 := by decide
 obtain ⟨⟨h2, h3⟩, h4⟩ := h9 ⟨k, by omega⟩ h1
 exact ⟨by dsimp only at h2; omega, h3, h4⟩
theorem flds_bsQ {r : Rq} (hr : r.Ok) (k : Nat) : ∀ f ∈ fldsQ r k, Bs f.t := by
 have hb := hr.bs
 have hn : Bs [] := fun x hx => by simp at hx
 unfold fldsQ
 split
 all_goals
   intro f hm
   simp only [List.mem_cons, List.not_mem_nil, or_false] at hm
 · rcases hm with rfl | rfl | rfl | rfl | rfl | rfl <;> first | exact bsL_bs _ | exact hb | exact hn
 · rcases hm with rfl | rfl <;> exact bsL_bs _
 · subst hm; exact bsL_bs _
 · subst hm; exact bsL_bs _
 · rcases hm with rfl | rfl | rfl | rfl <;> exact hn
 · subst hm; exact hn
 · subst hm; exact bsL_bs _
 · subst hm; exact hn
 · rcases hm with rfl | rfl | rfl | rfl <;> first | exact bsL_bs _ | exact hn
theorem encL_bsQ {r : Rq} (hr : r.Ok) (k : Nat) (hk : r.k = (k : Int)) (ha : askQ r = 0) : Bs (encL (fldsQ r k)) := by
 intro x hx
 simp only [encL, List.mem_flatten, List.mem_map] at hx
 obtain ⟨l, ⟨f, hf, rfl⟩, hx⟩ := hx
 exact can_bs (flds_smQ hr k hk ha f hf).can (flds_bsQ hr k f hf) x hx
theorem encL_lenQ {r : Rq} (hr : r.Ok) (k : Nat) (hk : r.k = (k : Int)) (ha : askQ r = 0) : (encL (fldsQ r k)).length ≤ 6168 := by
 have h1 := encL_sm _ (flds_smQ hr k hk ha)
 have h2 := kinds_len k
 rw [← flds_lenQ r k] at h2
 omega
structure MgQG (m : Mg) : Prop where
 ok : m.Ok
 row : rowL m.k = some psQ
 fit : FitP m
 flt : ∀ f ∈ flds m psQ, fltF f.k f.n f.t = 0
 len : (encL (flds m psQ)).length ≤ 33792
 own : ownM m = m
theorem mgQ_good {r : Rq} (hr : r.Ok) (k : Nat) (hk : r.k = (k : Int)) (h1 : 1 ≤ k) (h10 : k ≤ 10) (ha : askQ r = 0) (ch : Int) (wa : Bool) (hc : 0 ≤ ch ∧ ch ≤ 4294967295) : MgQG (mgQ r k ch wa) := by
 have hl := encL_lenQ hr k hk ha
 have hw := nmQ_fit k h1 h10
 have hwl : (bsL (nmQ k)).length ≤ 64 := by rw [bsL_len]; exact hw.2.1
 refine ⟨⟨hc, by simp [mgQ], by simp [mgQ], by simp [mgQ], by simp [mgQ], ?_, by show (⟨#[]⟩ : ByteArray).size ≤ _; decide, ?_, encL_bsQ hr k hk ha⟩, mgQ_row r k ch wa, ?_, ?_, ?_, mgQ_own r k ch wa⟩
 · show (nmQ k).size ≤ 10000
   have := hw.2.1; omega
 · show (encL (fldsQ r k)).length ≤ 100000
   omega
 · simp [FitP, mgQ]; exact hw
 · rw [mgQ_flds]
   have hb := u32_flag wa
   have h2 : ¬ (1 : Int) < (if wa = true then 1 else 0) := by omega
   have h3 : ¬ 32768 < (bsL (nmQ k)).length := by omega
   have h4 : ¬ 33792 < (encL (fldsQ r k)).length := by omega
   intro f hm
   simp only [List.mem_cons, List.not_mem_nil, or_false] at hm
   rcases hm with rfl | rfl | rfl | rfl | rfl <;> dsimp only
   · simp [fltF]
   · simp [fltF]
   · simp [fltF, h3]
   · rw [show fltF 2 (if wa = true then 1 else 0) [] = (if (1 : Int) < (if wa = true then 1 else 0) then 5 else 0) by simp [fltF], if_neg h2]
   · simp [fltF, h4]
 · rw [mgQ_flds]
   simp [encL, encF, Fr.four] at hl hwl ⊢
   omega
end Go.Proofs.YtmmhcllibpmfnaaGreatDoor
namespace Go.Proofs.YtmmhcllibpmfnaaGreatDoor
open Go.RowKit Go.Kb
set_option maxRecDepth 100000
set_option maxHeartbeats 800000 in
theorem ixb32_any (s : ByteArray) (w : World) : Calls Tryz.prog 335 #[.string s, .int .u8 32] w fun e w' => e = .returned (.int .i64 (Go.Lib.indexByte s.data.toList 32)) ∧ Ext w w' := by
 go_enter Tryz.func335, Tryz.ntmps335
 go_wp2
 rw [run_callFunc_extern Tryz.func371 (by kernel_rfl) (by kernel_rfl) (by kernel_rfl) (e := Extern.BytealgIndexByte.indexByte) (by kernel_rfl), Go.Lib.run_indexByteString]
 simp only [Result.andThen]
 rw [Oper.upon_value]
 go_wp2
 go_ret
 exact ⟨rfl, zX⟩
set_option maxHeartbeats 800000 in
theorem sindex32_any (s : ByteArray) (w : World) : Calls Tryz.prog 299 #[.string s, .string ⟨#[32]⟩] w fun e w' => e = .returned (.int .i64 (Go.Lib.indexByte s.data.toList 32)) ∧ Ext w w' := by
 cases hb : (([32] : List UInt8) == s.toList) with
 | true =>
   have hs : s.data.toList = [32] := (Go.Lib.toList_data s).symm.trans (beq_iff_eq.1 hb).symm
   have h0 : Go.Lib.indexByte s.data.toList 32 = 0 := by rw [hs]; rfl
   have H0 := Lib.hid h0
   clear hs h0
   go_enter Tryz.func299, Tryz.ntmps299
   go_wp2
   go_ret
   exact ⟨by rw [H0.out]; rfl, zX⟩
 | false =>
   have h61 : ((({ data := #[32] } : ByteArray)[0].toNat : Nat) : Int) = 32 := by rfl
   go_enter Tryz.func299, Tryz.ntmps299
   go_wp2_with fail
   refine (ixb32_any s _).mono ?_
   rintro e w1 ⟨rfl, E1⟩
   go_wp2
   go_ret
   exact ⟨rfl, zX⟩
theorem Kb_results_tmp3 {P : Program} {fn : Func} {p q r : Tmp} (h : fn.results = #[.tmp p, .tmp q, .tmp r]) (tmps : Array Value) (w : World) (v1 v2 v3 : Value) (h1 : tmps.getD p undef = v1) (h2 : tmps.getD q undef = v2) (h3 : tmps.getD r undef = v3) :
   (results fn tmps).run P w = .ok (.tuple #[v1, v2, v3]) w := by
 have h1' : tmps[p]?.getD undef = v1 := by simpa using h1
 have h2' : tmps[q]?.getD undef = v2 := by simpa using h2
 have h3' : tmps[r]?.getD undef = v3 := by simpa using h3
 simp [results, h, h1', h2', h3']
theorem indexByte_lt (l : List UInt8) (c : UInt8) : Go.Lib.indexByte l c < (l.length : Int) := by
 induction l with
 | nil => simp [Go.Lib.indexByte]
 | cons b l ih =>
   unfold Go.Lib.indexByte
   split
   · simp only [List.length_cons]; omega
   · split
     · simp only [List.length_cons]; omega
     · simp only [List.length_cons]; omega
/-- a text up to its first space -/
def cutS (s : ByteArray) : ByteArray := if Go.Lib.indexByte s.data.toList 32 = -1 then s else s.extract 0 (Go.Lib.indexByte s.data.toList 32).toNat
def CutP (s : ByteArray) (w : World) (e : Ending) (w' : World) : Prop := (∃ (r : ByteArray) (b : Bool), e = .returned (.tuple #[.string s, .string r, .bool b])) ∧ Ext w w'
set_option maxHeartbeats 800000 in
theorem scut_any (s : ByteArray) (w : World) (hs : s.size ≤ 100000000) : Calls Tryz.prog 391 #[.string s, .string ⟨#[32]⟩] w (CutP (cutS s) w) := by
 have HI := Lib.hid (fun w' => sindex32_any s w')
 have hge := Go.Lib.indexByte_ge s.data.toList 32
 unfold cutS
 obtain ⟨n, hn⟩ : ∃ n, Go.Lib.indexByte s.data.toList 32 = n := ⟨_, rfl⟩
 have hlt : n < (s.size : Int) := by rw [← hn]; exact indexByte_lt _ _
 rw [hn] at HI hge ⊢
 clear hn
 by_cases h1 : n = -1
 · subst h1
   go_enter Tryz.func391, Tryz.ntmps391
   go_wp2_with fail
   refine (HI.out _).mono ?_
   rintro e w1 ⟨rfl, E1⟩
   go_wp2
   refine bodyPost_ret_by (Kb_results_tmp3 Tryz.results391 _ _ _ _ _ rfl rfl rfl) rfl ?_
   exact ⟨⟨_, _, rfl⟩, E1⟩
 · obtain ⟨k, rfl⟩ : ∃ k : Nat, n = (k : Int) := ⟨n.toNat, by omega⟩
   rw [if_neg h1]
   go_enter Tryz.func391, Tryz.ntmps391
   go_wp2_with fail
   refine (HI.out _).mono ?_
   rintro e w1 ⟨rfl, E1⟩
   go_wp2
   have i0 : (0 : Int) ≤ (k : Int) := by omega
   have i1 : (k : Int) ≤ (s.size : Int) := by omega
   have i2 : (k : Int) + 1 ≤ (s.size : Int) := by omega
   have hwr : IntKind.i64.wrap ((k : Int) + 1) = (k : Int) + 1 := by unfold IntKind.wrap; simp [IntKind.bits, IntKind.signed]; omega
   have i3 : (0 : Int) ≤ (k : Int) + 1 := by omega
   refine wp_region_held_drew (S := fun w' => Ext w1 w') (by kernel_rfl) (Ext.drew (Ext.refl _)) (fun hHeld => ?_)
   (refine zR 0 rfl ?_; (try simp only [zP]))
   (refine zR 1 rfl ?_; (try simp only [zP]))
   (refine zR 2 rfl ?_; (try simp only [zP]))
   (refine zR 3 rfl ?_; (try simp only [zP]))
   (refine zR 4 rfl ?_; (try simp only [zP]))
   (refine zR 5 rfl ?_; (try simp only [zP]))
   (refine zR 6 rfl ?_; (try simp only [zP]))
   (refine zR 7 rfl ?_; (try simp only [zP]))
   try rw [hwr]
   (refine zR 8 rfl ?_; (try simp only [zP]))
   (refine zR 9 rfl ?_; (try simp only [zP]))
   (refine zR 10 rfl ?_; (try simp only [zP]))
   (refine zR 11 rfl ?_; (try simp only [zP]))
   refine wpAnyH_done (by kernel_rfl) ?_ _
   go_wp2_with fail
   refine bodyPost_ret_by (Kb_results_tmp3 Tryz.results391 _ _ _ _ _ rfl rfl rfl) rfl ?_
   exact ⟨⟨_, _, rfl⟩, E1.trans hHeld⟩
set_option maxHeartbeats 800000 in
theorem cut_any (s : ByteArray) (w : World) (hs : s.size ≤ 100000000) : Calls Tryz.prog 361 #[.string s, .string ⟨#[32]⟩] w (CutP (cutS s) w) := by
 have HC := Lib.hid (fun w' => scut_any s w' hs)
 unfold CutP at HC
 obtain ⟨u, hu⟩ : ∃ u, cutS s = u := ⟨_, rfl⟩
 rw [hu] at HC ⊢
 clear hu hs
 go_enter Tryz.func361, Tryz.ntmps361
 go_wp2_with fail
 refine (HC.out _).mono ?_
 rintro e w1 ⟨⟨r, b, rfl⟩, E1⟩
 go_wp2
 refine bodyPost_ret_by (Kb_results_tmp3 Tryz.results361 _ _ _ _ _ rfl rfl rfl) rfl ?_
 exact ⟨⟨_, _, rfl⟩, E1⟩
end Go.Proofs.YtmmhcllibpmfnaaGreatDoor
