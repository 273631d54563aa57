/- Written by chain.py of A20 B20 C20 D20 E20 F20 G20 H20. No condition. -/
import Derived.Test.YteljobleojhgmaaGreatA21
import Derived.Test.YteljobleojhgmaaGreatRows
import Derived.IntWalk
namespace Go.Proofs.YteljobleojhgmaaGreat
open Go.RowKit Go.Kb

/-- a process -/
structure Pr where
  (pid parent group session state prog pc pending mask : Int)
  acts : List Int
  status : Int
  told : Bool
deriving DecidableEq
def Pr.cells (p : Pr) : List Value :=
  [.int .i64 p.pid, .int .i64 p.parent, .int .i64 p.group, .int .i64 p.session, .int .i64 p.state, .int .i64 p.prog, .int .i64 p.pc, .int .u64 p.pending, .int .u64 p.mask] ++ (p.acts.map (Value.int .i64) ++ [.int .i64 p.status, .bool p.told])
def Pr.ok (p : Pr) : Prop := p.acts.length = 32
theorem Pr.len {p : Pr} (h : p.ok) : p.cells.length = 43 := by
  unfold Pr.ok at h
  simp [Pr.cells, h]
def Rp : Rep Pr where
  size := 43
  pos := by decide
  rel := fun _ _ cs d => cs = d.cells ∧ d.ok
  len := fun h => by rw [h.1]; exact Pr.len h.2
  one := fun h u hu => by
    rw [h.1] at hu
    simp only [Pr.cells, List.mem_append, List.mem_cons, List.not_mem_nil, or_false, List.mem_map] at hu
    rcases hu with hu | ⟨x, _, rfl⟩ | hu | hu
    · rcases hu with rfl | rfl | rfl | rfl | rfl | rfl | rfl | rfl | rfl <;> rfl
    · rfl
    · rw [hu]; rfl
    · rw [hu]; rfl
  keep := fun h _ => h
/-- a process, whole -/
def Pr.arr (p : Pr) : Array Value := p.cells.toArray
theorem Pr.size {p : Pr} (h : p.ok) : p.arr.size = 43 := by unfold Pr.arr; simp [Pr.len h]
/-- its cells, wherever they lie -/
structure PrAt (w : World) (b o : Nat) (p : Pr) : Prop where
  c0 : w.cell? ⟨b, o, none⟩ = some (.int .i64 p.pid)
  c1 : w.cell? ⟨b, o + 1, none⟩ = some (.int .i64 p.parent)
  c2 : w.cell? ⟨b, o + 2, none⟩ = some (.int .i64 p.group)
  c3 : w.cell? ⟨b, o + 3, none⟩ = some (.int .i64 p.session)
  c4 : w.cell? ⟨b, o + 4, none⟩ = some (.int .i64 p.state)
  c5 : w.cell? ⟨b, o + 5, none⟩ = some (.int .i64 p.prog)
  c6 : w.cell? ⟨b, o + 6, none⟩ = some (.int .i64 p.pc)
  c7 : w.cell? ⟨b, o + 7, none⟩ = some (.int .u64 p.pending)
  c8 : w.cell? ⟨b, o + 8, none⟩ = some (.int .u64 p.mask)
  ca : ∀ (i : Nat) x, p.acts[i]? = some x → w.cell? ⟨b, o + 9 + i, none⟩ = some (.int .i64 x)
  c41 : w.cell? ⟨b, o + 41, none⟩ = some (.int .i64 p.status)
  c42 : w.cell? ⟨b, o + 42, none⟩ = some (.bool p.told)
theorem prAt_of {w : World} {b o : Nat} {p : Pr} (hp : p.ok) (h : ∀ i u, p.cells[i]? = some u → w.cell? ⟨b, o + i, none⟩ = some u) : PrAt w b o p := by
  unfold Pr.ok at hp
  have hb : ∀ i u, (p.acts.map (Value.int .i64) ++ [.int .i64 p.status, .bool p.told])[i]? = some u → w.cell? ⟨b, o + 9 + i, none⟩ = some u := fun i u hu => by
    rw [Nat.add_assoc]
    refine h (9 + i) u ?_
    unfold Pr.cells
    rw [List.getElem?_append_right (by simp)]
    simpa using hu
  refine ⟨h 0 _ rfl, h 1 _ rfl, h 2 _ rfl, h 3 _ rfl, h 4 _ rfl, h 5 _ rfl, h 6 _ rfl, h 7 _ rfl, h 8 _ rfl, fun i x hx => hb i _ ?_, ?_, ?_⟩
  · have hlt := (List.getElem?_eq_some_iff.1 hx).1
    rw [List.getElem?_append_left (by simpa using hlt), List.getElem?_map, hx]; rfl
  · have := hb 32 (.int .i64 p.status) (by rw [List.getElem?_append_right (by simp [hp])]; simp [hp])
    simpa [Nat.add_assoc] using this
  · have := hb 33 (.bool p.told) (by rw [List.getElem?_append_right (by simp [hp])]; simp [hp])
    simpa [Nat.add_assoc] using this
theorem PrAt.ext {w w' : World} {b o : Nat} {p : Pr} (h : PrAt w b o p) (hE : Ext w w') : PrAt w' b o p :=
  ⟨cell_ext hE h.c0, cell_ext hE h.c1, cell_ext hE h.c2, cell_ext hE h.c3, cell_ext hE h.c4, cell_ext hE h.c5, cell_ext hE h.c6, cell_ext hE h.c7, cell_ext hE h.c8, fun i x hx => cell_ext hE (h.ca i x hx), cell_ext hE h.c41, cell_ext hE h.c42⟩
/-- a block that is one process -/
theorem prAt_blk {w : World} {g : Nat} {t : TypeId} {p : Pr} (hp : p.ok) (h : Blk w g t p.arr) : PrAt w g 0 p := prAt_of hp fun i u hu => by
  rw [Nat.zero_add, h.cell i]
  unfold Pr.arr
  simpa using hu
/-- one process of a slice -/
theorem pr_at {A : Nat → Prop} {w : World} {Ad : Option Addr} {n c : Nat} {ds : List Pr} (h : RdY Rp A w (.slice Ad n c) ds) {j : Nat} (hj : j < n) :
    ∃ b off p, Ad = some ⟨b, off, none⟩ ∧ Hid (ds[j]? = some p) ∧ p.ok ∧ Hid (∀ i u, p.cells[i]? = some u → w.cell? ⟨b, off + j * 43 + i, none⟩ = some u) := by
  obtain ⟨Ad', c', hv, _⟩ := h.shape
  simp only [Value.slice.injEq] at hv
  obtain ⟨rfl, rfl, rfl⟩ := hv
  obtain ⟨b, off, c, d, cs, hv, hd, hr, hl, hc⟩ := h.cells hj
  simp only [Value.slice.injEq] at hv
  obtain ⟨rfl, hok⟩ := hr.out
  exact ⟨b, off, d, hv.1, hd, hok, hc⟩
end Go.Proofs.YteljobleojhgmaaGreat
namespace Go.Proofs.YteljobleojhgmaaGreat
open Go.RowKit Go.Kb

/-- a function value that asks something of a process -/
def Asks (k : Nat) (bs fs : Array Value) (f : Pr → Bool) (w : World) : Prop :=
  (∀ args w', (callFunc k args).run Tryz.prog w' = .ok (.enter k args) w') ∧ ∀ p w', p.ok → Ext w w' → Calls Tryz.prog k (bs.push (.agg p.cells.toArray) ++ fs) w' fun e w'' => e = .returned (.bool (f p)) ∧ Ext w' w''
theorem Asks.ext {k : Nat} {bs fs : Array Value} {f : Pr → Bool} {w w' : World} (h : Asks k bs fs f w) (hE : Ext w w') : Asks k bs fs f w' := ⟨h.1, fun p w2 hp h2 => h.2 p w2 hp (hE.trans h2)⟩
theorem i43 : (Tryz.prog.info? 42).map (·.size) = some 43 := by kernel_rfl
theorem i43' {p : Pr} (h : p.ok) : (Tryz.prog.info? 42).map (·.size) = some p.cells.length := by rw [Pr.len h]; exact i43
def idxL (f : Pr → Bool) (l : List Pr) : Int := match l.findIdx? f with | some i => i | none => -1
theorem idx_none {f : Pr → Bool} {l : List Pr} (h : ∀ p ∈ l, f p = false) : idxL f l = -1 := by
  unfold idxL
  rw [List.findIdx?_eq_none_iff.2 h]
theorem idx_some {f : Pr → Bool} {l : List Pr} {m : Nat} {p : Pr} (hp : l[m]? = some p) (h : ∀ q ∈ l.take m, f q = false) (hf : f p = true) : idxL f l = m := by
  unfold idxL
  have : l.findIdx? f = some m := by
    rw [List.findIdx?_eq_some_iff_getElem]
    obtain ⟨hlt, rfl⟩ := List.getElem?_eq_some_iff.1 hp
    refine ⟨hlt, hf, fun j hj => ?_⟩
    have := h (l[j]'(by omega)) (by rw [List.mem_take_iff_getElem]; exact ⟨j, by omega, rfl⟩)
    simp [this]
  rw [this]
set_option maxRecDepth 100000 in
set_option maxHeartbeats 800000 in
theorem index_any {A : Nat → Prop} (k : Nat) (bs fs : Array Value) (f : Pr → Bool) (v : Value) (l : List Pr) (w : World) (h : RdY Rp A w v l) (hf : Asks k bs fs f w) :
    Calls Tryz.prog 65 #[v, .func (.func k) bs fs] w fun e w' => e = .returned (.int .i64 (idxL f l)) ∧ Ext w w' := by
  obtain ⟨Ad, c, rfl, hc1, hc2⟩ := h.shape
  have H := Lib.hid (h.mono (B := fun _ => True) fun _ _ _ => trivial)
  have HF := Lib.hid hf
  obtain ⟨n, hn⟩ : ∃ n, l.length = n := ⟨_, rfl⟩
  rw [hn] at H hc1 ⊢
  have HN := Lib.hid hn
  clear h hf hn
  go_enter Tryz.func65, Tryz.ntmps65
  go_wp2
  go_loopw [8] (fun i wr => ∃ m : Nat, m ≤ n ∧ i = .int .i64 m ∧ Hid (∀ p ∈ l.take m, f p = false) ∧ Ext w wr) (fun i _ => n - (intOf i).toNat)
  case atStart => exact ⟨0, Nat.zero_le _, rfl, Lib.hid (by simp), (by repeat (first | with_reducible exact Ext.refl _ | refine Ext.drewN ?_ _ | refine Ext.drew ?_ | refine Ext.alloc ?_ _ | assumption | (refine Below.trans ?_ (by assumption)) | (refine Ext.trans ?_ (by assumption)) | (refine Below.trans ?_ (Below.mono (by assumption) (by omega)))))⟩
  case round =>
    obtain ⟨m, hm, rfl, HD, hE⟩ := hrel
    by_cases hlt : m < n
    · obtain ⟨b, off, p, rfl, hd, hok, hcell⟩ := pr_at (H.out.ext hE) hlt
      have HA := Lib.hid (HF.out.2 p wr hok hE)
      have HK := HF.out.1
      have hx := hd.out
      cases hp : f p
      · have HP := Lib.hid hp
        clear hp hx
        go_wp2_with (first
          | (refine wpList_load_mid rfl 42 _ rfl b (off + m * 43) rfl p.cells _ hcell.out Tryz.underlying42 rfl (i43' hok) ?_)
          | (refine HA.out.mono ?_; rintro e w2 ⟨rfl, E2⟩; rw [HP.out]))
        go_roundw
        case rel => exact ⟨m + 1, by omega, by go_num, Lib.hid (by
          rw [List.take_add_one, hd.out]
          intro q hq
          rcases List.mem_append.1 hq with h | h
          · exact HD.out q h
          · simp at h; rw [h]; exact HP.out), (by repeat (first | with_reducible exact Ext.refl _ | refine Ext.drewN ?_ _ | refine Ext.drew ?_ | refine Ext.alloc ?_ _ | assumption | (refine Below.trans ?_ (by assumption)) | (refine Ext.trans ?_ (by assumption)) | (refine Below.trans ?_ (Below.mono (by assumption) (by omega)))))⟩
        case measure => simp [intOf]; omega
      · have HP := Lib.hid hp
        clear hp hx
        go_wp2_with (first
          | (refine wpList_load_mid rfl 42 _ rfl b (off + m * 43) rfl p.cells _ hcell.out Tryz.underlying42 rfl (i43' hok) ?_)
          | (refine HA.out.mono ?_; rintro e w2 ⟨rfl, E2⟩; rw [HP.out]))
        go_ret
        exact ⟨by rw [idx_some hd.out HD.out HP.out]; rfl, (by repeat (first | with_reducible exact Ext.refl _ | refine Ext.drewN ?_ _ | refine Ext.drew ?_ | refine Ext.alloc ?_ _ | assumption | (refine Below.trans ?_ (by assumption)) | (refine Ext.trans ?_ (by assumption)) | (refine Below.trans ?_ (Below.mono (by assumption) (by omega)))))⟩
    · go_wp2
      go_ret
      obtain rfl : m = l.length := by have := HN.out; omega
      have := HD.out
      rw [List.take_length] at this
      exact ⟨by rw [idx_none this]; rfl, (by repeat (first | with_reducible exact Ext.refl _ | refine Ext.drewN ?_ _ | refine Ext.drew ?_ | refine Ext.alloc ?_ _ | assumption | (refine Below.trans ?_ (by assumption)) | (refine Ext.trans ?_ (by assumption)) | (refine Below.trans ?_ (Below.mono (by assumption) (by omega)))))⟩
end Go.Proofs.YteljobleojhgmaaGreat
namespace Go.Proofs.YteljobleojhgmaaGreat
open Go.RowKit Go.Kb

theorem pr_new (w : World) (t : TypeId) {p : Pr} (h : p.ok) : PrAt (w.alloc (.cells p.cells.toArray t)) w.heap.size 0 p := prAt_blk h (Blk.new w t p.arr)
theorem enters_is (args : Array Value) (w : World) : (callFunc 74 args).run Tryz.prog w = .ok (.enter 74 args) w := by kernel_rfl
set_option maxHeartbeats 400000 in
theorem is1_any (pid : Int) (n : Nat) (p : Pr) (w : World) (hp : p.ok) (h : Blk w n 3 #[.int .i64 pid]) :
    Calls Tryz.prog 74 #[.agg p.cells.toArray, .pointer (some ⟨n, 0, none⟩)] w fun e w' => e = .returned (.bool (p.pid == pid)) ∧ Ext w w' := by
  have c0 := (pr_new w 42 hp).c0
  have c1 := (h.alloc (.cells p.cells.toArray 42)).cell0
  generalize p.cells.toArray = cs at c0 c1 ⊢
  clear hp h
  go_enter Tryz.func74, Tryz.ntmps74
  go_wp2
  go_ret
  exact ⟨rfl, (by repeat (first | with_reducible exact Ext.refl _ | refine Ext.drewN ?_ _ | refine Ext.drew ?_ | refine Ext.alloc ?_ _ | assumption | (refine Below.trans ?_ (by assumption)) | (refine Ext.trans ?_ (by assumption)) | (refine Below.trans ?_ (Below.mono (by assumption) (by omega)))))⟩
theorem asks_is {pid : Int} {n : Nat} {w : World} (h : Blk w n 3 #[.int .i64 pid]) : Asks 74 #[] #[.pointer (some ⟨n, 0, none⟩)] (fun p => p.pid == pid) w :=
  ⟨enters_is, fun p w' hp hE => is1_any pid n p w' hp (h.ext hE)⟩
set_option maxHeartbeats 400000 in
theorem is_any (pid : Int) (w : World) : Calls Tryz.prog 44 #[.int .i64 pid] w fun e w' => ∃ n, e = .returned (.func (.func 74) #[] #[.pointer (some ⟨n, 0, none⟩)]) ∧ Asks 74 #[] #[.pointer (some ⟨n, 0, none⟩)] (fun p => p.pid == pid) w' ∧ Ext w w' := by
  go_enter Tryz.func44, Tryz.ntmps44
  go_wp2
  go_ret
  exact ⟨_, rfl, asks_is (Blk.new _ _ _), (by repeat (first | with_reducible exact Ext.refl _ | refine Ext.drewN ?_ _ | refine Ext.drew ?_ | refine Ext.alloc ?_ _ | assumption | (refine Below.trans ?_ (by assumption)) | (refine Ext.trans ?_ (by assumption)) | (refine Below.trans ?_ (Below.mono (by assumption) (by omega)))))⟩
/-- a process that is no zombie -/
def liveP (p : Pr) : Bool := p.state != 3
theorem enters_lives (args : Array Value) (w : World) : (callFunc 36 args).run Tryz.prog w = .ok (.enter 36 args) w := by kernel_rfl
set_option maxHeartbeats 400000 in
theorem lives_any (p : Pr) (w : World) (hp : p.ok) :
    Calls Tryz.prog 36 #[.agg p.cells.toArray] w fun e w' => e = .returned (.bool (liveP p)) ∧ Ext w w' := by
  have c4 := (pr_new w 42 hp).c4
  unfold liveP
  generalize p.cells.toArray = cs at c4 ⊢
  clear hp
  go_enter Tryz.func36, Tryz.ntmps36
  go_wp2
  go_ret
  exact ⟨rfl, (by repeat (first | with_reducible exact Ext.refl _ | refine Ext.drewN ?_ _ | refine Ext.drew ?_ | refine Ext.alloc ?_ _ | assumption | (refine Below.trans ?_ (by assumption)) | (refine Ext.trans ?_ (by assumption)) | (refine Below.trans ?_ (Below.mono (by assumption) (by omega)))))⟩
theorem asks_lives (w : World) : Asks 36 #[] #[] liveP w := ⟨enters_lives, fun p w' hp _ => lives_any p w' hp⟩
end Go.Proofs.YteljobleojhgmaaGreat
namespace Go.Proofs.YteljobleojhgmaaGreat
open Go.RowKit Go.Kb

theorem enters_all (args : Array Value) (w : World) : (callFunc 66 args).run Tryz.prog w = .ok (.enter 66 args) w := by kernel_rfl
/-- two tests in memory -/
structure Two2 (w : World) (n : Nat) (k1 : Nat) (b1 f1 : Array Value) (k2 : Nat) (b2 f2 : Array Value) : Prop where
  at_ : ∃ b, Blk w n 112 #[.slice (some ⟨b, 0, none⟩) 2 2] ∧ Blk w b 73 #[.func (.func k1) b1 f1, .func (.func k2) b2 f2]
set_option maxRecDepth 100000 in
set_option maxHeartbeats 800000 in
theorem all1_any {k1 k2 : Nat} {b1 f1 b2 f2 : Array Value} {t1 t2 : Pr → Bool} (n : Nat) (p : Pr) (w : World) (hp : p.ok) (h : Two2 w n k1 b1 f1 k2 b2 f2) (h1 : Asks k1 b1 f1 t1 w) (h2 : Asks k2 b2 f2 t2 w) :
    Calls Tryz.prog 66 #[.agg p.cells.toArray, .pointer (some ⟨n, 0, none⟩)] w fun e w' => e = .returned (.bool (t1 p && t2 p)) ∧ Ext w w' := by
  obtain ⟨b, hn, hb⟩ := h
  have e1 := h1.1
  have e2 := h2.1
  have H1 := Lib.hid fun w' hE => h1.2 p w' hp hE
  have H2 := Lib.hid fun w' hE => h2.2 p w' hp hE
  have hi : (Tryz.prog.info? 42).map (·.size) = some p.cells.toArray.size := by rw [List.size_toArray]; exact i43' hp
  have hT := Lib.hid (Blk.new w 42 p.cells.toArray)
  have n0 := fun o => (hn.alloc o).cell0
  have HB := Lib.hid hb
  generalize p.cells.toArray = cs at H1 H2 hi hT ⊢
  generalize t1 p = r1 at H1 ⊢
  generalize t2 p = r2 at H2 ⊢
  clear h1 h2 hn hb hp
  go_enter Tryz.func66, Tryz.ntmps66
  go_wp2
  go_loopw [8] (fun i wr => ∃ m : Nat, m ≤ 2 ∧ i = .int .i64 m ∧ Hid (m = 0 ∨ r1 = true) ∧ Hid (m ≤ 1 ∨ r2 = true) ∧ Hid (Blk wr w.heap.size 42 cs) ∧ Ext w wr) (fun i _ => 2 - (intOf i).toNat)
  case atStart => exact ⟨0, by omega, rfl, Lib.hid (.inl rfl), Lib.hid (.inl (by omega)), hT, (by repeat (first | with_reducible exact Ext.refl _ | refine Ext.drewN ?_ _ | refine Ext.drew ?_ | refine Ext.alloc ?_ _ | assumption | (refine Below.trans ?_ (by assumption)) | (refine Ext.trans ?_ (by assumption)) | (refine Below.trans ?_ (Below.mono (by assumption) (by omega)))))⟩
  case round =>
    obtain ⟨m, hm, rfl, hr1, hr2, hT, hE⟩ := hrel
    have hb0 := (HB.out.ext hE).cell 0
    have hb1 := (HB.out.ext hE).cell 1
    by_cases hlt : m < 2
    · obtain rfl | rfl : m = 0 ∨ m = 1 := by omega
      · have hb0 : wr.cell? ⟨b, 0, none⟩ = some (.func (.func k1) b1 f1) := hb0
        cases r1
        · go_wp2_with (first | (refine wpList_load_row rfl 42 _ rfl _ rfl 42 _ _ _ hT.out Tryz.underlying42 rfl hi ?_) | (refine (H1.out _ (by repeat (first | with_reducible exact Ext.refl _ | refine Ext.drewN ?_ _ | refine Ext.drew ?_ | refine Ext.alloc ?_ _ | assumption | (refine Below.trans ?_ (by assumption)) | (refine Ext.trans ?_ (by assumption)) | (refine Below.trans ?_ (Below.mono (by assumption) (by omega)))))).mono ?_; rintro e w2 ⟨rfl, E2⟩))
          go_ret
          exact ⟨rfl, (by repeat (first | with_reducible exact Ext.refl _ | refine Ext.drewN ?_ _ | refine Ext.drew ?_ | refine Ext.alloc ?_ _ | assumption | (refine Below.trans ?_ (by assumption)) | (refine Ext.trans ?_ (by assumption)) | (refine Below.trans ?_ (Below.mono (by assumption) (by omega)))))⟩
        · go_wp2_with (first | (refine wpList_load_row rfl 42 _ rfl _ rfl 42 _ _ _ hT.out Tryz.underlying42 rfl hi ?_) | (refine (H1.out _ (by repeat (first | with_reducible exact Ext.refl _ | refine Ext.drewN ?_ _ | refine Ext.drew ?_ | refine Ext.alloc ?_ _ | assumption | (refine Below.trans ?_ (by assumption)) | (refine Ext.trans ?_ (by assumption)) | (refine Below.trans ?_ (Below.mono (by assumption) (by omega)))))).mono ?_; rintro e w2 ⟨rfl, E2⟩))
          go_roundw
          case rel => exact ⟨1, by omega, by go_num, Lib.hid (.inr (by simp)), Lib.hid (.inl (by omega)), Lib.hid (hT.out.ext (by repeat (first | with_reducible exact Ext.refl _ | refine Ext.drewN ?_ _ | refine Ext.drew ?_ | refine Ext.alloc ?_ _ | assumption | (refine Below.trans ?_ (by assumption)) | (refine Ext.trans ?_ (by assumption)) | (refine Below.trans ?_ (Below.mono (by assumption) (by omega)))))), (by repeat (first | with_reducible exact Ext.refl _ | refine Ext.drewN ?_ _ | refine Ext.drew ?_ | refine Ext.alloc ?_ _ | assumption | (refine Below.trans ?_ (by assumption)) | (refine Ext.trans ?_ (by assumption)) | (refine Below.trans ?_ (Below.mono (by assumption) (by omega)))))⟩
          case measure => simp [intOf]
      · have hb1 : wr.cell? ⟨b, 1, none⟩ = some (.func (.func k2) b2 f2) := hb1
        obtain rfl : r1 = true := hr1.out.resolve_left (by omega)
        cases r2
        · go_wp2_with (first | (refine wpList_load_row rfl 42 _ rfl _ rfl 42 _ _ _ hT.out Tryz.underlying42 rfl hi ?_) | (refine (H2.out _ (by repeat (first | with_reducible exact Ext.refl _ | refine Ext.drewN ?_ _ | refine Ext.drew ?_ | refine Ext.alloc ?_ _ | assumption | (refine Below.trans ?_ (by assumption)) | (refine Ext.trans ?_ (by assumption)) | (refine Below.trans ?_ (Below.mono (by assumption) (by omega)))))).mono ?_; rintro e w2 ⟨rfl, E2⟩))
          go_ret
          exact ⟨rfl, (by repeat (first | with_reducible exact Ext.refl _ | refine Ext.drewN ?_ _ | refine Ext.drew ?_ | refine Ext.alloc ?_ _ | assumption | (refine Below.trans ?_ (by assumption)) | (refine Ext.trans ?_ (by assumption)) | (refine Below.trans ?_ (Below.mono (by assumption) (by omega)))))⟩
        · go_wp2_with (first | (refine wpList_load_row rfl 42 _ rfl _ rfl 42 _ _ _ hT.out Tryz.underlying42 rfl hi ?_) | (refine (H2.out _ (by repeat (first | with_reducible exact Ext.refl _ | refine Ext.drewN ?_ _ | refine Ext.drew ?_ | refine Ext.alloc ?_ _ | assumption | (refine Below.trans ?_ (by assumption)) | (refine Ext.trans ?_ (by assumption)) | (refine Below.trans ?_ (Below.mono (by assumption) (by omega)))))).mono ?_; rintro e w2 ⟨rfl, E2⟩))
          go_roundw
          case rel => exact ⟨2, by omega, by go_num, Lib.hid (.inr (by simp)), Lib.hid (.inr (by simp)), Lib.hid (hT.out.ext (by repeat (first | with_reducible exact Ext.refl _ | refine Ext.drewN ?_ _ | refine Ext.drew ?_ | refine Ext.alloc ?_ _ | assumption | (refine Below.trans ?_ (by assumption)) | (refine Ext.trans ?_ (by assumption)) | (refine Below.trans ?_ (Below.mono (by assumption) (by omega)))))), (by repeat (first | with_reducible exact Ext.refl _ | refine Ext.drewN ?_ _ | refine Ext.drew ?_ | refine Ext.alloc ?_ _ | assumption | (refine Below.trans ?_ (by assumption)) | (refine Ext.trans ?_ (by assumption)) | (refine Below.trans ?_ (Below.mono (by assumption) (by omega)))))⟩
          case measure => simp [intOf]
    · obtain rfl : r1 = true := hr1.out.resolve_left (by omega)
      obtain rfl : r2 = true := hr2.out.resolve_left (by omega)
      go_wp2
      go_ret
      exact ⟨rfl, (by repeat (first | with_reducible exact Ext.refl _ | refine Ext.drewN ?_ _ | refine Ext.drew ?_ | refine Ext.alloc ?_ _ | assumption | (refine Below.trans ?_ (by assumption)) | (refine Ext.trans ?_ (by assumption)) | (refine Below.trans ?_ (Below.mono (by assumption) (by omega)))))⟩
theorem asks_all {k1 k2 : Nat} {b1 f1 b2 f2 : Array Value} {t1 t2 : Pr → Bool} {n : Nat} {w : World} (h : Two2 w n k1 b1 f1 k2 b2 f2) (h1 : Asks k1 b1 f1 t1 w) (h2 : Asks k2 b2 f2 t2 w) : Asks 66 #[] #[.pointer (some ⟨n, 0, none⟩)] (fun p => t1 p && t2 p) w :=
  ⟨enters_all, fun p w' hp hE => all1_any n p w' hp (by obtain ⟨b, x, y⟩ := h; exact ⟨b, x.ext hE, y.ext hE⟩) (h1.ext hE) (h2.ext hE)⟩
set_option maxHeartbeats 400000 in
theorem all_any {k1 k2 : Nat} {b1 f1 b2 f2 : Array Value} {t1 t2 : Pr → Bool} (b : Nat) (w : World) (hb : Blk w b 73 #[.func (.func k1) b1 f1, .func (.func k2) b2 f2]) (h1 : Asks k1 b1 f1 t1 w) (h2 : Asks k2 b2 f2 t2 w) :
    Calls Tryz.prog 35 #[.slice (some ⟨b, 0, none⟩) 2 2] w fun e w' => ∃ n, e = .returned (.func (.func 66) #[] #[.pointer (some ⟨n, 0, none⟩)]) ∧ Asks 66 #[] #[.pointer (some ⟨n, 0, none⟩)] (fun p => t1 p && t2 p) w' ∧ Ext w w' := by
  have HB := Lib.hid hb
  have H1 := Lib.hid h1
  have H2 := Lib.hid h2
  clear hb h1 h2
  go_enter Tryz.func35, Tryz.ntmps35
  go_wp2
  go_ret
  have E : Ext w (w.alloc (.cells #[.slice (some ⟨b, 0, none⟩) 2 2] 112)) := (by repeat (first | with_reducible exact Ext.refl _ | refine Ext.drewN ?_ _ | refine Ext.drew ?_ | refine Ext.alloc ?_ _ | assumption | (refine Below.trans ?_ (by assumption)) | (refine Ext.trans ?_ (by assumption)) | (refine Below.trans ?_ (Below.mono (by assumption) (by omega)))))
  exact ⟨_, rfl, asks_all ⟨b, Blk.new _ _ _, HB.out.ext E⟩ (H1.out.ext E) (H2.out.ext E), E⟩
def zeroP : Pr := ⟨0, 0, 0, 0, 0, 0, 0, 0, 0, List.replicate 32 0, 0, false⟩
theorem zeroP_ok : zeroP.ok := rfl
/-- the first process that a test holds of -/
def FindPost (f : Pr → Bool) (l : List Pr) (Ad : Option Addr) (w : World) (e : Ending) (w' : World) : Prop :=
  Ext w w' ∧ ((idxL f l = -1 ∧ ∃ n, e = .returned (.tuple #[.pointer (some ⟨n, 0, none⟩), .bool false]) ∧ w.heap.size ≤ n ∧ Blk w' n 42 zeroP.cells.toArray) ∨
    ∃ (j : Nat) (b off : Nat), idxL f l = j ∧ j < l.length ∧ Ad = some ⟨b, off, none⟩ ∧ e = .returned (.tuple #[.pointer (some ⟨b, off + j * 43, none⟩), .bool true]))
theorem idx_lt {f : Pr → Bool} {l : List Pr} : idxL f l = -1 ∨ ∃ j : Nat, idxL f l = j ∧ j < l.length := by
  unfold idxL
  cases h : l.findIdx? f with
  | none => exact .inl rfl
  | some i => exact .inr ⟨i, rfl, by have := List.findIdx?_eq_some_iff_getElem.1 h; exact this.1⟩
set_option maxRecDepth 100000 in
set_option maxHeartbeats 800000 in
theorem find_any {A : Nat → Prop} {k : Nat} {bs fs : Array Value} {f : Pr → Bool} (Ad : Option Addr) (c : Nat) (l : List Pr) (nx : Int) (w : World) (h : RdY Rp A w (.slice Ad l.length c) l) (hf : Asks k bs fs f w) :
    Calls Tryz.prog 34 #[.agg #[.slice Ad l.length c, .int .i64 nx], .func (.func k) bs fs] w (FindPost f l Ad w) := by
  have H := Lib.hid (h.mono (B := fun _ => True) fun _ _ _ => trivial)
  have HF := Lib.hid hf
  obtain ⟨_, _, hv, hc1, hc2⟩ := h.shape
  simp only [Value.slice.injEq] at hv
  obtain ⟨-, -, rfl⟩ := hv
  clear h hf
  rcases idx_lt (f := f) (l := l) with hx | ⟨j, hx, hlt⟩
  · have HX := Lib.hid hx
    clear hx
    go_enter Tryz.func34, Tryz.ntmps34
    go_wp2_with fail
    refine (index_any k bs fs f _ l _ (H.out.ext (by repeat (first | with_reducible exact Ext.refl _ | refine Ext.drewN ?_ _ | refine Ext.drew ?_ | refine Ext.alloc ?_ _ | assumption | (refine Below.trans ?_ (by assumption)) | (refine Ext.trans ?_ (by assumption)) | (refine Below.trans ?_ (Below.mono (by assumption) (by omega)))))) (HF.out.ext (by repeat (first | with_reducible exact Ext.refl _ | refine Ext.drewN ?_ _ | refine Ext.drew ?_ | refine Ext.alloc ?_ _ | assumption | (refine Below.trans ?_ (by assumption)) | (refine Ext.trans ?_ (by assumption)) | (refine Below.trans ?_ (Below.mono (by assumption) (by omega))))))).mono ?_
    rintro e w1 ⟨rfl, E1⟩
    rw [HX.out]
    go_wp2
    go_ret2
    exact ⟨(by repeat (first | with_reducible exact Ext.refl _ | refine Ext.drewN ?_ _ | refine Ext.drew ?_ | refine Ext.alloc ?_ _ | assumption | (refine Below.trans ?_ (by assumption)) | (refine Ext.trans ?_ (by assumption)) | (refine Below.trans ?_ (Below.mono (by assumption) (by omega))))), .inl ⟨HX.out, _, rfl, by have := E1.size; simp at this; omega, Blk.at_ _ _ rfl⟩⟩
  · have HX := Lib.hid hx
    obtain ⟨b, off, p, rfl, -, -, -⟩ := pr_at H.out hlt
    have j0 : ¬ ((j : Int) < 0) := by omega
    have j1 : (0 : Int) ≤ (j : Int) := by omega
    have j2 : (j : Int) < (l.length : Int) := by omega
    clear hx
    go_enter Tryz.func34, Tryz.ntmps34
    go_wp2_with fail
    refine (index_any k bs fs f _ l _ (H.out.ext (by repeat (first | with_reducible exact Ext.refl _ | refine Ext.drewN ?_ _ | refine Ext.drew ?_ | refine Ext.alloc ?_ _ | assumption | (refine Below.trans ?_ (by assumption)) | (refine Ext.trans ?_ (by assumption)) | (refine Below.trans ?_ (Below.mono (by assumption) (by omega)))))) (HF.out.ext (by repeat (first | with_reducible exact Ext.refl _ | refine Ext.drewN ?_ _ | refine Ext.drew ?_ | refine Ext.alloc ?_ _ | assumption | (refine Below.trans ?_ (by assumption)) | (refine Ext.trans ?_ (by assumption)) | (refine Below.trans ?_ (Below.mono (by assumption) (by omega))))))).mono ?_
    rintro e w1 ⟨rfl, E1⟩
    rw [HX.out]
    have B1 := Blk.ext (Blk.new w 29 #[.slice (some ⟨b, off, none⟩) l.length c, .int .i64 nx]) E1
    obtain ⟨q0, q1, _, _⟩ := B1.two
    go_wp2
    go_ret2
    exact ⟨(by repeat (first | with_reducible exact Ext.refl _ | refine Ext.drewN ?_ _ | refine Ext.drew ?_ | refine Ext.alloc ?_ _ | assumption | (refine Below.trans ?_ (by assumption)) | (refine Ext.trans ?_ (by assumption)) | (refine Below.trans ?_ (Below.mono (by assumption) (by omega))))), .inr ⟨j, b, off, HX.out, hlt, rfl, rfl⟩⟩
end Go.Proofs.YteljobleojhgmaaGreat
namespace Go.Proofs.YteljobleojhgmaaGreat
open Go.RowKit Go.Kb

theorem Pr.one {p : Pr} (h : p.ok) : p.cells.toArray.all (·.oneCell') = true := all_oneCell_toArray (Rp.one (A := fun _ => True) (w := (default : World)) (d := p) ⟨rfl, h⟩)
def rise (nx : Int) : Int → List Pr → Bool
  | _, [] => true
  | last, p :: r => decide (last < p.pid) && (decide (p.pid < nx) && rise nx p.pid r)
def rightL (l : List Pr) (nx : Int) : Bool := decide (1 ≤ nx) && (decide (l.length ≤ 32) && rise nx 0 l)
theorem right_len {l : List Pr} {nx : Int} (h : rightL l nx = true) : l.length ≤ 32 ∧ 1 ≤ nx := by
  simp only [rightL, Bool.and_eq_true, decide_eq_true_eq] at h
  exact ⟨h.2.1, h.1⟩
set_option maxRecDepth 100000 in
set_option maxHeartbeats 800000 in
theorem right_any {A : Nat → Prop} (Ad : Option Addr) (c : Nat) (l : List Pr) (nx : Int) (w : World) (h : RdY Rp A w (.slice Ad l.length c) l) :
    Calls Tryz.prog 30 #[.agg #[.slice Ad l.length c, .int .i64 nx]] w fun e w' => e = .returned (.bool (rightL l nx)) ∧ Ext w w' := by
  have H := Lib.hid (h.mono (B := fun _ => True) fun _ _ _ => trivial)
  obtain ⟨_, _, hv, hc1, hc2⟩ := h.shape
  simp only [Value.slice.injEq] at hv
  obtain ⟨-, -, rfl⟩ := hv
  obtain ⟨n, hn⟩ : ∃ n, l.length = n := ⟨_, rfl⟩
  have hR : rightL l nx = (decide (1 ≤ nx) && (decide (n ≤ 32) && rise nx 0 l)) := by rw [← hn]; rfl
  rw [hn] at H hc1 ⊢
  have HN := Lib.hid hn
  have HR := Lib.hid hR
  clear h hn hR
  by_cases h1 : nx < 1
  · go_enter Tryz.func30, Tryz.ntmps30
    go_wp2
    go_ret
    exact ⟨by rw [HR.out, decide_eq_false (by omega)]; rfl, (by repeat (first | with_reducible exact Ext.refl _ | refine Ext.drewN ?_ _ | refine Ext.drew ?_ | refine Ext.alloc ?_ _ | assumption | (refine Below.trans ?_ (by assumption)) | (refine Ext.trans ?_ (by assumption)) | (refine Below.trans ?_ (Below.mono (by assumption) (by omega)))))⟩
  by_cases h2 : 32 < n
  · have h3 : (32 : Int) < n := by omega
    go_enter Tryz.func30, Tryz.ntmps30
    go_wp2
    go_ret
    exact ⟨by rw [HR.out, decide_eq_true (show 1 ≤ nx by omega), decide_eq_false (show ¬ n ≤ 32 by omega)]; rfl, (by repeat (first | with_reducible exact Ext.refl _ | refine Ext.drewN ?_ _ | refine Ext.drew ?_ | refine Ext.alloc ?_ _ | assumption | (refine Below.trans ?_ (by assumption)) | (refine Ext.trans ?_ (by assumption)) | (refine Below.trans ?_ (Below.mono (by assumption) (by omega)))))⟩
  have h3 : ¬ ((32 : Int) < n) := by omega
  have HR2 : Hid (rightL l nx = rise nx 0 l) := Lib.hid (by rw [HR.out, decide_eq_true (show 1 ≤ nx by omega), decide_eq_true (show n ≤ 32 by omega)]; rfl)
  clear HR
  have hbox := Lib.hid (Blk.new w 29 #[.slice Ad n c, .int .i64 nx])
  go_enter Tryz.func30, Tryz.ntmps30
  go_wp2
  go_loopw [3, 18] (fun s i wr => ∃ (m : Nat) (last : Int), m ≤ n ∧ i = .int .i64 m ∧ s = .int .i64 last ∧ Hid (rise nx 0 l = rise nx last (l.drop m)) ∧ Hid (Blk wr w.heap.size 29 #[.slice Ad n c, .int .i64 nx]) ∧ Ext w wr) (fun _ i _ => n - (intOf i).toNat)
  case atStart => exact ⟨0, 0, Nat.zero_le _, rfl, rfl, Lib.hid rfl, hbox, (by repeat (first | with_reducible exact Ext.refl _ | refine Ext.drewN ?_ _ | refine Ext.drew ?_ | refine Ext.alloc ?_ _ | assumption | (refine Below.trans ?_ (by assumption)) | (refine Ext.trans ?_ (by assumption)) | (refine Below.trans ?_ (Below.mono (by assumption) (by omega)))))⟩
  case round =>
    clear hbox
    obtain ⟨m, last, hm, rfl, rfl, HD, hbox, hE⟩ := hrel
    by_cases hlt : m < n
    · obtain ⟨b, off, p, rfl, hd, hok, hcell⟩ := pr_at (H.out.ext hE) hlt
      have hsp : l.drop m = p :: l.drop (m + 1) := by
        obtain ⟨hl, hx⟩ := List.getElem?_eq_some_iff.1 hd.out
        rw [List.drop_eq_getElem_cons hl, hx]
      have HS : Hid (rise nx last (l.drop m) = (decide (last < p.pid) && (decide (p.pid < nx) && rise nx p.pid (l.drop (m + 1))))) := Lib.hid (by rw [hsp]; rfl)
      obtain ⟨_, q1, _, _⟩ := hbox.out.two
      have hs := hE.size
      clear hsp
      by_cases k1 : p.pid ≤ last
      · go_wp2_with (first
          | (refine wpList_load_mid rfl 42 _ rfl b (off + m * 43) rfl p.cells _ hcell.out Tryz.underlying42 rfl (i43' hok) ?_)
          | ((refine wpList_store_A rfl 42 _ _ rfl wr.heap.size _ rfl rfl 42 _ (Blk.at_ _ _ (by simp)) (by rw [List.size_toArray]; exact i43' hok) (by rw [show p.cells.toArray.size = 43 from Pr.size hok]; rfl) (Pr.one hok) ?_; intro w2 Hw2 Ew2; have Ew2 := Ew2 wr.heap.size wr (by repeat (first | with_reducible exact Ext.refl _ | refine Ext.drewN ?_ _ | refine Ext.drew ?_ | refine Ext.alloc ?_ _ | assumption | (refine Below.trans ?_ (by assumption)) | (refine Ext.trans ?_ (by assumption)) | (refine Below.trans ?_ (Below.mono (by assumption) (by omega))))) (Nat.le_refl _); have cw2 := prAt_blk hok Hw2); have c0 := cw2.c0))
        go_ret
        exact ⟨by rw [HR2.out, HD.out, HS.out, decide_eq_false (show ¬ last < p.pid by omega)]; rfl, (by repeat (first | with_reducible exact Ext.refl _ | refine Ext.drewN ?_ _ | refine Ext.drew ?_ | refine Ext.alloc ?_ _ | assumption | (refine Below.trans ?_ (by assumption)) | (refine Ext.trans ?_ (by assumption)) | (refine Below.trans ?_ (Below.mono (by assumption) (by omega)))))⟩
      by_cases k2 : nx ≤ p.pid
      · go_wp2_with (first
          | (refine wpList_load_mid rfl 42 _ rfl b (off + m * 43) rfl p.cells _ hcell.out Tryz.underlying42 rfl (i43' hok) ?_)
          | ((refine wpList_store_A rfl 42 _ _ rfl wr.heap.size _ rfl rfl 42 _ (Blk.at_ _ _ (by simp)) (by rw [List.size_toArray]; exact i43' hok) (by rw [show p.cells.toArray.size = 43 from Pr.size hok]; rfl) (Pr.one hok) ?_; intro w2 Hw2 Ew2; have Ew2 := Ew2 wr.heap.size wr (by repeat (first | with_reducible exact Ext.refl _ | refine Ext.drewN ?_ _ | refine Ext.drew ?_ | refine Ext.alloc ?_ _ | assumption | (refine Below.trans ?_ (by assumption)) | (refine Ext.trans ?_ (by assumption)) | (refine Below.trans ?_ (Below.mono (by assumption) (by omega))))) (Nat.le_refl _); have cw2 := prAt_blk hok Hw2); have c0 := cw2.c0; have q1 := cell_ext Ew2 q1))
        go_ret
        exact ⟨by rw [HR2.out, HD.out, HS.out, decide_eq_true (show last < p.pid by omega), decide_eq_false (show ¬ p.pid < nx by omega)]; rfl, (by repeat (first | with_reducible exact Ext.refl _ | refine Ext.drewN ?_ _ | refine Ext.drew ?_ | refine Ext.alloc ?_ _ | assumption | (refine Below.trans ?_ (by assumption)) | (refine Ext.trans ?_ (by assumption)) | (refine Below.trans ?_ (Below.mono (by assumption) (by omega)))))⟩
      · go_wp2_with (first
          | (refine wpList_load_mid rfl 42 _ rfl b (off + m * 43) rfl p.cells _ hcell.out Tryz.underlying42 rfl (i43' hok) ?_)
          | ((refine wpList_store_A rfl 42 _ _ rfl wr.heap.size _ rfl rfl 42 _ (Blk.at_ _ _ (by simp)) (by rw [List.size_toArray]; exact i43' hok) (by rw [show p.cells.toArray.size = 43 from Pr.size hok]; rfl) (Pr.one hok) ?_; intro w2 Hw2 Ew2; have Ew2 := Ew2 wr.heap.size wr (by repeat (first | with_reducible exact Ext.refl _ | refine Ext.drewN ?_ _ | refine Ext.drew ?_ | refine Ext.alloc ?_ _ | assumption | (refine Below.trans ?_ (by assumption)) | (refine Ext.trans ?_ (by assumption)) | (refine Below.trans ?_ (Below.mono (by assumption) (by omega))))) (Nat.le_refl _); have cw2 := prAt_blk hok Hw2); have c0 := cw2.c0; have q1 := cell_ext Ew2 q1; have hbox := Lib.hid (hbox.out.ext Ew2)))
        go_roundw
        case rel => exact ⟨m + 1, p.pid, by omega, by go_num, rfl, Lib.hid (by rw [HD.out, HS.out, decide_eq_true (show last < p.pid by omega), decide_eq_true (show p.pid < nx by omega)]; rfl), hbox, (by repeat (first | with_reducible exact Ext.refl _ | refine Ext.drewN ?_ _ | refine Ext.drew ?_ | refine Ext.alloc ?_ _ | assumption | (refine Below.trans ?_ (by assumption)) | (refine Ext.trans ?_ (by assumption)) | (refine Below.trans ?_ (Below.mono (by assumption) (by omega)))))⟩
        case measure => simp [intOf]; omega
    · go_wp2
      go_ret
      refine ⟨?_, (by repeat (first | with_reducible exact Ext.refl _ | refine Ext.drewN ?_ _ | refine Ext.drew ?_ | refine Ext.alloc ?_ _ | assumption | (refine Below.trans ?_ (by assumption)) | (refine Ext.trans ?_ (by assumption)) | (refine Below.trans ?_ (Below.mono (by assumption) (by omega)))))⟩
      rw [HR2.out, HD.out, List.drop_of_length_le (by have := HN.out; omega)]
      rfl
end Go.Proofs.YteljobleojhgmaaGreat
namespace Go.Proofs.YteljobleojhgmaaGreat
open Go.RowKit Go.Kb

theorem idx_any {f : Pr → Bool} {l : List Pr} : (idxL f l = -1 ∧ l.any f = false) ∨ ∃ (j : Nat) (p : Pr), idxL f l = j ∧ l[j]? = some p ∧ f p = true ∧ l.any f = true ∧ l.find? f = some p := by
  unfold idxL
  cases h : l.findIdx? f with
  | none => exact .inl ⟨rfl, by rw [List.findIdx?_eq_none_iff] at h; rw [List.any_eq_false]; intro x hx; simp [h x hx]⟩
  | some i =>
    rw [List.findIdx?_eq_some_iff_getElem] at h
    obtain ⟨hlt, hf, hm⟩ := h
    refine .inr ⟨i, l[i], rfl, List.getElem?_eq_getElem hlt, hf, List.any_eq_true.2 ⟨_, List.getElem_mem hlt, hf⟩, ?_⟩
    rw [List.find?_eq_some_iff_getElem]
    exact ⟨hf, i, hlt, rfl, fun j hj => by have := hm j hj; simpa using this⟩
/-- a table in a box -/
abbrev Tb (w : World) (n : Nat) (Ad : Option Addr) (k c : Nat) (nx : Int) : Prop := Blk w n 29 #[.slice Ad k c, .int .i64 nx]
def liveL (l : List Pr) (nx pid : Int) : Bool := rightL l nx && l.any fun p => p.pid == pid && liveP p
set_option maxRecDepth 100000 in
set_option maxHeartbeats 800000 in
theorem live_any {A : Nat → Prop} (Ad : Option Addr) (c : Nat) (l : List Pr) (nx pid : Int) (w : World) (h : RdY Rp A w (.slice Ad l.length c) l) :
    Calls Tryz.prog 41 #[.agg #[.slice Ad l.length c, .int .i64 nx], .int .i64 pid] w fun e w' => e = .returned (.bool (liveL l nx pid)) ∧ Ext w w' := by
  have H := Lib.hid (h.mono (B := fun _ => True) fun _ _ _ => trivial)
  have hbox := Lib.hid (Blk.new w 29 #[.slice Ad l.length c, .int .i64 nx])
  obtain ⟨n, hn⟩ : ∃ n, l.length = n := ⟨_, rfl⟩
  have HN := Lib.hid hn
  clear h hn
  cases hr : rightL l nx
  · have HR := Lib.hid hr
    clear hr
    go_enter Tryz.func41, Tryz.ntmps41
    go_wp2_with fail
    refine (right_any Ad c l nx _ (H.out.ext (by repeat (first | with_reducible exact Ext.refl _ | refine Ext.drewN ?_ _ | refine Ext.drew ?_ | refine Ext.alloc ?_ _ | assumption | (refine Below.trans ?_ (by assumption)) | (refine Ext.trans ?_ (by assumption)) | (refine Below.trans ?_ (Below.mono (by assumption) (by omega))))))).mono ?_
    rintro e w1 ⟨rfl, E1⟩
    rw [HR.out]
    go_wp2
    go_ret
    exact ⟨by unfold liveL; rw [HR.out]; rfl, (by repeat (first | with_reducible exact Ext.refl _ | refine Ext.drewN ?_ _ | refine Ext.drew ?_ | refine Ext.alloc ?_ _ | assumption | (refine Below.trans ?_ (by assumption)) | (refine Ext.trans ?_ (by assumption)) | (refine Below.trans ?_ (Below.mono (by assumption) (by omega)))))⟩
  · have HR := Lib.hid hr
    clear hr
    go_enter Tryz.func41, Tryz.ntmps41
    go_wp2_with fail
    refine (right_any Ad c l nx _ (H.out.ext (by repeat (first | with_reducible exact Ext.refl _ | refine Ext.drewN ?_ _ | refine Ext.drew ?_ | refine Ext.alloc ?_ _ | assumption | (refine Below.trans ?_ (by assumption)) | (refine Ext.trans ?_ (by assumption)) | (refine Below.trans ?_ (Below.mono (by assumption) (by omega))))))).mono ?_
    rintro e w1 ⟨rfl, E1⟩
    rw [HR.out]
    have hbox := Lib.hid (hbox.out.ext E1)
    have E01 : Ext w w1 := (by repeat (first | with_reducible exact Ext.refl _ | refine Ext.drewN ?_ _ | refine Ext.drew ?_ | refine Ext.alloc ?_ _ | assumption | (refine Below.trans ?_ (by assumption)) | (refine Ext.trans ?_ (by assumption)) | (refine Below.trans ?_ (Below.mono (by assumption) (by omega)))))
    clear E1
    go_wp2
    refine wp_region_held_drew (S := fun w' => Ext w1 w') (by kernel_rfl) (Ext.drew (Ext.refl _)) (fun hHeld => ?_)
    (refine wpAnyH_take (i := 0) (v := ?_) rfl (by kernel_rfl) (by kernel_rfl) (by kernel_rfl) (fun _ _ _ h => h) (Or.inl ⟨by rfl, ?_⟩) (by assumption) ?_; rotate_left; (focus (intro w' hSw; have kc := (hbox.out.ext hSw).two; go_simp; try with_reducible rfl)); (try simp only [List.getElem_toArray]); (try simp only [List.getElem_cons_succ]); (try simp only [List.getElem_cons_zero]); (try simp only [Act.put]); (try simp only [List.setIfInBounds_toArray]); (try simp only [List.set_cons_succ]); (try simp only [List.set_cons_zero]))
    (refine wpAnyH_take (i := 1) (v := ?_) rfl (by kernel_rfl) (by kernel_rfl) (by kernel_rfl) (fun _ _ _ h => h) (Or.inl ⟨by rfl, ?_⟩) (by assumption) ?_; rotate_left; (focus (intro w' hSw; go_simp; try with_reducible rfl)); (try simp only [List.getElem_toArray]); (try simp only [List.getElem_cons_succ]); (try simp only [List.getElem_cons_zero]); (try simp only [Act.put]); (try simp only [List.setIfInBounds_toArray]); (try simp only [List.set_cons_succ]); (try simp only [List.set_cons_zero]))
    (refine wpAnyH_ready (rs := [2]) (by kernel_rfl) (by simp) ?_; refine AllReadyH.cons rfl (fun K hK => ?_) AllReadyH.nil; go_simp; go_at_call 44; refine (is_any pid _).mono ?_; rintro e w2 ⟨n2, rfl, F2, E2⟩; (try dsimp only); refine hK.out _ _ (by repeat (first | with_reducible exact Ext.refl _ | refine Ext.drewN ?_ _ | refine Ext.drew ?_ | refine Ext.alloc ?_ _ | assumption | (refine Below.trans ?_ (by assumption)) | (refine Ext.trans ?_ (by assumption)) | (refine Below.trans ?_ (Below.mono (by assumption) (by omega))))) (fun hHeld => ?_); clear hK K; (try simp only [Act.put]); (try simp only [List.getElem_toArray]); (try simp only [List.getElem_cons_succ]); (try simp only [List.getElem_cons_zero]); (try simp only [List.setIfInBounds_toArray]); (try simp only [List.set_cons_succ]); (try simp only [List.set_cons_zero]))
    (refine wpAnyH_ready (rs := [3]) (by kernel_rfl) (by simp) ?_; refine AllReadyH.cons rfl (fun K hK => ?_) AllReadyH.nil; go_simp; refine hK.out _ _ (by repeat (first | with_reducible exact Ext.refl _ | refine Ext.drewN ?_ _ | refine Ext.drew ?_ | refine Ext.alloc ?_ _ | assumption | (refine Below.trans ?_ (by assumption)) | (refine Ext.trans ?_ (by assumption)) | (refine Below.trans ?_ (Below.mono (by assumption) (by omega))))) (fun hHeld => ?_); clear hK K; (try simp only [Act.put]); (try simp only [List.getElem_toArray]); (try simp only [List.getElem_cons_succ]); (try simp only [List.getElem_cons_zero]); (try simp only [List.setIfInBounds_toArray]); (try simp only [List.set_cons_succ]); (try simp only [List.set_cons_zero]))
    (refine wpAnyH_ready (rs := [4]) (by kernel_rfl) (by simp) ?_; refine AllReadyH.cons rfl (fun K hK => ?_) AllReadyH.nil; go_simp; go_at_call 35; refine (all_any (t1 := fun p => p.pid == pid) (t2 := liveP) _ _ (Blk.at_ _ _ rfl) (F2.ext ((Ext.refl _).alloc _)) (asks_lives _)).mono ?_; rintro e w3 ⟨n3, rfl, F3, E3⟩; (try dsimp only); refine hK.out _ _ (by repeat (first | with_reducible exact Ext.refl _ | refine Ext.drewN ?_ _ | refine Ext.drew ?_ | refine Ext.alloc ?_ _ | assumption | (refine Below.trans ?_ (by assumption)) | (refine Ext.trans ?_ (by assumption)) | (refine Below.trans ?_ (Below.mono (by assumption) (by omega))))) (fun hHeld => ?_); clear hK K; (try simp only [Act.put]); (try simp only [List.getElem_toArray]); (try simp only [List.getElem_cons_succ]); (try simp only [List.getElem_cons_zero]); (try simp only [List.setIfInBounds_toArray]); (try simp only [List.set_cons_succ]); (try simp only [List.set_cons_zero]))
    have E13 : Ext w1 w3 := by assumption
    have hfind := find_any Ad c l nx w3 (H.out.ext (E01.trans E13)) F3
    (refine wpAnyH_ready (rs := [5]) (by kernel_rfl) (by simp) ?_; refine AllReadyH.cons rfl (fun K hK => ?_) AllReadyH.nil; go_simp; go_at_call 34; refine (hfind).mono ?_; rintro e w4 ⟨E4, (⟨hx, m0, rfl, hm0, hz⟩ | ⟨j, b, off, hx, hlt, rfl, rfl⟩)⟩; all_goals ((try dsimp only); refine hK.out _ _ (by repeat (first | with_reducible exact Ext.refl _ | refine Ext.drewN ?_ _ | refine Ext.drew ?_ | refine Ext.alloc ?_ _ | assumption | (refine Below.trans ?_ (by assumption)) | (refine Ext.trans ?_ (by assumption)) | (refine Below.trans ?_ (Below.mono (by assumption) (by omega))))) (fun hHeld => ?_); clear hK K; (try simp only [Act.put]); (try simp only [List.getElem_toArray]); (try simp only [List.getElem_cons_succ]); (try simp only [List.getElem_cons_zero]); (try simp only [List.setIfInBounds_toArray]); (try simp only [List.set_cons_succ]); (try simp only [List.set_cons_zero])))
    all_goals
      (refine wpAnyH_take (i := 6) (v := ?_) rfl (by kernel_rfl) (by kernel_rfl) (by kernel_rfl) (fun _ _ _ h => h) (Or.inl ⟨by rfl, ?_⟩) (by assumption) ?_; rotate_left; (focus (intro w' hSw; go_simp; try with_reducible rfl)); (try simp only [List.getElem_toArray]); (try simp only [List.getElem_cons_succ]); (try simp only [List.getElem_cons_zero]); (try simp only [Act.put]); (try simp only [List.setIfInBounds_toArray]); (try simp only [List.set_cons_succ]); (try simp only [List.set_cons_zero]))
      (refine wpAnyH_take (i := 7) (v := ?_) rfl (by kernel_rfl) (by kernel_rfl) (by kernel_rfl) (fun _ _ _ h => h) (Or.inl ⟨by rfl, ?_⟩) (by assumption) ?_; rotate_left; (focus (intro w' hSw; go_simp; try with_reducible rfl)); (try simp only [List.getElem_toArray]); (try simp only [List.getElem_cons_succ]); (try simp only [List.getElem_cons_zero]); (try simp only [Act.put]); (try simp only [List.setIfInBounds_toArray]); (try simp only [List.set_cons_succ]); (try simp only [List.set_cons_zero]))
      (refine wpAnyH_take (i := 8) (v := ?_) rfl (by kernel_rfl) (by kernel_rfl) (by kernel_rfl) (fun _ _ _ h => h) (Or.inl ⟨by rfl, ?_⟩) (by assumption) ?_; rotate_left; (focus (intro w' hSw; go_simp; try with_reducible rfl)); (try simp only [List.getElem_toArray]); (try simp only [List.getElem_cons_succ]); (try simp only [List.getElem_cons_zero]); (try simp only [Act.put]); (try simp only [List.setIfInBounds_toArray]); (try simp only [List.set_cons_succ]); (try simp only [List.set_cons_zero]))
      (refine wpAnyH_take (i := 9) (v := ?_) rfl (by kernel_rfl) (by kernel_rfl) (by kernel_rfl) (fun _ _ _ h => h) (Or.inl ⟨by rfl, ?_⟩) (by assumption) ?_; rotate_left; (focus (intro w' hSw; go_simp; try with_reducible rfl)); (try simp only [List.getElem_toArray]); (try simp only [List.getElem_cons_succ]); (try simp only [List.getElem_cons_zero]); (try simp only [Act.put]); (try simp only [List.setIfInBounds_toArray]); (try simp only [List.set_cons_succ]); (try simp only [List.set_cons_zero]))
      (refine wpAnyH_take (i := 10) (v := ?_) rfl (by kernel_rfl) (by kernel_rfl) (by kernel_rfl) (fun _ _ _ h => h) (Or.inl ⟨by rfl, ?_⟩) (by assumption) ?_; rotate_left; (focus (intro w' hSw; go_simp; try with_reducible rfl)); (try simp only [List.getElem_toArray]); (try simp only [List.getElem_cons_succ]); (try simp only [List.getElem_cons_zero]); (try simp only [Act.put]); (try simp only [List.setIfInBounds_toArray]); (try simp only [List.set_cons_succ]); (try simp only [List.set_cons_zero]))
      refine wpAnyH_done (by kernel_rfl) ?_ _
      go_wp2
      go_ret
      refine ⟨?_, E01.trans (by assumption)⟩
      unfold liveL
      rw [HR.out]
      rcases idx_any (f := fun p => p.pid == pid && liveP p) (l := l) with ⟨h1, h2⟩ | ⟨j', p, h1, h2, h3, h4, h5⟩
      all_goals first
        | (rw [h2]; rfl)
        | (rw [h4]; rfl)
        | (rw [h1] at hx; omega)
end Go.Proofs.YteljobleojhgmaaGreat
namespace Go.Proofs.YteljobleojhgmaaGreat
open Go.RowKit Go.Kb

def getL (l : List Pr) (nx pid : Int) : Pr × Bool := if rightL l nx = true then (match l.find? (fun p => p.pid == pid) with | some p => (p, true) | none => (zeroP, false)) else (zeroP, false)
theorem getL_ok {l : List Pr} {nx pid : Int} (h : ∀ p ∈ l, p.ok) : (getL l nx pid).1.ok := by
  unfold getL
  split
  · split
    · rename_i p hp; exact h p (List.mem_of_find?_eq_some hp)
    · exact zeroP_ok
  · exact zeroP_ok
theorem RdY.oks {A : Nat → Prop} {w : World} {v : Value} {l : List Pr} (h : RdY Rp A w v l) : ∀ p ∈ l, p.ok := by
  intro p hp
  obtain ⟨j, hj, rfl⟩ := List.getElem_of_mem hp
  obtain ⟨us, _, he⟩ := h
  exact (he.2 j _ (List.getElem?_eq_getElem hj)).2
theorem i43z : (Tryz.prog.info? 42).map (·.size) = some zeroP.cells.toArray.size := by rw [List.size_toArray]; exact i43' zeroP_ok
theorem zero_row (w : World) (n : Nat) (hn : w.heap.size = n) : Blk (w.alloc (.cells #[.int .i64 0, .int .i64 0, .int .i64 0, .int .i64 0, .int .i64 0, .int .i64 0, .int .i64 0, .int .u64 0, .int .u64 0, .int .i64 0, .int .i64 0, .int .i64 0, .int .i64 0, .int .i64 0, .int .i64 0, .int .i64 0, .int .i64 0, .int .i64 0, .int .i64 0, .int .i64 0, .int .i64 0, .int .i64 0, .int .i64 0, .int .i64 0, .int .i64 0, .int .i64 0, .int .i64 0, .int .i64 0, .int .i64 0, .int .i64 0, .int .i64 0, .int .i64 0, .int .i64 0, .int .i64 0, .int .i64 0, .int .i64 0, .int .i64 0, .int .i64 0, .int .i64 0, .int .i64 0, .int .i64 0, .int .i64 0, .bool false] 42)) n 42 zeroP.cells.toArray := Blk.at_ _ _ hn
set_option maxRecDepth 100000 in
set_option maxHeartbeats 800000 in
theorem get_any {A : Nat → Prop} (Ad : Option Addr) (c : Nat) (l : List Pr) (nx pid : Int) (w : World) (h : RdY Rp A w (.slice Ad l.length c) l) :
    Calls Tryz.prog 18 #[.agg #[.slice Ad l.length c, .int .i64 nx], .int .i64 pid] w fun e w' => e = .returned (.tuple #[.agg (getL l nx pid).1.cells.toArray, .bool (getL l nx pid).2]) ∧ Ext w w' := by
  have H := Lib.hid (h.mono (B := fun _ => True) fun _ _ _ => trivial)
  have hbox := Lib.hid (Blk.new w 29 #[.slice Ad l.length c, .int .i64 nx])
  have hzr := Lib.hid (zero_row (w.alloc (.cells #[.slice Ad l.length c, .int .i64 nx] 29)) (w.heap.size + 1) (by simp))
  have hbox := Lib.hid (hbox.out.ext ((Ext.refl _).alloc (.cells #[.int .i64 0, .int .i64 0, .int .i64 0, .int .i64 0, .int .i64 0, .int .i64 0, .int .i64 0, .int .u64 0, .int .u64 0, .int .i64 0, .int .i64 0, .int .i64 0, .int .i64 0, .int .i64 0, .int .i64 0, .int .i64 0, .int .i64 0, .int .i64 0, .int .i64 0, .int .i64 0, .int .i64 0, .int .i64 0, .int .i64 0, .int .i64 0, .int .i64 0, .int .i64 0, .int .i64 0, .int .i64 0, .int .i64 0, .int .i64 0, .int .i64 0, .int .i64 0, .int .i64 0, .int .i64 0, .int .i64 0, .int .i64 0, .int .i64 0, .int .i64 0, .int .i64 0, .int .i64 0, .int .i64 0, .int .i64 0, .bool false] 42)))
  clear h
  cases hr : rightL l nx
  · have HR := Lib.hid (show getL l nx pid = (zeroP, false) by unfold getL; rw [hr]; rfl)
    have HR0 := Lib.hid hr
    clear hr
    rw [HR.out]
    go_enter Tryz.func18, Tryz.ntmps18
    go_wp2_with fail
    refine (right_any Ad c l nx _ (H.out.ext (by repeat (first | with_reducible exact Ext.refl _ | refine Ext.drewN ?_ _ | refine Ext.drew ?_ | refine Ext.alloc ?_ _ | assumption | (refine Below.trans ?_ (by assumption)) | (refine Ext.trans ?_ (by assumption)) | (refine Below.trans ?_ (Below.mono (by assumption) (by omega))))))).mono ?_
    rintro e w1 ⟨rfl, E1⟩
    rw [HR0.out]
    have hz1 := Lib.hid (hzr.out.ext E1)
    have E01 : Ext w w1 := (by repeat (first | with_reducible exact Ext.refl _ | refine Ext.drewN ?_ _ | refine Ext.drew ?_ | refine Ext.alloc ?_ _ | assumption | (refine Below.trans ?_ (by assumption)) | (refine Ext.trans ?_ (by assumption)) | (refine Below.trans ?_ (Below.mono (by assumption) (by omega)))))
    clear E1
    go_wp2_with (((refine wpList_store_A rfl 42 _ _ rfl (w.heap.size + 1) _ rfl rfl 42 _ hz1.out (by rw [List.size_toArray]; exact i43' zeroP_ok) (Eq.trans (b := 43) (by rfl) (Eq.symm (show (zeroP).cells.toArray.size = 43 from Pr.size zeroP_ok))) (Pr.one zeroP_ok) ?_); intro w2 H2 E2; have E2 : Ext w w2 := E2 w.heap.size w E01 (by omega)))
    refine bodyPost_ret_by (Kb.results_cell_tmp Tryz.results18 _ _ (w.heap.size + 1) 42 _ _ _ rfl _ rfl H2 Tryz.underlying42 rfl (by rw [List.size_toArray]; exact i43' zeroP_ok)) rfl ?_
    exact ⟨rfl, E2⟩
  · have HR0 := Lib.hid hr
    have HG : getL l nx pid = (match l.find? (fun p => p.pid == pid) with | some p => (p, true) | none => (zeroP, false)) := by unfold getL; rw [hr]; rfl
    have HG := Lib.hid HG
    clear hr
    go_enter Tryz.func18, Tryz.ntmps18
    go_wp2_with fail
    refine (right_any Ad c l nx _ (H.out.ext (by repeat (first | with_reducible exact Ext.refl _ | refine Ext.drewN ?_ _ | refine Ext.drew ?_ | refine Ext.alloc ?_ _ | assumption | (refine Below.trans ?_ (by assumption)) | (refine Ext.trans ?_ (by assumption)) | (refine Below.trans ?_ (Below.mono (by assumption) (by omega))))))).mono ?_
    rintro e w1 ⟨rfl, E1⟩
    rw [HR0.out]
    have hz1 := Lib.hid (hzr.out.ext E1)
    have hbox := Lib.hid (hbox.out.ext E1)
    have E01 : Ext w w1 := (by repeat (first | with_reducible exact Ext.refl _ | refine Ext.drewN ?_ _ | refine Ext.drew ?_ | refine Ext.alloc ?_ _ | assumption | (refine Below.trans ?_ (by assumption)) | (refine Ext.trans ?_ (by assumption)) | (refine Below.trans ?_ (Below.mono (by assumption) (by omega)))))
    clear E1
    go_wp2
    refine wp_region_held_drew (S := fun w' => Ext w1 w') (by kernel_rfl) (Ext.drew (Ext.refl _)) (fun hHeld => ?_)
    (refine wpAnyH_take (i := 0) (v := ?_) rfl (by kernel_rfl) (by kernel_rfl) (by kernel_rfl) (fun _ _ _ h => h) (Or.inl ⟨by rfl, ?_⟩) (by assumption) ?_; rotate_left; (focus (intro w' hSw; have kc := (hbox.out.ext hSw).two; go_simp; try with_reducible rfl)); (try simp only [List.getElem_toArray]); (try simp only [List.getElem_cons_succ]); (try simp only [List.getElem_cons_zero]); (try simp only [Act.put]); (try simp only [List.setIfInBounds_toArray]); (try simp only [List.set_cons_succ]); (try simp only [List.set_cons_zero]))
    (refine wpAnyH_take (i := 1) (v := ?_) rfl (by kernel_rfl) (by kernel_rfl) (by kernel_rfl) (fun _ _ _ h => h) (Or.inl ⟨by rfl, ?_⟩) (by assumption) ?_; rotate_left; (focus (intro w' hSw; go_simp; try with_reducible rfl)); (try simp only [List.getElem_toArray]); (try simp only [List.getElem_cons_succ]); (try simp only [List.getElem_cons_zero]); (try simp only [Act.put]); (try simp only [List.setIfInBounds_toArray]); (try simp only [List.set_cons_succ]); (try simp only [List.set_cons_zero]))
    (refine wpAnyH_ready (rs := [2]) (by kernel_rfl) (by simp) ?_; refine AllReadyH.cons rfl (fun K hK => ?_) AllReadyH.nil; go_simp; go_at_call 44; refine (is_any pid _).mono ?_; rintro e w2 ⟨n2, rfl, F2, E2⟩; (try dsimp only); refine hK.out _ _ (by repeat (first | with_reducible exact Ext.refl _ | refine Ext.drewN ?_ _ | refine Ext.drew ?_ | refine Ext.alloc ?_ _ | assumption | (refine Below.trans ?_ (by assumption)) | (refine Ext.trans ?_ (by assumption)) | (refine Below.trans ?_ (Below.mono (by assumption) (by omega))))) (fun hHeld => ?_); clear hK K; (try simp only [Act.put]); (try simp only [List.getElem_toArray]); (try simp only [List.getElem_cons_succ]); (try simp only [List.getElem_cons_zero]); (try simp only [List.setIfInBounds_toArray]); (try simp only [List.set_cons_succ]); (try simp only [List.set_cons_zero]))
    have E12 : Ext w1 w2 := by assumption
    have hfind := find_any Ad c l nx w2 (H.out.ext (E01.trans E12)) F2
    (refine wpAnyH_ready (rs := [3]) (by kernel_rfl) (by simp) ?_; refine AllReadyH.cons rfl (fun K hK => ?_) AllReadyH.nil; go_simp; go_at_call 34; refine (hfind).mono ?_; rintro e w4 ⟨E4, (⟨hx, m0, rfl, hm0, hz⟩ | ⟨j, b, off, hx, hlt, rfl, rfl⟩)⟩; all_goals ((try dsimp only); refine hK.out _ _ (by repeat (first | with_reducible exact Ext.refl _ | refine Ext.drewN ?_ _ | refine Ext.drew ?_ | refine Ext.alloc ?_ _ | assumption | (refine Below.trans ?_ (by assumption)) | (refine Ext.trans ?_ (by assumption)) | (refine Below.trans ?_ (Below.mono (by assumption) (by omega))))) (fun hHeld => ?_); clear hK K; (try simp only [Act.put]); (try simp only [List.getElem_toArray]); (try simp only [List.getElem_cons_succ]); (try simp only [List.getElem_cons_zero]); (try simp only [List.setIfInBounds_toArray]); (try simp only [List.set_cons_succ]); (try simp only [List.set_cons_zero])))
    all_goals
      (refine wpAnyH_take (i := 4) (v := ?_) rfl (by kernel_rfl) (by kernel_rfl) (by kernel_rfl) (fun _ _ _ h => h) (Or.inl ⟨by rfl, ?_⟩) (by assumption) ?_; rotate_left; (focus (intro w' hSw; go_simp; try with_reducible rfl)); (try simp only [List.getElem_toArray]); (try simp only [List.getElem_cons_succ]); (try simp only [List.getElem_cons_zero]); (try simp only [Act.put]); (try simp only [List.setIfInBounds_toArray]); (try simp only [List.set_cons_succ]); (try simp only [List.set_cons_zero]))
      (refine wpAnyH_take (i := 5) (v := ?_) rfl (by kernel_rfl) (by kernel_rfl) (by kernel_rfl) (fun _ _ _ h => h) (Or.inl ⟨by rfl, ?_⟩) (by assumption) ?_; rotate_left; (focus (intro w' hSw; go_simp; try with_reducible rfl)); (try simp only [List.getElem_toArray]); (try simp only [List.getElem_cons_succ]); (try simp only [List.getElem_cons_zero]); (try simp only [Act.put]); (try simp only [List.setIfInBounds_toArray]); (try simp only [List.set_cons_succ]); (try simp only [List.set_cons_zero]))
      (refine wpAnyH_take (i := 6) (v := ?_) rfl (by kernel_rfl) (by kernel_rfl) (by kernel_rfl) (fun _ _ _ h => h) (Or.inl ⟨by rfl, ?_⟩) (by assumption) ?_; rotate_left; (focus (intro w' hSw; go_simp; try with_reducible rfl)); (try simp only [List.getElem_toArray]); (try simp only [List.getElem_cons_succ]); (try simp only [List.getElem_cons_zero]); (try simp only [Act.put]); (try simp only [List.setIfInBounds_toArray]); (try simp only [List.set_cons_succ]); (try simp only [List.set_cons_zero]))
      (refine wpAnyH_take (i := 7) (v := ?_) rfl (by kernel_rfl) (by kernel_rfl) (by kernel_rfl) (fun _ _ _ h => h) (Or.inl ⟨by rfl, ?_⟩) (by assumption) ?_; rotate_left; (focus (intro w' hSw; go_simp; try with_reducible rfl)); (try simp only [List.getElem_toArray]); (try simp only [List.getElem_cons_succ]); (try simp only [List.getElem_cons_zero]); (try simp only [Act.put]); (try simp only [List.setIfInBounds_toArray]); (try simp only [List.set_cons_succ]); (try simp only [List.set_cons_zero]))
      (refine wpAnyH_take (i := 8) (v := ?_) rfl (by kernel_rfl) (by kernel_rfl) (by kernel_rfl) (fun _ _ _ h => h) (Or.inl ⟨by rfl, ?_⟩) (by assumption) ?_; rotate_left; (focus (intro w' hSw; go_simp; try with_reducible rfl)); (try simp only [List.getElem_toArray]); (try simp only [List.getElem_cons_succ]); (try simp only [List.getElem_cons_zero]); (try simp only [Act.put]); (try simp only [List.setIfInBounds_toArray]); (try simp only [List.set_cons_succ]); (try simp only [List.set_cons_zero]))
      refine wpAnyH_done (by kernel_rfl) ?_ _
      have E14 : Ext w1 w4 := E12.trans E4
      have hz4 := Lib.hid (hz1.out.ext E14)
      have E04 : Ext w w4 := E01.trans E14
    · obtain ⟨h1, h2⟩ | ⟨j', p, h1, h2, h3, h4, h5⟩ := idx_any (f := fun p => p.pid == pid) (l := l)
      · have hg : getL l nx pid = (zeroP, false) := by
          rw [HG.out]
          have : l.find? (fun p => p.pid == pid) = none := by rw [List.find?_eq_none]; rw [List.any_eq_false] at h2; exact h2
          rw [this]
        have HGG := Lib.hid hg
        have HZ := Lib.hid hz
        clear h1 h2 hz hx hg
        go_wp2_with (first
          | (refine wpList_load_row rfl 42 _ rfl _ rfl 42 _ _ _ HZ.out Tryz.underlying42 rfl i43z ?_)
          | ((refine wpList_store_A rfl 42 _ _ rfl (w.heap.size + 1) _ rfl rfl 42 _ hz4.out (by rw [List.size_toArray]; exact i43' zeroP_ok) (Eq.trans (b := 43) (by rfl) (Eq.symm (show (zeroP).cells.toArray.size = 43 from Pr.size zeroP_ok))) (Pr.one zeroP_ok) ?_); intro w5 H5 E5; have E5 : Ext w w5 := E5 w.heap.size w E04 (by omega)))
        refine bodyPost_ret_by (Kb.results_cell_tmp Tryz.results18 _ _ (w.heap.size + 1) 42 _ _ _ rfl _ rfl H5 Tryz.underlying42 rfl (by rw [List.size_toArray]; exact i43' zeroP_ok)) rfl ?_
        rw [HGG.out]
        exact ⟨rfl, E5⟩
      · rw [h1] at hx; omega
    · obtain ⟨h1, h2⟩ | ⟨j', p, h1, h2, h3, h4, h5⟩ := idx_any (f := fun p => p.pid == pid) (l := l)
      · rw [h1] at hx; omega
      · obtain rfl : j' = j := by rw [h1] at hx; omega
        have hg : getL l nx pid = (p, true) := by rw [HG.out, h5]
        have HGG := Lib.hid hg
        obtain ⟨b', off', p', hAd, hd, hok, hcell⟩ := pr_at (H.out.ext E04) hlt
        simp only [Option.some.injEq, Addr.mk.injEq, and_true] at hAd
        obtain ⟨rfl, rfl⟩ := hAd
        obtain rfl : p' = p := by have := hd.out; rw [h2] at this; exact (Option.some.inj this).symm
        clear h1 h2 h3 h4 h5 hx hg hd
        go_wp2_with (first
          | (refine wpList_load_mid rfl 42 _ rfl b (off + j' * 43) rfl p'.cells _ hcell.out Tryz.underlying42 rfl (i43' hok) ?_)
          | ((refine wpList_store_A rfl 42 _ _ rfl (w.heap.size + 1) _ rfl rfl 42 _ hz4.out (by rw [List.size_toArray]; exact i43' hok) (Eq.trans (b := 43) (by rfl) (Eq.symm (show (p').cells.toArray.size = 43 from Pr.size hok))) (Pr.one hok) ?_); intro w5 H5 E5; have E5 : Ext w w5 := E5 w.heap.size w E04 (by omega)))
        refine bodyPost_ret_by (Kb.results_cell_tmp Tryz.results18 _ _ (w.heap.size + 1) 42 _ _ _ rfl _ rfl H5 Tryz.underlying42 rfl (by rw [List.size_toArray]; exact i43' hok)) rfl ?_
        rw [HGG.out]
        exact ⟨rfl, E5⟩
end Go.Proofs.YteljobleojhgmaaGreat
namespace Go.Proofs.YteljobleojhgmaaGreat
open Go.RowKit Go.Kb

/- slices.Clone at one slice type: slices.Clone[[]parlour/table.Proc,parlour/table.Proc] (pr), slice type []table.Proc, element parlour/table.Proc, rep Rp -/
theorem info_pr : (Tryz.prog.info? 42).map (fun i => (i.zero, i.size, i.bytes)) = some (some (.agg zeroP.cells.toArray), (Rp).size, 344) := by kernel_rfl
set_option maxHeartbeats 400000 in
theorem clone_pr {A : Nat → Prop} (v : Value) (ds : List _) (w : World) (h : RdY Rp A w v ds) (hn : ds.length * 344 ≤ 140737488355328) :
    Calls Tryz.prog 22 #[v] w fun e w' => ∃ Ad c, e = .returned (.slice Ad ds.length c) ∧ OwnS Rp 42 w.heap.size (fun k => A k ∧ k < w.heap.size) w' (.slice Ad ds.length c) ds ∧ Ext w w' := by
  obtain ⟨us, ⟨hl, Ad, c, rfl, hnc, hcm, hA⟩, he⟩ := id h
  have H := Lib.hid h
  have HL := Lib.hid hl
  clear h hl he
  have heq := fun u => Lib.run_eql_slice_nil (P := Tryz.prog) u 27 _ Ad ds.length c 0 0 Tryz.underlying27
  rcases Ad with _ | ad
  · have h0 : ds.length = 0 ∧ c = 0 := by
      rcases hA with rfl | ⟨b, off, h0, _⟩
      · omega
      · cases h0
    obtain ⟨h1, rfl⟩ := h0
    obtain rfl : ds = [] := List.eq_nil_of_length_eq_zero h1
    clear hA HL h1
    simp only [List.length_nil] at heq ⊢
    go_enter Tryz.func22, Tryz.ntmps22
    go_wp2
    go_ret
    exact ⟨_, _, rfl, OwnS.nil _ _ _ _ _, (by repeat (first | with_reducible exact Ext.refl _ | refine Ext.drewN ?_ _ | refine Ext.drew ?_ | refine Ext.alloc ?_ _ | assumption | (refine Below.trans ?_ (by assumption)) | (refine Ext.trans ?_ (by assumption)) | (refine Below.trans ?_ (Below.mono (by assumption) (by omega)))))⟩
  · clear hA
    go_enter Tryz.func22, Tryz.ntmps22
    go_wp2_with ((at_builtin; refine wpList_app (e := Rp) (base := w.heap.size) (B := fun k => A k ∧ k < w.heap.size) (A := fun k => A k ∧ k < w.heap.size) rfl _ _ rfl Tryz.underlying27 info_pr rfl (OwnS.empty _ _ _ rfl (Nat.le_refl _)) rfl (RdY.alloc (RdY.lt H.out) _) rfl (fun k _ hk => ⟨hk, fun h => by have := hk.2; simp [Value.ownBlock] at h; omega⟩) (N := ds.length) (by simp) (by simp [maxLen]; omega) (by omega) (by simp) ?_; intro A1 c1 w1 hown hM hB; simp only [List.nil_append] at hown))
    go_ret
    exact ⟨_, _, rfl, hown, (by repeat (first | with_reducible exact Ext.refl _ | refine Ext.drewN ?_ _ | refine Ext.drew ?_ | refine Ext.alloc ?_ _ | assumption | (refine Below.trans ?_ (by assumption)) | (refine Ext.trans ?_ (by assumption)) | (refine Below.trans ?_ (Below.mono (by assumption) (by omega)))))⟩
theorem rdy_pr {A B : Nat → Prop} {w : World} {v : Value} {l : List Pr} (h : RdY Rp A w v l) : RdY Rp B w v l := by
  obtain ⟨us, hr, he, h2⟩ := h
  exact ⟨us, hr, he, h2⟩
/-- a table's value -/
abbrev tv (Ad : Option Addr) (n c : Nat) (nx : Int) : Value := .agg #[.slice Ad n c, .int .i64 nx]
set_option maxRecDepth 100000 in
set_option maxHeartbeats 800000 in
theorem twin_any {A : Nat → Prop} (Ad : Option Addr) (c : Nat) (l : List Pr) (nx : Int) (w : World) (h : RdY Rp A w (.slice Ad l.length c) l) (hn : l.length ≤ 1000000) :
    Calls Tryz.prog 67 #[.agg #[.slice Ad l.length c, .int .i64 nx]] w fun e w' => ∃ A' c', e = .returned (.agg #[.slice A' l.length c', .int .i64 nx]) ∧ OwnS Rp 42 w.heap.size (fun _ => False) w' (.slice A' l.length c') l ∧ Ext w w' := by
  have H := Lib.hid (rdy_pr (B := fun _ => False) h)
  have hbox := Lib.hid (Blk.new w 29 #[.slice Ad l.length c, .int .i64 nx])
  have hres := Lib.hid (Blk.at_ (w := w.alloc (.cells #[.slice Ad l.length c, .int .i64 nx] 29)) (B := w.heap.size + 1) 29 #[.slice none 0 0, .int .i64 0] (by simp))
  obtain ⟨W, hW⟩ : ∃ W, W = (w.alloc (.cells #[.slice Ad l.length c, .int .i64 nx] 29)).alloc (.cells #[.slice none 0 0, .int .i64 0] 29) := ⟨_, rfl⟩
  have E0 : Ext w W := by rw [hW]; exact (by repeat (first | with_reducible exact Ext.refl _ | refine Ext.drewN ?_ _ | refine Ext.drew ?_ | refine Ext.alloc ?_ _ | assumption | (refine Below.trans ?_ (by assumption)) | (refine Ext.trans ?_ (by assumption)) | (refine Below.trans ?_ (Below.mono (by assumption) (by omega)))))
  have hbox := Lib.hid (hbox.out.alloc (.cells #[.slice none 0 0, .int .i64 0] 29))
  rw [← hW] at hbox hres
  have HW := Lib.hid hW
  clear h hW
  go_enter Tryz.func67, Tryz.ntmps67
  go_wp2
  rw [← HW.out]
  have hl : w.heap.size < w.heap.size + 1 := by omega
  refine wp_region_held_drew (S := fun w' => Mod (fun k => k = w.heap.size + 1) W w') (by kernel_rfl) (Mod.of_ext (Ext.drew (Ext.refl _))) (fun hHeld => ?_)
  (refine wpAnyH_take (i := 0) (v := ?_) rfl (by kernel_rfl) (by kernel_rfl) (by kernel_rfl) (fun _ _ _ h => h) (Or.inl ⟨by rfl, ?_⟩) (by assumption) ?_; rotate_left; (focus (intro w' hSw; go_simp; try with_reducible rfl)); (try simp only [List.getElem_toArray]); (try simp only [List.getElem_cons_succ]); (try simp only [List.getElem_cons_zero]); (try simp only [Act.put]); (try simp only [List.setIfInBounds_toArray]); (try simp only [List.set_cons_succ]); (try simp only [List.set_cons_zero]))
  (refine wpAnyH_take (i := 3) (v := ?_) rfl (by kernel_rfl) (by kernel_rfl) (by kernel_rfl) (fun _ _ _ h => h) (Or.inl ⟨by rfl, ?_⟩) (by assumption) ?_; rotate_left; (focus (intro w' hSw; go_simp; try with_reducible rfl)); (try simp only [List.getElem_toArray]); (try simp only [List.getElem_cons_succ]); (try simp only [List.getElem_cons_zero]); (try simp only [Act.put]); (try simp only [List.setIfInBounds_toArray]); (try simp only [List.set_cons_succ]); (try simp only [List.set_cons_zero]))
  (refine wpAnyH_take (i := 1) (v := ?_) rfl (by kernel_rfl) (by kernel_rfl) (by kernel_rfl) (fun _ _ _ h => h) (Or.inl ⟨by rfl, ?_⟩) (by assumption) ?_; rotate_left; (focus (intro w' hSw; have kc := (hbox.out.mod hSw (by omega)).two; go_simp; try with_reducible rfl)); (try simp only [List.getElem_toArray]); (try simp only [List.getElem_cons_succ]); (try simp only [List.getElem_cons_zero]); (try simp only [Act.put]); (try simp only [List.setIfInBounds_toArray]); (try simp only [List.set_cons_succ]); (try simp only [List.set_cons_zero]))
  (refine wpAnyH_take (i := 4) (v := ?_) rfl (by kernel_rfl) (by kernel_rfl) (by kernel_rfl) (fun _ _ _ h => h) (Or.inl ⟨by rfl, ?_⟩) (by assumption) ?_; rotate_left; (focus (intro w' hSw; have kc := (hbox.out.mod hSw (by omega)).two; go_simp; try with_reducible rfl)); (try simp only [List.getElem_toArray]); (try simp only [List.getElem_cons_succ]); (try simp only [List.getElem_cons_zero]); (try simp only [Act.put]); (try simp only [List.setIfInBounds_toArray]); (try simp only [List.set_cons_succ]); (try simp only [List.set_cons_zero]))
  (refine wpAnyH_ready (rs := [2]) (by kernel_rfl) (by simp) ?_; refine AllReadyH.cons rfl (fun K hK => ?_) AllReadyH.nil; go_simp; go_at_call 22; refine (clone_pr (A := fun _ => False) _ l _ (H.out.ext (E0.trans (Ext.drew (Ext.refl _)))) (by omega)).mono ?_; rintro e w2 ⟨A2, c2, rfl, O2, E2⟩; (try dsimp only); refine hK.out _ _ (Mod.of_ext (Ext.trans (Ext.drew (Ext.refl W)) E2)) (fun hHeld => ?_); clear hK K; (try simp only [Act.put]); (try simp only [List.getElem_toArray]); (try simp only [List.getElem_cons_succ]); (try simp only [List.getElem_cons_zero]); (try simp only [List.setIfInBounds_toArray]); (try simp only [List.set_cons_succ]); (try simp only [List.set_cons_zero]))
  (refine wpAnyH_take (i := 5) (v := ?_) rfl (by kernel_rfl) (by kernel_rfl) (by kernel_rfl) (fun _ _ _ h => h) (Or.inl ⟨by rfl, ?_⟩) (by assumption) ?_; rotate_left; (focus (intro w' hSw; go_simp; try with_reducible rfl)); (try simp only [List.getElem_toArray]); (try simp only [List.getElem_cons_succ]); (try simp only [List.getElem_cons_zero]); (try simp only [Act.put]); (try simp only [List.setIfInBounds_toArray]); (try simp only [List.set_cons_succ]); (try simp only [List.set_cons_zero]))
  have Em : Ext W w2 := (Ext.drew (Ext.refl W)).trans E2
  have hr2 := hres.out.ext Em
  have kr := hr2.two
  (refine wpAnyH_ready (rs := [6]) (by kernel_rfl) (by simp) ?_; refine AllReadyH.cons rfl (fun K hK => ?_) AllReadyH.nil; go_simp; refine hK.out _ _ (((Mod.of_ext Em).set1 _).set1 _) (fun hHeld => ?_); clear hK K; (try simp only [Act.put]); (try simp only [List.getElem_toArray]); (try simp only [List.getElem_cons_succ]); (try simp only [List.getElem_cons_zero]); (try simp only [List.setIfInBounds_toArray]); (try simp only [List.set_cons_succ]); (try simp only [List.set_cons_zero]))
  refine wpAnyH_done (by kernel_rfl) ?_ _
  have BW := hr2.put2 (.slice A2 l.length c2) (.int .i64 nx)
  have hMz : Mod (fun k => k = w.heap.size + 1) W _ := ((Mod.of_ext Em).set1 (.slice A2 l.length c2) (o := 0)).set1 (.int .i64 nx) (o := 1)
  obtain ⟨q0, q1, _, _⟩ := BW.two
  go_wp2
  refine bodyPost_ret (v := .agg #[.slice A2 l.length c2, .int .i64 nx]) (by simp [results, Tryz.results67, go_sem, q0, q1]) rfl ?_
  have hr := O2.row
  have hdr : W.drew.heap.size = w.heap.size + 2 := by rw [HW.out]; simp
  have hM2 : Mod (fun k => k = w.heap.size + 1) w2 _ := ((Mod.refl _ w2).set1 (.slice A2 l.length c2) (o := 0)).set1 (.int .i64 nx) (o := 1)
  exact ⟨_, _, rfl, ((O2.mod hM2 (fun k hk he => by have := (hr k hk).1; omega) (fun k _ hk he => hk.1)).lower (by omega)).mono (fun k _ hk => hk.1), Mod.toExt E0 hMz (by intro k hk he; omega)⟩
end Go.Proofs.YteljobleojhgmaaGreat
