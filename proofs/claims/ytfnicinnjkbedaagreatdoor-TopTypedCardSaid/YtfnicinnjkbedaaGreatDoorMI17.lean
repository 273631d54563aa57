/- Written by chain.py of +ME17 P09@Mi A09@Mi B09[-through03_any]@Mi C09[-OPost,-map_any]@Mi. No condition. -/
import Derived.Test.YtfnicinnjkbedaaGreatDoorME17
namespace Go.Proofs.YtfnicinnjkbedaaGreatDoor.Mi
set_option maxRecDepth 100000
open Go.RowKit Go.Kb

theorem Bs.take {l : List Int} (h : Bs l) (k : Nat) : Bs (l.take k) := fun x hx => h x (List.mem_of_mem_take hx)
theorem Bs.drop {l : List Int} (h : Bs l) (k : Nat) : Bs (l.drop k) := fun x hx => h x (List.mem_of_mem_drop hx)
/-- the flags that are asked -/
structure Mf where
  s : Bool
  a : Bool
  b : Bool
  gn : Bool
  ic : Bool
  il : Bool
  pm : Bool
def mfL (t : Tm) : Mf := ⟨hasL t 33, hasL t 37, hasL t 59, hasL t 35, hasL t 36, hasL t 34, hasL t 31⟩
def lowL (f : Mf) (c : Int) : Int := if f.s = true then c % 128 else c
def smallL (f : Mf) (c : Int) : Int := if 65 ≤ c ∧ c ≤ 90 ∧ f.a = true ∧ f.b = true then c + 32 else c
def stripL (f : Mf) (c : Int) : Int := smallL f (lowL f c)
def endsL (f : Mf) (c : Int) : Int × Bool :=
  if c = 13 then (if f.gn = true then (0, false) else if f.ic = true then (10, true) else (13, true))
  else if c = 10 then (if f.il = true then (13, true) else (10, true)) else (c, true)
def markL (f : Mf) (c : Int) : List Int := if c = 255 ∧ f.pm = true ∧ f.s = false then [255, 255] else [c]
/-- what is read of one byte -/
def byteL (f : Mf) (c : Int) : List Int := if (endsL f (stripL f c)).2 = true then markL f (endsL f (stripL f c)).1 else []
def mapL (f : Mf) (l : List Int) : List Int := l.flatMap (byteL f)
theorem lowL_bd {f : Mf} {c : Int} (h : 0 ≤ c ∧ c ≤ 255) : 0 ≤ lowL f c ∧ lowL f c ≤ 255 := by
  unfold lowL; split <;> omega
theorem smallL_bd {f : Mf} {c : Int} (h : 0 ≤ c ∧ c ≤ 255) : 0 ≤ smallL f c ∧ smallL f c ≤ 255 := by
  unfold smallL; split <;> omega
theorem stripL_bd {f : Mf} {c : Int} (h : 0 ≤ c ∧ c ≤ 255) : 0 ≤ stripL f c ∧ stripL f c ≤ 255 := smallL_bd (lowL_bd h)
theorem endsL_bd {f : Mf} {c : Int} (h : 0 ≤ c ∧ c ≤ 255) : 0 ≤ (endsL f c).1 ∧ (endsL f c).1 ≤ 255 := by
  unfold endsL
  repeat' split
  all_goals first | exact h | exact ⟨by decide, by decide⟩
theorem markL_len (f : Mf) (c : Int) : (markL f c).length ≤ 2 := by
  unfold markL; split <;> simp
theorem byteL_len (f : Mf) (c : Int) : (byteL f c).length ≤ 2 := by
  unfold byteL
  split
  · exact markL_len _ _
  · simp
theorem byteL_bs {f : Mf} {c : Int} (h : 0 ≤ c ∧ c ≤ 255) : Bs (byteL f c) := by
  have h1 := endsL_bd (f := f) (stripL_bd (f := f) h)
  unfold byteL
  split
  · unfold markL
    intro x hx
    split at hx
    · simp at hx; omega
    · simp at hx; omega
  · intro x hx; simp at hx
theorem mapL_nil (f : Mf) : mapL f [] = [] := rfl
theorem mapL_append (f : Mf) (a b : List Int) : mapL f (a ++ b) = mapL f a ++ mapL f b := by simp [mapL]
theorem mapL_succ {f : Mf} {l : List Int} {k : Nat} {c : Int} (h : l[k]? = some c) : mapL f (l.take (k + 1)) = mapL f (l.take k) ++ byteL f c := by
  rw [take_succ_of h, mapL_append]
  simp [mapL]
theorem mapL_len (f : Mf) (l : List Int) : (mapL f l).length ≤ 2 * l.length := by
  induction l with
  | nil => simp [mapL]
  | cons c l ih =>
    have := byteL_len f c
    have e : mapL f (c :: l) = byteL f c ++ mapL f l := by simp [mapL]
    rw [e, List.length_append, List.length_cons]
    omega
theorem mapL_bs {f : Mf} {l : List Int} (h : Bs l) : Bs (mapL f l) := by
  intro x hx
  simp only [mapL, List.mem_flatMap] at hx
  obtain ⟨c, hc, hx⟩ := hx
  exact byteL_bs (h c hc) x hx
theorem mapL_plain {f : Mf} (h1 : f.s = false) (h2 : f.a = false) (h3 : f.gn = false) (h4 : f.ic = false) (h5 : f.il = false) (h6 : f.pm = false) (l : List Int) : mapL f l = l := by
  have key : ∀ c, byteL f c = [c] := by
    intro c
    have e1 : stripL f c = c := by simp [stripL, lowL, smallL, h1, h2]
    have e2 : endsL f c = (c, true) := by
      unfold endsL
      simp only [h3, h4, h5, Bool.false_eq_true, if_false]
      split
      · simp_all
      · split <;> simp_all
    simp [byteL, e1, e2, markL, h6]
  induction l with
  | nil => rfl
  | cons c l ih =>
    have e : mapL f (c :: l) = byteL f c ++ mapL f l := by simp [mapL]
    rw [e, key, ih]; rfl
/-- which bytes are not read -/
theorem byteL_13 {f : Mf} {c x : Int} (h1 : f.ic = true) (h2 : f.il = false) (hx : x ∈ byteL f c) : x ≠ 13 := by
  unfold byteL at hx
  split at hx
  · have key : (endsL f (stripL f c)).1 ≠ 13 := by
      rename_i hk
      intro h
      unfold endsL at h hk
      simp only [h1, h2, if_true, Bool.false_eq_true, if_false] at h hk
      split at h
      · split at h
        · omega
        · omega
      · split at h
        · omega
        · omega
    unfold markL at hx
    split at hx
    · simp at hx; omega
    · simp at hx; omega
  · simp at hx
theorem byteL_127 {f : Mf} {c x : Int} (h1 : f.s = true) (hx : x ∈ byteL f c) : x ≤ 127 := by
  unfold byteL at hx
  split at hx
  · have h2 : lowL f c ≤ 127 ∧ 0 ≤ lowL f c := by unfold lowL; rw [if_pos h1]; omega
    have h3 : stripL f c ≤ 127 := by
      unfold stripL smallL
      split <;> omega
    have h4 : (endsL f (stripL f c)).1 ≤ 127 := by
      unfold endsL
      repeat' split
      all_goals first | exact h3 | decide
    unfold markL at hx
    rw [if_neg (by rw [h1]; intro h; cases h.2.2)] at hx
    simp at hx
    omega
  · simp at hx
theorem mapL_13 {f : Mf} {l : List Int} {x : Int} (h1 : f.ic = true) (h2 : f.il = false) (hx : x ∈ mapL f l) : x ≠ 13 := by
  simp only [mapL, List.mem_flatMap] at hx
  obtain ⟨c, _, hx⟩ := hx
  exact byteL_13 h1 h2 hx
theorem mapL_127 {f : Mf} {l : List Int} {x : Int} (h1 : f.s = true) (hx : x ∈ mapL f l) : x ≤ 127 := by
  simp only [mapL, List.mem_flatMap] at hx
  obtain ⟨c, _, hx⟩ := hx
  exact byteL_127 h1 hx
/-- how many bytes 255 stand at the end -/
def rowL : List Int → Nat := fun l => l.foldl (fun n c => if c = 255 then n + 1 else 0) 0
theorem rowL_snoc (l : List Int) (c : Int) : rowL (l ++ [c]) = if c = 255 then rowL l + 1 else 0 := by simp [rowL, List.foldl_append]
theorem rowL_take {l : List Int} {k : Nat} {c : Int} (h : l[k]? = some c) : rowL (l.take (k + 1)) = if c = 255 then rowL (l.take k) + 1 else 0 := by rw [take_succ_of h, rowL_snoc]
theorem rowL_le (l : List Int) : rowL l ≤ l.length := by
  have : ∀ (l : List Int) (n : Nat), l.foldl (fun n c => if c = 255 then n + 1 else 0) n ≤ n + l.length := by
    intro l
    induction l with
    | nil => intro n; simp
    | cons c l ih =>
      intro n
      simp only [List.foldl_cons, List.length_cons]
      split
      · have := ih (n + 1); omega
      · have := ih 0; omega
  have h := this l 0
  simpa [rowL] using h
/-- at a byte that is not 255 an even number of them stands ahead -/
def EvenR (n : Nat) : List Int → Prop
  | [] => True
  | c :: l => (c ≠ 255 → n % 2 = 0) ∧ EvenR (if c = 255 then n + 1 else 0) l
theorem evenR_byte {f : Mf} (h1 : f.pm = true) (h2 : f.s = false) (c : Int) (n : Nat) (hn : n % 2 = 0) : EvenR n (byteL f c) ∧ ((byteL f c).foldl (fun n c => if c = 255 then n + 1 else 0) n) % 2 = 0 := by
  unfold byteL
  split
  · unfold markL
    split
    · refine ⟨⟨fun h => hn, ⟨fun h => absurd rfl h, trivial⟩⟩, ?_⟩
      simp
      omega
    · rename_i hx
      have : (endsL f (stripL f c)).1 ≠ 255 := fun h => hx ⟨h, h1, h2⟩
      refine ⟨⟨fun _ => hn, trivial⟩, ?_⟩
      simp [this]
  · exact ⟨trivial, by simpa using hn⟩
theorem evenR_append {a b : List Int} : ∀ {n : Nat}, EvenR n a → EvenR (a.foldl (fun n c => if c = 255 then n + 1 else 0) n) b → EvenR n (a ++ b) := by
  induction a with
  | nil => intro n _ h; exact h
  | cons c a ih => intro n h g; exact ⟨h.1, ih h.2 g⟩
theorem evenR_map {f : Mf} (h1 : f.pm = true) (h2 : f.s = false) : ∀ (l : List Int) (n : Nat), n % 2 = 0 → EvenR n (mapL f l)
  | [], _, _ => trivial
  | c :: l, n, hn => by
    have e : mapL f (c :: l) = byteL f c ++ mapL f l := by simp [mapL]
    obtain ⟨a1, a2⟩ := evenR_byte h1 h2 c n hn
    rw [e]
    exact evenR_append a1 (evenR_map h1 h2 l _ a2)
theorem evenR_at : ∀ {l : List Int} {n k : Nat} {c : Int}, EvenR n l → l[k]? = some c → c ≠ 255 → ((l.take k).foldl (fun n c => if c = 255 then n + 1 else 0) n) % 2 = 0
  | [], _, _, _, _, hk, _ => by simp at hk
  | x :: l, n, 0, c, h, hk, hc => by
    simp at hk
    subst hk
    simpa using h.1 hc
  | x :: l, n, k + 1, c, h, hk, hc => by
    simp only [List.take_succ_cons, List.foldl_cons]
    exact evenR_at h.2 (by simpa using hk) hc
theorem mapL_even {f : Mf} (h1 : f.pm = true) (h2 : f.s = false) {l : List Int} {k : Nat} {c : Int} (hk : (mapL f l)[k]? = some c) (hc : c ≠ 255) : rowL ((mapL f l).take k) % 2 = 0 :=
  evenR_at (evenR_map h1 h2 l 0 rfl) hk hc
end Go.Proofs.YtfnicinnjkbedaaGreatDoor.Mi
namespace Go.Proofs.YtfnicinnjkbedaaGreatDoor.Mi
set_option maxRecDepth 100000
open Go.RowKit Go.Kb

abbrev Ub : Rep Int := Rep.int .u8
theorem info_u8 : (Tryz.prog.info? 5).map (fun i => (i.zero, i.size, i.bytes)) = some (some (.int .u8 0), Ub.size, 1) := by kernel_rfl
theorem ihas_any (t : Tm) (op : Int) (w : World) (ht : t.Ok) : Calls Tryz.prog 116 #[.agg t.arr, .int .i64 op] w fun e w' => e = .returned (.bool (hasL t op)) ∧ Ext w w' := by
  have hn := t.size ht
  have hc := fun w' => has_any t op w' ht
  generalize hasL t op = f at *
  generalize t.arr = cs at *
  clear ht
  have hi : (Tryz.prog.info? 26).map (·.size) = some cs.size := by rw [hn]; kernel_rfl
  have hT := Lib.hid (Blk.new w 139 cs)
  go_enter Tryz.func116, Tryz.ntmps116
  go_wp2_with (refine wpList_load_row rfl 26 _ rfl _ rfl 139 _ _ _ (Blk.ext hT.out (by repeat (first | with_reducible exact Ext.refl _ | refine Ext.drewN ?_ _ | refine Ext.drew ?_ | refine Ext.alloc ?_ _ | assumption | (refine Below.trans ?_ (by assumption)) | (refine Ext.trans ?_ (by assumption)) | (refine Below.trans ?_ (Below.mono (by assumption) (by omega)))))) Tryz.underlying26 rfl hi ?_)
  (with_reducible refine (hc _).mono ?_); rintro e w1 ⟨rfl, E1⟩
  go_wp2
  go_ret
  exact ⟨rfl, (by repeat (first | with_reducible exact Ext.refl _ | refine Ext.drewN ?_ _ | refine Ext.drew ?_ | refine Ext.alloc ?_ _ | assumption | (refine Below.trans ?_ (by assumption)) | (refine Ext.trans ?_ (by assumption)) | (refine Below.trans ?_ (Below.mono (by assumption) (by omega)))))⟩
set_option maxHeartbeats 400000 in
theorem all_any (t : Tm) (v : Value) (a b : Int) (w : World) (ht : t.Ok) (hv : RI .i64 w v [a, b]) : Calls Tryz.prog 155 #[.agg t.arr, v] w fun e w' => e = .returned (.bool (hasL t a && hasL t b)) ∧ Ext w w' := by
  have hn := t.size ht
  have ha := fun w' => ihas_any t a w' ht
  have hb := fun w' => ihas_any t b w' ht
  generalize hasL t a = fa at *
  generalize hasL t b = fb at *
  generalize t.arr = cs at *
  clear ht
  obtain ⟨Ad, c, rfl, h1, h2⟩ := hv.shape
  have HV := Lib.hid hv
  clear hv
  have hi : (Tryz.prog.info? 139).map (·.size) = some cs.size := by rw [hn]; kernel_rfl
  have hT := Lib.hid (Blk.new w 139 cs)
  go_enter Tryz.func155, Tryz.ntmps155
  go_wp2
  go_loopw [9] (fun i wr => (i = .int .i64 0 ∨ (i = .int .i64 1 ∧ fa = true) ∨ (i = .int .i64 2 ∧ fa = true ∧ fb = true)) ∧ Ext (w.alloc (.cells cs 139)) wr) (fun i _ => 2 - (intOf i).toNat)
  case atStart => exact ⟨.inl rfl, (by repeat (first | with_reducible exact Ext.refl _ | refine Ext.drewN ?_ _ | refine Ext.drew ?_ | refine Ext.alloc ?_ _ | assumption | (refine Below.trans ?_ (by assumption)) | (refine Ext.trans ?_ (by assumption)) | (refine Below.trans ?_ (Below.mono (by assumption) (by omega)))))⟩
  case round =>
    obtain ⟨hk, hE⟩ := hrel
    have E0 : Ext w wr := Ext.trans ((Ext.refl w).alloc _) hE
    rcases hk with rfl | ⟨rfl, rfl⟩ | ⟨rfl, rfl, rfl⟩
    · obtain ⟨b0, off, x, rfl, hx, hd⟩ := (RdN.ext HV.out E0).icell (j := 0) (by simp)
      have hd := hd.out
      simp at hd
      subst hd
      try rw [Nat.add_zero] at hx
      clear E0
      go_wp2_with ((refine wpList_load_row rfl 139 _ rfl _ rfl 139 _ _ _ (Blk.ext hT.out (by repeat (first | with_reducible exact Ext.refl _ | refine Ext.drewN ?_ _ | refine Ext.drew ?_ | refine Ext.alloc ?_ _ | assumption | (refine Below.trans ?_ (by assumption)) | (refine Ext.trans ?_ (by assumption)) | (refine Below.trans ?_ (Below.mono (by assumption) (by omega)))))) Tryz.underlying139 rfl hi ?_))
      (with_reducible refine (ha _).mono ?_); rintro e w1 ⟨rfl, E1⟩
      cases fa
      · go_wp2
        go_ret
        exact ⟨rfl, Ext.trans ((Ext.refl w).alloc _) (hE.trans E1)⟩
      · go_wp2
        go_roundw
        case rel => exact ⟨.inr (.inl ⟨rfl, by trivial⟩), hE.trans E1⟩
        case measure => simp [intOf]
    · obtain ⟨b0, off, x, rfl, hx, hd⟩ := (RdN.ext HV.out E0).icell (j := 1) (by simp)
      have hd := hd.out
      simp at hd
      subst hd
      try rw [Nat.add_zero] at hx
      clear E0
      go_wp2_with ((refine wpList_load_row rfl 139 _ rfl _ rfl 139 _ _ _ (Blk.ext hT.out (by repeat (first | with_reducible exact Ext.refl _ | refine Ext.drewN ?_ _ | refine Ext.drew ?_ | refine Ext.alloc ?_ _ | assumption | (refine Below.trans ?_ (by assumption)) | (refine Ext.trans ?_ (by assumption)) | (refine Below.trans ?_ (Below.mono (by assumption) (by omega)))))) Tryz.underlying139 rfl hi ?_))
      (with_reducible refine (hb _).mono ?_); rintro e w1 ⟨rfl, E1⟩
      cases fb
      · go_wp2
        go_ret
        exact ⟨rfl, Ext.trans ((Ext.refl w).alloc _) (hE.trans E1)⟩
      · go_wp2
        go_roundw
        case rel => exact ⟨.inr (.inr ⟨rfl, by trivial, by trivial⟩), hE.trans E1⟩
        case measure => simp [intOf]
    · go_wp2
      go_ret
      exact ⟨rfl, E0⟩
theorem and127 : ∀ n : Nat, n < 256 → bits .and .u8 (n : Int) 127 = (n : Int) % 128 := by decide +kernel
theorem or32 : ∀ n : Nat, n < 256 → 65 ≤ n ∧ n ≤ 90 → bits .or .u8 (n : Int) 32 = (n : Int) + 32 := by decide +kernel
/-- a byte and whether it is read -/
def SPost (w : World) (x : Int × Bool) (e : Ending) (w' : World) : Prop := e = .returned (.tuple #[.int .u8 x.1, .bool x.2]) ∧ Ext w w'
theorem low_any (t : Tm) (c : Int) (w : World) (ht : t.Ok) (hc : 0 ≤ c ∧ c ≤ 255) : Calls Tryz.prog 135 #[.agg t.arr, .int .u8 c] w (SPost w (lowL (mfL t) c, true)) := by
  have hn := t.size ht
  have ha := fun w' => ihas_any t 33 w' ht
  have hf : lowL (mfL t) c = if hasL t 33 = true then c % 128 else c := rfl
  obtain ⟨z, hz0⟩ : ∃ z, lowL (mfL t) c = z := ⟨_, rfl⟩; rw [hz0]; have HZ := Lib.hid (hz0.symm.trans hf); clear hz0 hf
  have h127 : bits .and .u8 c 127 = c % 128 := by
    obtain ⟨n, rfl⟩ := Int.eq_ofNat_of_zero_le hc.1
    exact and127 n (by omega)
  generalize hasL t 33 = f at *
  generalize t.arr = cs at *
  clear ht
  have hi : (Tryz.prog.info? 139).map (·.size) = some cs.size := by rw [hn]; kernel_rfl
  have hT := Lib.hid (Blk.new w 139 cs)
  go_enter Tryz.func135, Tryz.ntmps135
  go_wp2_with ((refine wpList_load_row rfl 139 _ rfl _ rfl 139 _ _ _ (Blk.ext hT.out (by repeat (first | with_reducible exact Ext.refl _ | refine Ext.drewN ?_ _ | refine Ext.drew ?_ | refine Ext.alloc ?_ _ | assumption | (refine Below.trans ?_ (by assumption)) | (refine Ext.trans ?_ (by assumption)) | (refine Below.trans ?_ (Below.mono (by assumption) (by omega)))))) Tryz.underlying139 rfl hi ?_))
  (with_reducible refine (ha _).mono ?_); rintro e w1 ⟨rfl, E1⟩
  cases f
  · replace HZ := Lib.hid (HZ.out.trans (if_neg (by decide)))
    go_wp2
    refine bodyPost_ret (v := .tuple #[.int .u8 c, .bool true]) (by simp [results, Tryz.results135, go_sem]) rfl ?_
    exact ⟨by rw [HZ.out], (by repeat (first | with_reducible exact Ext.refl _ | refine Ext.drewN ?_ _ | refine Ext.drew ?_ | refine Ext.alloc ?_ _ | assumption | (refine Below.trans ?_ (by assumption)) | (refine Ext.trans ?_ (by assumption)) | (refine Below.trans ?_ (Below.mono (by assumption) (by omega)))))⟩
  · replace HZ := Lib.hid (HZ.out.trans (if_pos rfl))
    have H127 := Lib.hid h127
    clear h127
    go_wp2
    refine bodyPost_ret (v := .tuple #[.int .u8 (bits .and .u8 c 127), .bool true]) (by simp [results, Tryz.results135, go_sem]) rfl ?_
    exact ⟨by rw [HZ.out, H127.out], (by repeat (first | with_reducible exact Ext.refl _ | refine Ext.drewN ?_ _ | refine Ext.drew ?_ | refine Ext.alloc ?_ _ | assumption | (refine Below.trans ?_ (by assumption)) | (refine Ext.trans ?_ (by assumption)) | (refine Below.trans ?_ (Below.mono (by assumption) (by omega)))))⟩
set_option maxHeartbeats 400000 in
theorem small_any (t : Tm) (c : Int) (w : World) (ht : t.Ok) (hc : 0 ≤ c ∧ c ≤ 255) : Calls Tryz.prog 136 #[.agg t.arr, .int .u8 c] w (SPost w (smallL (mfL t) c, true)) := by
  have hn := t.size ht
  have ha := fun v w' hv => all_any t v 37 59 w' ht hv
  have hf : smallL (mfL t) c = if 65 ≤ c ∧ c ≤ 90 ∧ hasL t 37 = true ∧ hasL t 59 = true then c + 32 else c := rfl
  obtain ⟨z, hz0⟩ : ∃ z, smallL (mfL t) c = z := ⟨_, rfl⟩; rw [hz0]; have HZ := Lib.hid (hz0.symm.trans hf); clear hz0 hf
  generalize hasL t 37 = fa at *
  generalize hasL t 59 = fb at *
  generalize t.arr = cs at *
  clear ht
  have hi : (Tryz.prog.info? 139).map (·.size) = some cs.size := by rw [hn]; kernel_rfl
  have hT := Lib.hid (Blk.new w 139 cs)
  by_cases h65 : 65 ≤ c
  · by_cases h90 : c ≤ 90
    · have h32 : bits .or .u8 c 32 = c + 32 := by
        obtain ⟨n, rfl⟩ := Int.eq_ofNat_of_zero_le hc.1
        exact or32 n (by omega) (by omega)
      have H32 := Lib.hid h32
      clear h32
      go_enter Tryz.func136, Tryz.ntmps136
      go_wp2_with ((refine wpList_openG rfl rfl ?_; (refine wpList_load_row rfl 139 _ rfl _ rfl 139 _ _ _ (Blk.ext hT.out (by repeat (first | with_reducible exact Ext.refl _ | refine Ext.drewN ?_ _ | refine Ext.drew ?_ | refine Ext.alloc ?_ _ | assumption | (refine Below.trans ?_ (by assumption)) | (refine Ext.trans ?_ (by assumption)) | (refine Below.trans ?_ (Below.mono (by assumption) (by omega)))))) Tryz.underlying139 rfl hi ?_)))
      refine (ha _ _ (RI.lit .i64 [37, 59] _ (by simp) (by simp))).mono ?_; rintro e w1 ⟨rfl, E1⟩
      cases fa
      · replace HZ := Lib.hid (HZ.out.trans (if_neg (fun h => by cases h.2.2.1)))
        go_wp2
        refine bodyPost_ret (v := .tuple #[.int .u8 c, .bool true]) (by simp [results, Tryz.results136, go_sem]) rfl ?_
        exact ⟨by rw [HZ.out], (by repeat (first | with_reducible exact Ext.refl _ | refine Ext.drewN ?_ _ | refine Ext.drew ?_ | refine Ext.alloc ?_ _ | assumption | (refine Below.trans ?_ (by assumption)) | (refine Ext.trans ?_ (by assumption)) | (refine Below.trans ?_ (Below.mono (by assumption) (by omega)))))⟩
      · cases fb
        · replace HZ := Lib.hid (HZ.out.trans (if_neg (fun h => by cases h.2.2.2)))
          go_wp2
          refine bodyPost_ret (v := .tuple #[.int .u8 c, .bool true]) (by simp [results, Tryz.results136, go_sem]) rfl ?_
          exact ⟨by rw [HZ.out], (by repeat (first | with_reducible exact Ext.refl _ | refine Ext.drewN ?_ _ | refine Ext.drew ?_ | refine Ext.alloc ?_ _ | assumption | (refine Below.trans ?_ (by assumption)) | (refine Ext.trans ?_ (by assumption)) | (refine Below.trans ?_ (Below.mono (by assumption) (by omega)))))⟩
        · replace HZ := Lib.hid (HZ.out.trans (if_pos ⟨h65, h90, rfl, rfl⟩))
          go_wp2
          refine bodyPost_ret (v := .tuple #[.int .u8 (bits .or .u8 c 32), .bool true]) (by simp [results, Tryz.results136, go_sem]) rfl ?_
          exact ⟨by rw [HZ.out, H32.out], (by repeat (first | with_reducible exact Ext.refl _ | refine Ext.drewN ?_ _ | refine Ext.drew ?_ | refine Ext.alloc ?_ _ | assumption | (refine Below.trans ?_ (by assumption)) | (refine Ext.trans ?_ (by assumption)) | (refine Below.trans ?_ (Below.mono (by assumption) (by omega)))))⟩
    · replace HZ := Lib.hid (HZ.out.trans (if_neg (fun h => h90 h.2.1)))
      go_enter Tryz.func136, Tryz.ntmps136
      go_wp2
      refine bodyPost_ret (v := .tuple #[.int .u8 c, .bool true]) (by simp [results, Tryz.results136, go_sem]) rfl ?_
      exact ⟨by rw [HZ.out], (by repeat (first | with_reducible exact Ext.refl _ | refine Ext.drewN ?_ _ | refine Ext.drew ?_ | refine Ext.alloc ?_ _ | assumption | (refine Below.trans ?_ (by assumption)) | (refine Ext.trans ?_ (by assumption)) | (refine Below.trans ?_ (Below.mono (by assumption) (by omega)))))⟩
  · replace HZ := Lib.hid (HZ.out.trans (if_neg (fun h => h65 h.1)))
    go_enter Tryz.func136, Tryz.ntmps136
    go_wp2
    refine bodyPost_ret (v := .tuple #[.int .u8 c, .bool true]) (by simp [results, Tryz.results136, go_sem]) rfl ?_
    exact ⟨by rw [HZ.out], (by repeat (first | with_reducible exact Ext.refl _ | refine Ext.drewN ?_ _ | refine Ext.drew ?_ | refine Ext.alloc ?_ _ | assumption | (refine Below.trans ?_ (by assumption)) | (refine Ext.trans ?_ (by assumption)) | (refine Below.trans ?_ (Below.mono (by assumption) (by omega)))))⟩
set_option maxHeartbeats 400000 in
theorem ends_any (t : Tm) (c : Int) (w : World) (ht : t.Ok) : Calls Tryz.prog 137 #[.agg t.arr, .int .u8 c] w (SPost w (endsL (mfL t) c)) := by
  have hn := t.size ht
  have h35 := fun w' => ihas_any t 35 w' ht
  have h36 := fun w' => ihas_any t 36 w' ht
  have h34 := fun w' => ihas_any t 34 w' ht
  have hf : endsL (mfL t) c = if c = 13 then (if hasL t 35 = true then (0, false) else if hasL t 36 = true then (10, true) else (13, true))
    else if c = 10 then (if hasL t 34 = true then (13, true) else (10, true)) else (c, true) := rfl
  obtain ⟨z, hz0⟩ : ∃ z, endsL (mfL t) c = z := ⟨_, rfl⟩; rw [hz0]; have HZ := Lib.hid (hz0.symm.trans hf); clear hz0 hf
  generalize hasL t 35 = f5 at *
  generalize hasL t 36 = f6 at *
  generalize hasL t 34 = f4 at *
  generalize t.arr = cs at *
  clear ht
  have hi : (Tryz.prog.info? 139).map (·.size) = some cs.size := by rw [hn]; kernel_rfl
  have hT := Lib.hid (Blk.new w 139 cs)
  by_cases h13 : c = 13
  · subst h13
    replace HZ := Lib.hid (HZ.out.trans (if_pos rfl))
    go_enter Tryz.func137, Tryz.ntmps137
    go_wp2_with ((refine wpList_load_row rfl 139 _ rfl _ rfl 139 _ _ _ (Blk.ext hT.out (by repeat (first | with_reducible exact Ext.refl _ | refine Ext.drewN ?_ _ | refine Ext.drew ?_ | refine Ext.alloc ?_ _ | assumption | (refine Below.trans ?_ (by assumption)) | (refine Ext.trans ?_ (by assumption)) | (refine Below.trans ?_ (Below.mono (by assumption) (by omega)))))) Tryz.underlying139 rfl hi ?_))
    (with_reducible refine (h35 _).mono ?_); rintro e w1 ⟨rfl, E1⟩
    cases f5
    · replace HZ := Lib.hid (HZ.out.trans (if_neg (by decide)))
      go_wp2_with ((refine wpList_load_row rfl 139 _ rfl _ rfl 139 _ _ _ (Blk.ext hT.out (by repeat (first | with_reducible exact Ext.refl _ | refine Ext.drewN ?_ _ | refine Ext.drew ?_ | refine Ext.alloc ?_ _ | assumption | (refine Below.trans ?_ (by assumption)) | (refine Ext.trans ?_ (by assumption)) | (refine Below.trans ?_ (Below.mono (by assumption) (by omega)))))) Tryz.underlying139 rfl hi ?_))
      (with_reducible refine (h36 _).mono ?_); rintro e w2 ⟨rfl, E2⟩
      cases f6
      · replace HZ := Lib.hid (HZ.out.trans (if_neg (by decide)))
        go_wp2
        refine bodyPost_ret (v := .tuple #[.int .u8 13, .bool true]) (by simp [results, Tryz.results137, go_sem]) rfl ?_
        exact ⟨by rw [HZ.out], (by repeat (first | with_reducible exact Ext.refl _ | refine Ext.drewN ?_ _ | refine Ext.drew ?_ | refine Ext.alloc ?_ _ | assumption | (refine Below.trans ?_ (by assumption)) | (refine Ext.trans ?_ (by assumption)) | (refine Below.trans ?_ (Below.mono (by assumption) (by omega)))))⟩
      · replace HZ := Lib.hid (HZ.out.trans (if_pos rfl))
        go_wp2
        refine bodyPost_ret (v := .tuple #[.int .u8 10, .bool true]) (by simp [results, Tryz.results137, go_sem]) rfl ?_
        exact ⟨by rw [HZ.out], (by repeat (first | with_reducible exact Ext.refl _ | refine Ext.drewN ?_ _ | refine Ext.drew ?_ | refine Ext.alloc ?_ _ | assumption | (refine Below.trans ?_ (by assumption)) | (refine Ext.trans ?_ (by assumption)) | (refine Below.trans ?_ (Below.mono (by assumption) (by omega)))))⟩
    · replace HZ := Lib.hid (HZ.out.trans (if_pos rfl))
      go_wp2
      refine bodyPost_ret (v := .tuple #[.int .u8 0, .bool false]) (by simp [results, Tryz.results137, go_sem]) rfl ?_
      exact ⟨by rw [HZ.out], (by repeat (first | with_reducible exact Ext.refl _ | refine Ext.drewN ?_ _ | refine Ext.drew ?_ | refine Ext.alloc ?_ _ | assumption | (refine Below.trans ?_ (by assumption)) | (refine Ext.trans ?_ (by assumption)) | (refine Below.trans ?_ (Below.mono (by assumption) (by omega)))))⟩
  · replace HZ := Lib.hid (HZ.out.trans (if_neg h13))
    have i13 : (c == 13) = false := by simpa using h13
    by_cases h10 : c = 10
    · subst h10
      replace HZ := Lib.hid (HZ.out.trans (if_pos rfl))
      clear i13 h13
      go_enter Tryz.func137, Tryz.ntmps137
      go_wp2_with ((refine wpList_load_row rfl 139 _ rfl _ rfl 139 _ _ _ (Blk.ext hT.out (by repeat (first | with_reducible exact Ext.refl _ | refine Ext.drewN ?_ _ | refine Ext.drew ?_ | refine Ext.alloc ?_ _ | assumption | (refine Below.trans ?_ (by assumption)) | (refine Ext.trans ?_ (by assumption)) | (refine Below.trans ?_ (Below.mono (by assumption) (by omega)))))) Tryz.underlying139 rfl hi ?_))
      (with_reducible refine (h34 _).mono ?_); rintro e w1 ⟨rfl, E1⟩
      cases f4
      · replace HZ := Lib.hid (HZ.out.trans (if_neg (by decide)))
        go_wp2
        refine bodyPost_ret (v := .tuple #[.int .u8 10, .bool true]) (by simp [results, Tryz.results137, go_sem]) rfl ?_
        exact ⟨by rw [HZ.out], (by repeat (first | with_reducible exact Ext.refl _ | refine Ext.drewN ?_ _ | refine Ext.drew ?_ | refine Ext.alloc ?_ _ | assumption | (refine Below.trans ?_ (by assumption)) | (refine Ext.trans ?_ (by assumption)) | (refine Below.trans ?_ (Below.mono (by assumption) (by omega)))))⟩
      · replace HZ := Lib.hid (HZ.out.trans (if_pos rfl))
        go_wp2
        refine bodyPost_ret (v := .tuple #[.int .u8 13, .bool true]) (by simp [results, Tryz.results137, go_sem]) rfl ?_
        exact ⟨by rw [HZ.out], (by repeat (first | with_reducible exact Ext.refl _ | refine Ext.drewN ?_ _ | refine Ext.drew ?_ | refine Ext.alloc ?_ _ | assumption | (refine Below.trans ?_ (by assumption)) | (refine Ext.trans ?_ (by assumption)) | (refine Below.trans ?_ (Below.mono (by assumption) (by omega)))))⟩
    · replace HZ := Lib.hid (HZ.out.trans (if_neg h10))
      have i10 : (c == 10) = false := by simpa using h10
      clear h13 h10
      go_enter Tryz.func137, Tryz.ntmps137
      go_wp2
      refine bodyPost_ret (v := .tuple #[.int .u8 c, .bool true]) (by simp [results, Tryz.results137, go_sem]) rfl ?_
      exact ⟨by rw [HZ.out], (by repeat (first | with_reducible exact Ext.refl _ | refine Ext.drewN ?_ _ | refine Ext.drew ?_ | refine Ext.alloc ?_ _ | assumption | (refine Below.trans ?_ (by assumption)) | (refine Ext.trans ?_ (by assumption)) | (refine Below.trans ?_ (Below.mono (by assumption) (by omega)))))⟩
end Go.Proofs.YtfnicinnjkbedaaGreatDoor.Mi
namespace Go.Proofs.YtfnicinnjkbedaaGreatDoor.Mi
set_option maxRecDepth 100000
open Go.RowKit Go.Kb

theorem steps_any (w : World) : Calls Tryz.prog 113 #[] w fun e w' => e = .returned (.agg #[.func (.func 135) #[] #[], .func (.func 136) #[] #[], .func (.func 137) #[] #[]]) ∧ Ext w w' := by
  have hi : (Tryz.prog.info? 169).map (·.size) = some 3 := by kernel_rfl
  go_enter Tryz.func113, Tryz.ntmps113
  go_wp2_with (refine wpList_store_A rfl 169 _ _ rfl w.heap.size _ rfl rfl 169 _ (show Blk _ _ _ _ from Blk.at_ _ _ (by simp)) hi rfl (by simp [Value.oneCell']) ?_; intro w2 HB E2; have E2 := E2 w.heap.size w (by repeat (first | with_reducible exact Ext.refl _ | refine Ext.drewN ?_ _ | refine Ext.drew ?_ | refine Ext.alloc ?_ _ | assumption | (refine Below.trans ?_ (by assumption)) | (refine Ext.trans ?_ (by assumption)) | (refine Below.trans ?_ (Below.mono (by assumption) (by omega))))) (Nat.le_refl _))
  refine bodyPost_ret_by (results_cell_row Tryz.results113 _ _ w.heap.size 169 _ _ _ rfl HB Tryz.underlying169 rfl hi) rfl ?_
  exact ⟨rfl, E2⟩
set_option maxHeartbeats 800000 in
theorem through02_any (t : Tm) (c : Int) (w : World) (ht : t.Ok) (hc : 0 ≤ c ∧ c ≤ 255) : Calls Tryz.prog 81 #[.agg t.arr, .int .u8 c, .int .i64 0, .int .i64 2] w (SPost w (stripL (mfL t) c, true)) := by
  have hn := t.size ht
  have hL := fun c w' hc => low_any t c w' ht hc
  have hS := fun c w' hc => small_any t c w' ht hc
  have hE := fun c w' => ends_any t c w' ht
  generalize mfL t = f at *
  generalize t.arr = cs at *
  clear ht
  have HL := Lib.hid hL
  have HS := Lib.hid hS
  have HE := Lib.hid hE
  clear hL hS hE
  have hi : (Tryz.prog.info? 139).map (·.size) = some cs.size := by rw [hn]; kernel_rfl
  have hi3 : (Tryz.prog.info? 169).map (·.size) = some 3 := by kernel_rfl
  have hT := Lib.hid (Blk.new w 139 cs)
  have HC := Lib.hid hc
  clear hc
  go_enter Tryz.func81, Tryz.ntmps81
  (go_wp2_with fail; refine (steps_any _).mono ?_; rintro e w1 ⟨rfl, E1⟩)
  have E01 : Ext (w.alloc (.cells cs 139)) w1 := E1
  go_wp2_with (refine wpList_store_A rfl 169 _ _ rfl w1.heap.size _ rfl rfl 169 _ (show Blk _ _ _ _ from Blk.at_ _ _ (by simp)) hi3 rfl (by simp [Value.oneCell']) ?_; intro w2 HB2 E2; have E2 := E2 w1.heap.size w1 (by repeat (first | with_reducible exact Ext.refl _ | refine Ext.drewN ?_ _ | refine Ext.drew ?_ | refine Ext.alloc ?_ _ | assumption | (refine Below.trans ?_ (by assumption)) | (refine Ext.trans ?_ (by assumption)) | (refine Below.trans ?_ (Below.mono (by assumption) (by omega))))) (Nat.le_refl _); have HB2 := Lib.hid HB2)
  have E02 : Ext (w.alloc (.cells cs 139)) w2 := E01.trans E2
  clear E1 E01 E2
  go_loopw [1, 19] (fun x i wr => ((i = .int .i64 0 ∧ x = .int .u8 c) ∨ (i = .int .i64 1 ∧ x = .int .u8 (lowL f c)) ∨ (i = .int .i64 2 ∧ x = .int .u8 (stripL f c))) ∧ Ext w2 wr) (fun _ i _ => 2 - (intOf i).toNat)
  case atStart => exact ⟨.inl ⟨rfl, rfl⟩, Ext.refl _⟩
  case round =>
    obtain ⟨hk, E2r⟩ := hrel
    have E0r := E02.trans E2r
    rcases hk with ⟨rfl, rfl⟩ | ⟨rfl, rfl⟩ | ⟨rfl, rfl⟩
    · have hcell := (HB2.out.ext E2r).cell 0
      simp only [List.getElem?_toArray, List.getElem?_cons_zero] at hcell
      clear E02
      go_wp2_with ((refine wpList_load_row rfl 139 _ rfl _ rfl 139 _ _ _ (Blk.ext hT.out (by repeat (first | with_reducible exact Ext.refl _ | refine Ext.drewN ?_ _ | refine Ext.drew ?_ | refine Ext.alloc ?_ _ | assumption | (refine Below.trans ?_ (by assumption)) | (refine Ext.trans ?_ (by assumption)) | (refine Below.trans ?_ (Below.mono (by assumption) (by omega)))))) Tryz.underlying139 rfl hi ?_))
      (with_reducible refine (HL.out c _ HC.out).mono ?_); rintro e w3 ⟨rfl, E3⟩
      go_wp2
      go_roundw
      case rel => exact ⟨.inr (.inl ⟨rfl, rfl⟩), E2r.trans E3⟩
      case measure => simp [intOf]
    · have hcell := (HB2.out.ext E2r).cell 1
      simp only [List.getElem?_toArray, List.getElem?_cons_succ, List.getElem?_cons_zero] at hcell
      clear E02
      go_wp2_with ((refine wpList_load_row rfl 139 _ rfl _ rfl 139 _ _ _ (Blk.ext hT.out (by repeat (first | with_reducible exact Ext.refl _ | refine Ext.drewN ?_ _ | refine Ext.drew ?_ | refine Ext.alloc ?_ _ | assumption | (refine Below.trans ?_ (by assumption)) | (refine Ext.trans ?_ (by assumption)) | (refine Below.trans ?_ (Below.mono (by assumption) (by omega)))))) Tryz.underlying139 rfl hi ?_))
      (with_reducible refine (HS.out (lowL f c) _ (lowL_bd HC.out)).mono ?_); rintro e w3 ⟨rfl, E3⟩
      go_wp2
      go_roundw
      case rel => exact ⟨.inr (.inr ⟨rfl, rfl⟩), E2r.trans E3⟩
      case measure => simp [intOf]
    ·
      go_wp2
      refine bodyPost_ret (v := .tuple #[.int .u8 (stripL f c), .bool true]) (by simp [results, Tryz.results81, go_sem]) rfl ?_
      exact ⟨rfl, Ext.trans ((Ext.refl w).alloc _) E0r⟩
set_option maxHeartbeats 800000 in
theorem through23_any (t : Tm) (c : Int) (w : World) (ht : t.Ok) (hc : 0 ≤ c ∧ c ≤ 255) : Calls Tryz.prog 81 #[.agg t.arr, .int .u8 c, .int .i64 2, .int .i64 3] w (SPost w (endsL (mfL t) c)) := by
  have hn := t.size ht
  have hL := fun c w' hc => low_any t c w' ht hc
  have hS := fun c w' hc => small_any t c w' ht hc
  have hE := fun c w' => ends_any t c w' ht
  generalize mfL t = f at *
  generalize t.arr = cs at *
  clear ht
  have HL := Lib.hid hL
  have HS := Lib.hid hS
  have HE := Lib.hid hE
  clear hL hS hE
  have hi : (Tryz.prog.info? 139).map (·.size) = some cs.size := by rw [hn]; kernel_rfl
  have hi3 : (Tryz.prog.info? 169).map (·.size) = some 3 := by kernel_rfl
  have hT := Lib.hid (Blk.new w 139 cs)
  have HC := Lib.hid hc
  clear hc
  go_enter Tryz.func81, Tryz.ntmps81
  (go_wp2_with fail; refine (steps_any _).mono ?_; rintro e w1 ⟨rfl, E1⟩)
  have E01 : Ext (w.alloc (.cells cs 139)) w1 := E1
  go_wp2_with (refine wpList_store_A rfl 169 _ _ rfl w1.heap.size _ rfl rfl 169 _ (show Blk _ _ _ _ from Blk.at_ _ _ (by simp)) hi3 rfl (by simp [Value.oneCell']) ?_; intro w2 HB2 E2; have E2 := E2 w1.heap.size w1 (by repeat (first | with_reducible exact Ext.refl _ | refine Ext.drewN ?_ _ | refine Ext.drew ?_ | refine Ext.alloc ?_ _ | assumption | (refine Below.trans ?_ (by assumption)) | (refine Ext.trans ?_ (by assumption)) | (refine Below.trans ?_ (Below.mono (by assumption) (by omega))))) (Nat.le_refl _); have HB2 := Lib.hid HB2)
  have E02 : Ext (w.alloc (.cells cs 139)) w2 := E01.trans E2
  clear E1 E01 E2
  have HX := Lib.hid fun w' => HE.out c w'
  have HY : Hid ((endsL f c).2 = false → (endsL f c).1 = 0) := Lib.hid (by
    unfold endsL
    repeat' split
    all_goals simp)
  clear HE
  generalize endsL f c = z at *
  obtain ⟨zx, zb⟩ := z
  go_loopw [1, 19] (fun x i wr => ((i = .int .i64 0 ∧ x = .int .u8 c) ∨ (i = .int .i64 1 ∧ x = .int .u8 zx ∧ zb = true)) ∧ Ext w2 wr) (fun _ i _ => 1 - (intOf i).toNat)
  case atStart => exact ⟨.inl ⟨rfl, rfl⟩, Ext.refl _⟩
  case round =>
    obtain ⟨hk, E2r⟩ := hrel
    have E0r := E02.trans E2r
    rcases hk with ⟨rfl, rfl⟩ | ⟨rfl, rfl, rfl⟩
    · have hcell := (HB2.out.ext E2r).cell 2
      simp only [List.getElem?_toArray, List.getElem?_cons_succ, List.getElem?_cons_zero] at hcell
      clear E02
      go_wp2_with ((refine wpList_load_row rfl 139 _ rfl _ rfl 139 _ _ _ (Blk.ext hT.out (by repeat (first | with_reducible exact Ext.refl _ | refine Ext.drewN ?_ _ | refine Ext.drew ?_ | refine Ext.alloc ?_ _ | assumption | (refine Below.trans ?_ (by assumption)) | (refine Ext.trans ?_ (by assumption)) | (refine Below.trans ?_ (Below.mono (by assumption) (by omega)))))) Tryz.underlying139 rfl hi ?_))
      (with_reducible refine (HX.out _).mono ?_); rintro e w3 ⟨rfl, E3⟩
      cases zb
      · obtain rfl : zx = 0 := HY.out rfl
        go_wp2
        refine bodyPost_ret (v := .tuple #[.int .u8 0, .bool false]) (by simp [results, Tryz.results81, go_sem]) rfl ?_
        exact ⟨rfl, Ext.trans ((Ext.refl w).alloc _) (E0r.trans E3)⟩
      · go_wp2
        go_roundw
        case rel => exact ⟨.inr ⟨rfl, rfl, by trivial⟩, E2r.trans E3⟩
        case measure => simp [intOf]
    ·
      go_wp2
      refine bodyPost_ret (v := .tuple #[.int .u8 zx, .bool true]) (by simp [results, Tryz.results81, go_sem]) rfl ?_
      exact ⟨rfl, Ext.trans ((Ext.refl w).alloc _) E0r⟩
end Go.Proofs.YtfnicinnjkbedaaGreatDoor.Mi
namespace Go.Proofs.YtfnicinnjkbedaaGreatDoor.Mi
set_option maxRecDepth 100000
open Go.RowKit Go.Kb

theorem built_is {cs : Array Value} (h : cs.size = 24) : Tryz.prog.built 139 [(0, .agg cs)] = some cs := by
  have e := arr24 h
  conv => rhs; rw [← e]
  conv => lhs; rw [← e]
  kernel_rfl
theorem strip_any (t : Tm) (c : Int) (w : World) (ht : t.Ok) (hc : 0 ≤ c ∧ c ≤ 255) : Calls Tryz.prog 42 #[.agg t.arr, .int .u8 c] w fun e w' => e = .returned (.int .u8 (stripL (mfL t) c)) ∧ Ext w w' := by
  have hn := t.size ht
  have hF := fun w' => through02_any t c w' ht hc
  generalize stripL (mfL t) c = z at *
  generalize t.arr = cs at *
  clear ht hc
  have HF := Lib.hid hF
  clear hF
  have hbi := built_is hn
  have hi : (Tryz.prog.info? 26).map (·.size) = some cs.size := by rw [hn]; kernel_rfl
  have hT := Lib.hid (Blk.new w 26 cs)
  go_enter Tryz.func42, Tryz.ntmps42
  go_wp2_with (first | (refine wpList_load_row rfl 26 _ rfl _ rfl 26 _ _ _ (Blk.ext hT.out (by repeat (first | with_reducible exact Ext.refl _ | refine Ext.drewN ?_ _ | refine Ext.drew ?_ | refine Ext.alloc ?_ _ | assumption | (refine Below.trans ?_ (by assumption)) | (refine Ext.trans ?_ (by assumption)) | (refine Below.trans ?_ (Below.mono (by assumption) (by omega)))))) Tryz.underlying26 rfl hi ?_) | (refine wpList_build_eq rfl 139 _ rfl (L := cs) (by simp [go_sem]; exact hbi) ?_))
  (with_reducible refine (HF.out _).mono ?_); rintro e w1 ⟨rfl, E1⟩
  go_wp2
  go_ret
  exact ⟨rfl, (by repeat (first | with_reducible exact Ext.refl _ | refine Ext.drewN ?_ _ | refine Ext.drew ?_ | refine Ext.alloc ?_ _ | assumption | (refine Below.trans ?_ (by assumption)) | (refine Ext.trans ?_ (by assumption)) | (refine Below.trans ?_ (Below.mono (by assumption) (by omega)))))⟩
theorem turn_any (t : Tm) (c : Int) (w : World) (ht : t.Ok) (hc : 0 ≤ c ∧ c ≤ 255) : Calls Tryz.prog 47 #[.agg t.arr, .int .u8 c] w (SPost w (endsL (mfL t) c)) := by
  have hn := t.size ht
  have hF := fun w' => through23_any t c w' ht hc
  generalize endsL (mfL t) c = z at *
  obtain ⟨zx, zb⟩ := z
  generalize t.arr = cs at *
  clear ht hc
  have HF := Lib.hid hF
  clear hF
  have hbi := built_is hn
  have hi : (Tryz.prog.info? 26).map (·.size) = some cs.size := by rw [hn]; kernel_rfl
  have hT := Lib.hid (Blk.new w 26 cs)
  go_enter Tryz.func47, Tryz.ntmps47
  go_wp2_with (first | (refine wpList_load_row rfl 26 _ rfl _ rfl 26 _ _ _ (Blk.ext hT.out (by repeat (first | with_reducible exact Ext.refl _ | refine Ext.drewN ?_ _ | refine Ext.drew ?_ | refine Ext.alloc ?_ _ | assumption | (refine Below.trans ?_ (by assumption)) | (refine Ext.trans ?_ (by assumption)) | (refine Below.trans ?_ (Below.mono (by assumption) (by omega)))))) Tryz.underlying26 rfl hi ?_) | (refine wpList_build_eq rfl 139 _ rfl (L := cs) (by simp [go_sem]; exact hbi) ?_))
  (with_reducible refine (HF.out _).mono ?_); rintro e w1 ⟨rfl, E1⟩
  go_wp2
  refine bodyPost_ret (v := .tuple #[.int .u8 zx, .bool zb]) (by simp [results, Tryz.results47, go_sem]) rfl ?_
  exact ⟨rfl, (by repeat (first | with_reducible exact Ext.refl _ | refine Ext.drewN ?_ _ | refine Ext.drew ?_ | refine Ext.alloc ?_ _ | assumption | (refine Below.trans ?_ (by assumption)) | (refine Ext.trans ?_ (by assumption)) | (refine Below.trans ?_ (Below.mono (by assumption) (by omega)))))⟩
/-- bytes that may be read -/
def RPost (w : World) (l : List Int) (e : Ending) (w' : World) : Prop := ∃ A n c, l.length = n ∧ e = .returned (.slice A n c) ∧ RI .u8 w' (.slice A n c) l ∧ (∀ k, (Value.slice A n c).ownBlock = some k → w.heap.size ≤ k) ∧ Ext w w'
set_option maxHeartbeats 400000 in
theorem mark_any (t : Tm) (c : Int) (w : World) (ht : t.Ok) : Calls Tryz.prog 92 #[.agg t.arr, .int .u8 c] w (RPost w (markL (mfL t) c)) := by
  have hn := t.size ht
  have h31 := fun w' => ihas_any t 31 w' ht
  have h33 := fun w' => ihas_any t 33 w' ht
  have hf : markL (mfL t) c = if c = 255 ∧ hasL t 31 = true ∧ hasL t 33 = false then [255, 255] else [c] := rfl
  obtain ⟨z, hz0⟩ : ∃ z, markL (mfL t) c = z := ⟨_, rfl⟩; rw [hz0]; have HZ := Lib.hid (hz0.symm.trans hf); clear hz0 hf
  have h1 := Lib.hid t.one
  generalize hasL t 31 = f1 at *
  generalize hasL t 33 = f3 at *
  generalize t.arr = cs at *
  clear ht
  have hbi := built_is hn
  have hi : (Tryz.prog.info? 26).map (·.size) = some cs.size := by rw [hn]; kernel_rfl
  have hj : (Tryz.prog.info? 139).map (·.size) = some cs.size := by rw [hn]; kernel_rfl
  have hT := Lib.hid (Blk.new w 26 cs)
  have hn24 := Lib.hid hn
  by_cases hc : c = 255
  · subst hc
    go_enter Tryz.func92, Tryz.ntmps92
    go_wp2_with (first | (refine wpList_load_row rfl 26 _ rfl _ rfl 26 _ _ _ (Blk.ext hT.out (by repeat (first | with_reducible exact Ext.refl _ | refine Ext.drewN ?_ _ | refine Ext.drew ?_ | refine Ext.alloc ?_ _ | assumption | (refine Below.trans ?_ (by assumption)) | (refine Ext.trans ?_ (by assumption)) | (refine Below.trans ?_ (Below.mono (by assumption) (by omega)))))) Tryz.underlying26 rfl hi ?_) | (refine wpList_build_eq rfl 139 _ rfl (L := cs) (by simp [go_sem]; exact hbi) ?_) | (refine wpList_store_A rfl 139 _ _ rfl (w.heap.size + 1) _ rfl rfl 139 _ (show Blk _ _ _ _ from Blk.at_ _ _ (by simp)) hj (by rw [hn24.out]; rfl) h1.out ?_; intro w2 H2 E2; have E2 := E2 w.heap.size w (by repeat (first | with_reducible exact Ext.refl _ | refine Ext.drewN ?_ _ | refine Ext.drew ?_ | refine Ext.alloc ?_ _ | assumption | (refine Below.trans ?_ (by assumption)) | (refine Ext.trans ?_ (by assumption)) | (refine Below.trans ?_ (Below.mono (by assumption) (by omega))))) (Nat.le_succ _); have H2 := Lib.hid H2) | (refine wpList_openG rfl rfl ?_; (refine wpList_load_row rfl 139 _ rfl _ rfl 139 _ _ _ (Blk.ext H2.out (by repeat (first | with_reducible exact Ext.refl _ | refine Ext.drewN ?_ _ | refine Ext.drew ?_ | refine Ext.alloc ?_ _ | assumption | (refine Below.trans ?_ (by assumption)) | (refine Ext.trans ?_ (by assumption)) | (refine Below.trans ?_ (Below.mono (by assumption) (by omega)))))) Tryz.underlying139 rfl hj ?_)))
    (with_reducible refine (h31 _).mono ?_); rintro e w3 ⟨rfl, E3⟩
    cases f1
    · replace HZ := Lib.hid (HZ.out.trans (if_neg (fun h => by cases h.2.1)))
      go_wp2
      go_ret
      exact ⟨_, 1, 1, by rw [HZ.out]; rfl, rfl, by rw [HZ.out]; exact RI.lit .u8 [255] _ rfl (by simp), (fun k hk => by simp only [Value.ownBlock, Option.some.injEq] at hk; subst hk; (try have z2 := E2.size); (try have z3 := E3.size); (try have z4 := E4.size); simp at *; omega), (by repeat (first | with_reducible exact Ext.refl _ | refine Ext.drewN ?_ _ | refine Ext.drew ?_ | refine Ext.alloc ?_ _ | assumption | (refine Below.trans ?_ (by assumption)) | (refine Ext.trans ?_ (by assumption)) | (refine Below.trans ?_ (Below.mono (by assumption) (by omega)))))⟩
    · go_wp2_with (first | (refine wpList_load_row rfl 26 _ rfl _ rfl 26 _ _ _ (Blk.ext hT.out (by repeat (first | with_reducible exact Ext.refl _ | refine Ext.drewN ?_ _ | refine Ext.drew ?_ | refine Ext.alloc ?_ _ | assumption | (refine Below.trans ?_ (by assumption)) | (refine Ext.trans ?_ (by assumption)) | (refine Below.trans ?_ (Below.mono (by assumption) (by omega)))))) Tryz.underlying26 rfl hi ?_) | (refine wpList_build_eq rfl 139 _ rfl (L := cs) (by simp [go_sem]; exact hbi) ?_) | (refine wpList_store_A rfl 139 _ _ rfl (w.heap.size + 1) _ rfl rfl 139 _ (show Blk _ _ _ _ from Blk.at_ _ _ (by simp)) hj (by rw [hn24.out]; rfl) h1.out ?_; intro w2 H2 E2; have E2 := E2 w.heap.size w (by repeat (first | with_reducible exact Ext.refl _ | refine Ext.drewN ?_ _ | refine Ext.drew ?_ | refine Ext.alloc ?_ _ | assumption | (refine Below.trans ?_ (by assumption)) | (refine Ext.trans ?_ (by assumption)) | (refine Below.trans ?_ (Below.mono (by assumption) (by omega))))) (Nat.le_succ _); have H2 := Lib.hid H2) | (refine wpList_openG rfl rfl ?_; (refine wpList_load_row rfl 139 _ rfl _ rfl 139 _ _ _ (Blk.ext H2.out (by repeat (first | with_reducible exact Ext.refl _ | refine Ext.drewN ?_ _ | refine Ext.drew ?_ | refine Ext.alloc ?_ _ | assumption | (refine Below.trans ?_ (by assumption)) | (refine Ext.trans ?_ (by assumption)) | (refine Below.trans ?_ (Below.mono (by assumption) (by omega)))))) Tryz.underlying139 rfl hj ?_)))
      (with_reducible refine (h33 _).mono ?_); rintro e w4 ⟨rfl, E4⟩
      cases f3
      · replace HZ := Lib.hid (HZ.out.trans (if_pos ⟨by trivial, by trivial, by trivial⟩))
        go_wp2
        go_ret
        exact ⟨_, 2, 2, by rw [HZ.out]; rfl, rfl, by rw [HZ.out]; exact RI.lit .u8 [255, 255] _ rfl (by simp), (fun k hk => by simp only [Value.ownBlock, Option.some.injEq] at hk; subst hk; (try have z2 := E2.size); (try have z3 := E3.size); (try have z4 := E4.size); simp at *; omega), (by repeat (first | with_reducible exact Ext.refl _ | refine Ext.drewN ?_ _ | refine Ext.drew ?_ | refine Ext.alloc ?_ _ | assumption | (refine Below.trans ?_ (by assumption)) | (refine Ext.trans ?_ (by assumption)) | (refine Below.trans ?_ (Below.mono (by assumption) (by omega)))))⟩
      · replace HZ := Lib.hid (HZ.out.trans (if_neg (fun h => by cases h.2.2)))
        go_wp2
        go_ret
        exact ⟨_, 1, 1, by rw [HZ.out]; rfl, rfl, by rw [HZ.out]; exact RI.lit .u8 [255] _ rfl (by simp), (fun k hk => by simp only [Value.ownBlock, Option.some.injEq] at hk; subst hk; (try have z2 := E2.size); (try have z3 := E3.size); (try have z4 := E4.size); simp at *; omega), (by repeat (first | with_reducible exact Ext.refl _ | refine Ext.drewN ?_ _ | refine Ext.drew ?_ | refine Ext.alloc ?_ _ | assumption | (refine Below.trans ?_ (by assumption)) | (refine Ext.trans ?_ (by assumption)) | (refine Below.trans ?_ (Below.mono (by assumption) (by omega)))))⟩
  · replace HZ := Lib.hid (HZ.out.trans (if_neg (fun h => hc h.1)))
    have hc0 : (c == 255) = false := by simpa using hc
    clear hc
    go_enter Tryz.func92, Tryz.ntmps92
    go_wp2_with (first | (refine wpList_load_row rfl 26 _ rfl _ rfl 26 _ _ _ (Blk.ext hT.out (by repeat (first | with_reducible exact Ext.refl _ | refine Ext.drewN ?_ _ | refine Ext.drew ?_ | refine Ext.alloc ?_ _ | assumption | (refine Below.trans ?_ (by assumption)) | (refine Ext.trans ?_ (by assumption)) | (refine Below.trans ?_ (Below.mono (by assumption) (by omega)))))) Tryz.underlying26 rfl hi ?_) | (refine wpList_build_eq rfl 139 _ rfl (L := cs) (by simp [go_sem]; exact hbi) ?_) | (refine wpList_store_A rfl 139 _ _ rfl (w.heap.size + 1) _ rfl rfl 139 _ (show Blk _ _ _ _ from Blk.at_ _ _ (by simp)) hj (by rw [hn24.out]; rfl) h1.out ?_; intro w2 H2 E2; have E2 := E2 w.heap.size w (by repeat (first | with_reducible exact Ext.refl _ | refine Ext.drewN ?_ _ | refine Ext.drew ?_ | refine Ext.alloc ?_ _ | assumption | (refine Below.trans ?_ (by assumption)) | (refine Ext.trans ?_ (by assumption)) | (refine Below.trans ?_ (Below.mono (by assumption) (by omega))))) (Nat.le_succ _); have H2 := Lib.hid H2) | (refine wpList_openG rfl rfl ?_; (refine wpList_load_row rfl 139 _ rfl _ rfl 139 _ _ _ (Blk.ext H2.out (by repeat (first | with_reducible exact Ext.refl _ | refine Ext.drewN ?_ _ | refine Ext.drew ?_ | refine Ext.alloc ?_ _ | assumption | (refine Below.trans ?_ (by assumption)) | (refine Ext.trans ?_ (by assumption)) | (refine Below.trans ?_ (Below.mono (by assumption) (by omega)))))) Tryz.underlying139 rfl hj ?_)))
    go_ret
    exact ⟨_, 1, 1, by rw [HZ.out]; rfl, rfl, by rw [HZ.out]; exact RI.lit .u8 [c] _ rfl (by simp), (fun k hk => by simp only [Value.ownBlock, Option.some.injEq] at hk; subst hk; (try have z2 := E2.size); (try have z3 := E3.size); (try have z4 := E4.size); simp at *; omega), (by repeat (first | with_reducible exact Ext.refl _ | refine Ext.drewN ?_ _ | refine Ext.drew ?_ | refine Ext.alloc ?_ _ | assumption | (refine Below.trans ?_ (by assumption)) | (refine Ext.trans ?_ (by assumption)) | (refine Below.trans ?_ (Below.mono (by assumption) (by omega)))))⟩
end Go.Proofs.YtfnicinnjkbedaaGreatDoor.Mi
