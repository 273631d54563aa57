/- message: parts put back (plain), and what puts each part. No condition. -/
import Derived.Test.YtldijmappinngaaGreatDoorOO04
namespace Go.Proofs.YtldijmappinngaaGreatDoor
open Go.RowKit Go.Kb
set_option maxRecDepth 100000

/-- a part put into a message -/
def putM (q : Pa) (m : Mg) (f : Fd) : Mg :=
  if q.p = 85 then { m with co := f.n } else
  if q.p = 95 then { m with se := f.n } else
  if q.p = 97 then { m with wi := f.n } else
  if q.p = 99 then { m with pk := f.n } else
  if q.p = 101 then { m with ch := f.n } else
  if q.p = 93 then { m with wa := (f.n == 1) } else
  if q.p = 91 then { m with nm := strOfNums f.t } else
  if q.p = 89 then { m with la := strOfNums f.t } else
  { m with da := f.t }
theorem en_putCode (args : Array Value) (w : World) : (callFunc 85 args).run Tryz.prog w = .ok (.enter 85 args) w := by kernel_rfl
theorem en_putSender (args : Array Value) (w : World) : (callFunc 95 args).run Tryz.prog w = .ok (.enter 95 args) w := by kernel_rfl
theorem en_putWindow (args : Array Value) (w : World) : (callFunc 97 args).run Tryz.prog w = .ok (.enter 97 args) w := by kernel_rfl
theorem en_putPacket (args : Array Value) (w : World) : (callFunc 99 args).run Tryz.prog w = .ok (.enter 99 args) w := by kernel_rfl
theorem en_putChan (args : Array Value) (w : World) : (callFunc 101 args).run Tryz.prog w = .ok (.enter 101 args) w := by kernel_rfl
theorem en_putData (args : Array Value) (w : World) : (callFunc 87 args).run Tryz.prog w = .ok (.enter 87 args) w := by kernel_rfl
theorem en_putWant (args : Array Value) (w : World) : (callFunc 93 args).run Tryz.prog w = .ok (.enter 93 args) w := by kernel_rfl
theorem en_putName (args : Array Value) (w : World) : (callFunc 91 args).run Tryz.prog w = .ok (.enter 91 args) w := by kernel_rfl
theorem en_putLang (args : Array Value) (w : World) : (callFunc 89 args).run Tryz.prog w = .ok (.enter 89 args) w := by kernel_rfl
/-- what puts a part -/
structure PutsP (q : Pa) : Prop where
  enters : ∀ args w', (callFunc q.p args).run Tryz.prog w' = .ok (.enter q.p args) w'
  puts : ∀ g m v k f vt vl A w, Blk w g 67 (mgA m v) → RdS Ub8 A w v m.da → RdS Ub8 A w vt f.t → (∀ k, A k → k ≠ g) → Calls Tryz.prog q.p #[.pointer (some ⟨g, 0, none⟩), .agg #[.int .i64 k, .int .u32 f.n, vt, vl]] w (PutP g A (putM q m f) w)
theorem puts_all {q : Pa} (hq : q ∈ allPa) : PutsP q := by
  simp only [allPa, List.mem_cons, List.not_mem_nil, or_false] at hq
  rcases hq with rfl | rfl | rfl | rfl | rfl | rfl | rfl | rfl | rfl | rfl
  · exact ⟨en_putCode, fun g m v k f vt vl A w h1 h2 h3 h4 => mputCode g m v k f.n f.t vt vl A w h1 h2 h3 h4⟩
  · exact ⟨en_putData, fun g m v k f vt vl A w h1 h2 h3 h4 => mputData g m v k f.n f.t vt vl A w h1 h2 h3 h4⟩
  · exact ⟨en_putLang, fun g m v k f vt vl A w h1 h2 h3 h4 => mputLang g m v k f.n f.t vt vl A w h1 h2 h3 h4⟩
  · exact ⟨en_putName, fun g m v k f vt vl A w h1 h2 h3 h4 => mputName g m v k f.n f.t vt vl A w h1 h2 h3 h4⟩
  · exact ⟨en_putWant, fun g m v k f vt vl A w h1 h2 h3 h4 => mputWant g m v k f.n f.t vt vl A w h1 h2 h3 h4⟩
  · exact ⟨en_putData, fun g m v k f vt vl A w h1 h2 h3 h4 => mputData g m v k f.n f.t vt vl A w h1 h2 h3 h4⟩
  · exact ⟨en_putSender, fun g m v k f vt vl A w h1 h2 h3 h4 => mputSender g m v k f.n f.t vt vl A w h1 h2 h3 h4⟩
  · exact ⟨en_putWindow, fun g m v k f vt vl A w h1 h2 h3 h4 => mputWindow g m v k f.n f.t vt vl A w h1 h2 h3 h4⟩
  · exact ⟨en_putPacket, fun g m v k f vt vl A w h1 h2 h3 h4 => mputPacket g m v k f.n f.t vt vl A w h1 h2 h3 h4⟩
  · exact ⟨en_putChan, fun g m v k f vt vl A w h1 h2 h3 h4 => mputChan g m v k f.n f.t vt vl A w h1 h2 h3 h4⟩
theorem str_back (s : ByteArray) : strOfNums (bsL s) = s := by
  have h : (bsL s).map (fun n => UInt8.ofNat n.toNat) = s.data.toList := by
    unfold bsL
    rw [List.map_map]
    conv => rhs; rw [← List.map_id s.data.toList]
    refine List.map_congr_left fun x _ => ?_
    simp
  unfold strOfNums
  rw [h]
/-- the message of a kind with nothing put -/
def mg0 (k : Int) : Mg := ⟨k, 0, 0, 0, 0, 0, ⟨#[]⟩, ⟨#[]⟩, false, []⟩
/-- parts of a message put into another one -/
def putAll (ps : List Pa) (m x : Mg) : Mg := ps.foldl (fun x q => putM q x (vOf q m)) x
/-- a message with the fields of its kind alone -/
def ownM (m : Mg) : Mg := match rowL m.k with | some ps => putAll ps m (mg0 m.k) | none => mg0 m.k
theorem put_k (q : Pa) (m : Mg) (f : Fd) : (putM q m f).k = m.k := by
  unfold putM
  repeat (split; rfl)
  rfl
theorem putAll_k (ps : List Pa) (m x : Mg) : (putAll ps m x).k = x.k := by
  induction ps generalizing x with
  | nil => rfl
  | cons a l ih =>
    show (putAll l m (putM a x (vOf a m))).k = x.k
    rw [ih, put_k]
theorem putAll_take {ps : List Pa} {j : Nat} {q : Pa} (h : ps[j]? = some q) (m x : Mg) : putAll (ps.take (j + 1)) m x = putM q (putAll (ps.take j) m x) (vOf q m) := by
  unfold putAll
  rw [List.take_add_one, h]
  simp
/-- the fields of a message that is encoded are as they are read -/
theorem flds_can {m : Mg} (hm : m.Ok) {ps : List Pa} (h : rowL m.k = some ps) (hf : ∀ f ∈ flds m ps, fltF f.k f.n f.t = 0) : ∀ f ∈ flds m ps, FdCan f := by
  intro f hmem
  have h0 := hf f hmem
  have hk := row_kind h
  unfold KindOk at hk
  unfold flds at hmem
  rcases List.mem_cons.1 hmem with rfl | hmem
  · exact .inl ⟨rfl, by dsimp only; omega, rfl⟩
  · obtain ⟨q, hq, rfl⟩ := List.mem_map.1 hmem
    have ha := (row_all h).2.1 q hq
    obtain ⟨h1, h2, h3, h4, h5, -, -, -, -⟩ := hm
    simp only [allPa, List.mem_cons, List.not_mem_nil, or_false] at ha
    rcases ha with rfl | rfl | rfl | rfl | rfl | rfl | rfl | rfl | rfl | rfl
    · exact .inr (.inr (.inl ⟨rfl, h5, rfl⟩))
    · refine .inr (.inr (.inr (.inl ⟨rfl, rfl, ?_⟩)))
      simpa [fltF, vOf, paWords] using h0
    · refine .inr (.inr (.inr (.inl ⟨rfl, rfl, ?_⟩)))
      simpa [fltF, vOf, paLang] using h0
    · refine .inr (.inr (.inr (.inl ⟨rfl, rfl, ?_⟩)))
      simpa [fltF, vOf, paName] using h0
    · refine .inr (.inl ⟨rfl, ?_, rfl⟩)
      show 0 ≤ (if m.wa = true then (1 : Int) else 0) ∧ (if m.wa = true then (1 : Int) else 0) ≤ 1
      split <;> omega
    · refine .inr (.inr (.inr (.inr ⟨rfl, rfl, ?_⟩)))
      simpa [fltF, vOf, paRest] using h0
    · exact .inr (.inr (.inl ⟨rfl, h2, rfl⟩))
    · exact .inr (.inr (.inl ⟨rfl, h3, rfl⟩))
    · exact .inr (.inr (.inl ⟨rfl, h4, rfl⟩))
    · exact .inr (.inr (.inl ⟨rfl, h1, rfl⟩))
/-- what is put fits as what it was put of -/
theorem own_fit {m : Mg} {ps : List Pa} (h : rowL m.k = some ps) (hf : FitP m) : FitP (putAll ps m (mg0 m.k)) := by
  have hk := row_kind h
  unfold KindOk at hk
  obtain ⟨k, ch, se, wi, pk, co, nm, la, wa, da⟩ := m
  dsimp only at hk h
  rcases hk with rfl | rfl | rfl | rfl | rfl | rfl | rfl | rfl | rfl | rfl | rfl | rfl | rfl | rfl | rfl
  all_goals
    simp [rowL] at h
    subst h
    simp [FitP, putAll, putM, vOf, mg0, paCode, paWords, paLang, paName, paWant, paRest, paSender, paWindow, paPacket, paChan, str_back] at hf ⊢
    try exact hf
theorem putAll_sizes (ps : List Pa) (m x : Mg) (h1 : x.nm.size ≤ m.nm.size) (h2 : x.la.size ≤ m.la.size) (h3 : x.da = [] ∨ x.da = m.da) (hp : ∀ q ∈ ps, q ∈ allPa) : (putAll ps m x).nm.size ≤ m.nm.size ∧ (putAll ps m x).la.size ≤ m.la.size ∧ ((putAll ps m x).da = [] ∨ (putAll ps m x).da = m.da) := by
  induction ps generalizing x with
  | nil => exact ⟨h1, h2, h3⟩
  | cons a l ih =>
    have ha := hp a (List.mem_cons_self)
    have hl : ∀ q ∈ l, q ∈ allPa := fun q hq => hp q (List.mem_cons_of_mem _ hq)
    have key : (putM a x (vOf a m)).nm.size ≤ m.nm.size ∧ (putM a x (vOf a m)).la.size ≤ m.la.size ∧ ((putM a x (vOf a m)).da = [] ∨ (putM a x (vOf a m)).da = m.da) := by
      simp only [allPa, List.mem_cons, List.not_mem_nil, or_false] at ha
      rcases ha with rfl | rfl | rfl | rfl | rfl | rfl | rfl | rfl | rfl | rfl
      all_goals simp [putM, vOf, paCode, paWords, paLang, paName, paWant, paRest, paSender, paWindow, paPacket, paChan, str_back]
      all_goals first | exact ⟨h1, h2, h3⟩ | exact ⟨h1, h3⟩ | exact ⟨h2, h3⟩ | exact ⟨h1, h2⟩
    exact ih _ key.1 key.2.1 key.2.2 hl
theorem own_sizes (m : Mg) : (ownM m).nm.size ≤ m.nm.size ∧ (ownM m).la.size ≤ m.la.size ∧ ((ownM m).da = [] ∨ (ownM m).da = m.da) := by
  have hz : (⟨#[]⟩ : ByteArray).size = 0 := rfl
  unfold ownM
  split
  · rename_i ps hps
    exact putAll_sizes ps m _ (by show (⟨#[]⟩ : ByteArray).size ≤ _; omega) (by show (⟨#[]⟩ : ByteArray).size ≤ _; omega) (.inl rfl) (row_all hps).2.1
  · exact ⟨by show (⟨#[]⟩ : ByteArray).size ≤ _; omega, by show (⟨#[]⟩ : ByteArray).size ≤ _; omega, .inl rfl⟩
end Go.Proofs.YtldijmappinngaaGreatDoor
