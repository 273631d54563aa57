/- Messages in memory, and the plain law of TopFrames: encoded messages as packets, cut anywhere. No condition. -/
import Derived.Test.YtldijmappinngaaGreatDoorOT04
namespace Go.Proofs.YtldijmappinngaaGreatDoor
open Go.RowKit Go.Kb Go.Kb.Frame
set_option maxRecDepth 100000

/-- how a message lies in ten cells -/
def MgR : Rep Mg where
  size := 10
  pos := by decide
  rel := fun A w cs m => ∃ v, cs = (mgA m v).toList ∧ RdS Ub8 A w v m.da
  len := fun ⟨v, h, _⟩ => by rw [h]; rfl
  one := fun ⟨v, h, h2⟩ u hu => by
    obtain ⟨Ad, c, rfl, _⟩ := h2.shape
    rw [h] at hu
    simp at hu
    rcases hu with rfl | rfl | rfl | rfl | rfl | rfl | rfl | rfl | rfl | rfl <;> rfl
  keep := fun ⟨v, h, h2⟩ hk => ⟨v, h, h2.keep hk⟩
theorem mg_at {A : Nat → Prop} {w : World} {Ad : Option Addr} {n c j : Nat} {ms : List Mg} (h : RdY MgR A w (.slice Ad n c) ms) (hj : j < n) :
    ∃ b off m At ct, Ad = some ⟨b, off, none⟩ ∧ Hid (w.rangeAt b (off + j * 10) (mgA m (.slice At m.da.length ct)).toList) ∧ Hid (ms[j]? = some m) ∧ Hid (RdS Ub8 A w (.slice At m.da.length ct) m.da) := by
  obtain ⟨Ad', c', hv, _⟩ := h.shape
  simp only [Value.slice.injEq] at hv
  obtain ⟨rfl, rfl, rfl⟩ := hv
  obtain ⟨b, off, c, d, cs, hv, hd, ⟨v, rfl, hr⟩, hl, hc⟩ := h.cells hj
  simp only [Value.slice.injEq] at hv
  obtain ⟨At, ct, rfl, -, -⟩ := hr.shape
  exact ⟨b, off, d, At, ct, hv.1, Lib.hid hc, hd, Lib.hid hr⟩
/-- a message's payload -/
def encM (m : Mg) : List Int := match rowL m.k with | some ps => encL (flds m ps) | none => []
/-- a message that can be encoded -/
structure GoodM (m : Mg) : Prop where
  ok : m.Ok
  ps : ∃ ps, rowL m.k = some ps ∧ FitP m ∧ (∀ f ∈ flds m ps, fltF f.k f.n f.t = 0) ∧ (encL (flds m ps)).length ≤ 33792
theorem encM_len {m : Mg} (h : GoodM m) : 1 ≤ (encM m).length ∧ (encM m).length ≤ 33792 := by
  obtain ⟨ps, h1, -, -, h2⟩ := h.ps
  unfold encM
  rw [h1]
  exact ⟨by simp [encL, flds, encF], h2⟩
theorem fours_bs (n : Int) (h0 : 0 ≤ n) (h1 : n ≤ 4294967295) : Bs (Fr.four n) := by
  intro x hx
  simp only [Fr.four, List.mem_cons, List.not_mem_nil, or_false] at hx
  rcases hx with rfl | rfl | rfl | rfl <;> omega
theorem bsL_bs (s : ByteArray) : Bs (bsL s) := by
  intro x hx
  obtain ⟨u, _, rfl⟩ := List.mem_map.1 hx
  have := u.toNat_lt
  omega
theorem can_bs {f : Fd} (h : FdCan f) (ht : Bs f.t) : Bs (encF f.k f.n f.t) := by
  obtain ⟨k, n, t⟩ := f
  rcases h with ⟨rfl, hn, -⟩ | ⟨rfl, hn, -⟩ | ⟨rfl, hn, -⟩ | ⟨rfl, -, hl⟩ | ⟨rfl, -, -⟩
  · intro x hx
    simp [encF] at hx
    dsimp only at hn
    omega
  · intro x hx
    simp [encF] at hx
    dsimp only at hn
    omega
  · have : encF 3 n t = Fr.four n := by simp [encF]
    show Bs (encF 3 n t)
    rw [this]
    exact fours_bs n hn.1 hn.2
  · have : encF 4 n t = Fr.four t.length ++ t := by simp [encF]
    show Bs (encF 4 n t)
    rw [this]
    intro x hx
    rcases List.mem_append.1 hx with hx | hx
    · exact fours_bs _ (by omega) (by dsimp only at hl; omega) x hx
    · exact ht x hx
  · have : encF 6 n t = t := by simp [encF]
    show Bs (encF 6 n t)
    rw [this]
    exact ht
theorem vOf_bs {q : Pa} {m : Mg} (h : m.Ok) : Bs (vOf q m).t := by
  unfold vOf
  repeat' split
  all_goals first
    | exact bsL_bs _
    | exact h.bs
    | (intro x hx; simp at hx)
theorem encM_bs {m : Mg} (h : GoodM m) : Bs (encM m) := by
  obtain ⟨ps, h1, -, h2, -⟩ := h.ps
  unfold encM
  rw [h1]
  intro x hx
  simp only [encL, List.mem_flatten, List.mem_map] at hx
  obtain ⟨l, ⟨f, hf, rfl⟩, hx⟩ := hx
  refine can_bs (flds_can h.ok h1 h2 f hf) ?_ x hx
  unfold flds at hf
  rcases List.mem_cons.1 hf with rfl | hf
  · intro y hy; simp at hy
  · obtain ⟨q, hq, rfl⟩ := List.mem_map.1 hf
    exact vOf_bs h.ok
/-- the stream of some messages -/
def strM (qs : List Mg) : List Int := Fr.pack (qs.map encM)
theorem strM_nil : strM [] = [] := rfl
theorem strM_snoc (qs : List Mg) (m : Mg) : strM (qs ++ [m]) = strM qs ++ (Fr.four (encM m).length ++ encM m) := by simp [strM, Fr.pack]
theorem strM_len (qs : List Mg) (h : ∀ m ∈ qs, GoodM m) : (strM qs).length ≤ qs.length * 33796 := by
  have h9 := Fr.pack_len (qs.map encM) (fun p hp => by obtain ⟨m, hm, rfl⟩ := List.mem_map.1 hp; exact encM_len (h m hm))
  simpa [strM] using h9
theorem strM_bs (qs : List Mg) (h : ∀ m ∈ qs, GoodM m) : Bs (strM qs) :=
  Fr.pack_bs _ (fun p hp => by obtain ⟨m, hm, rfl⟩ := List.mem_map.1 hp; exact encM_len (h m hm)) (fun p hp => by obtain ⟨m, hm, rfl⟩ := List.mem_map.1 hp; exact encM_bs (h m hm))
theorem strM_feed (qs : List Mg) (h : ∀ m ∈ qs, GoodM m) : feed (strM qs) = (qs.map encM, some []) :=
  Fr.feed_pack _ (fun p hp => by obtain ⟨m, hm, rfl⟩ := List.mem_map.1 hp; exact encM_len (h m hm))
/-- one piece more -/
theorem top_step {buf a b : List Int} {ws : List Mg} (h : feed (buf ++ (a ++ b)) = (ws.map encM, some [])) :
    ∃ n r, n ≤ ws.length ∧ feedR false (buf ++ a) = ((r, false), (ws.take n).map encM, 0) ∧ feed (r ++ b) = ((ws.drop n).map encM, some []) ∧ feed r = ([], some r) := by
  obtain ⟨l, r, rem2, h1, h2, h3, h4⟩ := Fr.feed_step h
  have hl : l.length ≤ ws.length := by
    have := congrArg List.length h2
    simp at this
    omega
  refine ⟨l.length, r, hl, ?_, ?_, h4⟩
  · rw [List.map_take, h2, List.take_left' rfl]; exact h1
  · rw [List.map_drop, h2, List.drop_left' rfl]; exact h3
theorem top_end {buf : List Int} {ws : List Mg} (h : feed (buf ++ []) = (ws.map encM, some [])) (h2 : feed buf = ([], some buf)) : ws = [] ∧ buf = [] := by
  rw [List.append_nil, h2] at h
  simp only [Prod.mk.injEq, Option.some.injEq] at h
  exact ⟨by simpa using h.1.symm, h.2⟩
end Go.Proofs.YtldijmappinngaaGreatDoor
