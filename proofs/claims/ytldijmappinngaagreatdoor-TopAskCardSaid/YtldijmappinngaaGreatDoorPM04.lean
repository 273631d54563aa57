/- request: the fields of a request that is asked for are good fields, and few bytes (plain); fields whose kinds are put in turns. No condition. -/
import Derived.Test.YtldijmappinngaaGreatDoorPL04
namespace Go.Proofs.YtldijmappinngaaGreatDoor
open Go.RowKit Go.Kb
set_option maxRecDepth 100000

theorem first2 {a b : Int} (h : firstE [a, b] = 0) : a = 0 ∧ b = 0 := by
  unfold firstE at h
  by_cases ha : a = 0
  · rw [if_pos ha] at h
    unfold firstE at h
    by_cases hb : b = 0
    · exact ⟨ha, hb⟩
    · rw [if_neg hb] at h; exact ⟨ha, h⟩
  · rw [if_neg ha] at h; exact absurd h ha
theorem first3 {a b c : Int} (h : firstE [a, b, c] = 0) : a = 0 ∧ b = 0 ∧ c = 0 := by
  unfold firstE at h
  by_cases ha : a = 0
  · rw [if_pos ha] at h
    exact ⟨ha, first2 h⟩
  · rw [if_neg ha] at h; exact absurd h ha
theorem longE_zero {n : Nat} (h : longE (n : Int) = 0) : n ≤ 1024 := by
  unfold longE at h
  by_cases hn : (1024 : Int) < n
  · rw [if_pos hn] at h; cases h
  · omega
theorem u32_flag (b : Bool) : 0 ≤ (if b = true then (1 : Int) else 0) ∧ (if b = true then (1 : Int) else 0) ≤ 1 := by cases b <;> decide
theorem flds_okQ {r : Rq} (hr : r.Ok) (k : Nat) : ∀ f ∈ fldsQ r k, FdOk f := by
  obtain ⟨-, -, -, -, -, h1, h2, h3, h4, h5⟩ := hr
  have hf := u32_flag r.on
  unfold fldsQ
  split
  all_goals
    intro f hm
    simp only [List.mem_cons, List.not_mem_nil, or_false] at hm
  · rcases hm with rfl | rfl | rfl | rfl | rfl | rfl
    all_goals exact ⟨by simp, by dsimp only; omega⟩
  · rcases hm with rfl | rfl
    all_goals exact ⟨by simp, by dsimp only; omega⟩
  · subst hm; exact ⟨by simp, by dsimp only; omega⟩
  · subst hm; exact ⟨by simp, by dsimp only; omega⟩
  · rcases hm with rfl | rfl | rfl | rfl
    all_goals exact ⟨by simp, by dsimp only; omega⟩
  · subst hm; exact ⟨by simp, by dsimp only; omega⟩
  · subst hm; exact ⟨by simp, by dsimp only; omega⟩
  · subst hm; exact ⟨by simp, by dsimp only; omega⟩
  · rcases hm with rfl | rfl | rfl | rfl
    all_goals exact ⟨by simp, by dsimp only; omega⟩
/-- a field that is short -/
structure FdSm (f : Fd) : Prop where
  can : FdCan f
  sh : f.t.length ≤ 1024
theorem can3 {n : Int} (h : 0 ≤ n ∧ n ≤ 4294967295) : FdSm ⟨3, n, []⟩ := ⟨.inr (.inr (.inl ⟨rfl, h, rfl⟩)), by simp⟩
theorem can4 {t : List Int} (h : t.length ≤ 1024) : FdSm ⟨4, 0, t⟩ := ⟨.inr (.inr (.inr (.inl ⟨rfl, rfl, by dsimp only; omega⟩))), h⟩
theorem can2 (b : Bool) : FdSm ⟨2, if b = true then 1 else 0, []⟩ := ⟨.inr (.inl ⟨rfl, u32_flag b, rfl⟩), by simp⟩
theorem can4s {s : ByteArray} (h : s.size ≤ 1024) : FdSm ⟨4, 0, bsL s⟩ := can4 (by rw [bsL_len]; exact h)
theorem flds_smQ {r : Rq} (hr : r.Ok) (k : Nat) (hk : r.k = (k : Int)) (ha : askQ r = 0) : ∀ f ∈ fldsQ r k, FdSm f := by
  obtain ⟨-, -, -, -, -, h1, h2, h3, h4, h5⟩ := hr
  have w64 : ∀ {s : ByteArray} {n : Int}, wordE s n = 0 → s.size ≤ 1024 := fun h => Nat.le_trans (wordE_zero h) (by omega)
  rcases k with _ | _ | _ | _ | _ | _ | _ | _ | _ | _ | _ | k
  · intro f hm; simp [fldsQ] at hm
  · have ha : firstE [wordE r.tx 0, longE r.mo.length] = 0 := by simpa [askQ, hk] using ha
    obtain ⟨a1, a2⟩ := first2 ha
    intro f hm
    simp only [fldsQ, List.mem_cons, List.not_mem_nil, or_false] at hm
    rcases hm with rfl | rfl | rfl | rfl | rfl | rfl
    · exact can4s (w64 a1)
    · exact can3 h1
    · exact can3 h2
    · exact can3 h3
    · exact can3 h4
    · exact can4 (longE_zero a2)
  · have ha : (if hasEq r.tx = true then 4 else firstE [wordE r.tx 1, longE r.vl.size]) = 0 := by simpa [askQ, hk] using ha
    have ha : firstE [wordE r.tx 1, longE r.vl.size] = 0 := by
      by_cases hh : hasEq r.tx = true
      · rw [if_pos hh] at ha; cases ha
      · rwa [if_neg hh] at ha
    obtain ⟨a1, a2⟩ := first2 ha
    intro f hm
    simp only [fldsQ, List.mem_cons, List.not_mem_nil, or_false] at hm
    rcases hm with rfl | rfl
    · exact can4s (w64 a1)
    · exact can4s (longE_zero a2)
  · intro f hm; simp [fldsQ] at hm
  · have ha : longE r.tx.size = 0 := by simpa [askQ, hk] using ha
    intro f hm
    simp only [fldsQ, List.mem_cons, List.not_mem_nil, or_false] at hm
    subst hm
    exact can4s (longE_zero ha)
  · have ha : wordE r.tx 1 = 0 := by simpa [askQ, hk] using ha
    intro f hm
    simp only [fldsQ, List.mem_cons, List.not_mem_nil, or_false] at hm
    subst hm
    exact can4s (w64 ha)
  · intro f hm
    simp only [fldsQ, List.mem_cons, List.not_mem_nil, or_false] at hm
    rcases hm with rfl | rfl | rfl | rfl
    · exact can3 h1
    · exact can3 h2
    · exact can3 h3
    · exact can3 h4
  · intro f hm
    simp only [fldsQ, List.mem_cons, List.not_mem_nil, or_false] at hm
    subst hm
    exact can2 _
  · have ha : wordE r.tx 1 = 0 := by simpa [askQ, hk] using ha
    intro f hm
    simp only [fldsQ, List.mem_cons, List.not_mem_nil, or_false] at hm
    subst hm
    exact can4s (w64 ha)
  · intro f hm
    simp only [fldsQ, List.mem_cons, List.not_mem_nil, or_false] at hm
    subst hm
    exact can3 h5
  · have ha : firstE [wordE r.tx 1, wordE r.la 0, longE r.vl.size] = 0 := by simpa [askQ, hk] using ha
    obtain ⟨a1, a2, a3⟩ := first3 ha
    intro f hm
    simp only [fldsQ, List.mem_cons, List.not_mem_nil, or_false] at hm
    rcases hm with rfl | rfl | rfl | rfl
    · exact can4s (w64 a1)
    · exact can2 _
    · exact can4s (longE_zero a3)
    · exact can4s (w64 a2)
  · intro f hm; simp [fldsQ] at hm
theorem flt_sm {f : Fd} (h : FdSm f) : fltF f.k f.n f.t = 0 := by
  obtain ⟨k, n, t⟩ := f
  obtain ⟨h, hs⟩ := h
  dsimp only at hs
  rcases h with ⟨rfl, hn, ht⟩ | ⟨rfl, hn, ht⟩ | ⟨rfl, hn, ht⟩ | ⟨rfl, hn, ht⟩ | ⟨rfl, hn, ht⟩ <;> dsimp only at hn ht
  · have : ¬ (255 : Int) < n := by omega
    simp [fltF, this]
  · have : ¬ (1 : Int) < n := by omega
    simp [fltF, this]
  · simp [fltF]
  · have : ¬ 32768 < t.length := by omega
    simp [fltF, this]
  · have : ¬ 33792 < t.length := by omega
    simp [fltF, this]
theorem enc_sm {f : Fd} (h : FdSm f) : (encF f.k f.n f.t).length ≤ 1028 := by
  obtain ⟨k, n, t⟩ := f
  obtain ⟨h, hs⟩ := h
  dsimp only at hs
  rcases h with ⟨rfl, hn, ht⟩ | ⟨rfl, hn, ht⟩ | ⟨rfl, hn, ht⟩ | ⟨rfl, hn, ht⟩ | ⟨rfl, hn, ht⟩ <;> dsimp only at hn ht
  · simp [encF]
  · simp [encF]
  · simp [encF, Fr.four]
  · simp [encF, Fr.four]; omega
  · simp [encF]; omega
theorem encL_sm : ∀ (fs : List Fd), (∀ f ∈ fs, FdSm f) → (encL fs).length ≤ fs.length * 1028
  | [], _ => by simp [encL]
  | f :: fs, h => by
    have h1 := enc_sm (h f (List.mem_cons_self))
    have h2 := encL_sm fs (fun g hg => h g (List.mem_cons_of_mem _ hg))
    have e : encL (f :: fs) = encF f.k f.n f.t ++ encL fs := rfl
    rw [e, List.length_append, List.length_cons]
    omega
/-- fields whose kinds are put, and behind them fields whose kinds aren't -/
def mixF (fs : List Fd) (m : Nat) : List Fd := fs.take m ++ (fs.drop m).map (fun f => ⟨0, f.n, f.t⟩)
theorem mix_len (fs : List Fd) (m : Nat) : (mixF fs m).length = fs.length := by
  unfold mixF
  rw [List.length_append, List.length_map, ← List.length_append, List.take_append_drop]
theorem mix_zero (fs : List Fd) : mixF fs 0 = fs.map (fun f => ⟨0, f.n, f.t⟩) := by simp [mixF]
theorem mix_end (fs : List Fd) : mixF fs fs.length = fs := by simp [mixF]
theorem mix_at {fs : List Fd} {m : Nat} {f : Fd} (h : fs[m]? = some f) : (mixF fs m)[m]? = some ⟨0, f.n, f.t⟩ := by
  obtain ⟨hlt, he⟩ := List.getElem?_eq_some_iff.1 h
  unfold mixF
  have hl : (fs.take m).length = m := by rw [List.length_take]; omega
  rw [List.getElem?_append_right (by omega), hl, Nat.sub_self, List.drop_eq_getElem_cons hlt, he]
  rfl
theorem mix_set {fs : List Fd} {m : Nat} {f : Fd} (h : fs[m]? = some f) : (mixF fs m).set m f = mixF fs (m + 1) := by
  obtain ⟨hlt, he⟩ := List.getElem?_eq_some_iff.1 h
  unfold mixF
  have hl : (fs.take m).length = m := by rw [List.length_take]; omega
  rw [List.set_append_right _ _ (by omega), hl, Nat.sub_self, List.drop_eq_getElem_cons hlt, he, List.map_cons, List.set_cons_zero, List.take_add_one, h]
  simp
end Go.Proofs.YtldijmappinngaaGreatDoor
