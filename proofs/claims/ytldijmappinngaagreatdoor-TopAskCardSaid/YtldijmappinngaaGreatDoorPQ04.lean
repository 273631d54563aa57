/- A request as a message of a channel (plain): it is a good message, and its packet is one packet. No condition. -/
import Derived.Test.YtldijmappinngaaGreatDoorPP04
import Derived.Test.YtldijmappinngaaGreatDoorOU04
import Derived.Test.YtldijmappinngaaGreatDoorSK17
namespace Go.Proofs.YtldijmappinngaaGreatDoor
open Go.RowKit Go.Kb Go.Kb.Frame
set_option maxRecDepth 100000

/-- a request as a message of a channel -/
def mgQ (r : Rq) (k : Nat) (ch : Int) (wa : Bool) : Mg := ⟨98, ch, 0, 0, 0, 0, nmQ k, ⟨#[]⟩, wa, encL (fldsQ r k)⟩
def psQ : List Pa := [paChan, paName, paWant, paRest]
theorem mgQ_row (r : Rq) (k : Nat) (ch : Int) (wa : Bool) : rowL (mgQ r k ch wa).k = some psQ := by simp [mgQ, rowL, psQ]
theorem mgQ_flds (r : Rq) (k : Nat) (ch : Int) (wa : Bool) : flds (mgQ r k ch wa) psQ = [⟨1, 98, []⟩, ⟨3, ch, []⟩, ⟨4, 0, bsL (nmQ k)⟩, ⟨2, if wa = true then 1 else 0, []⟩, ⟨6, 0, encL (fldsQ r k)⟩] := by rfl
theorem mgQ_own (r : Rq) (k : Nat) (ch : Int) (wa : Bool) : ownM (mgQ r k ch wa) = mgQ r k ch wa := by
  cases wa <;> simp [ownM, mgQ, rowL, putAll, putM, vOf, mg0, paChan, paName, paWant, paRest, str_back]
theorem nmQ_fit (k : Nat) (h1 : 1 ≤ k) (h10 : k ≤ 10) : WordP (nmQ k) 1 := by
  have h9 : ∀ k : Fin 11, 1 ≤ k.1 → (1 ≤ (nmQ k.1).size ∧ (nmQ k.1).size ≤ 64) ∧ ∀ c ∈ bsL (nmQ k.1), 33 ≤ c ∧ c ≤ 126 := by decide
  obtain ⟨⟨h2, h3⟩, h4⟩ := h9 ⟨k, by omega⟩ h1
  exact ⟨by dsimp only at h2; omega, h3, h4⟩
theorem flds_bsQ {r : Rq} (hr : r.Ok) (k : Nat) : ∀ f ∈ fldsQ r k, Bs f.t := by
  have hb := hr.bs
  have hn : Bs [] := fun x hx => by simp at hx
  unfold fldsQ
  split
  all_goals
    intro f hm
    simp only [List.mem_cons, List.not_mem_nil, or_false] at hm
  · rcases hm with rfl | rfl | rfl | rfl | rfl | rfl <;> first | exact bsL_bs _ | exact hb | exact hn
  · rcases hm with rfl | rfl <;> exact bsL_bs _
  · subst hm; exact bsL_bs _
  · subst hm; exact bsL_bs _
  · rcases hm with rfl | rfl | rfl | rfl <;> exact hn
  · subst hm; exact hn
  · subst hm; exact bsL_bs _
  · subst hm; exact hn
  · rcases hm with rfl | rfl | rfl | rfl <;> first | exact bsL_bs _ | exact hn
theorem encL_bsQ {r : Rq} (hr : r.Ok) (k : Nat) (hk : r.k = (k : Int)) (ha : askQ r = 0) : Bs (encL (fldsQ r k)) := by
  intro x hx
  simp only [encL, List.mem_flatten, List.mem_map] at hx
  obtain ⟨l, ⟨f, hf, rfl⟩, hx⟩ := hx
  exact can_bs (flds_smQ hr k hk ha f hf).can (flds_bsQ hr k f hf) x hx
theorem encL_lenQ {r : Rq} (hr : r.Ok) (k : Nat) (hk : r.k = (k : Int)) (ha : askQ r = 0) : (encL (fldsQ r k)).length ≤ 6168 := by
  have h1 := encL_sm _ (flds_smQ hr k hk ha)
  have h2 := kinds_len k
  rw [← flds_lenQ r k] at h2
  omega
structure MgQG (m : Mg) : Prop where
  ok : m.Ok
  row : rowL m.k = some psQ
  fit : FitP m
  flt : ∀ f ∈ flds m psQ, fltF f.k f.n f.t = 0
  len : (encL (flds m psQ)).length ≤ 33792
  own : ownM m = m
theorem mgQ_good {r : Rq} (hr : r.Ok) (k : Nat) (hk : r.k = (k : Int)) (h1 : 1 ≤ k) (h10 : k ≤ 10) (ha : askQ r = 0) (ch : Int) (wa : Bool) (hc : 0 ≤ ch ∧ ch ≤ 4294967295) : MgQG (mgQ r k ch wa) := by
  have hl := encL_lenQ hr k hk ha
  have hw := nmQ_fit k h1 h10
  have hwl : (bsL (nmQ k)).length ≤ 64 := by rw [bsL_len]; exact hw.2.1
  refine ⟨⟨hc, by simp [mgQ], by simp [mgQ], by simp [mgQ], by simp [mgQ], ?_, by show (⟨#[]⟩ : ByteArray).size ≤ _; decide, ?_, encL_bsQ hr k hk ha⟩, mgQ_row r k ch wa, ?_, ?_, ?_, mgQ_own r k ch wa⟩
  · show (nmQ k).size ≤ 10000
    have := hw.2.1; omega
  · show (encL (fldsQ r k)).length ≤ 100000
    omega
  · simp [FitP, mgQ]; exact hw
  · rw [mgQ_flds]
    have hb := u32_flag wa
    have h2 : ¬ (1 : Int) < (if wa = true then 1 else 0) := by omega
    have h3 : ¬ 32768 < (bsL (nmQ k)).length := by omega
    have h4 : ¬ 33792 < (encL (fldsQ r k)).length := by omega
    intro f hm
    simp only [List.mem_cons, List.not_mem_nil, or_false] at hm
    rcases hm with rfl | rfl | rfl | rfl | rfl <;> dsimp only
    · simp [fltF]
    · simp [fltF]
    · simp [fltF, h3]
    · rw [show fltF 2 (if wa = true then 1 else 0) [] = (if (1 : Int) < (if wa = true then 1 else 0) then 5 else 0) by simp [fltF], if_neg h2]
    · simp [fltF, h4]
  · rw [mgQ_flds]
    simp [encL, encF, Fr.four] at hl hwl ⊢
    omega
theorem feed_one {p : List Int} (h : 1 ≤ p.length ∧ p.length ≤ 33792) : feedR false ([] ++ (Fr.four p.length ++ p)) = (([], false), ([p], 0)) := by
  have h1 := Fr.feed_put p [] h
  rw [feed_short (r := []) (by simp), List.append_nil] at h1
  rw [List.nil_append]
  exact feedR_some h1
/-- numbers that fit -/
structure Rq.Raw (r : Rq) : Prop where
  bs : Bs r.mo
  c1 : 0 ≤ r.c1 ∧ r.c1 ≤ 4294967295
  c2 : 0 ≤ r.c2 ∧ r.c2 ≤ 4294967295
  c3 : 0 ≤ r.c3 ∧ r.c3 ≤ 4294967295
  c4 : 0 ≤ r.c4 ∧ r.c4 ≤ 4294967295
  co : 0 ≤ r.co ∧ r.co ≤ 4294967295
end Go.Proofs.YtldijmappinngaaGreatDoor
