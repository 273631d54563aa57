/- What becomes of a process by the document; the first signal that a mask lets through; by contract. Conditions: sets have 64 bits. -/
import Derived.Test.YteandiddfokfjaaK18
namespace Go.Proofs.Yteandiddfokfjaa
open Go.RowKit Go.Kb Go.Kb.Bits

theorem onL_andNot {f g x : Int} (hf : U64 f) (hg : U64 g) (hx : 0 ≤ x ∧ x ≤ 63) : onL (bits .andNot .u64 f g) x = (onL f x && !onL g x) := by
  rw [u64_andNot f g hf.1 hf.2 hg.1 hg.2]
  obtain ⟨X, rfl⟩ := Int.eq_ofNat_of_zero_le hf.1
  obtain ⟨Y, rfl⟩ := Int.eq_ofNat_of_zero_le hg.1
  have hY : Y < 2 ^ 64 := by have := hg.2; omega
  rw [onL_bit, onL_bit, Int.toNat_natCast, Int.toNat_natCast, onL_bit, Nat.testBit_and]
  have e : (18446744073709551615 - Y) = 2 ^ 64 - (Y + 1) := by omega
  rw [e, Nat.testBit_two_pow_sub_succ hY]
  have hi : x.toNat < 64 := by omega
  simp [hi]
theorem andNot_bd {f g : Int} (hf : U64 f) (hg : U64 g) : U64 (bits .andNot .u64 f g) := by
  rw [u64_andNot f g hf.1 hf.2 hg.1 hg.2]
  have := Nat.and_le_left (n := f.toNat) (m := 18446744073709551615 - g.toNat)
  have := hf.2
  constructor <;> omega
def openL (p m : Int) : Int := bits .andNot .u64 p (blockL m)
theorem openL_bd {p : Int} (hp : U64 p) (m : Int) : U64 (openL p m) := andNot_bd hp (blockL_bd m)
theorem hasL_open {p : Int} (hp : U64 p) (m x : Int) : hasL (openL p m) x = (hasL p x && !hasL (blockL m) x) := by
  unfold hasL
  cases hx : isL x
  · simp
  · simp only [Bool.true_and]
    exact onL_andNot hp (blockL_bd m) (sig_bd hx)
def pickL (p m : Int) : Int × Bool :=
  if hasL (openL p m) 9 then (9, true) else if hasL (openL p m) 19 then (19, true) else if hasL (openL p m) 18 then (18, true) else
  match listL (openL p m) with | x :: _ => (x, true) | [] => (0, false)
def okP (p m x : Int) : Bool := hasL p x && !hasL (blockL m) x
def rpickL (p m : Int) : Int × Bool := match ([9, 19, 18] ++ listL p).find? (okP p m) with | some x => (x, true) | none => (0, false)
theorem pick_eq {p : Int} (hp : U64 p) (m : Int) : rpickL p m = pickL p m := by
  have ho : ∀ x, hasL (openL p m) x = okP p m x := fun x => hasL_open hp m x
  have hl : (listL p).find? (okP p m) = (listL (openL p m)).head? := by
    unfold listL
    rw [List.head?_filter, List.find?_filter]
    congr 1
    funext x
    rw [ho]
    unfold okP
    cases hasL p x <;> simp
  unfold rpickL pickL
  rw [ho, ho, ho]
  simp only [List.cons_append, List.nil_append, List.find?_cons]
  cases okP p m 9
  · cases okP p m 19
    · cases okP p m 18
      · simp only [hl]
        cases listL (openL p m) <;> rfl
      · rfl
    · rfl
  · rfl
set_option maxRecDepth 100000 in
set_option maxHeartbeats 800000 in
theorem reffect_any (a : List Int) (sig : Int) (w : World) (ha : a.length = 32) : Calls Try.prog 25 #[.agg (arrV a), .int .i64 sig] w fun e w' => e = .returned (.int .i64 (effL a sig)) ∧ Ext w w' := by
  have hO := fun w' => of_any sig w'
  have heff : effL a sig = if !isL sig then 0 else if sig == 9 || sig == 19 then doesL sig else if a.getD sig.toNat 0 = 1 then (if sig = 18 then 5 else 3) else if a.getD sig.toNat 0 = 2 then 6 else doesL sig := rfl
  obtain ⟨x, hxx⟩ : ∃ x, a.getD sig.toNat 0 = x := ⟨_, rfl⟩
  rw [hxx] at heff
  have hat : ∀ k : Nat, k < 32 → (arrV a)[k]? = some (.int .i64 (a.getD k 0)) := fun k hk => arrV_at (by omega)
  have hz := arrV_size ha
  generalize effL a sig = ef at *
  have hbd : isL sig = true → 1 ≤ sig ∧ sig ≤ 28 := isL_bd
  have hds : doesL sig = (rowL sig).2.2.1 := rfl
  generalize doesL sig = ds at *
  generalize rowL sig = rr at *
  obtain ⟨n, nm, d, wi⟩ := rr
  simp only [rowV] at hO
  simp only at hds
  subst hds
  generalize isL sig = il at *
  generalize arrV a = cs at *
  have hB := Blk.new w 38 cs
  have HO := Lib.hid hO
  clear hO
  cases il
  · have he : ef = 0 := by rw [heff]; rfl
    subst he
    clear heff hat
    go_enter Try.func25, Try.ntmps25
    go_wp2_with ((go_at_call 35; (with_reducible refine (HO.out _).mono ?_); rintro e w1 ⟨rfl, E1⟩))
    go_ret
    exact ⟨rfl, (by repeat (first | with_reducible exact Ext.refl _ | refine Ext.drewN ?_ _ | refine Ext.drew ?_ | refine Ext.alloc ?_ _ | assumption | (refine Below.trans ?_ (by assumption)) | (refine Ext.trans ?_ (by assumption)) | (refine Below.trans ?_ (Below.mono (by assumption) (by omega)))))⟩
  · obtain ⟨hs1, hs2⟩ := hbd rfl
    by_cases h9 : sig = 9
    · have he : ef = ds := by rw [heff, h9]; rfl
      subst h9 he
      clear heff hat hxx
      go_enter Try.func25, Try.ntmps25
      go_wp2_with ((go_at_call 35; (with_reducible refine (HO.out _).mono ?_); rintro e w1 ⟨rfl, E1⟩))
      go_ret
      exact ⟨rfl, (by repeat (first | with_reducible exact Ext.refl _ | refine Ext.drewN ?_ _ | refine Ext.drew ?_ | refine Ext.alloc ?_ _ | assumption | (refine Below.trans ?_ (by assumption)) | (refine Ext.trans ?_ (by assumption)) | (refine Below.trans ?_ (Below.mono (by assumption) (by omega)))))⟩
    · have b9 : (sig == 9) = false := by simpa using h9
      by_cases h19 : sig = 19
      · have he : ef = ds := by rw [heff, h19]; rfl
        subst h19 he
        clear heff hat hxx h9
        go_enter Try.func25, Try.ntmps25
        go_wp2_with ((go_at_call 35; (with_reducible refine (HO.out _).mono ?_); rintro e w1 ⟨rfl, E1⟩))
        go_ret
        exact ⟨rfl, (by repeat (first | with_reducible exact Ext.refl _ | refine Ext.drewN ?_ _ | refine Ext.drew ?_ | refine Ext.alloc ?_ _ | assumption | (refine Below.trans ?_ (by assumption)) | (refine Ext.trans ?_ (by assumption)) | (refine Below.trans ?_ (Below.mono (by assumption) (by omega)))))⟩
      · have b19 : (sig == 19) = false := by simpa using h19
        rw [b9, b19] at heff
        clear h9 h19
        obtain ⟨k, rfl⟩ := Int.eq_ofNat_of_zero_le (show 0 ≤ sig by omega)
        have hxk : a.getD k 0 = x := hxx
        have hc := hB.cell k
        rw [hat k (by omega), hxk] at hc
        have HC := Lib.hid fun w' (h : Ext (w.alloc (.cells cs 38)) w') => cell_ext h hc
        have k1 : (k : Int) < 32 := by omega
        have k2 : (0 : Int) ≤ (k : Int) := by omega
        clear hat hc hbd hxx hxk
        by_cases h1 : x = 1
        · subst h1
          by_cases hk : k = 18
          · have he : ef = 5 := by rw [heff, if_neg (by simp), if_neg (by simp), if_pos rfl, if_pos (by omega)]
            have b18 : ((k : Int) == 18) = true := by rw [beq_iff_eq]; omega
            subst he
            clear heff hk
            go_enter Try.func25, Try.ntmps25
            go_wp2_with fail
            (with_reducible refine (HO.out _).mono ?_); rintro e w1 ⟨rfl, E1⟩
            have c := HC.out w1 E1
            have cn : ∀ o, (w1.alloc o).cell? ⟨w.heap.size, k, none⟩ = some (.int .i64 _) := fun o => cell_ext (show Ext w1 (w1.alloc o) from (Ext.refl w1).alloc o) c
            go_wp2
            go_ret
            exact ⟨rfl, (by repeat (first | with_reducible exact Ext.refl _ | refine Ext.drewN ?_ _ | refine Ext.drew ?_ | refine Ext.alloc ?_ _ | assumption | (refine Below.trans ?_ (by assumption)) | (refine Ext.trans ?_ (by assumption)) | (refine Below.trans ?_ (Below.mono (by assumption) (by omega)))))⟩
          · have he : ef = 3 := by rw [heff, if_neg (by simp), if_neg (by simp), if_pos rfl, if_neg (by omega)]
            have b18 : ((k : Int) == 18) = false := by rw [beq_eq_false_iff_ne]; omega
            subst he
            clear heff hk
            go_enter Try.func25, Try.ntmps25
            go_wp2_with fail
            (with_reducible refine (HO.out _).mono ?_); rintro e w1 ⟨rfl, E1⟩
            have c := HC.out w1 E1
            have cn : ∀ o, (w1.alloc o).cell? ⟨w.heap.size, k, none⟩ = some (.int .i64 _) := fun o => cell_ext (show Ext w1 (w1.alloc o) from (Ext.refl w1).alloc o) c
            go_wp2
            go_ret
            exact ⟨rfl, (by repeat (first | with_reducible exact Ext.refl _ | refine Ext.drewN ?_ _ | refine Ext.drew ?_ | refine Ext.alloc ?_ _ | assumption | (refine Below.trans ?_ (by assumption)) | (refine Ext.trans ?_ (by assumption)) | (refine Below.trans ?_ (Below.mono (by assumption) (by omega)))))⟩
        · have b1 : (x == 1) = false := by simpa using h1
          by_cases h2 : x = 2
          · subst h2
            have he : ef = 6 := by rw [heff, if_neg (by simp), if_neg (by simp), if_neg h1, if_pos rfl]
            subst he
            clear heff h1
            go_enter Try.func25, Try.ntmps25
            go_wp2_with fail
            (with_reducible refine (HO.out _).mono ?_); rintro e w1 ⟨rfl, E1⟩
            have c := HC.out w1 E1
            have cn : ∀ o, (w1.alloc o).cell? ⟨w.heap.size, k, none⟩ = some (.int .i64 _) := fun o => cell_ext (show Ext w1 (w1.alloc o) from (Ext.refl w1).alloc o) c
            go_wp2
            go_ret
            exact ⟨rfl, (by repeat (first | with_reducible exact Ext.refl _ | refine Ext.drewN ?_ _ | refine Ext.drew ?_ | refine Ext.alloc ?_ _ | assumption | (refine Below.trans ?_ (by assumption)) | (refine Ext.trans ?_ (by assumption)) | (refine Below.trans ?_ (Below.mono (by assumption) (by omega)))))⟩
          · have b2 : (x == 2) = false := by simpa using h2
            have he : ef = ds := by rw [heff, if_neg (by simp), if_neg (by simp), if_neg h1, if_neg h2]
            subst he
            clear heff h1 h2
            go_enter Try.func25, Try.ntmps25
            go_wp2_with fail
            (with_reducible refine (HO.out _).mono ?_); rintro e w1 ⟨rfl, E1⟩
            have c := HC.out w1 E1
            have cn : ∀ o, (w1.alloc o).cell? ⟨w.heap.size, k, none⟩ = some (.int .i64 _) := fun o => cell_ext (show Ext w1 (w1.alloc o) from (Ext.refl w1).alloc o) c
            go_wp2
            go_ret
            exact ⟨rfl, (by repeat (first | with_reducible exact Ext.refl _ | refine Ext.drewN ?_ _ | refine Ext.drew ?_ | refine Ext.alloc ?_ _ | assumption | (refine Below.trans ?_ (by assumption)) | (refine Ext.trans ?_ (by assumption)) | (refine Below.trans ?_ (Below.mono (by assumption) (by omega)))))⟩
end Go.Proofs.Yteandiddfokfjaa
