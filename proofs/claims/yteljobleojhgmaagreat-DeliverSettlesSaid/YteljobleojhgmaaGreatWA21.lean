/- The document's End, by contract. Conditions: pending signals have 64 bits. -/
import Derived.Test.YteljobleojhgmaaGreatVA21
import Derived.Test.YteljobleojhgmaaGreatSA21
namespace Go.Proofs.YteljobleojhgmaaGreat
open Go.RowKit Go.Kb

theorem own_putR {base G n c i j : Nat} {B : Nat → Prop} {w : World} {l : List Pr} {p p' : Pr} {x : Value} (h : OwnS Rp 64 base B w (.slice (some ⟨G, 0, none⟩) n c) l) (hp : l[j]? = some p) (hi : i < 43) (hc : p.cells.set i x = p'.cells) (hk : p'.ok) :
    OwnS Rp 64 base B (w.setCell ⟨G, j * 43 + i, none⟩ x) (.slice (some ⟨G, 0, none⟩) n c) (l.set j p') := by
  have hj : j < l.length := (List.getElem?_eq_some_iff.1 hp).1
  exact OwnS.store (i := i) h hj hi fun cs d hd hr => by
    rw [hp] at hd
    cases hd
    obtain ⟨rfl, _⟩ := hr
    exact ⟨hc, hk⟩
theorem rise_one {nx : Int} : ∀ {l : List Pr} {last : Int}, rise nx last l = true → ∀ {p q : Pr}, p ∈ l → q ∈ l → p.pid = q.pid → p = q
  | [], _, _, _, _, hp, _, _ => by cases hp
  | x :: l, last, h, p, q, hp, hq, e => by
    have h2 : rise nx x.pid l = true := by
      unfold rise at h
      simp only [Bool.and_eq_true] at h
      exact h.2.2
    have h3 := rise_mem h2
    rcases List.mem_cons.1 hp with hp1 | hp1 <;> rcases List.mem_cons.1 hq with hq1 | hq1
    · rw [hp1, hq1]
    · have := (h3 q hq1).1; rw [hp1] at e; omega
    · have := (h3 p hp1).1; rw [hq1] at e; omega
    · exact rise_one h2 hp1 hq1 e
theorem rise_orph {nx k : Int} : ∀ {l : List Pr} {last : Int}, rise nx last (l.map (orphan k)) = rise nx last l
  | [], _ => rfl
  | p :: l, last => by
    have hp : (orphan k p).pid = p.pid := by unfold orphan; split <;> rfl
    simp only [List.map_cons, rise, hp, rise_orph]
theorem right_orph {l : List Pr} {nx k : Int} : rightL (l.map (orphan k)) nx = rightL l nx := by
  unfold rightL
  rw [rise_orph, List.length_map]
/-- the one that lives, of a number -/
theorem idx_live {l : List Pr} {nx k : Int} (hr : rightL l nx = true) :
    (liveL l nx k = false ∧ idxL (fun p => p.pid == k && liveP p) l = -1) ∨
    (liveL l nx k = true ∧ ∃ (j : Nat) (p : Pr), idxL (fun p => p.pid == k) l = j ∧ idxL (fun p => p.pid == k && liveP p) l = j ∧ l[j]? = some p) := by
  unfold liveL
  rw [hr, Bool.true_and]
  rcases idx_any (f := fun p => p.pid == k && liveP p) (l := l) with ⟨h1, h2⟩ | ⟨j, p, h1, h2, h3, h4, _⟩
  · exact .inl ⟨h2, h1⟩
  · refine .inr ⟨h4, j, p, ?_, h1, h2⟩
    simp only [Bool.and_eq_true] at h3
    rcases idx_any (f := fun p => p.pid == k) (l := l) with ⟨_, g2⟩ | ⟨i, q, g1, g2, g3, _, g5⟩
    · rw [List.any_eq_false] at g2
      exact absurd h3.1 (g2 p (List.mem_of_getElem? h2))
    · have e : q = p := rise_one (right_rise hr).2.2 (List.mem_of_getElem? g2) (List.mem_of_getElem? h2) (by
        have a1 : q.pid = k := by simpa using g3
        have a2 : p.pid = k := by simpa using h3.1
        rw [a1, a2])
      subst e
      have g6 : idxL (fun p => p.pid == k && liveP p) l = i := by
        rw [idxL] at g1 ⊢
        split at g1
        · rename_i a ha
          obtain rfl : a = i := by omega
          obtain ⟨hlt, hx, hn⟩ := List.findIdx?_eq_some_iff_getElem.1 ha
          have : l.findIdx? (fun p => p.pid == k && liveP p) = some a := by
            refine List.findIdx?_eq_some_iff_getElem.2 ⟨hlt, ?_, fun m hm => ?_⟩
            · rw [List.getElem?_eq_getElem hlt] at g2
              cases g2
              simp only [Bool.and_eq_true]; exact h3
            · have := hn m hm
              simp only [Bool.and_eq_true] at this ⊢
              intro hc; exact this hc.1
          rw [this]
        · omega
      rw [g1, ← g6, h1]
theorem idx_set {k : Int} {l : List Pr} {j : Nat} {p p' : Pr} (hp : l[j]? = some p) (hk : p'.pid = p.pid) : idxL (fun q => q.pid == k) (l.set j p') = idxL (fun q => q.pid == k) l := by
  have e : ∀ m : List Pr, m.findIdx? (fun q => q.pid == k) = (m.map (fun q => q.pid)).findIdx? (fun x => x == k) := fun m => by rw [List.findIdx?_map]; rfl
  have h2 : (l.map (fun q => q.pid)).set j p.pid = l.map (fun q => q.pid) := by
    apply List.ext_getElem?
    intro t
    rw [List.getElem?_set]
    split
    · rename_i h
      subst h
      have h1 := List.getElem?_eq_some_iff.1 hp
      simp [h1.1, h1.2]
    · rfl
  unfold idxL
  rw [e, e, List.map_set, hk, h2]
theorem end_u64 {l L2 : List Pr} {pid st : Int} (hb : ∀ p ∈ l, Sig.U64 p.pending) (h : (changeL (endP st) pid l).map (orphan pid) = L2) : ∀ p ∈ L2, Sig.U64 p.pending := by
  intro p hp
  rw [← h] at hp
  obtain ⟨q, hq, rfl⟩ := List.mem_map.1 hp
  have e : (orphan pid q).pending = q.pending := by unfold orphan; split <;> rfl
  rw [e]
  rcases idx_any (f := fun p => p.pid == pid) (l := l) with ⟨h1, _⟩ | ⟨j, p1, h1, h2, _⟩
  · rw [changeL_none h1] at hq; exact hb q hq
  · rw [changeL_some h1 h2] at hq
    rcases List.mem_or_eq_of_mem_set hq with h3 | h3
    · exact hb q h3
    · rw [h3]; exact ⟨by simp [endP], by simp [endP]⟩
def REndPost (Ad : Option Addr) (c : Nat) (l : List Pr) (nx pid st : Int) (w : World) (e : Ending) (w' : World) : Prop :=
  Ext w w' ∧ ((askL l nx [pid] ≠ 0 ∧ e = .returned (.tuple #[tv Ad l.length c nx, .int .i64 (askL l nx [pid])])) ∨
   (askL l nx [pid] = 0 ∧ ∃ A' c', e = .returned (.tuple #[tv A' (endL l pid st).length c' nx, .int .i64 0]) ∧ OwnS Rp 64 w.heap.size (fun _ => False) w' (.slice A' (endL l pid st).length c') (endL l pid st)))
set_option maxRecDepth 100000 in
set_option maxHeartbeats 3000000 in
theorem rend_any {A : Nat → Prop} (Ad : Option Addr) (c : Nat) (l : List Pr) (nx pid st : Int) (w : World) (h : RdY Rp A w (.slice Ad l.length c) l) (hb : ∀ p ∈ l, Sig.U64 p.pending) :
    Calls Tryz.prog 96 #[tv Ad l.length c nx, .int .i64 pid, .int .i64 st] w (REndPost Ad c l nx pid st w) := by
  have H := Lib.hid (rdy_pr (B := fun _ => False) h)
  have HB := Lib.hid hb
  obtain ⟨N, hN⟩ : ∃ N, l.length = N := ⟨_, rfl⟩
  have HN := Lib.hid hN
  obtain ⟨W, hW⟩ : ∃ W, W = (w.alloc (.cells #[.slice Ad N c, .int .i64 nx] 33)).alloc (.cells #[.slice none 0 0, .int .i64 0] 33) := ⟨_, rfl⟩
  have hres := Lib.hid (show Blk W (w.heap.size + 1) 33 #[.slice none 0 0, .int .i64 0] by rw [hW]; exact Blk.at_ _ _ (by simp))
  have hbox := Lib.hid (show Blk W w.heap.size 33 #[.slice Ad N c, .int .i64 nx] by rw [hW]; exact (Blk.new w _ _).alloc _)
  have E0 : Ext w W := by rw [hW]; exact (by repeat (first | with_reducible exact Ext.refl _ | refine Ext.drewN ?_ _ | refine Ext.drew ?_ | refine Ext.alloc ?_ _ | assumption | (refine Below.trans ?_ (by assumption)) | (refine Ext.trans ?_ (by assumption)) | (refine Below.trans ?_ (Below.mono (by assumption) (by omega)))))
  have HW2 := Lib.hid (show W.heap.size = w.heap.size + 2 by rw [hW]; simp)
  have HW := Lib.hid hW
  have HF := Lib.hid (rfault_any (A := fun _ => False) Ad c l nx pid W (H.out.ext E0))
  have HCP := Lib.hid fun w' (E : Ext w w') (h1 : l.length ≤ 100000) => rcopy_any (A := fun _ => False) Ad c l nx w' (H.out.ext E) h1
  obtain ⟨e0, he0⟩ : ∃ e0, askL l nx [pid] = e0 := ⟨_, rfl⟩
  have HE := Lib.hid he0
  unfold REndPost
  rw [he0] at HF ⊢
  rw [hN] at H HF HCP ⊢
  clear h hb hW he0 hN
  go_enter Tryz.func96, Tryz.ntmps96
  go_wp2_with fail
  rw [← HW.out]
  have kb := hbox.out.two
  go_wp2_with fail
  refine HF.out.mono ?_
  rintro e w1 ⟨rfl, E1⟩
  have E01 := E0.trans E1
  have kb := (hbox.out.ext E1).two
  have ks := (hres.out.ext E1).two
  by_cases hz : e0 = 0
  case neg =>
    have hnb : (e0 != 0) = true := by simpa using hz
    have hM8 : Mod (fun k => k = w.heap.size + 1) w1 _ := ((Mod.refl _ w1).set1 (.slice Ad N c) (o := 0)).set1 (.int .i64 nx) (o := 1)
    obtain ⟨q0, q1, _, _⟩ := ((hres.out.ext E1).put2 (.slice Ad N c) (.int .i64 nx)).two
    have HZ := Lib.hid hz
    clear hz HF
    go_wp2
    refine bodyPost_ret (v := .tuple #[tv Ad N c nx, .int .i64 e0]) (by simp [results, Tryz.results96, go_sem, q0, q1]) rfl ?_
    exact ⟨Mod.toExt E01 hM8 (by intro k hk he; omega), .inl ⟨HZ.out, rfl⟩⟩
  subst hz
  obtain ⟨hr, p0, hg0, hpl, hpid⟩ := askL_live HE.out
  have HR := Lib.hid hr
  have hl := (right_len hr).1
  have HL32 := Lib.hid (show N ≤ 32 by rw [← HN.out]; exact hl)
  have HC := Lib.hid (HCP.out w1 E01 (by have := HL32.out; omega))
  obtain ⟨j, p, hix, hjp⟩ : ∃ (j : Nat) (p : Pr), idxL (fun p => p.pid == pid) l = j ∧ l[j]? = some p := by
    rcases idx_any (f := fun p => p.pid == pid) (l := l) with ⟨_, h2⟩ | ⟨j, p, h1, h2, _⟩
    · rw [List.any_eq_false] at h2
      exact absurd (by simpa using hpid) (h2 p0 hpl)
    · exact ⟨j, p, h1, h2⟩
  have HIX := Lib.hid hix
  have HJP := Lib.hid hjp
  have hjN : j < N := by rw [← HN.out]; exact (List.getElem?_eq_some_iff.1 hjp).1
  have HCH := Lib.hid (changeL_some (g := endP st) hix hjp)
  clear hr hg0 hpl hpid hl hix hjp ks HF HCP
  go_wp2_with fail
  refine HC.out.mono ?_
  rintro e w2 ⟨A2, c2, rfl, O2, E2⟩
  have MB : Mod (fun k => k = w.heap.size) w2 _ := ((Mod.refl _ w2).set1 (.slice A2 N c2) (o := 0)).set1 (.int .i64 nx) (o := 1)
  have E12 := E1.trans E2
  have kb := (hbox.out.ext E12).two
  have BW := Lib.hid ((hbox.out.ext E12).put2 (.slice A2 N c2) (.int .i64 nx))
  have S3 := Lib.hid ((hres.out.ext E12).mod MB (by show ¬ _ = _; omega))
  have O3 := Lib.hid (own_tbl O2 MB (hbox.out.ext E12))
  have E03 := Lib.hid (Mod.toExt (E01.trans E2) MB (by intro k hk he; omega))
  have HW1 := Lib.hid (show w.heap.size + 1 < w1.heap.size from (hres.out.ext E1).lt)
  clear MB O2 E2 E12 E1 E01 hbox hres HC HW
  go_upto_region 5 with fail
  generalize (w2.setCell _ _).setCell _ _ = W3 at *
  have kb := BW.out.two
  have hpl := place_any (A := fun _ => False) A2 c2 l nx pid W3 (by rw [HN.out]; exact rdy_pr (B := fun _ => False) O3.out.y)
  rw [HN.out, HIX.out] at hpl
  have HPL := Lib.hid hpl
  clear hpl
  go_wp2_with fail
  refine HPL.out.mono ?_
  rintro e w4 ⟨rfl, E4⟩
  have BW := Lib.hid (BW.out.ext E4)
  have S4 := Lib.hid (S3.out.ext E4)
  have O4 := Lib.hid (O3.out.ext E4)
  have E04 := Lib.hid (E03.out.trans E4)
  obtain ⟨G, rfl, hG0, _⟩ := O4.out.addr (by omega)
  clear HPL E4 E03 S3 O3 kb
  go_upto_region 6 with fail
  have hGb : w.heap.size + 1 < G := by have := HW1.out; omega
  have HGB := Lib.hid hGb
  obtain ⟨hpok, _, hGlt, _, _, _⟩ := own_atR O4.out HJP.out
  have hal : p.acts.length = 32 := hpok
  refine wp_region_held_drew (S := fun w' => Mod (fun k => k = G) w4 w') (by kernel_rfl) (Mod.of_ext (Ext.drew (Ext.refl _))) (fun hHeld => ?_)
  have Ed : Ext w4 w4.drew := Ext.drew (Ext.refl _)
  have OD := O4.out.ext Ed
  generalize w4.drew = D at *
  obtain ⟨_, _, _, hat, hfr, _⟩ := own_atR OD HJP.out
  have c4 := hat.c4
  have c7 := hat.c7
  have c41 := hat.c41
  have hjl : j < l.length := (List.getElem?_eq_some_iff.1 HJP.out).1
  have X2 := own_putR (p' := { p with state := 3 }) (i := 4) (x := .int .i64 3) OD HJP.out (by omega) (by simp [Pr.cells]) hpok
  have X3 := own_putR (p := { p with state := 3 }) (p' := { p with state := 3, status := st }) (i := 41) (x := .int .i64 st) X2 (List.getElem?_set_self hjl) (by omega) (by simp [Pr.cells, hal]) hpok
  rw [List.set_set] at X3
  have X4 := own_putR (p := { p with state := 3, status := st }) (p' := endP st p) (i := 7) (x := .int .u64 0) X3 (List.getElem?_set_self hjl) (by omega) (by simp [Pr.cells, endP]) hpok
  rw [List.set_set, ← HCH.out] at X4
  have X4 := Lib.hid X4
  have hf4 := hfr (j * 43 + 4)
  have hf7 := hfr (j * 43 + 7)
  have hf41 := hfr (j * 43 + 41)
  clear X2 X3 hat hal hfr OD
  (refine wpAnyH_take (i := 0) (v := ?_) rfl (by kernel_rfl) (by kernel_rfl) (by kernel_rfl) (fun _ _ _ h => h) (Or.inl ⟨by rfl, ?_⟩) (by assumption) ?_; rotate_left; (focus (intro w' hSw; go_simp; try with_reducible rfl)); (try simp only [List.getElem_toArray]); (try simp only [List.getElem_cons_succ]); (try simp only [List.getElem_cons_zero]); (try simp only [Act.put]); (try simp only [List.setIfInBounds_toArray]); (try simp only [List.set_cons_succ]); (try simp only [List.set_cons_zero]))
  (refine wpAnyH_take (i := 1) (v := ?_) rfl (by kernel_rfl) (by kernel_rfl) (by kernel_rfl) (fun _ _ _ h => h) (Or.inl ⟨by rfl, ?_⟩) (by assumption) ?_; rotate_left; (focus (intro w' hSw; have kc := (BW.out.mod hSw (by omega)).two; go_simp; try with_reducible rfl)); (try simp only [List.getElem_toArray]); (try simp only [List.getElem_cons_succ]); (try simp only [List.getElem_cons_zero]); (try simp only [Act.put]); (try simp only [List.setIfInBounds_toArray]); (try simp only [List.set_cons_succ]); (try simp only [List.set_cons_zero]))
  (refine wpAnyH_take (i := 2) (v := ?_) rfl (by kernel_rfl) (by kernel_rfl) (by kernel_rfl) (fun _ _ _ h => h) (Or.inl ⟨by rfl, ?_⟩) (by assumption) ?_; rotate_left; (focus (intro w' hSw; go_simp; try with_reducible rfl)); (try simp only [List.getElem_toArray]); (try simp only [List.getElem_cons_succ]); (try simp only [List.getElem_cons_zero]); (try simp only [Act.put]); (try simp only [List.setIfInBounds_toArray]); (try simp only [List.set_cons_succ]); (try simp only [List.set_cons_zero]))
  (refine wpAnyH_take (i := 3) (v := ?_) rfl (by kernel_rfl) (by kernel_rfl) (by kernel_rfl) (fun _ _ _ h => h) (Or.inl ⟨by rfl, ?_⟩) (by assumption) ?_; rotate_left; (focus (intro w' hSw; go_simp; try with_reducible rfl)); (try simp only [List.getElem_toArray]); (try simp only [List.getElem_cons_succ]); (try simp only [List.getElem_cons_zero]); (try simp only [Act.put]); (try simp only [List.setIfInBounds_toArray]); (try simp only [List.set_cons_succ]); (try simp only [List.set_cons_zero]))
  (refine wpAnyH_take (i := 4) (v := ?_) rfl (by kernel_rfl) (by kernel_rfl) (by kernel_rfl) (fun _ _ _ h => h) (Or.inl ⟨by rfl, ?_⟩) (by assumption) ?_; rotate_left; (focus (intro w' hSw; have kc := (BW.out.mod hSw (by omega)).two; go_simp; try with_reducible rfl)); (try simp only [List.getElem_toArray]); (try simp only [List.getElem_cons_succ]); (try simp only [List.getElem_cons_zero]); (try simp only [Act.put]); (try simp only [List.setIfInBounds_toArray]); (try simp only [List.set_cons_succ]); (try simp only [List.set_cons_zero]))
  (refine wpAnyH_take (i := 5) (v := ?_) rfl (by kernel_rfl) (by kernel_rfl) (by kernel_rfl) (fun _ _ _ h => h) (Or.inl ⟨by rfl, ?_⟩) (by assumption) ?_; rotate_left; (focus (intro w' hSw; go_simp; try with_reducible rfl)); (try simp only [List.getElem_toArray]); (try simp only [List.getElem_cons_succ]); (try simp only [List.getElem_cons_zero]); (try simp only [Act.put]); (try simp only [List.setIfInBounds_toArray]); (try simp only [List.set_cons_succ]); (try simp only [List.set_cons_zero]))
  (refine wpAnyH_take (i := 6) (v := ?_) rfl (by kernel_rfl) (by kernel_rfl) (by kernel_rfl) (fun _ _ _ h => h) (Or.inl ⟨by rfl, ?_⟩) (by assumption) ?_; rotate_left; (focus (intro w' hSw; go_simp; try with_reducible rfl)); (try simp only [List.getElem_toArray]); (try simp only [List.getElem_cons_succ]); (try simp only [List.getElem_cons_zero]); (try simp only [Act.put]); (try simp only [List.setIfInBounds_toArray]); (try simp only [List.set_cons_succ]); (try simp only [List.set_cons_zero]))
  (refine wpAnyH_take (i := 7) (v := ?_) rfl (by kernel_rfl) (by kernel_rfl) (by kernel_rfl) (fun _ _ _ h => h) (Or.inl ⟨by rfl, ?_⟩) (by assumption) ?_; rotate_left; (focus (intro w' hSw; have kc := (BW.out.mod hSw (by omega)).two; go_simp; try with_reducible rfl)); (try simp only [List.getElem_toArray]); (try simp only [List.getElem_cons_succ]); (try simp only [List.getElem_cons_zero]); (try simp only [Act.put]); (try simp only [List.setIfInBounds_toArray]); (try simp only [List.set_cons_succ]); (try simp only [List.set_cons_zero]))
  (refine wpAnyH_take (i := 8) (v := ?_) rfl (by kernel_rfl) (by kernel_rfl) (by kernel_rfl) (fun _ _ _ h => h) (Or.inl ⟨by rfl, ?_⟩) (by assumption) ?_; rotate_left; (focus (intro w' hSw; go_simp; try with_reducible rfl)); (try simp only [List.getElem_toArray]); (try simp only [List.getElem_cons_succ]); (try simp only [List.getElem_cons_zero]); (try simp only [Act.put]); (try simp only [List.setIfInBounds_toArray]); (try simp only [List.set_cons_succ]); (try simp only [List.set_cons_zero]))
  (refine wpAnyH_take (i := 9) (v := ?_) rfl (by kernel_rfl) (by kernel_rfl) (by kernel_rfl) (fun _ _ _ h => h) (Or.inl ⟨by rfl, ?_⟩) (by assumption) ?_; rotate_left; (focus (intro w' hSw; go_simp; try with_reducible rfl)); (try simp only [List.getElem_toArray]); (try simp only [List.getElem_cons_succ]); (try simp only [List.getElem_cons_zero]); (try simp only [Act.put]); (try simp only [List.setIfInBounds_toArray]); (try simp only [List.set_cons_succ]); (try simp only [List.set_cons_zero]))
  (refine wpAnyH_take (i := 10) (v := ?_) rfl (by kernel_rfl) (by kernel_rfl) (by kernel_rfl) (fun _ _ _ h => h) (Or.inl ⟨by rfl, ?_⟩) (by assumption) ?_; rotate_left; (focus (intro w' hSw; go_simp; try with_reducible rfl)); (try simp only [List.getElem_toArray]); (try simp only [List.getElem_cons_succ]); (try simp only [List.getElem_cons_zero]); (try simp only [Act.put]); (try simp only [List.setIfInBounds_toArray]); (try simp only [List.set_cons_succ]); (try simp only [List.set_cons_zero]))
  (refine wpAnyH_take (i := 11) (v := ?_) rfl (by kernel_rfl) (by kernel_rfl) (by kernel_rfl) (fun _ _ _ h => h) (Or.inl ⟨by rfl, ?_⟩) (by assumption) ?_; rotate_left; (focus (intro w' hSw; go_simp; try with_reducible rfl)); (try simp only [List.getElem_toArray]); (try simp only [List.getElem_cons_succ]); (try simp only [List.getElem_cons_zero]); (try simp only [Act.put]); (try simp only [List.setIfInBounds_toArray]); (try simp only [List.set_cons_succ]); (try simp only [List.set_cons_zero]))
  (refine wpAnyH_ready (rs := [12]) (by kernel_rfl) (by simp) ?_; refine AllReadyH.cons rfl (fun K hK => ?_) AllReadyH.nil; go_simp; refine hK.out _ _ ((Mod.of_ext Ed).set1 _) (fun hHeld => ?_); clear hK K; (try simp only [Act.put]); (try simp only [List.getElem_toArray]); (try simp only [List.getElem_cons_succ]); (try simp only [List.getElem_cons_zero]); (try simp only [List.setIfInBounds_toArray]); (try simp only [List.set_cons_succ]); (try simp only [List.set_cons_zero]))
  (refine wpAnyH_take (i := 13) (v := ?_) rfl (by kernel_rfl) (by kernel_rfl) (by kernel_rfl) (fun _ _ _ h => h) (Or.inl ⟨by rfl, ?_⟩) (by assumption) ?_; rotate_left; (focus (intro w' hSw; go_simp; try with_reducible rfl)); (try simp only [List.getElem_toArray]); (try simp only [List.getElem_cons_succ]); (try simp only [List.getElem_cons_zero]); (try simp only [Act.put]); (try simp only [List.setIfInBounds_toArray]); (try simp only [List.set_cons_succ]); (try simp only [List.set_cons_zero]))
  (refine wpAnyH_take (i := 14) (v := ?_) rfl (by kernel_rfl) (by kernel_rfl) (by kernel_rfl) (fun _ _ _ h => h) (Or.inl ⟨by rfl, ?_⟩) (by assumption) ?_; rotate_left; (focus (intro w' hSw; go_simp; try with_reducible rfl)); (try simp only [List.getElem_toArray]); (try simp only [List.getElem_cons_succ]); (try simp only [List.getElem_cons_zero]); (try simp only [Act.put]); (try simp only [List.setIfInBounds_toArray]); (try simp only [List.set_cons_succ]); (try simp only [List.set_cons_zero]))
  (refine wpAnyH_ready (rs := [15]) (by kernel_rfl) (by simp) ?_; refine AllReadyH.cons rfl (fun K hK => ?_) AllReadyH.nil; go_simp; refine hK.out _ _ (((Mod.of_ext Ed).set1 _).set1 _) (fun hHeld => ?_); clear hK K; (try simp only [Act.put]); (try simp only [List.getElem_toArray]); (try simp only [List.getElem_cons_succ]); (try simp only [List.getElem_cons_zero]); (try simp only [List.setIfInBounds_toArray]); (try simp only [List.set_cons_succ]); (try simp only [List.set_cons_zero]))
  (refine wpAnyH_take (i := 16) (v := ?_) rfl (by kernel_rfl) (by kernel_rfl) (by kernel_rfl) (fun _ _ _ h => h) (Or.inl ⟨by rfl, ?_⟩) (by assumption) ?_; rotate_left; (focus (intro w' hSw; go_simp; try with_reducible rfl)); (try simp only [List.getElem_toArray]); (try simp only [List.getElem_cons_succ]); (try simp only [List.getElem_cons_zero]); (try simp only [Act.put]); (try simp only [List.setIfInBounds_toArray]); (try simp only [List.set_cons_succ]); (try simp only [List.set_cons_zero]))
  (refine wpAnyH_take (i := 17) (v := ?_) rfl (by kernel_rfl) (by kernel_rfl) (by kernel_rfl) (fun _ _ _ h => h) (Or.inl ⟨by rfl, ?_⟩) (by assumption) ?_; rotate_left; (focus (intro w' hSw; go_simp; try with_reducible rfl)); (try simp only [List.getElem_toArray]); (try simp only [List.getElem_cons_succ]); (try simp only [List.getElem_cons_zero]); (try simp only [Act.put]); (try simp only [List.setIfInBounds_toArray]); (try simp only [List.set_cons_succ]); (try simp only [List.set_cons_zero]))
  (refine wpAnyH_ready (rs := [18]) (by kernel_rfl) (by simp) ?_; refine AllReadyH.cons rfl (fun K hK => ?_) AllReadyH.nil; go_simp; refine hK.out _ _ ((((Mod.of_ext Ed).set1 _).set1 _).set1 _) (fun hHeld => ?_); clear hK K; (try simp only [Act.put]); (try simp only [List.getElem_toArray]); (try simp only [List.getElem_cons_succ]); (try simp only [List.getElem_cons_zero]); (try simp only [List.setIfInBounds_toArray]); (try simp only [List.set_cons_succ]); (try simp only [List.set_cons_zero]))
  refine wpAnyH_done (by kernel_rfl) ?_ _
  have B6 := Lib.hid (BW.out.mod hHeld (by omega))
  have S6 := Lib.hid (S4.out.mod hHeld (by omega))
  have E06 := Lib.hid (Mod.toExt E04.out hHeld (by intro k hk he; omega))
  have hw6 : w1.heap.size ≤ _ := Nat.le_trans (O4.out.row G rfl |> fun h => Nat.le_of_lt (Nat.lt_of_le_of_lt h.1 h.2)) hHeld.size
  clear BW S4 E04 O4 hHeld Ed c4 c7 c41 hf4 hf7 hf41 hGlt hjl
  obtain ⟨l1, hl1⟩ : ∃ l1, changeL (endP st) pid l = l1 := ⟨_, rfl⟩
  rw [hl1] at X4
  have HL1 := Lib.hid hl1
  have HN1 := Lib.hid (show l1.length = N by rw [← hl1, changeL_len]; exact HN.out)
  clear hl1 HCH
  generalize ((D.setCell _ _).setCell _ _).setCell _ _ = W6 at *
  go_upto_region 7 with fail
  have kb := B6.out.two
  go_wp2
  clear kb
  have hn32 : N ≤ 32 := HL32.out
  have e5 : orphN pid l1 0 = l1 := by simp [orphN]
  have X5 := X4
  rw [← e5] at X5
  clear e5
  go_loopw [44] (fun i wr => ∃ m : Nat, m ≤ N ∧ i = .int .i64 m ∧ Hid (Blk wr w.heap.size 33 #[.slice (some ⟨G, 0, none⟩) N c2, .int .i64 nx]) ∧ Hid (Blk wr (w.heap.size + 1) 33 #[.slice none 0 0, .int .i64 0]) ∧ Hid (OwnS Rp 64 w1.heap.size (fun _ => False) wr (.slice (some ⟨G, 0, none⟩) N c2) (orphN pid l1 m)) ∧ Hid (Ext w wr)) (fun i _ => N - (intOf i).toNat)
  case atStart => exact ⟨0, Nat.zero_le _, rfl, B6, S6, X5, E06⟩
  case round =>
    clear B6 S6 X4 X5 E06 hw6
    obtain ⟨m, hm, rfl, B6, S6, O6, HE6⟩ := hrel
    by_cases hmn : m < N
    · obtain ⟨p1, hp⟩ : ∃ p, l1[m]? = some p := ⟨_, List.getElem?_eq_getElem (by have := HN1.out; omega)⟩
      obtain ⟨ho1, ho2⟩ := orphN_at (pid := pid) hp
      obtain ⟨hok, hG, hGlt, hat, hfr, _⟩ := own_atR O6.out ho1
      have c1 := hat.c1
      have kb := B6.out.two
      by_cases hpar : p1.parent = pid
      · have hq : orphan pid p1 = { p1 with parent := 0 } := by unfold orphan; rw [if_pos (by simpa using hpar)]
        have O7 := own_putR (p' := { p1 with parent := 0 }) (i := 1) (x := .int .i64 0) O6.out ho1 (by omega) (by simp [Pr.cells]) hok
        rw [← hq, ho2] at O7
        have M7 : Mod (fun k => k = G) wr _ := (Mod.refl _ wr).set1 (.int .i64 0) (o := m * 43 + 1)
        have B7 := Lib.hid (B6.out.mod M7 (by show ¬ _ = _; omega))
        have S7 := Lib.hid (S6.out.mod M7 (by show ¬ _ = _; omega))
        have E7 := Lib.hid (Mod.toExt HE6.out M7 (by intro k hk he; omega))
        have O7 := Lib.hid O7
        have hpb : (p1.parent == pid) = true := by simpa using hpar
        have hf1 := hfr (m * 43 + 1)
        clear ho1 ho2 hat hq M7 hok hfr
        go_wp2
        go_roundw
        case rel => exact ⟨m + 1, by omega, by go_num, B7, S7, O7, E7⟩
        case measure => simp [intOf]; omega
      · have hq : orphan pid p1 = p1 := by unfold orphan; rw [if_neg (by simpa using hpar)]
        have ho3 : orphN pid l1 (m + 1) = orphN pid l1 m := by
          rw [← ho2, hq]
          apply List.ext_getElem?; intro t; rw [List.getElem?_set]; split
          · rename_i h; subst h; split
            · exact ho1.symm
            · rename_i h2; rw [List.getElem?_eq_none (by omega)]
          · rfl
        have hpb : (p1.parent == pid) = false := by simpa using hpar
        have O7 : Hid (OwnS Rp 64 w1.heap.size (fun _ => False) wr (.slice (some ⟨G, 0, none⟩) N c2) (orphN pid l1 (m + 1))) := by rw [ho3]; exact O6
        clear ho1 ho2 ho3 hat hq hok
        go_wp2
        go_roundw
        case rel => exact ⟨m + 1, by omega, by go_num, B6, S6, O7, HE6⟩
        case measure => simp [intOf]; omega
    · have hml : orphN pid l1 m = l1.map (orphan pid) := orphN_end (by have := HN1.out; omega)
      rw [hml] at O6
      obtain ⟨L2, hL2⟩ : ∃ L2, l1.map (orphan pid) = L2 := ⟨_, rfl⟩
      rw [hL2] at O6
      have hL2n : L2.length = N := by rw [← hL2, List.length_map]; exact HN1.out
      obtain ⟨q, hq⟩ : ∃ q, L2[j]? = some q := ⟨_, List.getElem?_eq_getElem (by omega)⟩
      obtain ⟨hqok, hG, hGlt, hat, _, _⟩ := own_atR O6.out hq
      have c1 := hat.c1
      have HL2 := Lib.hid hL2
      have HQ := Lib.hid hq
      have HN2 := Lib.hid hL2n
      have kb := B6.out.two
      have HLV := rlive_any (A := fun _ => False) (some ⟨G, 0, none⟩) c2 L2 nx q.parent wr (by rw [hL2n]; exact rdy_pr (B := fun _ => False) O6.out.y)
      rw [hL2n] at HLV
      have HLV := Lib.hid HLV
      have HRR := Lib.hid (show rightL L2 nx = true by rw [← hL2, right_orph, ← HL1.out, right_change (g := endP st) (fun _ => rfl)]; exact HR.out)
      have HUB := Lib.hid (end_u64 (pid := pid) (st := st) (L2 := L2) HB.out (by rw [HL1.out]; exact hL2))
      clear hml hL2 hq hat hL2n hqok HB hm
      go_upto_region 14 with fail
      go_wp2_with fail
      refine HLV.out.mono ?_
      rintro e w7 ⟨rfl, E7⟩
      have B7 := Lib.hid (B6.out.ext E7)
      have S7 := Lib.hid (S6.out.ext E7)
      have O7 := Lib.hid (O6.out.ext E7)
      have E07 := Lib.hid (HE6.out.trans E7)
      clear HLV E7 B6 S6 O6 HE6 kb
      have kb := B7.out.two
      have HIX1 := Lib.hid (show idxL (fun p => p.pid == pid) l1 = j by rw [← HL1.out, changeL_some HIX.out HJP.out, idx_set (p' := endP st p) HJP.out rfl]; exact HIX.out)
      have HW20 := Lib.hid (show w1.heap.size ≤ w7.heap.size from Nat.le_trans hG (Nat.le_of_lt (O7.out.row G rfl).2))
      rcases idx_live (k := q.parent) HRR.out with ⟨hlv, hix⟩ | ⟨hlv, jj, up, hix1, hix, hup⟩
      · have HT := Lib.hid (tellUp_none hix)
        rw [hlv]
        clear hix hlv
        have hl17 := O7.out.y
        go_upto_region 17 with fail
        have HFR := rfree_any 100000 (Nat.le_refl _) (some ⟨G, 0, none⟩) c2 L2 nx _ (by have := HN2.out; have := HL32.out; omega) (rdy_pr (B := fun _ => False) (by rw [HN2.out]; exact O7.out.y))
        rw [HN2.out] at HFR
        have HFR := Lib.hid HFR
        clear hl17
        go_wp2_with fail
        refine HFR.out.mono ?_
        rintro e w20 ⟨A20, c20, rfl, T20, E20⟩
        have O20 := Lib.hid (own_tabR T20 (by rw [HN2.out]; exact O7.out) E20 (by have := O7.out.y; exact HW20.out))
        clear HFR T20
        have S20 := S7.out.ext E20
        have ks := S20.two
        have M20 : Mod (fun k => k = w.heap.size + 1) w20 _ := ((Mod.refl _ w20).set1 (.slice A20 (freeL L2).length c20) (o := 0)).set1 (.int .i64 nx) (o := 1)
        obtain ⟨q0, q1, _, _⟩ := (S20.put2 (.slice A20 (freeL L2).length c20) (.int .i64 nx)).two
        have O21 := Lib.hid (own_tbl O20.out M20 S20)
        have E21 := Lib.hid (Mod.toExt (E07.out.trans E20) M20 (by intro k hk he; omega))
        have HEND := Lib.hid (show endL l pid st = freeL L2 from (endL_eq HL1.out.symm HL2.out (find_orph HIX1.out HL2.out HQ.out)).trans (congrArg freeL HT.out))
        clear O20 S20 M20 E20 O7 S7 E07 HT
        go_wp2
        refine bodyPost_ret (v := .tuple #[tv A20 (freeL L2).length c20 nx, .int .i64 0]) (by simp [results, Tryz.results96, go_sem, q0, q1]) rfl ?_
        have HWW := HW1.out
        refine ⟨E21.out, ?_⟩
        have hfin : ∃ A' c', Ending.returned (.tuple #[tv A20 (freeL L2).length c20 nx, .int .i64 0]) = .returned (.tuple #[tv A' (endL l pid st).length c' nx, .int .i64 0]) ∧ OwnS Rp 64 w.heap.size (fun _ => False) _ (.slice A' (endL l pid st).length c') (endL l pid st) := ⟨A20, c20, by rw [HEND.out], by rw [HEND.out]; exact O21.out.lower (by omega)⟩
        first | exact .inr ⟨rfl, hfin⟩ | exact hfin | (simp; exact hfin)
      · have HT := Lib.hid (tellUp_some hix hup)
        rw [hlv]
        have HPL2 := place_any (A := fun _ => False) (some ⟨G, 0, none⟩) c2 L2 nx q.parent w7 (by rw [HN2.out]; exact rdy_pr (B := fun _ => False) O7.out.y)
        rw [HN2.out, hix1] at HPL2
        have HPL2 := Lib.hid HPL2
        have HUP := Lib.hid hup
        have HAD := Lib.hid fun w' => Sig.radd_any up.pending 17 w' (HUB.out up (List.mem_of_getElem? hup))
        have hjj : jj < N := by rw [← HN2.out]; exact (List.getElem?_eq_some_iff.1 hup).1
        rw [orL_add (HUB.out up (List.mem_of_getElem? hup))] at HT
        clear hix hix1 hlv hup
        go_upto_region 15 with fail
        go_wp2_with fail
        refine HPL2.out.mono ?_
        rintro e w8 ⟨rfl, E8⟩
        have B8 := Lib.hid (B7.out.ext E8)
        have S8 := Lib.hid (S7.out.ext E8)
        have O8 := Lib.hid (O7.out.ext E8)
        have E08 := Lib.hid (E07.out.trans E8)
        clear HPL2 kb B7 S7 O7 E07 E8 HW20
        go_upto_region 16 with fail
        obtain ⟨hupok, _, hG8, hat8, hfr8, _⟩ := own_atR O8.out HUP.out
        have HUOK := Lib.hid hupok
        have HF8 := Lib.hid hfr8
        have HC7 := Lib.hid hat8.c7
        clear hat8 hfr8 hupok
        have Ed8 : Ext w8 w8.drew := Ext.drew (Ext.refl _)
        refine wp_region_held_drew (S := fun w' => Mod (fun k => k = G) w8 w') (by kernel_rfl) (Mod.of_ext (Ext.drew (Ext.refl _))) (fun hHeld => ?_)
        have hc7 := cell_ext Ed8 HC7.out
        have hg7 : w8.drew.frozen? ⟨G, jj * 43 + 7, none⟩ = false := HF8.out _
        have O9 := Lib.hid (O8.out.ext Ed8)
        have S9 := Lib.hid (S8.out.ext Ed8)
        generalize w8.drew = D8 at *
        (refine wpAnyH_take (i := 0) (v := ?_) rfl (by kernel_rfl) (by kernel_rfl) (by kernel_rfl) (fun _ _ _ h => h) (Or.inl ⟨by rfl, ?_⟩) (by assumption) ?_; rotate_left; (focus (intro w' hSw; go_simp; try with_reducible rfl)); (try simp only [List.getElem_toArray]); (try simp only [List.getElem_cons_succ]); (try simp only [List.getElem_cons_zero]); (try simp only [Act.put]); (try simp only [List.setIfInBounds_toArray]); (try simp only [List.set_cons_succ]); (try simp only [List.set_cons_zero]))
        (refine wpAnyH_take (i := 1) (v := ?_) rfl (by kernel_rfl) (by kernel_rfl) (by kernel_rfl) (fun _ _ _ h => h) (Or.inl ⟨by rfl, ?_⟩) (by assumption) ?_; rotate_left; (focus (intro w' hSw; have kc := (B8.out.mod hSw (by omega)).two; go_simp; try with_reducible rfl)); (try simp only [List.getElem_toArray]); (try simp only [List.getElem_cons_succ]); (try simp only [List.getElem_cons_zero]); (try simp only [Act.put]); (try simp only [List.setIfInBounds_toArray]); (try simp only [List.set_cons_succ]); (try simp only [List.set_cons_zero]))
        (refine wpAnyH_take (i := 2) (v := ?_) rfl (by kernel_rfl) (by kernel_rfl) (by kernel_rfl) (fun _ _ _ h => h) (Or.inl ⟨by rfl, ?_⟩) (by assumption) ?_; rotate_left; (focus (intro w' hSw; go_simp; try with_reducible rfl)); (try simp only [List.getElem_toArray]); (try simp only [List.getElem_cons_succ]); (try simp only [List.getElem_cons_zero]); (try simp only [Act.put]); (try simp only [List.setIfInBounds_toArray]); (try simp only [List.set_cons_succ]); (try simp only [List.set_cons_zero]))
        (refine wpAnyH_take (i := 3) (v := ?_) rfl (by kernel_rfl) (by kernel_rfl) (by kernel_rfl) (fun _ _ _ h => h) (Or.inl ⟨by rfl, ?_⟩) (by assumption) ?_; rotate_left; (focus (intro w' hSw; go_simp; try with_reducible rfl)); (try simp only [List.getElem_toArray]); (try simp only [List.getElem_cons_succ]); (try simp only [List.getElem_cons_zero]); (try simp only [Act.put]); (try simp only [List.setIfInBounds_toArray]); (try simp only [List.set_cons_succ]); (try simp only [List.set_cons_zero]))
        (refine wpAnyH_take (i := 4) (v := ?_) rfl (by kernel_rfl) (by kernel_rfl) (by kernel_rfl) (fun _ _ _ h => h) (Or.inl ⟨by rfl, ?_⟩) (by assumption) ?_; rotate_left; (focus (intro w' hSw; have kc := (B8.out.mod hSw (by omega)).two; go_simp; try with_reducible rfl)); (try simp only [List.getElem_toArray]); (try simp only [List.getElem_cons_succ]); (try simp only [List.getElem_cons_zero]); (try simp only [Act.put]); (try simp only [List.setIfInBounds_toArray]); (try simp only [List.set_cons_succ]); (try simp only [List.set_cons_zero]))
        (refine wpAnyH_take (i := 5) (v := ?_) rfl (by kernel_rfl) (by kernel_rfl) (by kernel_rfl) (fun _ _ _ h => h) (Or.inl ⟨by rfl, ?_⟩) (by assumption) ?_; rotate_left; (focus (intro w' hSw; go_simp; try with_reducible rfl)); (try simp only [List.getElem_toArray]); (try simp only [List.getElem_cons_succ]); (try simp only [List.getElem_cons_zero]); (try simp only [Act.put]); (try simp only [List.setIfInBounds_toArray]); (try simp only [List.set_cons_succ]); (try simp only [List.set_cons_zero]))
        (refine wpAnyH_take (i := 6) (v := ?_) rfl (by kernel_rfl) (by kernel_rfl) (by kernel_rfl) (fun _ _ _ h => h) (Or.inl ⟨by rfl, ?_⟩) (by assumption) ?_; rotate_left; (focus (intro w' hSw; go_simp; try with_reducible rfl)); (try simp only [List.getElem_toArray]); (try simp only [List.getElem_cons_succ]); (try simp only [List.getElem_cons_zero]); (try simp only [Act.put]); (try simp only [List.setIfInBounds_toArray]); (try simp only [List.set_cons_succ]); (try simp only [List.set_cons_zero]))
        (refine wpAnyH_take (i := 7) (v := ?_) rfl (by kernel_rfl) (by kernel_rfl) (by kernel_rfl) (fun _ _ _ h => h) (Or.inl ⟨by rfl, ?_⟩) (by assumption) ?_; rotate_left; (focus (intro w' hSw; go_simp; try with_reducible rfl)); (try simp only [List.getElem_toArray]); (try simp only [List.getElem_cons_succ]); (try simp only [List.getElem_cons_zero]); (try simp only [Act.put]); (try simp only [List.setIfInBounds_toArray]); (try simp only [List.set_cons_succ]); (try simp only [List.set_cons_zero]))
        (refine wpAnyH_ready (rs := [8]) (by kernel_rfl) (by simp) ?_; refine AllReadyH.cons rfl (fun K hK => ?_) AllReadyH.nil; go_simp; refine hK.out _ _ (Mod.of_ext Ed8) (fun hHeld => ?_); clear hK K; (try simp only [Act.put]); (try simp only [List.getElem_toArray]); (try simp only [List.getElem_cons_succ]); (try simp only [List.getElem_cons_zero]); (try simp only [List.setIfInBounds_toArray]); (try simp only [List.set_cons_succ]); (try simp only [List.set_cons_zero]))
        (refine wpAnyH_ready (rs := [9]) (by kernel_rfl) (by simp) ?_; refine AllReadyH.cons rfl (fun K hK => ?_) AllReadyH.nil; go_simp; go_at_call 110; refine (HAD.out _).mono ?_; rintro e w10 ⟨rfl, E10⟩; (try dsimp only); refine hK.out _ _ (Mod.of_ext (Ext.trans Ed8 E10)) (fun hHeld => ?_); clear hK K; (try simp only [Act.put]); (try simp only [List.getElem_toArray]); (try simp only [List.getElem_cons_succ]); (try simp only [List.getElem_cons_zero]); (try simp only [List.setIfInBounds_toArray]); (try simp only [List.set_cons_succ]); (try simp only [List.set_cons_zero]))
        (refine wpAnyH_take (i := 10) (v := ?_) rfl (by kernel_rfl) (by kernel_rfl) (by kernel_rfl) (fun _ _ _ h => h) (Or.inl ⟨by rfl, ?_⟩) (by assumption) ?_; rotate_left; (focus (intro w' hSw; go_simp; try with_reducible rfl)); (try simp only [List.getElem_toArray]); (try simp only [List.getElem_cons_succ]); (try simp only [List.getElem_cons_zero]); (try simp only [Act.put]); (try simp only [List.setIfInBounds_toArray]); (try simp only [List.set_cons_succ]); (try simp only [List.set_cons_zero]))
        (refine wpAnyH_take (i := 11) (v := ?_) rfl (by kernel_rfl) (by kernel_rfl) (by kernel_rfl) (fun _ _ _ h => h) (Or.inl ⟨by rfl, ?_⟩) (by assumption) ?_; rotate_left; (focus (intro w' hSw; go_simp; try with_reducible rfl)); (try simp only [List.getElem_toArray]); (try simp only [List.getElem_cons_succ]); (try simp only [List.getElem_cons_zero]); (try simp only [Act.put]); (try simp only [List.setIfInBounds_toArray]); (try simp only [List.set_cons_succ]); (try simp only [List.set_cons_zero]))
        have O10 := O9.out.ext E10
        obtain ⟨_, _, hG10, hat10, hfr10, _⟩ := own_atR O10 HUP.out
        have c10 := hat10.c7
        clear hat10
        have hf10 := hfr10 (jj * 43 + 7)
        clear hfr10
        have O11 := own_putR (p' := { up with pending := Sig.addL up.pending 17 }) (i := 7) (x := .int .u64 (Sig.addL up.pending 17)) O10 HUP.out (by omega) (by simp [Pr.cells]) HUOK.out
        rw [← HT.out] at O11
        have O11 := Lib.hid O11
        (refine wpAnyH_ready (rs := [12]) (by kernel_rfl) (by simp) ?_; refine AllReadyH.cons rfl (fun K hK => ?_) AllReadyH.nil; go_simp; refine hK.out _ _ ((Mod.of_ext (Ext.trans Ed8 E10)).set1 _) (fun hHeld => ?_); clear hK K; (try simp only [Act.put]); (try simp only [List.getElem_toArray]); (try simp only [List.getElem_cons_succ]); (try simp only [List.getElem_cons_zero]); (try simp only [List.setIfInBounds_toArray]); (try simp only [List.set_cons_succ]); (try simp only [List.set_cons_zero]))
        refine wpAnyH_done (by kernel_rfl) ?_ _
        have MX : Mod (fun k => k = G) w8 _ := (Mod.of_ext (Ext.trans Ed8 E10)).set1 (.int .u64 (Sig.addL up.pending 17)) (o := jj * 43 + 7)
        have B11 := Lib.hid (B8.out.mod MX (by omega))
        have S11 := Lib.hid (S8.out.mod MX (by omega))
        have E11 := Lib.hid (Mod.toExt E08.out MX (by intro k hk he; omega))
        have HW20 := Lib.hid (show w1.heap.size ≤ _ from Nat.le_trans hG (Nat.le_trans (Nat.le_of_lt hG8) MX.size))
        obtain ⟨L3, hL3⟩ : ∃ L3, tellUp q.parent L2 = L3 := ⟨_, rfl⟩
        have HT3 := Lib.hid hL3
        have HN3 := Lib.hid (show L3.length = N by rw [← hL3, HT.out, List.length_set]; exact HN2.out)
        rw [hL3] at O11
        have kb := B11.out.two
        clear hL3 HT hHeld MX O10 c10 hf10 hG10 hc7 hg7 E10 Ed8 B8 S8 O8 O9 S9 E08
        generalize w10.setCell _ _ = w11 at *
        have hl17 := O11.out.y
        go_upto_region 17 with fail
        have HFR := rfree_any 100000 (Nat.le_refl _) (some ⟨G, 0, none⟩) c2 L3 nx _ (by have := HN3.out; have := HL32.out; omega) (rdy_pr (B := fun _ => False) (by rw [HN3.out]; exact O11.out.y))
        rw [HN3.out] at HFR
        have HFR := Lib.hid HFR
        clear hl17
        go_wp2_with fail
        refine HFR.out.mono ?_
        rintro e w20 ⟨A20, c20, rfl, T20, E20⟩
        have O20 := Lib.hid (own_tabR T20 (by rw [HN3.out]; exact O11.out) E20 (by have := O11.out.y; exact HW20.out))
        clear HFR T20
        have S20 := S11.out.ext E20
        have ks := S20.two
        have M20 : Mod (fun k => k = w.heap.size + 1) w20 _ := ((Mod.refl _ w20).set1 (.slice A20 (freeL L3).length c20) (o := 0)).set1 (.int .i64 nx) (o := 1)
        obtain ⟨q0, q1, _, _⟩ := (S20.put2 (.slice A20 (freeL L3).length c20) (.int .i64 nx)).two
        have O21 := Lib.hid (own_tbl O20.out M20 S20)
        have E21 := Lib.hid (Mod.toExt (E11.out.trans E20) M20 (by intro k hk he; omega))
        have HEND := Lib.hid (show endL l pid st = freeL L3 from (endL_eq HL1.out.symm HL2.out (find_orph HIX1.out HL2.out HQ.out)).trans (congrArg freeL HT3.out))
        clear O20 S20 M20 E20 O11 S11 E11 HT3
        go_wp2
        refine bodyPost_ret (v := .tuple #[tv A20 (freeL L3).length c20 nx, .int .i64 0]) (by simp [results, Tryz.results96, go_sem, q0, q1]) rfl ?_
        have HWW := HW1.out
        refine ⟨E21.out, ?_⟩
        have hfin : ∃ A' c', Ending.returned (.tuple #[tv A20 (freeL L3).length c20 nx, .int .i64 0]) = .returned (.tuple #[tv A' (endL l pid st).length c' nx, .int .i64 0]) ∧ OwnS Rp 64 w.heap.size (fun _ => False) _ (.slice A' (endL l pid st).length c') (endL l pid st) := ⟨A20, c20, by rw [HEND.out], by rw [HEND.out]; exact O21.out.lower (by omega)⟩
        first | exact .inr ⟨rfl, hfin⟩ | exact hfin | (simp; exact hfin)
end Go.Proofs.YteljobleojhgmaaGreat
