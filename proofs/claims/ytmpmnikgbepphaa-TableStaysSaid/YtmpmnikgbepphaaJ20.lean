/- Spawn, by contract. No condition. -/
import Derived.Test.YtmpmnikgbepphaaI20
namespace Go.Proofs.Ytmpmnikgbepphaa
open Go.RowKit Go.Kb

/-- more's answer, told behind other steps -/
theorem MorePost.before {l : List Pr} {nx : Int} {p : Pr} {Ad : Option Addr} {c : Nat} {w w1 : World} {e : Ending} {w' : World} (h : MorePost l nx p Ad c w1 e w') (hE : Ext w w1) : MorePost l nx p Ad c w e w' :=
  ⟨hE.trans h.1, h.2.imp id fun ⟨h1, A, c', h2, h3⟩ => ⟨h1, A, c', h2, h3.lower hE.size⟩⟩
/-- stores into a new box behind it -/
theorem MorePost.box {l : List Pr} {nx : Int} {p : Pr} {Ad : Option Addr} {c : Nat} {w w1 : World} {e : Ending} {w' w2 : World} {g : Nat} (h : MorePost l nx p Ad c w1 e w') (hE : Ext w w1) (hg : w.heap.size ≤ g) (hg1 : g < w1.heap.size) (hM : Mod (fun k => k = g) w' w2) : MorePost l nx p Ad c w e w2 :=
  ⟨Mod.toExt (hE.trans h.1) hM (by intro k hk he; omega), h.2.imp id fun ⟨h1, A, c', h2, h3⟩ => ⟨h1, A, c', h2, (h3.mod hM (fun k hk he => by have := (h3.row k hk).1; omega) (fun k _ hk _ => hk)).lower hE.size⟩⟩
def spawnP (nx prog : Int) : Pr := ⟨0, 0, nx, nx, 0, prog, 0, 0, 0, List.replicate 32 0, 0, false⟩
theorem spawnP_ok (nx prog : Int) : (spawnP nx prog).ok := rfl
def SpawnPost (l : List Pr) (nx prog : Int) (Ad : Option Addr) (c : Nat) (w : World) (e : Ending) (w' : World) : Prop :=
  (rightL l nx = false ∧ Ext w w' ∧ e = .returned (.tuple #[tv Ad l.length c nx, .int .i64 0, .int .i64 4])) ∨ (rightL l nx = true ∧ MorePost l nx (spawnP nx prog) Ad c w e w')
set_option maxRecDepth 100000 in
set_option maxHeartbeats 800000 in
theorem spawn_any {A : Nat → Prop} (Ad : Option Addr) (c : Nat) (l : List Pr) (nx prog : Int) (w : World) (h : RdY Rp A w (.slice Ad l.length c) l) :
    Calls Try.prog 31 #[tv Ad l.length c nx, .int .i64 prog] w (SpawnPost l nx prog Ad c w) := by
  have H := Lib.hid (rdy_pr (B := fun _ => False) h)
  have hres := Lib.hid (Blk.at_ (w := w.alloc (.cells #[.slice Ad l.length c, .int .i64 nx] 29)) (B := w.heap.size + 1) 29 #[.slice none 0 0, .int .i64 0] (by simp))
  have hbox := Lib.hid ((Blk.new w 29 #[.slice Ad l.length c, .int .i64 nx]).alloc (.cells #[.slice none 0 0, .int .i64 0] 29))
  clear h
  cases hr : rightL l nx
  · have HR := Lib.hid hr
    clear hr
    go_enter Try.func31, Try.ntmps31
    go_wp2_with fail
    refine (right_any Ad c l nx _ (H.out.ext (by repeat (first | with_reducible exact Ext.refl _ | refine Ext.drewN ?_ _ | refine Ext.drew ?_ | refine Ext.alloc ?_ _ | assumption | (refine Below.trans ?_ (by assumption)) | (refine Ext.trans ?_ (by assumption)) | (refine Below.trans ?_ (Below.mono (by assumption) (by omega))))))).mono ?_
    rintro e w1 ⟨rfl, E1⟩
    rw [HR.out]
    have E01 : Ext w w1 := (by repeat (first | with_reducible exact Ext.refl _ | refine Ext.drewN ?_ _ | refine Ext.drew ?_ | refine Ext.alloc ?_ _ | assumption | (refine Below.trans ?_ (by assumption)) | (refine Ext.trans ?_ (by assumption)) | (refine Below.trans ?_ (Below.mono (by assumption) (by omega)))))
    have hs := hres.out.ext E1
    have hb := (hbox.out.ext E1).two
    have ks := hs.two
    have hM7 : Mod (fun k => k = w.heap.size + 1) w1 _ := ((Mod.refl _ w1).set1 (.slice Ad l.length c) (o := 0)).set1 (.int .i64 nx) (o := 1)
    obtain ⟨q0, q1, _, _⟩ := (hs.put2 (.slice Ad l.length c) (.int .i64 nx)).two
    go_wp2
    refine bodyPost_ret (v := .tuple #[tv Ad l.length c nx, .int .i64 0, .int .i64 4]) (by simp [results, Try.results31, go_sem, q0, q1]) rfl ?_
    exact .inl ⟨HR.out, Mod.toExt E01 hM7 (by intro k hk he; omega), rfl⟩
  · have HR := Lib.hid hr
    have hl := (right_len hr).1
    clear hr
    go_enter Try.func31, Try.ntmps31
    go_wp2_with fail
    refine (right_any Ad c l nx _ (H.out.ext (by repeat (first | with_reducible exact Ext.refl _ | refine Ext.drewN ?_ _ | refine Ext.drew ?_ | refine Ext.alloc ?_ _ | assumption | (refine Below.trans ?_ (by assumption)) | (refine Ext.trans ?_ (by assumption)) | (refine Below.trans ?_ (Below.mono (by assumption) (by omega))))))).mono ?_
    rintro e w1 ⟨rfl, E1⟩
    rw [HR.out]
    have E01 : Ext w w1 := (by repeat (first | with_reducible exact Ext.refl _ | refine Ext.drewN ?_ _ | refine Ext.drew ?_ | refine Ext.alloc ?_ _ | assumption | (refine Below.trans ?_ (by assumption)) | (refine Ext.trans ?_ (by assumption)) | (refine Below.trans ?_ (Below.mono (by assumption) (by omega)))))
    have hs := Lib.hid (hres.out.ext E1)
    have hb := (hbox.out.ext E1).two
    have hsz := hs.out.lt
    clear E1
    go_wp2_with fail
    refine (more_any Ad c l nx (spawnP nx prog) _ (H.out.ext E01) (by omega) (spawnP_ok _ _)).mono ?_
    rintro e w2 hm
    have hE := hm.1
    obtain ⟨_, ⟨h32, rfl⟩ | ⟨h32, A', c', rfl, _⟩⟩ := id hm
    · clear h32
      have hs2 := hs.out.ext hE
      have ks := hs2.two
      have hM7 : Mod (fun k => k = w.heap.size + 1) w2 _ := ((Mod.refl _ w2).set1 (.slice Ad l.length c) (o := 0)).set1 (.int .i64 nx) (o := 1)
      obtain ⟨q0, q1, _, _⟩ := (hs2.put2 (.slice Ad l.length c) (.int .i64 nx)).two
      go_wp2
      refine bodyPost_ret (v := .tuple #[tv Ad l.length c nx, .int .i64 0, .int .i64 10]) (by simp [results, Try.results31, go_sem, q0, q1]) rfl ?_
      exact .inr ⟨HR.out, hm.box E01 (by omega) hsz hM7⟩
    · clear h32
      have hs2 := hs.out.ext hE
      have ks := hs2.two
      have hM7 : Mod (fun k => k = w.heap.size + 1) w2 _ := ((Mod.refl _ w2).set1 (.slice A' (l.length + 1) c') (o := 0)).set1 (.int .i64 (nextNo nx)) (o := 1)
      obtain ⟨q0, q1, _, _⟩ := (hs2.put2 (.slice A' (l.length + 1) c') (.int .i64 (nextNo nx))).two
      go_wp2
      refine bodyPost_ret (v := .tuple #[tv A' (l.length + 1) c' (nextNo nx), .int .i64 nx, .int .i64 0]) (by simp [results, Try.results31, go_sem, q0, q1]) rfl ?_
      exact .inr ⟨HR.out, hm.box E01 (by omega) hsz hM7⟩
end Go.Proofs.Ytmpmnikgbepphaa
