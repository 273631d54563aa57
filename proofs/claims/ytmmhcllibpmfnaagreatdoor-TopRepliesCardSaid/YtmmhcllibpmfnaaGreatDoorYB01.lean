/- Parts Base Rep Row IG28 MX28 FA17 FB17. No condition. -/
import Derived.BigQuiet
import Derived.Deep.AppendLies
import Derived.Deep.Draws
import Derived.Deep.QuietTactic
import Derived.Deep.RegionHeld3
import Derived.Deep.RegionLaw
import Derived.Laws.BitsAllLaws
import Derived.Laws.BitsLemmas
import Derived.Lib.AppendZeros
import Derived.Lib.Hide
import Derived.Lib.SlBytesConst
import Derived.Lib.SliceRun
import Derived.Maps.AppendAt
import Derived.WalkKit
import Derived.WalkLawsBesides
import Derived.WalkSpells
import Derived.Laws.BytesArg
import Derived.Laws.BytesString
import Derived.Deep.MidRow
import Derived.Laws.Rows
import Derived.Deep.DeepCutAuto
import Derived.Test.YtmmhcllibpmfnaaGreatDoorRows
set_option maxRecDepth 100000
set_option maxHeartbeats 8000000
namespace Go.Kb
open Go.RowKit
abbrev Ext (w w':World):Prop:=Below w.heap.size w w'
theorem Ext.refl (w:World):Ext w w:=Below.refl _ _
theorem Ext.trans {a b c:World}(h:Ext a b)(k:Ext b c):Ext a c:=Below.trans h (k.mono h.size)
theorem Ext.alloc {a w:World}(h:Ext a w)(o:Obj):Ext a (w.alloc o):=Below.alloc h h.size o
theorem Ext.drewN {a w:World}(h:Ext a w)(n:Nat):Ext a (w.drewN n):=⟨h.os,h.tape,h.output,h.size,h.block⟩
theorem Ext.drew {a w:World}(h:Ext a w):Ext a w.drew:=⟨h.os,h.tape,h.output,h.size,h.block⟩
theorem Ext.setNew {a w:World}(h:Ext a w){p:Addr}(hp:a.heap.size≤p.block)(u:Value):Ext a (w.setCell p u):=Below.setCell h hp u
theorem Bc {B:Nat}{w w1:World}(hb:Below B w w1):∀b o,b<B→w1.cell? ⟨b,o,none⟩=w.cell? ⟨b,o,none⟩:=fun b o h=>Below.cell hb (p:=⟨b,o,none⟩) h
theorem Bf {B:Nat}{w w1:World}(hb:Below B w w1):∀b o,b<B→w1.frozen? ⟨b,o,none⟩=w.frozen? ⟨b,o,none⟩:=fun b o h=>Below.frozen hb (p:=⟨b,o,none⟩) h
theorem Zaa {w w':World}{a:Addr}{v:Value}(hE:Ext w w')(h:w.cell? a=some v):w'.cell? a=some v:=by
 rw[Below.cell hE (World.block_lt_of_cell? w a h)];exact h
theorem zP:(∀ (a:Act) (d:Tmp) (v:Value),Act.put a (some d) v={a with tmps:=a.tmps.setIfInBounds d v})∧(∀ (a:Act) (v:Value),Act.put a none v=a)∧(type_of% @List.getElem_toArray.{0})∧(type_of% @List.getElem_cons_succ.{0})∧(type_of% @List.getElem_cons_zero.{0})∧(type_of% @List.setIfInBounds_toArray.{0})∧(type_of% @List.set_cons_succ.{0})∧(type_of% @List.set_cons_zero.{0}):=
 ⟨fun _ _ _=>rfl,fun _ _=>rfl,@List.getElem_toArray,@List.getElem_cons_succ,@List.getElem_cons_zero,@List.setIfInBounds_toArray,@List.set_cons_succ,@List.set_cons_zero⟩
theorem zG:(type_of% @List.getElem?_toArray.{0})∧(type_of% @List.getElem?_cons_zero.{0})∧(type_of% @List.getElem?_cons_succ.{0}):=⟨@List.getElem?_toArray,@List.getElem?_cons_zero,@List.getElem?_cons_succ⟩
theorem zX {w w':World}(h:Ext w w':=by repeat(first|with_reducible exact Ext.refl _|refine Ext.drewN ?_ _|refine Ext.drew ?_|refine Ext.alloc ?_ _|assumption|(refine Below.trans ?_ (by assumption))|(refine Ext.trans ?_ (by assumption))|(refine Below.trans ?_ (Below.mono (by assumption) (by omega))))):Ext w w':=h
theorem zh {p:Prop}(h:p):Hid p:=Lib.hid h
theorem zi (P:Program)(t n:Nat)(h:((P.info? t).map (·.size)==some n)=true:=by kernel_rfl):(P.info? t).map (·.size)=some n:=by simpa using h
theorem zn {α:Type _}(x:α):∃y,y=x:=⟨x,rfl⟩
theorem zm {α:Type _}(x:α):∃y,x=y:=⟨x,rfl⟩
section
variable {P:Program} {ops:Array Oper} {Q:Exit→Act→World→Prop} {md:Region.Mode} {S:World→Prop} {fuel:Nat} {listed:Array Bool} {a a':Act} {w:World} {oi:Oper} {v:Value}
theorem zT (i:Nat)(hi:ops[i]?=some oi)(hy:YieldsIf P ops S oi v a)
  (h:wpAnyH P md ops Q S fuel (listed.setIfInBounds i true) (a.put oi.dst v) w) (hs:Region.noSelect ops=true:=by kernel_rfl) (hf:Region.free md ops listed i=true:=by kernel_rfl) (hr:(Region.ready md ops listed).contains i=true:=by kernel_rfl)
  (hQ:∀c a w,Q (.panic c) (a.put oi.dst v) w→Q (.panic c) a w:=by exact fun _ _ _ h=>h) (hS:S w:=by assumption):wpAnyH P md ops Q S (fuel+1) listed a w:=
 wpAnyH_take hi hs hf hr hQ hy hS h
theorem zr (i:Nat)(h:wpAnyH P md ops Q S fuel (listed.setIfInBounds i true) a' w)(hi:ops[i]?=some oi:=by exact rfl)(hy:YieldsIf P ops S oi v a:=by exact Or.inl ⟨by rfl,by intro w' hSw;go_simp;try with_reducible rfl⟩)
  (ha:a.put oi.dst v=a':=by((try simp only[zP]);first|done|rfl)) (hs:Region.noSelect ops=true:=by kernel_rfl) (hf:Region.free md ops listed i=true:=by kernel_rfl) (hr:(Region.ready md ops listed).contains i=true:=by kernel_rfl)
  (hQ:∀c a w,Q (.panic c) (a.put oi.dst v) w→Q (.panic c) a w:=by exact fun _ _ _ h=>h) (hS:S w:=by assumption):wpAnyH P md ops Q S (fuel+1) listed a w:=
 wpAnyH_take hi hs hf hr hQ hy hS (ha ▸ h)
theorem zu (i:Nat){F:World→Prop}(k:∀w',S w'→F w')(h:wpAnyH P md ops Q S fuel (listed.setIfInBounds i true) a' w)(hi:ops[i]?=some oi:=by exact rfl)(hy:(∀w',S w'→F w')→YieldsIf P ops S oi v a:=by exact fun k=>Or.inl ⟨by rfl,by intro w' hSw;have kc:=k w' hSw;clear k;go_simp;try with_reducible rfl⟩)
  (ha:a.put oi.dst v=a':=by((try simp only[zP]);first|done|rfl)) (hs:Region.noSelect ops=true:=by kernel_rfl) (hf:Region.free md ops listed i=true:=by kernel_rfl) (hr:(Region.ready md ops listed).contains i=true:=by kernel_rfl)
  (hQ:∀c a w,Q (.panic c) (a.put oi.dst v) w→Q (.panic c) a w:=by exact fun _ _ _ h=>h) (hS:S w:=by assumption):wpAnyH P md ops Q S (fuel+1) listed a w:=
 wpAnyH_take hi hs hf hr hQ (hy k) hS (ha ▸ h)
theorem zv (i:Nat){W:World}{p:Addr}{u:Value}(k:W.cell? p=some u)(h:wpAnyH P md ops Q (fun w'=>Ext W w') fuel (listed.setIfInBounds i true) a' w)(hi:ops[i]?=some oi:=by exact rfl)
  (hy:(∀w',Ext W w'→w'.cell? p=some u)→YieldsIf P ops (fun w'=>Ext W w') oi v a:=by exact fun k=>Or.inl ⟨by rfl,by intro w' hSw;have kc:=k w' hSw;clear k;go_simp;try with_reducible rfl⟩)
  (ha:a.put oi.dst v=a':=by((try simp only[zP]);first|done|rfl)) (hs:Region.noSelect ops=true:=by kernel_rfl) (hf:Region.free md ops listed i=true:=by kernel_rfl) (hr:(Region.ready md ops listed).contains i=true:=by kernel_rfl)
  (hQ:∀c a w,Q (.panic c) (a.put oi.dst v) w→Q (.panic c) a w:=by exact fun _ _ _ h=>h) (hS:Ext W w:=by assumption):wpAnyH P md ops Q (fun w'=>Ext W w') (fuel+1) listed a w:=
 wpAnyH_take hi hs hf hr hQ (hy fun _ h=>Zaa h k) hS (ha ▸ h)
theorem zw (i:Nat)(h:∀K:Act→World→Prop,Shut (∀a w,S w→(S w→wpAnyH P md ops Q S fuel (listed.setIfInBounds i true) a w)→K a w)→if Region.wanted oi (yielded ops a.tmps)=true then Oper.wp P oi a w K Q else K (a.put oi.dst undef) w)
  (hi:ops[i]?=some oi:=by exact rfl) (hr:Region.ready md ops listed=[i]:=by kernel_rfl):wpAnyH P md ops Q S (fuel+1) listed a w:=
 wpAnyH_ready hr (by simp) (AllReadyH.cons hi h AllReadyH.nil)
theorem zo {K:Act→World→Prop}{R:Act→World→Prop}(hK:Shut (∀a w,S w→(S w→R a w)→K a w))(hS:S w)(h:S w→R a' w)(ha:a=a':=by((try simp only[zP]);first|done|rfl)):K a w:=
 ha ▸ hK.out _ _ hS h
theorem za (i:Nat){W':World}{a1:Act}(hS:S W')(h:S W'→wpAnyH P md ops Q S fuel (listed.setIfInBounds i true) a' W')(hi:ops[i]?=some oi:=by exact rfl)
  (hy:∀K:Act→World→Prop,K a1 W'→(if Region.wanted oi (yielded ops a.tmps)=true then Oper.wp P oi a w K Q else K (a.put oi.dst undef) w):=by(intro K hK;go_simp;exact hK))
  (ha:a1=a':=by((try simp only[zP]);first|done|rfl)) (hr:Region.ready md ops listed=[i]:=by kernel_rfl):wpAnyH P md ops Q S (fuel+1) listed a w:=by
 subst ha;exact wpAnyH_ready hr (by simp) (AllReadyH.cons hi (fun K hK=>hy K (hK.out a1 W' hS h)) AllReadyH.nil)
theorem ze (i:Nat){W':World}{a1:Act}(h:S W'→wpAnyH P md ops Q S fuel (listed.setIfInBounds i true) a' W')(hi:ops[i]?=some oi:=by exact rfl)
  (hy:∀K:Act→World→Prop,K a1 W'→(if Region.wanted oi (yielded ops a.tmps)=true then Oper.wp P oi a w K Q else K (a.put oi.dst undef) w):=by(intro K hK;go_simp;exact hK))
  (ha:a1=a':=by((try simp only[zP]);first|done|rfl)) (hS:S W':=by exact zX) (hr:Region.ready md ops listed=[i]:=by kernel_rfl):wpAnyH P md ops Q S (fuel+1) listed a w:=
 za i hS h hi hy ha hr
theorem zc (i:Nat){fn:FuncId}{args:Array Value}{Qc:Ending→World→Prop}{R:(Act→World→Prop)→Ending→World→Prop}(c:Calls P fn args w Qc)
  (h:∀e w',Qc e w'→∀K:Act→World→Prop,Shut (∀a w,S w→(S w→wpAnyH P md ops Q S fuel (listed.setIfInBounds i true) a w)→K a w)→R K e w') (hi:ops[i]?=some oi:=by exact rfl)
  (hy:Calls P fn args w Qc→∀K:Act→World→Prop,(∀e w',Qc e w'→R K e w')→(if Region.wanted oi (yielded ops a.tmps)=true then Oper.wp P oi a w K Q else K (a.put oi.dst undef) w):=by(intro c K hK;go_simp;exact c.mono hK))
  (hr:Region.ready md ops listed=[i]:=by kernel_rfl):wpAnyH P md ops Q S (fuel+1) listed a w:=
 wpAnyH_ready hr (by simp) (AllReadyH.cons hi (fun K hK=>hy c K (fun e w' q=>h e w' q K hK)) AllReadyH.nil)
theorem zU (i:Nat)(hi:ops[i]?=some oi)(hy:YieldsIf P ops S oi v a)(h:wpAnyH P md ops Q S fuel (listed.setIfInBounds i true) a' w)
  (ha:a.put oi.dst v=a':=by((try simp only[zP]);first|done|rfl)) (hs:Region.noSelect ops=true:=by kernel_rfl) (hf:Region.free md ops listed i=true:=by kernel_rfl) (hr:(Region.ready md ops listed).contains i=true:=by kernel_rfl)
  (hQ:∀c a w,Q (.panic c) (a.put oi.dst v) w→Q (.panic c) a w:=by exact fun _ _ _ h=>h) (hS:S w:=by assumption):wpAnyH P md ops Q S (fuel+1) listed a w:=
 wpAnyH_take hi hs hf hr hQ hy hS (ha ▸ h)
theorem zd (h:Q .normal a w){fuel:Nat}(hr:Region.ready md ops listed=[]:=by kernel_rfl):wpAnyH P md ops Q S fuel listed a w:=wpAnyH_done hr h fuel
theorem zg {id:Nat}(S:World→Prop)(hS:S w.drew)(h:S w.drew→wpAnyH P .any ops Q S ops.size (Array.replicate ops.size false) a w.drew)(hm:P.follows .mixedOrders=true:=by kernel_rfl):(Code.region id ops true).wp P Q a w:=
 wp_region_held_drew hm hS h
end
theorem Ext.cell {w w1:World}(hb:Ext w w1):∀b o,b<w.heap.size→w1.cell? ⟨b,o,none⟩=w.cell? ⟨b,o,none⟩:=fun b o h=>Below.cell hb (p:=⟨b,o,none⟩) h
theorem Ext.frozen {w w1:World}(hb:Ext w w1):∀b o,b<w.heap.size→w1.frozen? ⟨b,o,none⟩=w.frozen? ⟨b,o,none⟩:=fun b o h=>Below.frozen hb (p:=⟨b,o,none⟩) h
def RdN (w:World)(size:Nat)(v:Value)(n:Nat)(xs:List Value):Prop:=
 xs.length=n*size∧∃A c,v= .slice A n c∧n≤c∧c≤maxLen∧
  (c=0∨∃b off,A=some ⟨b,off,none⟩∧∀j u,xs[j]?=some u→w.cell? ⟨b,off+j,none⟩=some u)
section
variable {w w':World} {size n:Nat} {v:Value} {xs:List Value}
theorem RdN.nil (w:World)(size:Nat):RdN w size (.slice none 0 0) 0 []:=⟨by simp,none,0,rfl,Nat.le_refl _,Nat.zero_le _,.inl rfl⟩
theorem RdN.keep (h:RdN w size v n xs)(hk:∀b off j u,xs[j]?=some u→w.cell? ⟨b,off+j,none⟩=some u→w'.cell? ⟨b,off+j,none⟩=some u):RdN w' size v n xs:=by
 obtain⟨hl,A,c,hv,hnc,hm,hA⟩:=h
 refine⟨hl,A,c,hv,hnc,hm,?_⟩
 rcases hA with hA|⟨b,off,hA,hc⟩
 ·exact .inl hA
 ·exact .inr ⟨b,off,hA,fun j u hu=>hk b off j u hu (hc j u hu)⟩
theorem RdN.ext (h:RdN w size v n xs)(hE:Ext w w'):RdN w' size v n xs:=
 h.keep fun b off j u _ hc=>by
  rw[hE.cell b _ (World.block_lt_of_cell? w _ hc)];exact hc
theorem RdN.alloc (h:RdN w size v n xs)(o:Obj):RdN (w.alloc o) size v n xs:=h.ext ((Ext.refl w).alloc o)
theorem RdN.drewN (h:RdN w size v n xs)(k:Nat):RdN (w.drewN k) size v n xs:=h
theorem RdN.drew (h:RdN w size v n xs):RdN w.drew size v n xs:=h
theorem RdN.of_own {base:Nat}{e:TypeId}(h:w.ownsRow base e size v n xs):RdN w size v n xs:=by
 refine⟨h.1,?_⟩
 rcases h.2 with⟨rfl,rfl⟩|⟨g,cap,cur,rfl,_,_,hnc,hcm,_⟩
 ·exact⟨none,0,rfl,Nat.le_refl _,Nat.zero_le _,.inl rfl⟩
 ·refine⟨some ⟨g,0,none⟩,cap,rfl,hnc,hcm,.inr ⟨g,0,rfl,fun j u hu=>?_⟩⟩
  have:=h.cells (g:=g) rfl j u hu
  simpa [Addr.add_lit] using this
theorem RdN.shape (h:RdN w size v n xs):∃A c,v= .slice A n c∧n≤c∧c≤9223372036854775807:=by
 obtain⟨_,A,c,hv,h1,h2,_⟩:=h
 exact⟨A,c,hv,h1,h2⟩
theorem RdN.from_ {A:Option Addr}{c:Nat}(h:RdN w size (.slice A n c) n xs){k:Nat}(hk:k≤n):
  RdN w size (.slice (if c=k then A else A.map (·.add (k*size))) (n - k) (c - k)) (n - k) (xs.drop (k*size)):=by
 obtain⟨hl,A',c',hv,hnc,hm,hA⟩:=h
 simp only[Value.slice.injEq] at hv
 obtain⟨rfl,_,rfl⟩:=hv
 refine⟨by rw[List.length_drop,hl,Nat.sub_mul],_,_,rfl,by omega,by omega,?_⟩
 rcases hA with rfl|⟨b,off,rfl,hc⟩
 ·exact .inl (by omega)
 ·by_cases hck:c=k
  ·rw[if_pos hck]
   refine .inr ⟨b,off,rfl,fun j u hu=>?_⟩
   have:n=k:=by omega
   subst this
   rw[List.drop_eq_nil_of_le (by omega)] at hu
   simp at hu
  ·rw[if_neg hck]
   refine .inr ⟨b,off+k*size,?_,fun j u hu=>?_⟩
   ·simp[Addr.add]
   ·rw[List.getElem?_drop] at hu
    have:=hc _ u hu
    rw[Nat.add_assoc];exact this
theorem RdN.to_ {A:Option Addr}{c:Nat}(h:RdN w size (.slice A n c) n xs){k:Nat}(hk:k≤n):
  RdN w size (.slice A k c) k (xs.take (k*size)):=by
 obtain⟨hl,A',c',hv,hnc,hm,hA⟩:=h
 simp only[Value.slice.injEq] at hv
 obtain⟨rfl,_,rfl⟩:=hv
 refine⟨?_,_,_,rfl,by omega,hm,?_⟩
 ·rw[List.length_take,hl];exact Nat.min_eq_left (Nat.mul_le_mul_right _ hk)
 ·rcases hA with hA|⟨b,off,rfl,hc⟩
  ·exact .inl hA
  ·refine .inr ⟨b,off,rfl,fun j u hu=>hc j u ?_⟩
   rw[List.getElem?_take] at hu
   split at hu
   ·exact hu
   ·cases hu
end
theorem RdN.form {w:World}{size n:Nat}{v:Value}{xs:List Value}(h:RdN w size v n xs)(hn:0<n):
  ∃b off c,v= .slice (some ⟨b,off,none⟩) n c∧n≤c∧c≤maxLen∧∀j u,xs[j]?=some u→w.cell? ⟨b,off+j,none⟩=some u:=by
 obtain⟨_,A,c,hv,hnc,hm,hA⟩:=h
 rcases hA with rfl|⟨b,off,rfl,hc⟩
 ·omega
 ·exact⟨b,off,c,hv,hnc,hm,hc⟩
abbrev u8s (l:List Int):List Value:=l.map (Value.int .u8)
def Bs (l:List Int):Prop:=∀x∈l,0≤x∧x≤255
theorem RdN.addr {w:World}{size n n' c:Nat}{A:Option Addr}{xs:List Value}(h:RdN w size (.slice A n c) n' xs)(hn:0<n):∃b off,A=some ⟨b,off,none⟩:=by
 obtain⟨_,A',c',hv,hnc,_,hA⟩:=h
 simp only[Value.slice.injEq] at hv
 obtain⟨rfl,rfl,rfl⟩:=hv
 rcases hA with rfl|⟨b,off,rfl,_⟩
 ·omega
 ·exact⟨b,off,rfl⟩
abbrev RI (k:IntKind)(w:World)(v:Value)(l:List Int):Prop:=RdN w 1 v l.length (l.map (Value.int k))
theorem RdN.icell {k:IntKind}{w:World}{A:Option Addr}{n c:Nat}{l:List Int}(h:RI k w (.slice A n c) l){j:Nat}(hj:j<n):
  ∃b off x,A=some ⟨b,off,none⟩∧w.cell? ⟨b,off+j,none⟩=some (.int k x)∧Hid (l[j]?=some x):=by
 obtain⟨hl,A',c',hv,hnc,hm,hA⟩:=h
 simp only[Value.slice.injEq] at hv
 obtain⟨rfl,rfl,rfl⟩:=hv
 rcases hA with rfl|⟨b,off,rfl,hc⟩
 ·omega
 ·refine⟨b,off,l[j]'hj,rfl,hc j _ ?_,?_⟩
  ·simp[List.getElem?_eq_getElem hj]
  ·exact(List.getElem?_eq_getElem hj:l[j]?=some l[j])
theorem RI.sub_ {k:IntKind}{w:World}{b off c n:Nat}{l:List Int}(h:RI k w (.slice (some ⟨b,off,none⟩) n c) l){lo m:Nat}(hm:lo+m≤n):
  RI k w (.slice (some ⟨b,off+lo,none⟩) m (c - lo)) ((l.drop lo).take m):=by
 obtain⟨_,A',c',hv,hnc,hcm,hA⟩:=h
 simp only[Value.slice.injEq] at hv
 obtain⟨rfl,rfl,rfl⟩:=hv
 have hl:((l.drop lo).take m).length=m:=by simp;omega
 refine⟨by simp,_,_,by rw[hl],by omega,by omega,.inr ⟨b,off+lo,rfl,fun j u hu=>?_⟩⟩
 rcases hA with h0|⟨b',off',h0,hc⟩
 ·rw[List.getElem?_eq_none (by simp;omega)] at hu;cases hu
 ·simp only[Option.some.injEq,Addr.mk.injEq] at h0
  obtain⟨rfl,rfl,_⟩:=h0
  rw[Nat.add_assoc]
  apply hc
  rw[List.getElem?_map,List.getElem?_take] at hu
  split at hu
  ·rw[List.getElem?_drop] at hu
   rw[List.getElem?_map];exact hu
  ·simp at hu
theorem RI.from_ {k:IntKind}{w:World}{b off c n:Nat}{l:List Int}(h:RI k w (.slice (some ⟨b,off,none⟩) n c) l){lo:Nat}(hm:lo≤n):
  RI k w (.slice (if c=lo then some ⟨b,off,none⟩ else some ⟨b,off+lo,none⟩) (n - lo) (c - lo)) (l.drop lo):=by
 obtain⟨_,A',c',hv,hnc,hcm,hA⟩:=h
 simp only[Value.slice.injEq] at hv
 obtain⟨rfl,rfl,rfl⟩:=hv
 have hl:(l.drop lo).length=l.length - lo:=by simp
 by_cases hcl:c=lo
 ·have:l.length=lo:=by omega
  rw[if_pos hcl]
  refine⟨by simp,_,_,by rw[hl],by omega,by omega,.inr ⟨b,off,rfl,fun j u hu=>?_⟩⟩
  rw[List.drop_eq_nil_of_le (by omega)] at hu
  simp at hu
 ·rw[if_neg hcl]
  refine⟨by simp,_,_,by rw[hl],by omega,by omega,.inr ⟨b,off+lo,rfl,fun j u hu=>?_⟩⟩
  rcases hA with h0|⟨b',off',h0,hc⟩
  ·omega
  ·simp only[Option.some.injEq,Addr.mk.injEq] at h0
   obtain⟨rfl,rfl,_⟩:=h0
   rw[Nat.add_assoc]
   apply hc
   rw[List.getElem?_map,List.getElem?_drop] at hu
   rw[List.getElem?_map];exact hu
theorem RI.lit {w:World}{B:Nat}{fr:Nat×Nat}(k:IntKind)(l:List Int)(e:TypeId)(hB:w.heap.size=B)(hl:l.length≤1000000):
  RI k (w.alloc (.cells (l.map (Value.int k)).toArray e fr)) (.slice (some ⟨B,0,none⟩) l.length l.length) l:=by
 subst hB
 refine⟨by simp,_,_,rfl,Nat.le_refl _,by unfold maxLen;omega,.inr ⟨_,_,rfl,fun j u hu=>?_⟩⟩
 have h:(w.alloc (.cells (l.map (Value.int k)).toArray e fr)).cell? ⟨w.heap.size,0+j,none⟩=(l.map (Value.int k)).toArray[0+j]?:=cell_of_row _ _ _ _ e fr (heap_alloc_new w _)
 rw[h,Nat.zero_add]
 simpa using hu
theorem Zdp {l:List Int}{j:Nat}{x:Int}(h:l[j]?=some x):l.take (j+1)=l.take j++ [x]:=by
 rw[List.take_add_one,h];rfl
def hd4 (r:List Int):Int:=r.getD 0 0*16777216+r.getD 1 0*65536+r.getD 2 0*256+r.getD 3 0
theorem ZeN {r:List Int}(hB:Bs r):0≤hd4 r∧hd4 r<4294967296:=by
 have key:∀i,0≤r.getD i 0∧r.getD i 0≤255:=fun i=>by
  rcases Nat.lt_or_ge i r.length with h|h
  ·rw[List.getD_eq_getElem?_getD,List.getElem?_eq_getElem h];exact hB _ (List.getElem_mem h)
  ·rw[List.getD_eq_getElem?_getD,List.getElem?_eq_none h];decide
 have h0:=key 0
 have h1:=key 1
 have h2:=key 2
 have h3:=key 3
 unfold hd4
 omega
theorem Zbq {r:List Int}(h:4≤r.length):∃a b c d t,r=a::b::c::d::t:=by
 match r,h with
 |a::b::c::d::t,_=>exact⟨a,b,c,d,t,rfl⟩
theorem Zbf (k:IntKind)(l:List Int):∀u∈l.map (Value.int k),u.oneCell'=true:=ints_oneCell k l
section
variable {P:Program} (w:World)
theorem Ze9 (base:Nat)(t ty e:TypeId)(i:TypeInfo)(z:Value)(size bytes:Nat)(ht:P.underlying t=some (.slice e))(hi:P.info? e=some i)(hz:i.zero=some z)
  (hsize:i.size=size) (hby:i.bytes=bytes) (hzs:z.cells.size=size) (hsz:0<size)
  (v:Value) (n:Nat) (xs:List Value) (hown:w.ownsRow base e size v n xs)
  (x:Value) (m:Nat) (news:List Value) (hr:RdN w size x m news) (h1:∀u∈news,u.oneCell'=true)
  (h63:n+m≤maxLen) (hbytes:(n+m)*bytes≤140737488355328) (hbase:base≤w.heap.size):
  ∃v' w',(Builtin.append_ #[t,t] ty #[v,x]).run P w= .ok v' w'∧w'.ownsRow base e size v' (n+m) (xs++news)∧w.grownBy w' v.ownBlock∧
   (v'.ownBlock=v.ownBlock∨v'.ownBlock=some w.heap.size):=by
 obtain⟨hl,A,c,rfl,hmc,hcm,hA⟩:=hr
 rcases hA with rfl|⟨b,off,rfl,hcell⟩
 ·have hm:m=0:=by omega
  subst hm
  have hn:news=[]:=List.eq_nil_of_length_eq_zero (by simpa using hl)
  subst hn
  rcases A with _|ad
  ·refine⟨v,w,?_,by simpa using hown,World.grownBy.refl w _,.inl rfl⟩
   rcases hown.2 with⟨rfl,rfl⟩|⟨g,cap,cur,rfl,_,_,hnc,_⟩
   ·simp[Builtin.append_,run_underlying ht,sizeOf,typeInfo,hi,Builtin.lenOf,Builtin.firstCells]
   ·simp[Builtin.append_,run_underlying ht,sizeOf,typeInfo,hi,Builtin.lenOf,Builtin.firstCells,hnc,storeCells]
  ·obtain⟨v',w',hrun,h2,h3,_,h5⟩:=run_append_own_at (P:=P) w base t ty e i z size bytes ht hi hz hsize hby hzs hsz v n xs hown ad 0 0 [] (by simp) (fun j u hu=>by simp at hu) h1 h63 hbytes hbase
   exact⟨v',w',hrun,h2,h3,h5⟩
 ·have hcells:∀j u,news[j]?=some u→w.cell? ((⟨b,off,none⟩:Addr).add j)=some u:=by
   intro j u hu
   simpa [Addr.add_lit] using hcell j u hu
  obtain⟨v',w',hrun,h2,h3,_,h5⟩:=run_append_own_at (P:=P) w base t ty e i z size bytes ht hi hz hsize hby hzs hsz v n xs hown _ m c news hl hcells h1 h63 hbytes hbase
  exact⟨v',w',hrun,h2,h3,h5⟩
theorem Zbg {o:Oper}{a:Act}{K:Act→World→Prop}{Q:Exit→Act→World→Prop}(s x:Operand)(t:TypeId)
  (ho:o.op= .call {callee:=.builtin .append,args:=#[s,x],argTypes:=#[t,t]})
  (base:Nat) (e:TypeId) (i:TypeInfo) (z:Value) (size bytes:Nat) (ht:P.underlying t=some (.slice e)) (hi:P.info? e=some i) (hz:i.zero=some z)
  (hsize:i.size=size) (hby:i.bytes=bytes) (hzs:z.cells.size=size) (hsz:0<size)
  (v:Value) (n:Nat) (xs:List Value) (hs:a.eval s=v) (hown:w.ownsRow base e size v n xs)
  (y:Value) (m:Nat) (news:List Value) (hx:a.eval x=y) (hr:RdN w size y m news) (h1:∀u∈news,u.oneCell'=true)
  (h63:n+m≤maxLen) (hbytes:(n+m)*bytes≤140737488355328) (hbase:base≤w.heap.size)
  (h:∀v' w',w'.ownsRow base e size v' (n+m) (xs++news)→w.grownBy w' v.ownBlock→(v'.ownBlock=v.ownBlock∨v'.ownBlock=some w.heap.size)→K (a.put o.dst v') w'):o.wp P a w K Q:=by
 obtain⟨v',w',hrun,h2,h3,h4⟩:=Ze9 (P:=P) w base t o.type e i z size bytes ht hi hz hsize hby hzs hsz v n xs hown y m news hr h1 h63 hbytes hbase
 unfold Oper.wp execOp
 simp only[ho,resolve,invoke,builtin,Sem.run_bind,Sem.run_pure,Result.andThen_ok,List.map_toArray,List.map_cons,List.map_nil,hs,hx,hrun]
 exact h v' w' h2 h3 h4
theorem Za1 {ops:Array Oper}{rest:List Oper}{o:Oper}{a:Act}{Q:Exit→Act→World→Prop}(hgd:o.guard=none)(s x:Operand)(t:TypeId)
  (ho:o.op= .call {callee:=.builtin .append,args:=#[s,x],argTypes:=#[t,t]})
  (base:Nat) (e:TypeId) (i:TypeInfo) (z:Value) (size bytes:Nat) (ht:P.underlying t=some (.slice e)) (hi:P.info? e=some i) (hz:i.zero=some z)
  (hsize:i.size=size) (hby:i.bytes=bytes) (hzs:z.cells.size=size) (hsz:0<size)
  (v:Value) (n:Nat) (xs:List Value) (hs:a.eval s=v) (hown:w.ownsRow base e size v n xs)
  (y:Value) (m:Nat) (news:List Value) (hx:a.eval x=y) (hr:RdN w size y m news) (h1:∀u∈news,u.oneCell'=true)
  (h63:n+m≤maxLen) (hbytes:(n+m)*bytes≤140737488355328) (hbase:base≤w.heap.size)
  (h:∀v' w',w'.ownsRow base e size v' (n+m) (xs++news)→w.grownBy w' v.ownBlock→(v'.ownBlock=v.ownBlock∨v'.ownBlock=some w.heap.size)→wpList P ops Q rest (a.put o.dst v') w'):wpList P ops Q (o::rest) a w:=
 wpList_plain hgd fun _ hK=>Zbg w s x t ho base e i z size bytes ht hi hz hsize hby hzs hsz v n xs hs hown y m news hx hr h1 h63 hbytes hbase fun v' w' h2 h3 h4=>hK _ _ (h v' w' h2 h3 h4)
theorem ZeH {ops:Array Oper}{o:Oper}{a:Act}{K:Act→World→Prop}{Q:Exit→Act→World→Prop}{E:Prop}(hgd:o.guard=none)(s x:Operand)(t:TypeId)
  (ho:o.op= .call {callee:=.builtin .append,args:=#[s,x],argTypes:=#[t,t]})
  (base:Nat) (e:TypeId) (i:TypeInfo) (z:Value) (size bytes:Nat) (ht:P.underlying t=some (.slice e)) (hi:P.info? e=some i) (hz:i.zero=some z)
  (hsize:i.size=size) (hby:i.bytes=bytes) (hzs:z.cells.size=size) (hsz:0<size)
  (v:Value) (n:Nat) (xs:List Value) (hs:a.eval s=v) (hown:w.ownsRow base e size v n xs)
  (y:Value) (m:Nat) (news:List Value) (hx:a.eval x=y) (hr:RdN w size y m news) (h1:∀u∈news,u.oneCell'=true)
  (h63:n+m≤maxLen) (hbytes:(n+m)*bytes≤140737488355328) (hbase:base≤w.heap.size)
  (h:∀v' w',w'.ownsRow base e size v' (n+m) (xs++news)→w.grownBy w' v.ownBlock→(v'.ownBlock=v.ownBlock∨v'.ownBlock=some w.heap.size)→K (a.put o.dst v') w'):
  if Region.wanted o (yielded ops a.tmps)=true then Oper.wp P o a w K Q else E:=by
 have hw:Region.wanted o (yielded ops a.tmps)=true:=by simp[Region.wanted,hgd]
 rw[if_pos hw]
 exact Zbg w s x t ho base e i z size bytes ht hi hz hsize hby hzs hsz v n xs hs hown y m news hx hr h1 h63 hbytes hbase h
end
theorem Za8 {w w':World}{base:Nat}{e:TypeId}{size:Nat}{v:Value}{n:Nat}{xs:List Value}(h:w.ownsRow base e size v n xs)(hE:Ext w w'):w'.ownsRow base e size v n xs:=by
 refine⟨h.1,?_⟩
 rcases h.2 with h2|⟨g,cap,cur,hv,hg,hh,r⟩
 ·exact .inl h2
 ·exact .inr ⟨g,cap,cur,hv,hg,by rw[hE.block g (lt_of_block hh)];exact hh,r⟩
theorem ZdL {w:World}{base base':Nat}{e:TypeId}{size:Nat}{v:Value}{n:Nat}{xs:List Value}(h:w.ownsRow base e size v n xs)(hb:base'≤base):w.ownsRow base' e size v n xs:=by
 refine⟨h.1,?_⟩
 rcases h.2 with h2|⟨g,cap,cur,hv,hg,r⟩
 ·exact .inl h2
 ·exact .inr ⟨g,cap,cur,hv,Nat.le_trans hb hg,r⟩
theorem own_lit (w:World)(base:Nat)(e:TypeId)(cs:Array Value)(hb:base≤w.heap.size)(hm:cs.size≤maxLen):
  (w.alloc (.cells cs e)).ownsRow base e 1 (.slice (some ⟨w.heap.size,0,none⟩) cs.size cs.size) cs.size cs.toList:=
 ⟨by simp,.inr ⟨_,_,cs,rfl,hb,heap_alloc_new w _,Nat.le_refl _,hm,by simp,by rw[List.take_of_length_le (by simp)]⟩⟩
theorem RdN.one_ (w:World)(e:TypeId)(u:Value):RdN (w.alloc (.cells #[u] e)) 1 (.slice (some ⟨w.heap.size,0,none⟩) 1 1) 1 [u]:=by
 have:=RdN.of_own (own_lit w w.heap.size e #[u] (Nat.le_refl _) (by simp[maxLen]))
 simpa using this
theorem ZfN {w:World}{B:Nat}(hB:w.heap.size=B)(base:Nat)(e:TypeId)(size:Nat)(hb:base≤B):
  (w.alloc (.cells #[] e)).ownsRow base e size (.slice (some ⟨B,0,none⟩) 0 0) 0 []:=by
 subst hB;exact⟨by simp,.inr ⟨_,_,#[],rfl,hb,heap_alloc_new w _,Nat.le_refl _,Nat.zero_le _,by simp,by simp⟩⟩
theorem RdN.oneB {w:World}{B:Nat}(hB:w.heap.size=B)(e:TypeId)(u:Value):RdN (w.alloc (.cells #[u] e)) 1 (.slice (some ⟨B,0,none⟩) 1 1) 1 [u]:=by
 subst hB;simpa using RdN.of_own (own_lit w w.heap.size e #[u] (Nat.le_refl _) (by simp[maxLen]))
theorem Zau {w:World}{base:Nat}{e:TypeId}{size:Nat}{v:Value}{n:Nat}{xs:List Value}(h:w.ownsRow base e size v n xs):∃A c,v= .slice A n c:=by
 rcases h.2 with⟨rfl,rfl⟩|⟨g,cap,cur,rfl,_⟩
 ·exact⟨_,_,rfl⟩
 ·exact⟨_,_,rfl⟩
theorem Zfa {w:World}{base:Nat}{e:TypeId}{size n m c:Nat}{A:Option Addr}{xs:List Value}(h:w.ownsRow base e size (.slice A m c) n xs):m=n:=by
 rcases h.2 with⟨h',rfl⟩|⟨_,_,_,h',_⟩
 ·simp only[Value.slice.injEq] at h'
  exact h'.2.1
 ·simp only[Value.slice.injEq] at h'
  exact h'.2.1
theorem Zl5 {w:World}{base:Nat}{e:TypeId}{size n m c:Nat}{A:Option Addr}{xs:List Value}(h:w.ownsRow base e size (.slice A m c) n xs)(hn:0<n):∃g,A=some ⟨g,0,none⟩∧base≤g∧m=n:=by
 obtain⟨g,cap,hv,hb,_⟩:=h.form hn
 simp only[Value.slice.injEq] at hv
 exact⟨g,hv.1,hb,hv.2.1⟩
def Qt (w w':World):Prop:=∃d,w'=w.drewN d
theorem Qt.refl (w:World):Qt w w:=⟨0,rfl⟩
theorem Qt.drewN {w w':World}(h:Qt w w')(n:Nat):Qt w (w'.drewN n):=by
 obtain⟨d,rfl⟩:=h
 exact⟨d+n,by simp⟩
theorem Qt.trans {a b c:World}(h:Qt a b)(k:Qt b c):Qt a c:=by
 obtain⟨d,rfl⟩:=k
 exact h.drewN d
theorem Qt.ext {w w':World}(h:Qt w w'):Ext w w':=by
 obtain⟨d,rfl⟩:=h
 exact(Ext.refl w).drewN d
theorem Qt.calls {P:Program}{f:FuncId}{args:Array Value}{w:World}{n:Nat}{v u:Value}(hv:v=u)
  (h:Calls P f args (w.drewN n) fun e w'=>e= .returned v∧Qt (w.drewN n) w'):Calls P f args (w.drewN n) fun e w''=>e= .returned u∧∃m,w''=w.drewN m:=
 h.mono fun _ _ ⟨he,m,hm⟩=>⟨by rw[he,hv],n+m,by rw[hm,World.drewN_drewN]⟩
structure Mod (S:Nat→Prop)(w w':World):Prop where
 os:w'.os=w.os
 tape:w'.tape=w.tape
 output:w'.output=w.output
 size:w.heap.size≤w'.heap.size
 block:∀k,k<w.heap.size→¬S k→w'.heap[k]?=w.heap[k]?
theorem Mod.refl (S:Nat→Prop)(w:World):Mod S w w:=⟨rfl,rfl,rfl,Nat.le_refl _,fun _ _ _=>rfl⟩
theorem Mod.of_ext {S:Nat→Prop}{w w':World}(h:Ext w w'):Mod S w w':=⟨h.os,h.tape,h.output,h.size,fun k hk _=>h.block k hk⟩
theorem Mod.trans {S:Nat→Prop}{a b c:World}(h:Mod S a b)(k:Mod S b c):Mod S a c:=
 ⟨k.os.trans h.os,k.tape.trans h.tape,k.output.trans h.output,Nat.le_trans h.size k.size,fun i hi hn=>(k.block i (Nat.lt_of_lt_of_le hi h.size) hn).trans (h.block i hi hn)⟩
theorem Mod.mono {S T:Nat→Prop}{a b:World}(h:Mod S a b)(hT:∀k,k<a.heap.size→S k→T k):Mod T a b:=
 ⟨h.os,h.tape,h.output,h.size,fun k hk hn=>h.block k hk fun hs=>hn (hT k hk hs)⟩
theorem Mod.alloc {S:Nat→Prop}{a w:World}(h:Mod S a w)(o:Obj):Mod S a (w.alloc o):=h.trans (.of_ext ((Ext.refl w).alloc o))
theorem Mod.drewN {S:Nat→Prop}{a w:World}(h:Mod S a w)(n:Nat):Mod S a (w.drewN n):=h.trans (.of_ext ((Ext.refl w).drewN n))
theorem Mod.drew {S:Nat→Prop}{a w:World}(h:Mod S a w):Mod S a w.drew:=h.trans (.of_ext (Ext.refl w).drew)
theorem Mod.ext {S:Nat→Prop}{a b c:World}(h:Mod S a b)(k:Ext b c):Mod S a c:=h.trans (.of_ext k)
theorem Mod.set_ {S:Nat→Prop}{a w:World}(h:Mod S a w){p:Addr}(hp:a.heap.size≤p.block∨S p.block)(u:Value):Mod S a (w.setCell p u):=
 ⟨h.os,h.tape,h.output,by simpa [World.setCell] using h.size,fun k hk hn=>(Below.heap_setCell w p u k (by
  rintro rfl
  rcases hp with hp|hp
  ·omega
  ·exact hn hp)).trans (h.block k hk hn)⟩
theorem Mod.set1 {g o:Nat}{a w:World}(h:Mod (fun k=>k=g) a w)(u:Value):Mod (fun k=>k=g) a (w.setCell ⟨g,o,none⟩ u):=Mod.set_ h (.inr rfl) u
theorem Mod.grown {S:Nat→Prop}{a w w':World}{row:Option Nat}(h:Mod S a w)(hg:w.grownBy w' row)(hr:∀k,row=some k→a.heap.size≤k∨S k):Mod S a w':=
 ⟨hg.os.trans h.os,hg.tape.trans h.tape,hg.output.trans h.output,Nat.le_trans h.size hg.size,fun k hk hn=>(hg.block k (Nat.lt_of_lt_of_le hk h.size) (fun e=>by
  rcases hr k e.symm with h1|h1
  ·omega
  ·exact hn h1)).trans (h.block k hk hn)⟩
theorem Mod.below {S:Nat→Prop}{a b:World}(h:Mod S a b){B:Nat}(hB:B≤a.heap.size)(hS:∀k,k<B→¬S k):Below B a b:=
 ⟨h.os,h.tape,h.output,h.size,fun k hk=>h.block k (by omega) (hS k hk)⟩
theorem Mod.toExt {S:Nat→Prop}{w a b:World}(h:Ext w a)(hm:Mod S a b)(hS:∀k,k<w.heap.size→¬S k):Ext w b:=h.trans (a:=w) (b:=a) (c:=a) (Ext.refl a)|>fun h=>Below.trans h (hm.below h.size hS)
theorem Mod.cell {S:Nat→Prop}{a b:World}(h:Mod S a b):∀k o,k<a.heap.size→¬S k→b.cell? ⟨k,o,none⟩=a.cell? ⟨k,o,none⟩:=fun k _ hk hn=>
 World.cell?_of_block (h.block k hk hn)
def Blk (w:World)(g:Nat)(t:TypeId)(cs:Array Value):Prop:=w.heap[g]?=some (.cells cs t (0,0))
section
variable {w w':World} {g:Nat} {t:TypeId} {cs:Array Value}
theorem Blk.lt (h:Blk w g t cs):g<w.heap.size:=lt_of_block h
theorem Blk.cell (h:Blk w g t cs)(i:Nat):w.cell? ⟨g,i,none⟩=cs[i]?:=cell_of_row w g i cs t (0,0) h
theorem Blk.frozen (h:Blk w g t cs)(i:Nat):w.frozen? ⟨g,i,none⟩=false:=by
 unfold Blk at h
 simp[World.frozen?,h]
theorem Blk.new (w:World)(t:TypeId)(cs:Array Value):Blk (w.alloc (.cells cs t)) w.heap.size t cs:=heap_alloc_new w _
theorem Blk.at_ {w:World}{B:Nat}(t:TypeId)(cs:Array Value)(hB:w.heap.size=B):Blk (w.alloc (.cells cs t)) B t cs:=by
 subst hB;exact heap_alloc_new w _
theorem Blk.ext (h:Blk w g t cs)(hE:Ext w w'):Blk w' g t cs:=(hE.block g h.lt).trans h
theorem Blk.mod {S:Nat→Prop}(h:Blk w g t cs)(hM:Mod S w w')(hn:¬S g):Blk w' g t cs:=(hM.block g h.lt hn).trans h
theorem Blk.alloc (h:Blk w g t cs)(o:Obj):Blk (w.alloc o) g t cs:=h.ext ((Ext.refl w).alloc o)
theorem Blk.drewN (h:Blk w g t cs)(n:Nat):Blk (w.drewN n) g t cs:=h
theorem Blk.set_ (h:Blk w g t cs)(i:Nat)(u:Value):Blk (w.setCell ⟨g,i,none⟩ u) g t (cs.setIfInBounds i u):=by
 unfold Blk at h⊢
 simp[World.setCell,Array.getElem?_modify,h]
theorem Blk.far (h:Blk w g t cs){p:Addr}(hp:g≠p.block)(u:Value):Blk (w.setCell p u) g t cs:=(Below.heap_setCell w p u g hp).trans h
theorem Blk.grown {row:Option Nat}(h:Blk w g t cs)(hb:w.grownBy w' row)(hg:some g≠row):Blk w' g t cs:=(hb.block g h.lt hg).trans h
theorem Blk.cell0 {u:Value}(h:Blk w g t #[u]):w.cell? ⟨g,0,none⟩=some u:=by simpa using h.cell 0
theorem Blk.two {u v:Value}(h:Blk w g t #[u,v]):w.cell? ⟨g,0,none⟩=some u∧w.cell? ⟨g,1,none⟩=some v∧w.frozen? ⟨g,0,none⟩=false∧w.frozen? ⟨g,1,none⟩=false:=
 ⟨by simpa using h.cell 0,by simpa using h.cell 1,h.frozen 0,h.frozen 1⟩
theorem Blk.put2 {u v:Value}(h:Blk w g t #[u,v])(x y:Value):Blk ((w.setCell ⟨g,0,none⟩ x).setCell ⟨g,1,none⟩ y) g t #[x,y]:=by
 simpa using(h.set_ 0 x).set_ 1 y
theorem Zal {base:Nat}{e:TypeId}{size n:Nat}{v:Value}{xs:List Value}(h:w.ownsRow base e size v n xs)(hg:Blk w g t cs)(hne:e≠t):v.ownBlock≠some g:=by
 rcases h.2 with⟨rfl,_⟩|⟨g',cap,cur,rfl,_,hh,_⟩
 ·simp[Value.ownBlock]
 ·intro he
  have:g'=g:=by simpa [Value.ownBlock] using he
  subst this
  unfold Blk at hg
  rw[hg] at hh
  simp at hh
  exact hne hh.2.symm
end
theorem ZeO {w:World}{b b':Nat}{e e':TypeId}{s s' n n':Nat}{v v':Value}{xs xs':List Value}(h:w.ownsRow b e s v n xs)(h':w.ownsRow b' e' s' v' n' xs')(hne:e≠e'):v.ownBlock=none∨v.ownBlock≠v'.ownBlock:=by
 rcases h.2 with⟨rfl,_⟩|⟨g,cap,cur,rfl,_,hh,_⟩
 ·exact .inl rfl
 ·right
  intro he
  exact Zal (e:=e') h' (g:=g) (t:=e) (cs:=cur) hh (Ne.symm hne) he.symm
theorem own_mod {S:Nat→Prop}{w w':World}{base:Nat}{e:TypeId}{size:Nat}{v:Value}{n:Nat}{xs:List Value}(h:w.ownsRow base e size v n xs)(hM:Mod S w w')(hn:∀k,v.ownBlock=some k→¬S k):w'.ownsRow base e size v n xs:=by
 refine⟨h.1,?_⟩
 rcases h.2 with h2|⟨g,cap,cur,hv,hg,hh,r⟩
 ·exact .inl h2
 ·refine .inr ⟨g,cap,cur,hv,hg,?_,r⟩
  rw[hM.block g (lt_of_block hh) (hn g (by rw[hv];rfl))];exact hh
theorem RdN.mod {S:Nat→Prop}{w w':World}{size n:Nat}{v:Value}{xs:List Value}(h:RdN w size v n xs)(hM:Mod S w w')(hn:∀k,v.ownBlock=some k→¬S k):RdN w' size v n xs:=by
 obtain⟨hl,A,c,hv,hnc,hm,hA⟩:=h
 refine⟨hl,A,c,hv,hnc,hm,?_⟩
 rcases hA with hA|⟨b,off,hA,hc⟩
 ·exact .inl hA
 ·refine .inr ⟨b,off,hA,fun j u hu=>?_⟩
  have hc':=hc j u hu
  rw[hM.cell b _ (World.block_lt_of_cell? w _ hc') (hn b (by rw[hv,hA];rfl))];exact hc'
def Zbz:Value→Nat| .slice _ n _=>n|_=>0
def ZoH (w:World)(size:Nat)(v:Value)(ls:List (Nat×List Value)):Prop:=
 ∃vs:List Value,vs.length=ls.length∧RdN w 1 v ls.length vs∧∀ (j:Nat) x l,vs[j]?=some x→ls[j]?=some l→RdN w size x l.1 l.2
def tot (ls:List (Nat×List Value)):Nat:=(ls.map (·.1)).sum
def cat (ls:List (Nat×List Value)):List Value:=(ls.map (·.2)).flatten
theorem ZhQ {ls:List (Nat×List Value)}{k:Nat}{l:Nat×List Value}(h:ls[k]?=some l):tot (ls.take (k+1))=tot (ls.take k)+l.1:=by
 simp[tot,List.take_add_one,h]
theorem Zl6 {ls:List (Nat×List Value)}{k:Nat}{l:Nat×List Value}(h:ls[k]?=some l):cat (ls.take (k+1))=cat (ls.take k)++l.2:=by
 simp[cat,List.take_add_one,h]
theorem Zd1 (ls:List (Nat×List Value))(k:Nat):tot (ls.take k)≤tot ls:=by
 have h:tot ls=tot (ls.take k)+tot (ls.drop k):=by
  conv=>lhs;rw[←List.take_append_drop k ls]
  simp only[tot,List.map_append,List.sum_append]
 omega
theorem ZoH.ext {w w':World}{size:Nat}{v:Value}{ls:List (Nat×List Value)}(h:ZoH w size v ls)(hE:Ext w w'):ZoH w' size v ls:=by
 obtain⟨vs,h1,h2,h3⟩:=h
 exact⟨vs,h1,h2.ext hE,fun j x l hx hl=>(h3 j x l hx hl).ext hE⟩
theorem ZoH.lit2 {w:World}{size:Nat}{x y:Value}{n m B:Nat}{xs ys:List Value}(t:TypeId)(hB:w.heap.size=B)(hx:RdN w size x n xs)(hy:RdN w size y m ys):
  ZoH (w.alloc (.cells #[x,y] t)) size (.slice (some ⟨B,0,none⟩) 2 2) [(n,xs),(m,ys)]:=by
 subst hB
 refine⟨[x,y],rfl,⟨rfl,_,_,rfl,Nat.le_refl _,by simp[maxLen],.inr ⟨_,_,rfl,fun j u hu=>?_⟩⟩,fun j z l hz hl=>?_⟩
 ·have:=(Blk.new w t #[x,y]).cell (0+j)
  rw[this,Nat.zero_add]
  simpa using hu
 ·match j,hz,hl with
  |0,hz,hl=>simp at hz hl;subst hz hl;exact hx.alloc _
  |1,hz,hl=>simp at hz hl;subst hz hl;exact hy.alloc _
theorem ZfO (a:Nat)(ha:a<9223372036854775808):(BitVec.ofInt 64 (a:Int)).toNat=a:=by
 rw[BitVec.ofInt_natCast,BitVec.toNat_ofNat];exact Nat.mod_eq_of_lt (by omega)
theorem ZiF (a b:Nat)(ha:a<9223372036854775808)(hb:b<9223372036854775808):bits .or .i64 (a:Int) (b:Int)=((a|||b:Nat):Int):=by
 have hx:a|||b<2 ^ 63:=Nat.or_lt_two_pow (by omega) (by omega)
 show IntKind.i64.wrap ((BitVec.ofInt 64 (a:Int)|||BitVec.ofInt 64 (b:Int)).toNat:Int)=_
 rw[BitVec.toNat_or,ZfO a ha,ZfO b hb,IntKind.wrap_i64]
 omega
theorem Zfb (x y:Int)(i:Nat)(hx0:0≤x)(hx1:x<9223372036854775808)(hy0:0≤y)(hy1:y<9223372036854775808)(hx:x.toNat % 2 ^ i=0)(hy:y.toNat<2 ^ i):bits .or .i64 x y=x+y:=by
 obtain⟨a,rfl⟩:=Int.eq_ofNat_of_zero_le hx0
 obtain⟨b,rfl⟩:=Int.eq_ofNat_of_zero_le hy0
 rw[ZiF a b (by omega) (by omega),nat_join i a b (by simpa using hx) (by simpa using hy)]
 simp
theorem ZjS (a b c d:Int)(ba:0≤a∧a≤255)(bb:0≤b∧b≤255)(bc:0≤c∧c≤255)(bd:0≤d∧d≤255):
  bits .or .i64 (bits .or .i64 (bits .or .i64 (a*16777216) (b*65536)) (c*256)) d=a*16777216+b*65536+c*256+d:=by
 rw[Zfb (a*16777216) (b*65536) 24 (by omega) (by omega) (by omega) (by omega) (by omega) (by omega)]
 rw[Zfb _ (c*256) 16 (by omega) (by omega) (by omega) (by omega) (by omega) (by omega)]
 rw[Zfb _ d 8 (by omega) (by omega) (by omega) (by omega) (by omega) (by omega)]
theorem Zfc {k:IntKind}{a b:Int}(h:a=b):Ending.returned (.int k a)= .returned (.int k b):=by rw[h]
structure Rep (D:Type) where
 size:Nat
 pos:0<size
 rel:(Nat→Prop)→World→List Value→D→Prop
 len:∀ {A:Nat→Prop} {w:World} {cs:List Value} {d:D},rel A w cs d→cs.length=size
 one:∀ {A:Nat→Prop} {w:World} {cs:List Value} {d:D},rel A w cs d→∀u∈cs,u.oneCell'=true
 keep:∀ {A B:Nat→Prop} {w w':World} {cs:List Value} {d:D},rel A w cs d→(∀k,k<w.heap.size→A k→B k∧w'.heap[k]?=w.heap[k]?)→rel B w' cs d
def Rep.int (k:IntKind):Rep Int where
 size:=1
 pos:=by decide
 rel:=fun _ _ cs d=>cs=[.int k d]
 len:=fun h=>by rw[h];rfl
 one:=fun h u hu=>by rw[h] at hu;simp at hu;subst hu;rfl
 keep:=fun h _=>h
def Rep.bool:Rep Bool where
 size:=1
 pos:=by decide
 rel:=fun _ _ cs d=>cs=[.bool d]
 len:=fun h=>by rw[h];rfl
 one:=fun h u hu=>by rw[h] at hu;simp at hu;subst hu;rfl
 keep:=fun h _=>h
section
variable {D:Type} {e:Rep D} {A B:Nat→Prop} {S:Nat→Prop} {w w':World} {cs us news:List Value} {d:D} {ds ds2:List D} {v:Value}
theorem Rep.ext (h:e.rel A w cs d)(hE:Ext w w'):e.rel A w' cs d:=e.keep h fun k hk ha=>⟨ha,hE.block k hk⟩
theorem Rep.mod (h:e.rel A w cs d)(hM:Mod S w w')(hS:∀k,k<w.heap.size→A k→¬S k):e.rel A w' cs d:=e.keep h fun k hk ha=>⟨ha,hM.block k hk (hS k hk ha)⟩
theorem Rep.mono (h:e.rel A w cs d)(hS:∀k,k<w.heap.size→A k→B k):e.rel B w cs d:=e.keep h fun k hk ha=>⟨hS k hk ha,rfl⟩
def RdE (e:Rep D)(A:Nat→Prop)(w:World)(us:List Value)(ds:List D):Prop:=
 us.length=ds.length*e.size∧∀ (j:Nat) d,ds[j]?=some d→e.rel A w ((us.drop (j*e.size)).take e.size) d
theorem RdE.keep (h:RdE e A w us ds)(hk:∀k,k<w.heap.size→A k→B k∧w'.heap[k]?=w.heap[k]?):RdE e B w' us ds:=
 ⟨h.1,fun j d hd=>e.keep (h.2 j d hd) hk⟩
theorem RdE.nil (e:Rep D)(A:Nat→Prop)(w:World):RdE e A w [] []:=⟨by simp,fun j d hd=>by simp at hd⟩
theorem RdE.one (h:RdE e A w us ds):∀u∈us,u.oneCell'=true:=by
 intro u hu
 obtain⟨j,hj,rfl⟩:=List.getElem_of_mem hu
 have hp:=e.pos
 have hlen:=h.1
 have hjd:j/ e.size<ds.length:=by
  rw[Nat.div_lt_iff_lt_mul hp];omega
 have hr:=h.2 (j/ e.size) _ (List.getElem?_eq_getElem hjd)
 refine e.one hr _ ?_
 have hm:j % e.size<e.size:=Nat.mod_lt _ hp
 have hj2:j/ e.size*e.size+j % e.size=j:=Nat.div_add_mod' j e.size
 rw[List.mem_iff_getElem?]
 refine⟨j % e.size,?_⟩
 rw[List.getElem?_take,if_pos hm,List.getElem?_drop,hj2,List.getElem?_eq_getElem hj]
theorem RdE.single (h:e.rel A w cs d):RdE e A w cs [d]:=by
 refine⟨by rw[e.len h];simp,fun j x hx=>?_⟩
 match j,hx with
 |0,hx=>
  simp at hx
  subst hx
  have:(cs.drop (0*e.size)).take e.size=cs:=by
   rw[Nat.zero_mul,List.drop_zero,List.take_of_length_le (by rw[e.len h];exact Nat.le_refl _)]
  rw[this];exact h
theorem RdE.append (h:RdE e A w us ds)(h2:RdE e A w news ds2):RdE e A w (us++news) (ds++ds2):=by
 refine⟨by rw[List.length_append,List.length_append,h.1,h2.1,Nat.add_mul],fun j x hx=>?_⟩
 rcases Nat.lt_or_ge j ds.length with hj|hj
 ·rw[List.getElem?_append_left hj] at hx
  have hle:(j+1)*e.size≤us.length:=by rw[h.1];exact Nat.mul_le_mul_right _ hj
  rw[Nat.add_mul,Nat.one_mul] at hle
  rw[List.drop_append_of_le_length (by omega),List.take_append_of_le_length (by rw[List.length_drop];omega)]
  exact h.2 j x hx
 ·rw[List.getElem?_append_right hj] at hx
  have:(us++news).drop (j*e.size)=news.drop ((j - ds.length)*e.size):=by
   have hj2:j*e.size=us.length+(j - ds.length)*e.size:=by
    rw[h.1,←Nat.add_mul];congr 1;omega
   rw[hj2,List.drop_append]
   have:us.length+(j - ds.length)*e.size - us.length=(j - ds.length)*e.size:=by omega
   rw[this,List.drop_eq_nil_of_le (by omega),List.nil_append]
  rw[this]
  exact h2.2 _ x hx
theorem RdE.take (h:RdE e A w us ds)(k:Nat)(hk:k≤ds.length):RdE e A w (us.take (k*e.size)) (ds.take k):=by
 have hle:k*e.size≤us.length:=by rw[h.1];exact Nat.mul_le_mul_right _ hk
 refine⟨by rw[List.length_take,List.length_take,Nat.min_eq_left hle,Nat.min_eq_left hk],fun j x hx=>?_⟩
 rw[List.getElem?_take] at hx
 split at hx
 ·rename_i hj
  have:=h.2 j x hx
  have hle2:(j+1)*e.size≤k*e.size:=Nat.mul_le_mul_right _ hj
  rw[Nat.add_mul,Nat.one_mul] at hle2
  have e1:((us.take (k*e.size)).drop (j*e.size)).take e.size=(us.drop (j*e.size)).take e.size:=by
   rw[List.drop_take,List.take_take,Nat.min_eq_left (by omega)]
  rw[e1];exact this
 ·cases hx
theorem RdE.drop (h:RdE e A w us ds)(k:Nat):RdE e A w (us.drop (k*e.size)) (ds.drop k):=by
 refine⟨by rw[List.length_drop,List.length_drop,h.1,Nat.sub_mul],fun j x hx=>?_⟩
 rw[List.getElem?_drop] at hx
 have:=h.2 _ x hx
 rw[List.drop_drop,←Nat.add_mul]
 exact this
theorem RdE.set (h:RdE e A w us ds){j:Nat}(hj:j<ds.length)(hr:e.rel A w cs d):RdE e A w (us.take (j*e.size)++cs++us.drop ((j+1)*e.size)) (ds.set j d):=by
 have hs:ds.set j d=(ds.take j++ [d])++ds.drop (j+1):=by
  rw[List.set_eq_take_append_cons_drop,if_pos hj];simp
 rw[hs]
 exact((h.take j (by omega)).append (RdE.single hr)).append (h.drop (j+1))
def RdY (e:Rep D)(A:Nat→Prop)(w:World)(v:Value)(ds:List D):Prop:=
 ∃us,RdN w e.size v ds.length us∧RdE e A w us ds
def RdS (e:Rep D)(A:Nat→Prop)(w:World)(v:Value)(ds:List D):Prop:=
 RdY e A w v ds∧(0<ds.length→∀k,v.ownBlock=some k→A k)
theorem RdS.y (h:RdS e A w v ds):RdY e A w v ds:=h.1
theorem RdY.shape (h:RdY e A w v ds):∃Ad c,v= .slice Ad ds.length c∧ds.length≤c∧c≤9223372036854775807:=by
 obtain⟨us,hr,_⟩:=h
 exact hr.shape
theorem RdS.shape (h:RdS e A w v ds):∃Ad c,v= .slice Ad ds.length c∧ds.length≤c∧c≤9223372036854775807:=h.1.shape
theorem RdN.lt_own {size n:Nat}{xs:List Value}(h:RdN w size v n xs)(hn:0<n)(hs:0<size):∀k,v.ownBlock=some k→k<w.heap.size:=by
 obtain⟨b,off,c,rfl,_,_,hc⟩:=h.form hn
 intro k hk
 have:k=b:=by simpa [Value.ownBlock,eq_comm] using hk
 subst this
 have hl:0<xs.length:=by rw[h.1];exact Nat.mul_pos hn hs
 exact World.block_lt_of_cell? w _ (hc 0 _ (List.getElem?_eq_getElem hl))
theorem RdN.keepB {size n:Nat}{xs:List Value}(h:RdN w size v n xs)(hk:∀k,k<w.heap.size→0<n→v.ownBlock=some k→w'.heap[k]?=w.heap[k]?):RdN w' size v n xs:=by
 obtain⟨hl,Ad,c,rfl,hnc,hm,hA⟩:=h
 refine⟨hl,Ad,c,rfl,hnc,hm,?_⟩
 rcases hA with hA|⟨b,off,rfl,hc⟩
 ·exact .inl hA
 ·refine .inr ⟨b,off,rfl,fun j u hu=>?_⟩
  have h1:=hc j u hu
  have hn:0<n:=by
   rcases Nat.eq_zero_or_pos n with rfl|h0
   ·rw[List.getElem?_eq_none (by omega)] at hu;cases hu
   ·exact h0
  rw[World.cell?_of_block (a:=⟨b,off+j,none⟩) (hk b (World.block_lt_of_cell? w _ h1) hn rfl)]
  exact h1
theorem RdS.keep (h:RdS e A w v ds)(hk:∀k,k<w.heap.size→A k→B k∧w'.heap[k]?=w.heap[k]?):RdS e B w' v ds:=by
 obtain⟨⟨us,hr,he⟩,ho⟩:=h
 refine⟨⟨us,hr.keepB fun k hlt hn hb=>(hk k hlt (ho hn k hb)).2,he.keep hk⟩,fun hn k hb=>?_⟩
 exact(hk k (hr.lt_own hn e.pos k hb) (ho hn k hb)).1
theorem RdS.ext (h:RdS e A w v ds)(hE:Ext w w'):RdS e A w' v ds:=h.keep fun k hk ha=>⟨ha,hE.block k hk⟩
theorem RdS.mod (h:RdS e A w v ds)(hM:Mod S w w')(hS:∀k,k<w.heap.size→A k→¬S k):RdS e A w' v ds:=h.keep fun k hk ha=>⟨ha,hM.block k hk (hS k hk ha)⟩
theorem RdS.mono (h:RdS e A w v ds)(hS:∀k,k<w.heap.size→A k→B k):RdS e B w v ds:=h.keep fun k hk ha=>⟨hS k hk ha,rfl⟩
theorem RdS.alloc (h:RdS e A w v ds)(o:Obj):RdS e A (w.alloc o) v ds:=h.ext ((Ext.refl w).alloc o)
theorem RdS.drewN (h:RdS e A w v ds)(n:Nat):RdS e A (w.drewN n) v ds:=h.ext ((Ext.refl w).drewN n)
theorem RdS.below {L:Nat}(h:RdS e A w v ds)(hB:Below L w w')(hS:∀k,k<w.heap.size→A k→k<L):RdS e A w' v ds:=h.keep fun k hk ha=>⟨ha,hB.block k (hS k hk ha)⟩
theorem RdS.lt (h:RdS e A w v ds):RdS e (fun k=>A k∧k<w.heap.size) w v ds:=h.mono fun _ hk ha=>⟨ha,hk⟩
theorem RdY.ext (h:RdY e A w v ds)(hE:Ext w w'):RdY e A w' v ds:=by
 obtain⟨us,hr,he⟩:=h
 exact⟨us,hr.ext hE,he.keep fun k hk ha=>⟨ha,hE.block k hk⟩⟩
theorem RdY.alloc (h:RdY e A w v ds)(o:Obj):RdY e A (w.alloc o) v ds:=h.ext ((Ext.refl w).alloc o)
theorem RdY.lt (h:RdY e A w v ds):RdY e (fun k=>A k∧k<w.heap.size) w v ds:=by
 obtain⟨us,hr,he⟩:=h
 exact⟨us,hr,he.keep fun k hk ha=>⟨⟨ha,hk⟩,rfl⟩⟩
theorem RdY.mono (h:RdY e A w v ds)(hS:∀k,k<w.heap.size→A k→B k):RdY e B w v ds:=by
 obtain⟨us,hr,he⟩:=h
 exact⟨us,hr,he.keep fun k hk ha=>⟨hS k hk ha,rfl⟩⟩
theorem RdS.nil (e:Rep D)(A:Nat→Prop)(w:World):RdS e A w (.slice none 0 0) []:=⟨⟨[],RdN.nil _ _,RdE.nil _ _ _⟩,fun h=>absurd h (by simp)⟩
def Rep.sl (e:Rep D):Rep (List D) where
 size:=1
 pos:=by decide
 rel:=fun A w cs ds=>∃v,cs=[v]∧RdS e A w v ds
 len:=fun⟨v,h,_⟩=>by rw[h];rfl
 one:=fun⟨v,h,h2⟩ u hu=>by
  obtain⟨Ad,c,rfl,_⟩:=h2.shape
  rw[h] at hu;simp at hu;subst hu;rfl
 keep:=fun⟨v,h,h2⟩ hk=>⟨v,h,h2.keep hk⟩
/-! ## ints -/
theorem RdE.ints {k:IntKind}{l:List Int}:RdE (Rep.int k) A w (l.map (Value.int k)) l:=by
 refine⟨by simp[Rep.int],fun j x hx=>?_⟩
 show((l.map (Value.int k)).drop (j*1)).take 1=[.int k x]
 rw[Nat.mul_one,←List.map_drop,←List.map_take,List.take_one,List.head?_drop,hx];rfl
theorem RdE.ints_eq {k:IntKind}{l:List Int}(h:RdE (Rep.int k) A w us l):us=l.map (Value.int k):=by
 apply List.ext_getElem?
 intro j
 have hl:us.length=l.length:=by simpa [Rep.int] using h.1
 rcases Nat.lt_or_ge j l.length with hj|hj
 ·have h2:((us.drop (j*1)).take 1)=[.int k l[j]]:=h.2 j _ (List.getElem?_eq_getElem hj)
  rw[Nat.mul_one,List.take_one,List.head?_drop,List.getElem?_eq_getElem (by omega:j<us.length)] at h2
  simp at h2
  rw[List.getElem?_eq_getElem (by omega),h2,List.getElem?_map,List.getElem?_eq_getElem hj];rfl
 ·rw[List.getElem?_eq_none (by omega),List.getElem?_eq_none (by simp;omega)]
theorem RI.y {k:IntKind}{l:List Int}(h:RI k w v l):RdY (Rep.int k) A w v l:=⟨_,h,RdE.ints⟩
theorem RI.s {k:IntKind}{l:List Int}(h:RI k w v l):RdS (Rep.int k) (fun _=>True) w v l:=⟨h.y,fun _ _ _=>trivial⟩
theorem RdY.ri {k:IntKind}{l:List Int}(h:RdY (Rep.int k) A w v l):RI k w v l:=by
 obtain⟨us,hr,he⟩:=h
 rw[RdE.ints_eq he] at hr
 exact hr
theorem RdS.ri {k:IntKind}{l:List Int}(h:RdS (Rep.int k) A w v l):RI k w v l:=h.1.ri
/-! ## one element, and cuts -/
theorem RdY.cells (h:RdY e A w v ds){j:Nat}(hj:j<ds.length):∃b off c d cs,v= .slice (some ⟨b,off,none⟩) ds.length c∧Hid (ds[j]?=some d)∧Hid (e.rel A w cs d)∧cs.length=e.size∧
  ∀i u,cs[i]?=some u→w.cell? ⟨b,off+j*e.size+i,none⟩=some u:=by
 obtain⟨us,hr,he⟩:=h
 obtain⟨b,off,c,rfl,_,_,hc⟩:=hr.form (by omega)
 refine⟨b,off,c,_,_,rfl,List.getElem?_eq_getElem hj,he.2 j _ (List.getElem?_eq_getElem hj),e.len (he.2 j _ (List.getElem?_eq_getElem hj)),fun i u hu=>?_⟩
 rw[List.getElem?_take] at hu
 split at hu
 ·rw[List.getElem?_drop] at hu
  rw[Nat.add_assoc]
  exact hc _ u hu
 ·cases hu
theorem RdY.at1 {Ad:Option Addr}{n c:Nat}(h:RdY e A w (.slice Ad n c) ds)(hs:e.size=1){j:Nat}(hj:j<n):
  ∃b off u d,Ad=some ⟨b,off,none⟩∧w.cell? ⟨b,off+j,none⟩=some u∧Hid (ds[j]?=some d)∧Hid (e.rel A w [u] d):=by
 obtain⟨Ad',c',hv,_⟩:=h.shape
 simp only[Value.slice.injEq] at hv
 obtain⟨rfl,rfl,rfl⟩:=hv
 obtain⟨b,off,c,d,cs,hv,hd,hr,hl,hc⟩:=h.cells hj
 simp only[Value.slice.injEq] at hv
 rw[hs] at hl hc
 match cs,hl with
 | [u],_=>exact⟨b,off,u,d,hv.1,by simpa using hc 0 u rfl,hd,hr⟩
theorem RdS.to_ {Ad:Option Addr}{n c:Nat}(h:RdS e A w (.slice Ad n c) ds){k:Nat}(hk:k≤n):RdS e A w (.slice Ad k c) (ds.take k):=by
 obtain⟨Ad',c',hv,_⟩:=h.shape
 simp only[Value.slice.injEq] at hv
 obtain⟨rfl,rfl,rfl⟩:=hv
 obtain⟨⟨us,hr,he⟩,ho⟩:=h
 have hl:(ds.take k).length=k:=by rw[List.length_take];omega
 refine⟨⟨us.take (k*e.size),by rw[hl];exact hr.to_ hk,he.take k hk⟩,fun hn b hb=>ho (by omega) b (by cases Ad with|none=>simp[Value.ownBlock] at hb|some a=>exact hb)⟩
theorem RdS.cap {Ad:Option Addr}{n c c':Nat}(h:RdS e A w (.slice Ad n c) ds)(h1:n≤c')(h2:c'≤c):RdS e A w (.slice Ad n c') ds:=by
 obtain⟨⟨us,⟨hl,A',k,hv,hnc,hm,hA⟩,he⟩,ho⟩:=h
 simp only[Value.slice.injEq] at hv
 obtain⟨rfl,rfl,rfl⟩:=hv
 refine⟨⟨us,⟨hl,Ad,c',rfl,h1,by omega,?_⟩,he⟩,fun hn b hb=>ho hn b (by cases Ad with|none=>simp[Value.ownBlock] at hb|some a=>exact hb)⟩
 rcases hA with hA|hA
 ·exact .inl (by omega)
 ·exact .inr hA
theorem RdS.from_ {Ad:Option Addr}{n c:Nat}(h:RdS e A w (.slice Ad n c) ds){k:Nat}(hk:k≤n):
  RdS e A w (.slice (if c=k then Ad else Ad.map (·.add (k*e.size))) (n - k) (c - k)) (ds.drop k):=by
 obtain⟨Ad',c',hv,_⟩:=h.shape
 simp only[Value.slice.injEq] at hv
 obtain⟨rfl,rfl,rfl⟩:=hv
 obtain⟨⟨us,hr,he⟩,ho⟩:=h
 have hl:(ds.drop k).length=ds.length - k:=by rw[List.length_drop]
 refine⟨⟨us.drop (k*e.size),by rw[hl];exact hr.from_ hk,he.drop k⟩,fun hn b hb=>ho (by omega) b ?_⟩
 split at hb
 ·cases Ad
  ·simp[Value.ownBlock] at hb
  ·exact hb
 ·rcases Ad with _|a
  ·simp[Value.ownBlock] at hb
  ·simp only[Option.map_some,Value.ownBlock,Option.some.injEq] at hb⊢
   rw[←hb];unfold Addr.add;split<;>rfl
end
section
variable {D:Type} {e:Rep D} {T:TypeId} {base base':Nat} {A B:Nat→Prop} {S:Nat→Prop} {w w':World} {cs us news:List Value} {d:D} {ds ds2:List D} {v v':Value}
def OwnS (e:Rep D)(T:TypeId)(base:Nat)(B:Nat→Prop)(w:World)(v:Value)(ds:List D):Prop:=
 ∃us,w.ownsRow base T e.size v ds.length us∧RdE e (fun k=>B k∧v.ownBlock≠some k) w us ds
theorem OwnS.shape (h:OwnS e T base B w v ds):∃Ad c,v= .slice Ad ds.length c∧ds.length≤c∧c≤9223372036854775807:=by
 obtain⟨us,ho,_⟩:=h
 exact(RdN.of_own ho).shape
theorem OwnS.row (h:OwnS e T base B w v ds):∀k,v.ownBlock=some k→base≤k∧k<w.heap.size:=by
 obtain⟨us,ho,_⟩:=h
 exact ho.lt
theorem OwnS.rd (h:OwnS e T base B w v ds)(hA:∀k,base≤k→A k)(hB:∀k,B k→A k):RdS e A w v ds:=by
 obtain⟨us,ho,he⟩:=h
 exact⟨⟨us,RdN.of_own ho,he.keep fun k _ hk=>⟨hB k hk.1,rfl⟩⟩,fun _ k hk=>hA k (ho.lt k hk).1⟩
theorem OwnS.rdT (h:OwnS e T base B w v ds):RdS e (fun _=>True) w v ds:=h.rd (fun _ _=>trivial) (fun _ _=>trivial)
theorem OwnS.ext (h:OwnS e T base B w v ds)(hE:Ext w w'):OwnS e T base B w' v ds:=by
 obtain⟨us,ho,he⟩:=h
 exact⟨us,Za8 ho hE,he.keep fun k hk ha=>⟨ha,hE.block k hk⟩⟩
theorem OwnS.y (h:OwnS e T base B w v ds):RdY e (fun k=>B k∧v.ownBlock≠some k) w v ds:=by
 obtain⟨us,ho,he⟩:=h
 exact⟨us,RdN.of_own ho,he⟩
theorem OwnS.addr {Ad:Option Addr}{n c:Nat}(h:OwnS e T base B w (.slice Ad n c) ds)(hn:0<n):∃g,Ad=some ⟨g,0,none⟩∧base≤g∧∀o,w.frozen? ⟨g,o,none⟩=false:=by
 obtain⟨us,ho,_⟩:=h
 have hl:=Zfa ho
 obtain⟨g,h1,h2,h3⟩:=Zl5 ho (by omega)
 subst h1 h3
 exact⟨g,rfl,h2,fun o=>ho.frozenAt o⟩
theorem OwnS.store {g n c i j:Nat}{x:Value}{d':D}(h:OwnS e T base B w (.slice (some ⟨g,0,none⟩) n c) ds)(hj:j<ds.length)(hi:i<e.size)
  (hr:∀cs d,ds[j]?=some d→e.rel (fun k=>B k∧g≠k) w cs d→e.rel (fun k=>B k∧g≠k) w (cs.set i x) d'):
  OwnS e T base B (w.setCell ⟨g,j*e.size+i,none⟩ x) (.slice (some ⟨g,0,none⟩) n c) (ds.set j d'):=by
 obtain⟨us,ho,he⟩:=h
 obtain rfl:=Zfa ho
 have hg:∀k,(Value.slice (some ⟨g,0,none⟩) ds.length c).ownBlock≠some k↔g≠k:=fun k=>by simp[Value.ownBlock]
 refine⟨us.set (j*e.size+i) x,by rw[List.length_set];exact(ho.stored _ x).1,?_⟩
 have key:RdE e (fun k=>B k∧g≠k) w (us.set (j*e.size+i) x) (ds.set j d'):=by
  refine⟨by rw[List.length_set,List.length_set];exact he.1,fun m d hd=>?_⟩
  by_cases hm:j=m
  ·subst hm
   rw[List.getElem?_set_self hj] at hd
   cases hd
   have e1:((us.set (j*e.size+i) x).drop (j*e.size)).take e.size=(((us.drop (j*e.size)).take e.size).set i x):=by
    rw[List.drop_set,if_neg (by omega),Nat.add_sub_cancel_left,List.take_set]
   rw[e1]
   exact hr _ _ (List.getElem?_eq_getElem hj) (e.keep (he.2 j _ (List.getElem?_eq_getElem hj)) fun k _ hk=>⟨⟨hk.1,(hg k).1 hk.2⟩,rfl⟩)
  ·rw[List.getElem?_set_ne hm] at hd
   have e1:((us.set (j*e.size+i) x).drop (m*e.size)).take e.size=(us.drop (m*e.size)).take e.size:=by
    rcases Nat.lt_or_gt_of_ne hm with h1|h1
    ·have:(j+1)*e.size≤m*e.size:=Nat.mul_le_mul_right _ h1
     rw[Nat.add_mul,Nat.one_mul] at this
     rw[List.drop_set,if_pos (by omega)]
    ·have:(m+1)*e.size≤j*e.size:=Nat.mul_le_mul_right _ h1
     rw[Nat.add_mul,Nat.one_mul] at this
     rw[List.drop_set,if_neg (by omega),List.take_set_of_le (by omega)]
   rw[e1]
   exact e.keep (he.2 m d hd) fun k _ hk=>⟨⟨hk.1,(hg k).1 hk.2⟩,rfl⟩
 exact key.keep fun k _ hk=>⟨⟨hk.1,(hg k).2 hk.2⟩,Below.heap_setCell w ⟨g,j*e.size+i,none⟩ x k (Ne.symm hk.2)⟩
theorem OwnS.alloc (h:OwnS e T base B w v ds)(o:Obj):OwnS e T base B (w.alloc o) v ds:=h.ext ((Ext.refl w).alloc o)
theorem OwnS.mod (h:OwnS e T base B w v ds)(hM:Mod S w w')(h1:∀k,v.ownBlock=some k→¬S k)(h2:∀k,k<w.heap.size→B k→¬S k):OwnS e T base B w' v ds:=by
 obtain⟨us,ho,he⟩:=h
 exact⟨us,own_mod ho hM h1,he.keep fun k hk ha=>⟨ha,hM.block k hk (h2 k hk ha.1)⟩⟩
theorem OwnS.lower (h:OwnS e T base B w v ds)(hb:base'≤base):OwnS e T base' B w v ds:=by
 obtain⟨us,ho,he⟩:=h
 exact⟨us,ZdL ho hb,he⟩
theorem OwnS.mono (h:OwnS e T base A w v ds)(hB:∀k,k<w.heap.size→A k→B k):OwnS e T base B w v ds:=by
 obtain⟨us,ho,he⟩:=h
 exact⟨us,ho,he.keep fun k hk ha=>⟨⟨hB k hk ha.1,ha.2⟩,rfl⟩⟩
theorem OwnS.nil (e:Rep D)(T:TypeId)(base:Nat)(B:Nat→Prop)(w:World):OwnS e T base B w (.slice none 0 0) []:=⟨[],World.ownsRow_nil _ _ _ _,RdE.nil _ _ _⟩
theorem OwnS.empty (e:Rep D)(T:TypeId){base n:Nat}(B:Nat→Prop)(hn:w.heap.size=n)(hb:base≤n):OwnS e T base B (w.alloc (.cells #[] T)) (.slice (some ⟨n,0,none⟩) 0 0) []:=
 ⟨[],ZfN hn base T e.size hb,RdE.nil _ _ _⟩
theorem OwnS.emptyB (e:Rep D){n:Nat}(B:Nat→Prop)(h:Blk w n T #[])(hb:base≤n):OwnS e T base B w (.slice (some ⟨n,0,none⟩) 0 0) []:=
 ⟨[],⟨by simp,.inr ⟨_,_,#[],rfl,hb,h,Nat.le_refl _,Nat.zero_le _,by simp,by simp⟩⟩,RdE.nil _ _ _⟩
theorem OwnS.litB {n m:Nat}(h:RdE e A w cs ds)(hb:Blk w n T cs.toArray)(hA:∀k,k<w.heap.size→A k→B k∧k≠n)(hbase:base≤n)(hm:ds.length=m)(hx:m≤1000000):OwnS e T base B w (.slice (some ⟨n,0,none⟩) m m) ds:=by
 subst hm
 refine⟨cs,⟨h.1,.inr ⟨n,ds.length,cs.toArray,rfl,hbase,hb,Nat.le_refl _,by unfold maxLen;omega,by simpa using h.1,?_⟩⟩,h.keep fun k hk ha=>⟨⟨(hA k hk ha).1,fun h=>?_⟩,rfl⟩⟩
 ·rw[List.take_of_length_le (by rw[h.1];exact Nat.le_refl _)]
 ·simp only[Value.ownBlock,Option.some.injEq] at h
  exact(hA k hk ha).2 h.symm
theorem OwnS.of_ints {k:IntKind}{l:List Int}(h:w.ownsRow base T 1 v l.length (l.map (Value.int k))):OwnS (Rep.int k) T base B w v l:=⟨_,h,RdE.ints⟩
theorem OwnS.ints {k:IntKind}{l:List Int}(h:OwnS (Rep.int k) T base B w v l):w.ownsRow base T 1 v l.length (l.map (Value.int k)):=by
 obtain⟨us,ho,he⟩:=h
 rw[RdE.ints_eq he] at ho
 exact ho
theorem OwnS.app {us:List Value}(he:RdE e (fun k=>B k∧v.ownBlock≠some k) w us ds)(h2:RdE e A w news ds2)(hA:∀k,k<w.heap.size→A k→B k∧v.ownBlock≠some k)(ho:w'.ownsRow base T e.size v' (ds.length+ds2.length) (us++news))
  (hg:w.grownBy w' v.ownBlock) (hb:v'.ownBlock=v.ownBlock∨v'.ownBlock=some w.heap.size):OwnS e T base B w' v' (ds++ds2):=by
 refine⟨us++news,by rw[List.length_append];exact ho,?_⟩
 refine RdE.keep (he.append (h2.keep fun k hk ha=>⟨hA k hk ha,rfl⟩)) fun k hk ha=>⟨⟨ha.1,?_⟩,hg.block k hk (Ne.symm ha.2)⟩
 rcases hb with hb|hb
 ·rw[hb];exact ha.2
 ·rw[hb];intro h;cases h;omega
theorem Blk.drew {g:Nat}{cs:Array Value}(h:Blk w g T cs):Blk w.drew g T cs:=h
theorem RdY.singleB (h:e.rel A w cs d){n:Nat}{t:TypeId}(hn:Blk w n t cs.toArray):RdY e A w (.slice (some ⟨n,0,none⟩) 1 1) [d]:=by
 refine⟨cs,?_,RdE.single h⟩
 refine⟨by rw[e.len h];simp,_,_,rfl,Nat.le_refl _,by simp[maxLen],.inr ⟨_,_,rfl,fun j u hu=>?_⟩⟩
 have:=hn.cell (0+j)
 rw[this,Nat.zero_add]
 simpa using hu
theorem Zd2 (hg:w.grownBy w' v.ownBlock):Mod (fun k=>v.ownBlock=some k) w w':=
 ⟨hg.os,hg.tape,hg.output,hg.size,fun k hk hn=>hg.block k hk fun h=>hn h.symm⟩
theorem RdY.single (h:e.rel A w cs d){n:Nat}(hn:w.heap.size=n)(t:TypeId):RdY e A (w.alloc (.cells cs.toArray t)) (.slice (some ⟨n,0,none⟩) 1 1) [d]:=by
 subst hn
 refine⟨cs,?_,RdE.single (Rep.ext h ((Ext.refl w).alloc _))⟩
 refine⟨by rw[e.len h];simp,_,_,rfl,Nat.le_refl _,by simp[maxLen],.inr ⟨_,_,rfl,fun j u hu=>?_⟩⟩
 have:=(Blk.new w t cs.toArray).cell (0+j)
 rw[this,Nat.zero_add]
 simpa using hu
variable {P:Program} {z:Value} {bytes:Nat} {t:TypeId}
theorem Zoj {o:Oper}{a:Act}{K:Act→World→Prop}{Q:Exit→Act→World→Prop}(s x:Operand)
  (ho:o.op= .call {callee:=.builtin .append,args:=#[s,x],argTypes:=#[t,t]})
  (ht:P.underlying t=some (.slice T)) (hi:(P.info? T).map (fun i=>(i.zero,i.size,i.bytes))=some (some z,e.size,bytes)) (hz:z.cells.size=e.size)
  (hown:OwnS e T base B w v ds) (hs:a.eval s=v) {y:Value} (hr:RdY e A w y ds2) (hx:a.eval x=y) (hA:∀k,k<w.heap.size→A k→B k∧v.ownBlock≠some k)
  {N:Nat} (hN:ds.length+ds2.length=N) (h63:N≤maxLen) (hbytes:N*bytes≤140737488355328) (hbase:base≤w.heap.size)
  (h:∀Ad c w',OwnS e T base B w' (.slice Ad N c) (ds++ds2)→Mod (fun k=>v.ownBlock=some k) w w'→Below base w w'→K (a.put o.dst (.slice Ad N c)) w'):o.wp P a w K Q:=by
 subst hN
 obtain⟨us,hus,he⟩:=hown
 obtain⟨news,hn,hne⟩:=hr
 obtain⟨i0,hi0,hz0,hz1,hz2⟩:=info_parts hi
 refine Zbg w s x t ho base T i0 z e.size bytes ht hi0 hz0 hz1 hz2 hz e.pos v ds.length us hs hus y ds2.length news hx hn hne.one h63 hbytes hbase fun v' w' h1 h2 h3=>?_
 obtain⟨Ad,c,rfl⟩:=Zau h1
 exact h Ad c w' (OwnS.app he hne hA h1 h2 h3) (Zd2 h2) ((Below.refl _ _).grown h2 hbase fun k hk=>(hus.lt k hk).1)
theorem wpList_app {ops:Array Oper}{rest:List Oper}{o:Oper}{a:Act}{Q:Exit→Act→World→Prop}(hgd:o.guard=none)(s x:Operand)
  (ho:o.op= .call {callee:=.builtin .append,args:=#[s,x],argTypes:=#[t,t]})
  (ht:P.underlying t=some (.slice T)) (hi:(P.info? T).map (fun i=>(i.zero,i.size,i.bytes))=some (some z,e.size,bytes)) (hz:z.cells.size=e.size)
  (hown:OwnS e T base B w v ds) (hs:a.eval s=v) {y:Value} (hr:RdY e A w y ds2) (hx:a.eval x=y) (hA:∀k,k<w.heap.size→A k→B k∧v.ownBlock≠some k)
  {N:Nat} (hN:ds.length+ds2.length=N) (h63:N≤maxLen) (hbytes:N*bytes≤140737488355328) (hbase:base≤w.heap.size)
  (h:∀Ad c w',OwnS e T base B w' (.slice Ad N c) (ds++ds2)→Mod (fun k=>v.ownBlock=some k) w w'→Below base w w'→wpList P ops Q rest (a.put o.dst (.slice Ad N c)) w'):wpList P ops Q (o::rest) a w:=
 wpList_plain hgd fun _ hK=>Zoj s x ho ht hi hz hown hs hr hx hA hN h63 hbytes hbase fun Ad c w' h1 h2 h3=>hK _ _ (h Ad c w' h1 h2 h3)
theorem ZaX {ops:Array Oper}{o:Oper}{a:Act}{K:Act→World→Prop}{Q:Exit→Act→World→Prop}{E:Prop}(hgd:o.guard=none)(s x:Operand)
  (ho:o.op= .call {callee:=.builtin .append,args:=#[s,x],argTypes:=#[t,t]})
  (ht:P.underlying t=some (.slice T)) (hi:(P.info? T).map (fun i=>(i.zero,i.size,i.bytes))=some (some z,e.size,bytes)) (hz:z.cells.size=e.size)
  (hown:OwnS e T base B w v ds) (hs:a.eval s=v) {y:Value} (hr:RdY e A w y ds2) (hx:a.eval x=y) (hA:∀k,k<w.heap.size→A k→B k∧v.ownBlock≠some k)
  {N:Nat} (hN:ds.length+ds2.length=N) (h63:N≤maxLen) (hbytes:N*bytes≤140737488355328) (hbase:base≤w.heap.size)
  (h:∀Ad c w',OwnS e T base B w' (.slice Ad N c) (ds++ds2)→Mod (fun k=>v.ownBlock=some k) w w'→Below base w w'→K (a.put o.dst (.slice Ad N c)) w'):
  if Region.wanted o (yielded ops a.tmps)=true then Oper.wp P o a w K Q else E:=by
 have hw:Region.wanted o (yielded ops a.tmps)=true:=by simp[Region.wanted,hgd]
 rw[if_pos hw]
 exact Zoj s x ho ht hi hz hown hs hr hx hA hN h63 hbytes hbase h
end
theorem wpList_openG {P:Program}{ops:Array Oper}{Q:Exit→Act→World→Prop}{a:Act}{w:World}{rest:List Oper}{o:Oper}{j:Nat}{b:Bool}(hg:o.guard=some (j,b))(hj:yielded ops a.tmps j=some b)
  (h:wpList P ops Q ({o with guard:=none}::rest) a w):wpList P ops Q (o::rest) a w:=by
 simp only[wpList,Region.wanted,hg,hj,beq_self_eq_true,if_true] at h⊢
 exact h
theorem RI.str {P:Program}{src dst e:TypeId}{w:World}{A:Option Addr}{n c:Nat}{l:List Int}(hs:P.underlying src=some (.slice e))(he:P.underlying e=some (.int .u8))(hd:P.underlying dst=some .string)
  (h:RI .u8 w (.slice A n c) l):(convert src dst (.slice A n c)).run P w= .ok (.string (strOfNums l)) w:=by
 obtain⟨_,A',c',hv,hnc,hm,hA⟩:=h
 simp only[Value.slice.injEq] at hv
 obtain⟨rfl,rfl,rfl⟩:=hv
 rcases hA with rfl|⟨b,off,rfl,hc⟩
 ·obtain rfl:l=[]:=List.eq_nil_of_length_eq_zero (by omega)
  rcases A with _|a
  ·rw[run_convert_bytes_nil w src e hs he _ _ dst hd];rfl
  ·rw[run_convert_bytes_string w src dst e _ _ _ hs he hd,run_bytesToString w a _ _ [] (by simp[loadCells,loadCellsFrom])];rfl
 ·refine run_convert_bytes_arg w src e hs he b off _ _ l rfl (fun i hi=>?_) dst hd
  rw[hc i (.int .u8 (l.getD i 0))]
  rw[List.getElem?_map,List.getElem?_eq_getElem hi,List.getD_eq_getElem?_getD,List.getElem?_eq_getElem hi];rfl
theorem RdS.litB {D:Type}{e:Rep D}{A:Nat→Prop}{w:World}{cs:List Value}{ds:List D}{n m:Nat}{t:TypeId}(h:RdE e A w cs ds)(hb:Blk w n t cs.toArray)(hm:ds.length=m)(hx:m≤1000000):
  RdS e (fun k=>A k∨k=n) w (.slice (some ⟨n,0,none⟩) m m) ds:=by
 subst hm
 refine⟨⟨cs,⟨h.1,_,_,rfl,Nat.le_refl _,by unfold maxLen;omega,.inr ⟨_,_,rfl,fun j u hu=>?_⟩⟩,h.keep fun k _ hk=>⟨.inl hk,rfl⟩⟩,fun _ k hk=>.inr (by simpa [Value.ownBlock,eq_comm] using hk)⟩
 rw[hb.cell (0+j),Nat.zero_add]
 simpa using hu
theorem Zah {B g:Nat}{a w:World}(h:Below B a w)(hp:B≤g)(cs:Array Value):Below B a (w.setRow g cs):=
 h.trans ⟨rfl,rfl,rfl,by simp,fun k hk=>setRow_other w g k cs (by omega)⟩
theorem Blk.setRow {w:World}{g:Nat}{t:TypeId}{cs:Array Value}(h:Blk w g t cs)(cs':Array Value):Blk (w.setRow g cs') g t cs':=setRow_heap w g cs cs' t (0,0) h
theorem wpList_store_A {P:Program}{ops:Array Oper}{rest:List Oper}{o:Oper}{a:Act}{w:World}{Q:Exit→Act→World→Prop}(hgd:o.guard=none)(ty:TypeId)(x y:Operand)(ho:o.op= .store ty x y)
  (g:Nat) (cells:Array Value) (hx:a.eval x= .pointer (some ⟨g,0,none⟩)) (hy:a.eval y= .agg cells)
  (t:TypeId) (old:Array Value) (hg:Blk w g t old) (hi:(P.info? ty).map (·.size)=some cells.size)
  (hold:old.size=cells.size) (h1:cells.all (·.oneCell')=true)
  (h:∀w',Blk w' g t cells→(∀ (B:Nat) (a:World),Below B a w→B≤g→Below B a w')→wpList P ops Q rest (a.put o.dst undef) w'):wpList P ops Q (o::rest) a w:=
 wpList_store_row hgd ty x y ho g cells hx hy t old hg hi hold h1 (h _ (Blk.setRow hg _) fun _ _ hb hB=>Zah hb hB _)
theorem Zac {P:Program}{ops:Array Oper}{S:World→Prop}{op:Oper}{a:Act}(hw:Region.wanted op (yielded ops a.tmps)=true)(ty:TypeId)(x:Operand)(ho:op.op= .load ty x)
  (g:Nat) (hx:a.eval x= .pointer (some ⟨g,0,none⟩)) (t:TypeId) (cs:Array Value) (fr:Nat×Nat) (d:TypeDesc) (hg:∀w,S w→w.heap[g]?=some (.cells cs t fr))
  (hu:P.underlying ty=some d) (hd:(match d with| .struct _| .array _ _=>true|_=>false)=true) (hi:(P.info? ty).map (·.size)=some cs.size):YieldsIf P ops S op (.agg cs) a:=
 .inl ⟨hw,fun w hw'=>by
  unfold execOp
  simp only[ho,hx,Instr.loadAt,Instr.sureAddr,Sem.run_bind,Sem.run_pure,Result.andThen_ok,run_loadVar_row w g t ty cs fr d (hg w hw') hu hd hi]⟩
theorem Zae {P:Program}{ops:Array Oper}{S:World→Prop}{op:Oper}{a:Act}(hw:Region.wanted op (yielded ops a.tmps)=true)(t:TypeId)(parts:Array (Nat×Operand))(ho:op.op= .build t parts){L:Array Value}
  (hf:P.built t (parts.map fun(i,x)=>(i,a.eval x)).toList=some L):YieldsIf P ops S op (.agg L) a:=
 .inl ⟨hw,fun w _=>by
  unfold execOp
  simp only[ho,Sem.run_bind,run_build w t _ L hf,Result.andThen_ok]
  rfl⟩
theorem wpList_build_eq {P:Program}{ops:Array Oper}{rest:List Oper}{o:Oper}{a:Act}{w:World}{Q:Exit→Act→World→Prop}(hg:o.guard=none)(t:TypeId)(parts:Array (Nat×Operand))(ho:o.op= .build t parts){L:Array Value}
  (hf:P.built t (parts.map fun(i,x)=>(i,a.eval x)).toList=some L) (h:wpList P ops Q rest (a.put o.dst (.agg L)) w):wpList P ops Q (o::rest) a w:=by
 refine wpList_build hg t parts ho (by rw[hf];rfl) ?_
 rw[hf]
 exact h
theorem ZcH {P:Program}{o:Oper}{a:Act}{w:World}{K:Act→World→Prop}{Q:Exit→Act→World→Prop}(ty:TypeId)(x y:Operand)(ho:o.op= .store ty x y)
  (g k:Nat) (hx:a.eval x= .pointer (some ⟨g,k,none⟩)) (u:Value) (hy:a.eval y=u) (h1:u.oneCell'=true) (hc:u.cells=#[u])
  (t:TypeId) (old:Array Value) (hg:Blk w g t old) (hk:k<old.size) (hi:(P.info? ty).map (·.size)=some 1)
  (h:∀w',Blk w' g t (old.setIfInBounds k u)→(∀ (g':Nat) (t':TypeId) (c':Array Value),g'≠g→Blk w g' t' c'→Blk w' g' t' c')→(∀ (B:Nat) (a:World),Below B a w→B≤g→Below B a w')→K (a.put o.dst undef) w'):o.wp P a w K Q:=by
 have hrun:(storeVar ty ⟨g,k,none⟩ u).run P w= .ok () (w.setCell ⟨g,k,none⟩ u):=by
  have hst:=run_storeCells_cells (P:=P) g k [u] 0 w (fun j hj=>by
    have:j=0:=by simpa using hj
    subst this
    rw[hg.cell,Array.getElem?_eq_getElem (by omega)]
    rfl) (fun j _=>hg.frozen _) (fun v hv=>by rw[List.mem_singleton.1 hv];exact h1)
  cases hq:P.info? ty with
  |none=>simp[hq] at hi
  |some i=>
   have hs:i.size=1:=by simpa [hq] using hi
   simp only[storeVar,sizeOf,typeInfo,hc]
   simp[hq,hs,hst]
   rfl
 unfold Oper.wp execOp
 simp only[ho,hx,hy,Instr.storeAt,Instr.sureAddr,Sem.run_bind,Sem.run_pure,Result.andThen_ok,hrun]
 exact h _ (hg.set_ k u) (fun g' t' c' hne hb=>hb.far (p:=⟨g,k,none⟩) hne u) (fun B a hB hl=>Below.setCell hB hl u)
theorem Zan {P:Program}{ops:Array Oper}{rest:List Oper}{o:Oper}{a:Act}{w:World}{Q:Exit→Act→World→Prop}(hgd:o.guard=none)(ty:TypeId)(x y:Operand)(ho:o.op= .store ty x y)
  (g k:Nat) (hx:a.eval x= .pointer (some ⟨g,k,none⟩)) (u:Value) (hy:a.eval y=u) (h1:u.oneCell'=true) (hc:u.cells=#[u])
  (t:TypeId) (old:Array Value) (hg:Blk w g t old) (hk:k<old.size) (hi:(P.info? ty).map (·.size)=some 1)
  (h:∀w',Blk w' g t (old.setIfInBounds k u)→(∀ (g':Nat) (t':TypeId) (c':Array Value),g'≠g→Blk w g' t' c'→Blk w' g' t' c')→(∀ (B:Nat) (a:World),Below B a w→B≤g→Below B a w')→wpList P ops Q rest (a.put o.dst undef) w'):wpList P ops Q (o::rest) a w:=
 wpList_plain hgd fun _ hK=>ZcH ty x y ho g k hx u hy h1 hc t old hg hk hi fun w' h1 h2 h3=>hK _ _ (h w' h1 h2 h3)
theorem Zab {P:Program}{fn:Func}{p q:Tmp}{ty:TypeId}(h:fn.results=#[.cell p ty,.tmp q])(tmps:Array Value)(w:World)(g:Nat)(t:TypeId)(cs:Array Value)(fr:Nat×Nat)(d:TypeDesc)
  (hp:tmps.getD p undef= .pointer (some ⟨g,0,none⟩)) (v:Value) (hq:tmps.getD q undef=v) (hg:w.heap[g]?=some (.cells cs t fr))
  (hu:P.underlying ty=some d) (hd:(match d with| .struct _| .array _ _=>true|_=>false)=true) (hi:(P.info? ty).map (·.size)=some cs.size):
  (results fn tmps).run P w= .ok (.tuple #[.agg cs,v]) w:=by
 have hp':tmps[p]?.getD undef= .pointer (some ⟨g,0,none⟩):=by simpa using hp
 have hq':tmps[q]?.getD undef=v:=by simpa using hq
 simp[results,h,hp',hq',asAddr,run_loadVar_row w g t ty cs fr d hg hu hd hi]
theorem Zav {P:Program}{ops:Array Oper}{rest:List Oper}{o:Oper}{a:Act}{w:World}{Q:Exit→Act→World→Prop}(hgd:o.guard=none)(ty:TypeId)(x y:Operand)(ho:o.op= .store ty x y)
  (g:Nat) (cells:Array Value) (hx:a.eval x= .pointer (some ⟨g,0,none⟩)) (hy:a.eval y= .agg cells)
  (t:TypeId) (old:Array Value) (hg:Blk w g t old) (hi:(P.info? ty).map (·.size)=some cells.size)
  (hold:old.size=cells.size) (h1:cells.all (·.oneCell')=true)
  (h:∀w',Blk w' g t cells→(∀ (g':Nat) (t':TypeId) (c':Array Value),g'≠g→Blk w g' t' c'→Blk w' g' t' c')→(∀ (B:Nat) (a:World),Below B a w→B≤g→Below B a w')→wpList P ops Q rest (a.put o.dst undef) w'):wpList P ops Q (o::rest) a w:=
 wpList_store_row hgd ty x y ho g cells hx hy t old hg hi hold h1 (h _ (Blk.setRow hg _) (fun g' t' c' hne hb=>by unfold Blk;rw[setRow_other w g g' cells hne];exact hb) fun _ _ hb hB=>Zah hb hB _)
theorem OwnS.blk {D:Type}{e:Rep D}{T t:TypeId}{base:Nat}{B:Nat→Prop}{w w':World}{v:Value}{ds:List D}{g:Nat}{cs:Array Value}(h:OwnS e T base B w v ds)(M:Mod (fun k=>v.ownBlock=some k) w w')(hb:Blk w g t cs)(hne:T≠t):Blk w' g t cs:=by
 obtain⟨us,ho,_⟩:=h
 exact hb.mod M (Zal ho hb hne)
end Go.Kb
namespace Go.Proofs.YtmmhcllibpmfnaaGreatDoor
open Go.RowKit Go.Kb
def Zg0 {D:Type}(k:Nat)(bs fs:Array Value)(e:Rep D)(f:D→Bool)(w:World):Prop:=
 (∀args w',(callFunc k args).run Tryz.prog w'= .ok (.enter k args) w')∧∀cs d w',Ext w w'→e.rel (fun _=>True) w' cs d→Calls Tryz.prog k (bs.push (.agg cs.toArray)++fs) w' fun e w''=>e= .returned (.bool (f d))∧Ext w' w''
theorem Zg0.ext {D:Type}{k:Nat}{bs fs:Array Value}{e:Rep D}{f:D→Bool}{w w':World}(h:Zg0 k bs fs e f w)(hE:Ext w w'):Zg0 k bs fs e f w':=⟨h.1,fun cs d w2 h2 hr=>h.2 cs d w2 (hE.trans h2) hr⟩
def Zsp {D:Type}(k:Nat)(bs fs:Array Value)(e:Rep D)(f:D→Bool)(w:World):Prop:=
 (∀args w',(callFunc k args).run Tryz.prog w'= .ok (.enter k args) w')∧∀u d w',Ext w w'→e.rel (fun _=>True) w' [u] d→Calls Tryz.prog k (bs.push u++fs) w' fun e w''=>e= .returned (.bool (f d))∧Ext w' w''
theorem Zsp.ext {D:Type}{k:Nat}{bs fs:Array Value}{e:Rep D}{f:D→Bool}{w w':World}(h:Zsp k bs fs e f w)(hE:Ext w w'):Zsp k bs fs e f w':=⟨h.1,fun cs d w2 h2 hr=>h.2 cs d w2 (hE.trans h2) hr⟩
def Zdq {D:Type}(f:D→Bool)(l:List D):Int:=match l.findIdx? f with|some i=>i|none=> -1
theorem ZaD {D:Type}{f:D→Bool}{l:List D}(h:∀p∈l,f p=false):Zdq f l= -1:=by
 unfold Zdq
 rw[List.findIdx?_eq_none_iff.2 h]
theorem ZaZ {D:Type}{f:D→Bool}{l:List D}{m:Nat}{p:D}(hp:l[m]?=some p)(h:∀q∈l.take m,f q=false)(hf:f p=true):Zdq f l=m:=by
 unfold Zdq
 have:l.findIdx? f=some m:=by
  rw[List.findIdx?_eq_some_iff_getElem]
  obtain⟨hlt,rfl⟩:=List.getElem?_eq_some_iff.1 hp
  refine⟨hlt,hf,fun j hj=>?_⟩
  have:=h (l[j]'(by omega)) (by rw[List.mem_take_iff_getElem];exact⟨j,by omega,rfl⟩)
  simp[this]
 rw[this]
def Zcn:Rep Nat where
 size:=1
 pos:=by decide
 rel:=fun _ _ cs d=>cs=[.pointer (some ⟨d,0,none⟩)]
 len:=fun h=>by rw[h];rfl
 one:=fun h u hu=>by
  rw[h] at hu
  simp at hu
  rw[hu];rfl
 keep:=fun h _=>h
structure Ch where
 (lo re oL oP iL ow:Int)
deriving DecidableEq
abbrev chL (c:Ch):List Value:=[.int .u32 c.lo,.int .u32 c.re,.int .u32 c.oL,.int .u32 c.oP,.int .u32 c.iL,.int .u32 4096,.bool false,.bool false,.bool false,.bool false,.int .i64 c.ow,.bool false]
def ChR:Rep Ch where
 size:=12
 pos:=by decide
 rel:=fun _ _ cs d=>cs=chL d
 len:=fun h=>by rw[h];rfl
 one:=fun h u hu=>by
  rw[h] at hu
  simp at hu
  rcases hu with rfl|rfl|rfl|rfl|rfl|rfl|rfl|rfl|rfl|rfl|rfl|rfl<;>rfl
 keep:=fun h _=>h
abbrev ch0:Array Value:=#[.int .u32 0,.int .u32 0,.int .u32 0,.int .u32 0,.int .u32 0,.int .u32 0,.bool false,.bool false,.bool false,.bool false,.int .i64 0,.bool false]
/- slices.Clone at one slice type: slices.Clone[[]parlour/channel.Chan,parlour/channel.Chan] (ch), slice type []channel.Chan, element parlour/channel.Chan, rep ChR -/
theorem Zg1:(Tryz.prog.info? 156).map (fun i=>(i.zero,i.size,i.bytes))=some (some (.agg ch0),(ChR).size,48):=by kernel_rfl
theorem Zl7 {A:Nat→Prop}(v:Value)(ds:List _)(w:World)(h:RdY ChR A w v ds)(hn:ds.length*48≤140737488355328):
  Calls Tryz.prog 47 #[v] w fun e w'=>∃Ad c,e= .returned (.slice Ad ds.length c)∧OwnS ChR 156 w.heap.size (fun k=>A k∧k<w.heap.size) w' (.slice Ad ds.length c) ds∧Ext w w':=by
 obtain⟨us,⟨hl,Ad,c,rfl,hnc,hcm,hA⟩,he⟩:=id h
 have H:=zh h
 have HL:=zh hl
 clear h hl he
 have heq:=fun u=>Lib.run_eql_slice_nil (P:=Tryz.prog) u 70 _ Ad ds.length c 0 0 Tryz.underlying70
 rcases Ad with _|ad
 ·have h0:ds.length=0∧c=0:=by
   rcases hA with rfl|⟨b,off,h0,_⟩
   ·omega
   ·cases h0
  obtain⟨h1,rfl⟩:=h0
  obtain rfl:ds=[]:=List.eq_nil_of_length_eq_zero h1
  clear hA HL h1
  simp only[List.length_nil] at heq⊢
  go_enter Tryz.func47,Tryz.ntmps47
  go_wp2
  go_ret
  exact⟨_,_,rfl,OwnS.nil _ _ _ _ _,zX⟩
 ·clear hA
  go_enter Tryz.func47,Tryz.ntmps47
  go_wp2_with((at_builtin;refine wpList_app (e:=ChR) (base:=w.heap.size) (B:=fun k=>A k∧k<w.heap.size) (A:=fun k=>A k∧k<w.heap.size) rfl _ _ rfl Tryz.underlying70 Zg1 rfl (OwnS.empty _ _ _ rfl (Nat.le_refl _)) rfl (RdY.alloc (RdY.lt H.out) _) rfl (fun k _ hk=>⟨hk,fun h=>by have:=hk.2;simp[Value.ownBlock] at h;omega⟩) (N:=ds.length) (by simp) (by simp[maxLen];omega) (by omega) (by simp) ?_;intro A1 c1 w1 hown hM hB;simp only[List.nil_append] at hown))
  go_ret
  exact⟨_,_,rfl,hown,zX⟩
theorem Zfd {A:Nat→Prop}(k:Nat)(bs fs:Array Value)(f:Ch→Bool)(v:Value)(l:List Ch)(w:World)(h:RdY ChR A w v l)(hf:Zg0 k bs fs ChR f w):
  Calls Tryz.prog 267 #[v,.func (.func k) bs fs] w fun e w'=>e= .returned (.int .i64 (Zdq f l))∧Ext w w':=by
 obtain⟨Ad,c,rfl,hc1,hc2⟩:=h.shape
 have H:=zh (h.mono (B:=fun _=>True) fun _ _ _=>trivial)
 have HF:=zh hf
 have hi:∀cs:List Value,cs.length=12→(Tryz.prog.info? 156).map (·.size)=some cs.length:=fun cs hcs=>by rw[hcs];kernel_rfl
 have HI:=zh hi
 obtain⟨n,hn⟩:=zm (l.length)
 rw[hn] at H hc1⊢
 have HN:=zh hn
 clear h hf hn hi
 go_enter Tryz.func267,Tryz.ntmps267
 go_wp2
 go_loopw [8] (fun i wr=>∃m:Nat,m≤n∧i= .int .i64 m∧Hid (∀p∈l.take m,f p=false)∧Ext w wr) (fun i _=>n - (intOf i).toNat)
 case atStart=>exact⟨0,Nat.zero_le _,rfl,zh (by simp),zX⟩
 case round=>
  obtain⟨m,hm,rfl,HD,hE⟩:=hrel
  by_cases hlt:m<n
  ·obtain⟨b,off,c2,d,cs,hv,hd,hrel2,hlen,hcell⟩:=(H.out.ext hE).cells (j:=m) (by rw[HN.out];exact hlt)
   simp only[Value.slice.injEq] at hv
   obtain⟨rfl,-,rfl⟩:=hv
   have HCELL:=zh (show wr.rangeAt b (off+m*12) cs from hcell)
   have HLEN:=zh (show cs.length=12 from hlen)
   have HA:=zh (HF.out.2 cs d wr hE hrel2.out)
   have HK:=HF.out.1
   clear hlen hcell
   cases hp:f d
   ·rw[hp] at HA
    have HP:=zh hp
    clear hp
    go_wp2_with(first
     |(refine wpList_load_mid rfl 156 _ rfl b (off+m*12) rfl cs _ HCELL.out Tryz.underlying156 rfl (HI.out _ HLEN.out) ?_)
     |(refine HA.out.mono ?_;rintro e w2 ⟨rfl,E2⟩))
    go_roundw
    case rel=>exact⟨m+1,by omega,by go_num,zh (by
     rw[List.take_add_one,hd.out]
     intro q hq
     rcases List.mem_append.1 hq with h|h
     ·exact HD.out q h
     ·simp at h;rw[h];exact HP.out),zX⟩
    case measure=>simp[intOf];omega
   ·rw[hp] at HA
    have HP:=zh hp
    clear hp
    go_wp2_with(first
     |(refine wpList_load_mid rfl 156 _ rfl b (off+m*12) rfl cs _ HCELL.out Tryz.underlying156 rfl (HI.out _ HLEN.out) ?_)
     |(refine HA.out.mono ?_;rintro e w2 ⟨rfl,E2⟩))
    go_ret
    exact⟨by rw[ZaZ hd.out HD.out HP.out];rfl,zX⟩
  ·go_wp2
   go_ret
   obtain rfl:m=l.length:=by have:=HN.out;omega
   have:=HD.out
   rw[List.take_length] at this
   exact⟨by rw[ZaD this];rfl,zX⟩
theorem ZfP (args:Array Value)(w:World):(callFunc 337 args).run Tryz.prog w= .ok (.enter 337 args) w:=by kernel_rfl
theorem ZjT (n:Nat)(x:Int)(c:Ch)(w:World)(h:Blk w n 33 #[.int .u32 x]):
  Calls Tryz.prog 337 #[.agg (chL c).toArray,.pointer (some ⟨n,0,none⟩)] w fun e w'=>e= .returned (.bool (c.lo==x))∧Ext w w':=by
 have c1:=(h.alloc (.cells (chL c).toArray 156)).cell0
 clear h
 go_enter Tryz.func337,Tryz.ntmps337
 go_wp2
 go_ret
 exact⟨rfl,zX⟩
theorem ZjU {x:Int}{n:Nat}{w:World}(h:Blk w n 33 #[.int .u32 x]):Zg0 337 #[] #[.pointer (some ⟨n,0,none⟩)] ChR (fun c=>c.lo==x) w:=
 ⟨ZfP,fun cs d w' hE hr=>by
  obtain rfl:cs=chL d:=hr
  exact ZjT n x d w' (h.ext hE)⟩
def Zl8 (cs:List Ch)(x:Int):Int:=Zdq (fun c=>c.lo==x) cs
theorem Zfe {A:Nat→Prop}(v:Value)(dd:Bool)(cs:List Ch)(x:Int)(w:World)(h:RdY ChR A w v cs):
  Calls Tryz.prog 300 #[.agg #[v,.int .u32 4096,.bool dd],.int .u32 x] w fun e w'=>e= .returned (.int .i64 (Zl8 cs x))∧Ext w w':=by
 have H:=zh h
 have B:=zh (Blk.at_ (w:=w.alloc (.cells #[v,.int .u32 4096,.bool dd] 72)) (B:=w.heap.size+1) 33 #[.int .u32 x] (by simp))
 have B0:=zh ((Blk.new w 72 #[v,.int .u32 4096,.bool dd]).alloc (.cells #[.int .u32 x] 33))
 have k0:=B0.out.cell 0
 unfold Zl8
 obtain⟨Ad,c,rfl,-,-⟩:=h.shape
 clear h
 go_enter Tryz.func300,Tryz.ntmps300
 go_wp2_with fail
 refine(Zfd _ _ _ _ _ cs _ (H.out.ext zX) (ZjU B.out)).mono ?_
 rintro e w1 ⟨rfl,E1⟩
 go_wp2
 go_ret
 exact⟨rfl,zX⟩
end Go.Proofs.YtmmhcllibpmfnaaGreatDoor
namespace Go.Proofs.YtmmhcllibpmfnaaGreatDoor.Fr
open Go.RowKit Go.Kb
theorem fits_any (n:Int)(w:World):
  Calls Tryz.prog 51 #[.int .i64 n] w fun e w'=>e= .returned (.bool (decide (1≤n∧n≤33792)))∧w=w':=by
 by_cases h:1≤n
 ·go_enter Tryz.func51,Tryz.ntmps51
  go_wp2
  go_ret
  simp[h]
 ·go_enter Tryz.func51,Tryz.ntmps51
  go_wp2
  go_ret
  simp;omega
theorem ZoI {xs ys:List Int}{k:Nat}{x y:Int}(h1:xs[k]?=some x)(h2:ys[k]?=some y)(hne:x≠y):xs≠ys:=by
 rintro rfl
 rw[h1] at h2
 exact hne (Option.some.inj h2)
theorem Zl9 {xs ys:List Int}{k:Nat}(hk:k≤xs.length)(hn:¬k<xs.length)(hl:xs.length=ys.length)(ht:xs.take k=ys.take k):xs=ys:=by
 have:k=xs.length:=by omega
 subst this
 rw[List.take_of_length_le (Nat.le_refl _),List.take_of_length_le (by omega)] at ht
 exact ht
theorem ZoJ (va vb:Value)(xs ys:List Int)(w:World)(ha:RI .u8 w va xs)(hb:RI .u8 w vb ys):
  Calls Tryz.prog 25 #[va,vb] w fun e w'=>e= .returned (.bool (decide (xs=ys)))∧Qt w w':=by
 have ha':=ha
 have hb':=hb
 obtain⟨_,A,c,rfl,hnc,hcm,_⟩:=ha'
 obtain⟨_,A2,c2,rfl,hnc2,hcm2,_⟩:=hb'
 have Ha:=zh ha
 have Hb:=zh hb
 clear ha hb
 unfold maxLen at hcm hcm2
 by_cases hl:xs.length=ys.length
 ·have HL:=zh hl
  have hl2:((xs.length:Int)== (ys.length:Int))=true:=by simp[hl]
  have hl3:((xs.length:Int) != (ys.length:Int))=false:=by simp[hl]
  clear hl
  go_enter Tryz.func25,Tryz.ntmps25
  go_wp2
  clear hl2 hl3
  go_loopw [13] (fun i wr=>∃k:Nat,k≤xs.length∧i= .int .i64 k∧xs.take k=ys.take k∧Qt w wr) (fun i _=>xs.length - (intOf i).toNat)
  case atStart=>exact⟨0,Nat.zero_le _,rfl,by simp,Qt.refl _⟩
  case round=>
   obtain⟨k,hk,rfl,htake,hq⟩:=hrel
   have HT:=zh htake
   have Ha:=zh (Ha.out.ext hq.ext)
   have Hb:=zh (Hb.out.ext hq.ext)
   clear htake
   by_cases hlt:k<xs.length
   ·have hlt2:k<ys.length:=by have:=HL.out;omega
    obtain⟨b,off,x,rfl,hc1,hx⟩:=Ha.out.icell hlt
    obtain⟨b2,off2,y,rfl,hc2,hy⟩:=Hb.out.icell hlt2
    by_cases he:x=y
    ·subst he
     go_wp2
     go_quiet (fail)
     go_wp2
     go_roundw
     case rel=>exact⟨k+1,by omega,by go_num,by rw[Zdp hx.out,Zdp hy.out,HT.out],(by repeat(first|with_reducible exact Qt.refl _|refine Qt.drewN ?_ _|assumption|refine Qt.trans ?_ (by assumption)))⟩
     case measure=>simp[intOf];omega
    ·have he2:(x==y)=false:=by simp[he]
     have he3:(x !=y)=true:=by simp[he]
     go_wp2
     go_quiet (fail)
     go_wp2
     go_ret
     exact⟨by simp[ZoI hx.out hy.out he],(by repeat(first|with_reducible exact Qt.refl _|refine Qt.drewN ?_ _|assumption|refine Qt.trans ?_ (by assumption)))⟩
   ·go_wp2
    go_ret
    exact⟨by simp[Zl9 hk hlt HL.out HT.out],(by repeat(first|with_reducible exact Qt.refl _|refine Qt.drewN ?_ _|assumption|refine Qt.trans ?_ (by assumption)))⟩
 ·have hl2:((xs.length:Int)== (ys.length:Int))=false:=by simp;omega
  have hl3:((xs.length:Int) != (ys.length:Int))=true:=by simp;omega
  have hne:xs≠ys:=fun h=>hl (by rw[h])
  have HN:=zh hne
  clear hne hl
  go_enter Tryz.func25,Tryz.ntmps25
  go_wp2
  go_ret
  exact⟨by simp[HN.out],Qt.refl _⟩
theorem ZjV (va vb:Value)(xs ys:List Int)(w:World)(ha:RI .u8 w va xs)(hb:RI .u8 w vb ys):
  Calls Tryz.prog 25 #[va,vb] w fun e w'=>e= .returned (.bool (decide (xs=ys)))∧Ext w w':=
 (ZoJ va vb xs ys w ha hb).mono fun _ _ ⟨he,hq⟩=>⟨he,hq.ext⟩
def four (n:Int):List Int:=[n/ 16777216,n/ 65536 % 256,n/ 256 % 256,n % 256]
theorem Za5 {w:World}{v:Value}{a b c d:Int}{r:List Int}(h:RI .u8 w v (a::b::c::d::r)):
  ∃B off n cap,v= .slice (some ⟨B,off,none⟩) n cap∧4≤n∧n≤maxLen∧w.cell? ⟨B,off,none⟩=some (.int .u8 a)∧w.cell? ⟨B,off+1,none⟩=some (.int .u8 b)∧w.cell? ⟨B,off+2,none⟩=some (.int .u8 c)∧w.cell? ⟨B,off+3,none⟩=some (.int .u8 d):=by
 obtain⟨B,off,cap,hv,h1,h2,hc⟩:=h.form (by simp)
 exact⟨B,off,_,cap,hv,by simp,by simpa using Nat.le_trans h1 h2,hc 0 _ rfl,hc 1 _ rfl,hc 2 _ rfl,hc 3 _ rfl⟩
theorem ZcI (v:Value)(l:List Int)(w:World)(hl:RI .u8 w v l)(hb:Bs l)(h4:4≤l.length):
  Calls Tryz.prog 54 #[v] w fun e w'=>e= .returned (.int .i64 (hd4 l))∧Ext w w':=by
 obtain⟨a,b,c,d,r,rfl⟩:=Zbq h4
 have h:=hl
 have hB:=hb
 clear hl hb h4
 obtain⟨B,off,n,cap,rfl,h4,hm,c0,c1,c2,c3⟩:=Za5 h
 unfold maxLen at hm
 have ba:=hB a (by simp)
 have bb:=hB b (by simp)
 have bc:=hB c (by simp)
 have bd:=hB d (by simp)
 have i0:(0:Int)<(n:Int):=by omega
 have i1:(1:Int)<(n:Int):=by omega
 have i2:(2:Int)<(n:Int):=by omega
 have i3:(3:Int)<(n:Int):=by omega
 clear h hB
 go_enter Tryz.func54,Tryz.ntmps54
 go_wp2
 go_quiet (fail)
 go_wp2
 go_ret
 exact⟨Zfc (by rw[ZjS a b c d ba bb bc bd];simp[hd4]),zX⟩
/- append at one slice type -/
theorem Zff:(Tryz.prog.info? 5).map (fun i=>(i.zero,i.size,i.bytes))=some (some (.int .u8 0),1,1):=by kernel_rfl
theorem ZfQ (w:World){ops:Array Oper}{rest:List Oper}{o:Oper}{a:Act}{Q:Exit→Act→World→Prop}(hgd:o.guard=none)(s x:Operand)
  (ho:o.op= .call {callee:=.builtin .append,args:=#[s,x],argTypes:=#[43,43]})
  (base:Nat) (v:Value) (n:Nat) (xs:List Value) (hs:a.eval s=v) (hown:w.ownsRow base 5 1 v n xs)
  (y:Value) (m:Nat) (news:List Value) (hx:a.eval x=y) (hr:RdN w 1 y m news) (h1:∀u∈news,u.oneCell'=true)
  (hb:n+m≤137438953472) (hbase:base≤w.heap.size)
  (h:∀v' w',w'.ownsRow base 5 1 v' (n+m) (xs++news)→Below base w w'→w.grownBy w' v.ownBlock→(v'.ownBlock=v.ownBlock∨v'.ownBlock=some w.heap.size)→wpList Tryz.prog ops Q rest (a.put o.dst v') w'):wpList Tryz.prog ops Q (o::rest) a w:=by
 obtain⟨i0,hi0,hz0,hz1,hz2⟩:=info_parts Zff
 exact Za1 w hgd s x _ ho base _ i0 _ 1 1 Tryz.underlying43 hi0 hz0 hz1 hz2 rfl (by omega) v n xs hs hown y m news hx hr h1 (by unfold maxLen;omega) (by omega) hbase
  fun v' w' a1 a2 a3=>h v' w' a1 ((Below.refl _ _).grown a2 hbase fun k hk=>(hown.lt k hk).1) a2 a3
theorem Zbr (v:Value)(n:Nat)(xs:List Value)(w:World)(h:RdN w 1 v n xs)(h1:∀u∈xs,u.oneCell'=true)(hn:n≤137438953472):
  Calls Tryz.prog 55 #[v] w fun e w'=>∃v',e= .returned v'∧w'.ownsRow w.heap.size 5 1 v' n xs∧Ext w w':=by
 obtain⟨hl,A,c,rfl,hnc,hcm,hA⟩:=id h
 have HL:=zh hl
 have H:=zh h
 have H1:=zh h1
 clear h h1 hl
 have heq:=fun u=>Lib.run_eql_slice_nil (P:=Tryz.prog) u 43 _ A n c 0 0 Tryz.underlying43
 rcases A with _|ad
 ·have h0:n=0∧c=0:=by
   rcases hA with rfl|⟨b,off,h0,_⟩
   ·omega
   ·cases h0
  obtain⟨rfl,rfl⟩:=h0
  obtain rfl:xs=[]:=List.eq_nil_of_length_eq_zero (by simpa using HL.out)
  go_enter Tryz.func55,Tryz.ntmps55
  go_wp2
  go_ret
  exact⟨_,rfl,World.ownsRow_nil _ _ _ _,zX⟩
 ·clear hA
  go_enter Tryz.func55,Tryz.ntmps55
  go_wp2_with((at_builtin;refine ZfQ _ rfl _ _ rfl w.heap.size _ 0 [] rfl (own_lit w w.heap.size _ #[] (Nat.le_refl _) (Nat.zero_le _)) _ n xs rfl (H.out.alloc _) H1.out (by omega) (by simp) ?_;intro v1 w1 hown hB hg hat))
  go_ret
  exact⟨_,rfl,by simpa using hown,zX⟩
end Go.Proofs.YtmmhcllibpmfnaaGreatDoor.Fr
namespace Go.Kb.Frame
open Go.Kb
def Zd3 (a b c d:Int):Int:=a*16777216+b*65536+c*256+d
def Zco:Nat→List Int→List (List Int)×Option (List Int)
 |f+1,a::b::c::d::t=>
  if 1≤Zd3 a b c d∧Zd3 a b c d≤33792 then
   if(t.length:Int)<Zd3 a b c d then([],some (a::b::c::d::t))
   else(t.take (Zd3 a b c d).toNat::(Zco f (t.drop (Zd3 a b c d).toNat)).1,(Zco f (t.drop (Zd3 a b c d).toNat)).2)
  else([],none)
 |_,r=>([],some r)
def Zbd (r:List Int):List (List Int)×Option (List Int):=Zco r.length r
theorem Zg2:∀ (f g:Nat) (r:List Int),r.length≤f→r.length≤g→Zco f r=Zco g r:=by
 intro f
 induction f with
 |zero=>
  intro g r h _
  have:r=[]:=List.eq_nil_of_length_eq_zero (by omega)
  subst this
  cases g<;>rfl
 |succ f ih=>
  intro g r hf hg
  match r,g with
  | [],g=>cases g<;>rfl
  | [_],g=>cases g<;>rfl
  | [_,_],g=>cases g<;>rfl
  | [_,_,_],g=>cases g<;>rfl
  |a::b::c::d::t,0=>simp at hg
  |a::b::c::d::t,g+1=>
   simp only[List.length_cons] at hf hg
   simp only[Zco]
   rw[ih g (t.drop (Zd3 a b c d).toNat) (by rw[List.length_drop];omega) (by rw[List.length_drop];omega)]
theorem ZcJ {r:List Int}(h:r.length<4):Zbd r=([],some r):=by
 match r,h with
 | [],_=>rfl
 | [_],_=>rfl
 | [_,_],_=>rfl
 | [_,_,_],_=>rfl
 |_::_::_::_::_,h=>simp at h;omega
theorem Zma {a b c d:Int}{t:List Int}(h:¬(1≤Zd3 a b c d∧Zd3 a b c d≤33792)):Zbd (a::b::c::d::t)=([],none):=by
 simp only[Zbd,List.length_cons,Zco]
 rw[if_neg h]
theorem ZjW {a b c d:Int}{t:List Int}(h:1≤Zd3 a b c d∧Zd3 a b c d≤33792)(ht:(t.length:Int)<Zd3 a b c d):Zbd (a::b::c::d::t)=([],some (a::b::c::d::t)):=by
 simp only[Zbd,List.length_cons,Zco]
 rw[if_pos h,if_pos ht]
theorem ZjX {a b c d:Int}{t:List Int}(h:1≤Zd3 a b c d∧Zd3 a b c d≤33792)(ht:¬(t.length:Int)<Zd3 a b c d):
  Zbd (a::b::c::d::t)=(t.take (Zd3 a b c d).toNat::(Zbd (t.drop (Zd3 a b c d).toNat)).1,(Zbd (t.drop (Zd3 a b c d).toNat)).2):=by
 simp only[Zbd,List.length_cons,Zco]
 rw[if_pos h,if_neg ht,Zg2 _ (t.drop (Zd3 a b c d).toNat).length _ (by rw[List.length_drop];omega) (Nat.le_refl _)]
theorem Zd4 {r:List Int}(h4:4≤r.length)(h:¬(1≤hd4 r∧hd4 r≤33792)):Zbd r=([],none):=by
 obtain⟨a,b,c,d,t,rfl⟩:=Zbq h4
 exact Zma h
theorem ZeP {r:List Int}(h4:4≤r.length)(h:1≤hd4 r∧hd4 r≤33792)(ht:(r.length:Int)<4+hd4 r):Zbd r=([],some r):=by
 obtain⟨a,b,c,d,t,rfl⟩:=Zbq h4
 have e:Zd3 a b c d=hd4 (a::b::c::d::t):=rfl
 refine ZjW h ?_
 simp only[List.length_cons] at ht
 omega
theorem ZcK {r:List Int}{n:Nat}(h4:4≤r.length)(h:1≤hd4 r∧hd4 r≤33792)(hn:hd4 r=n)(ht:4+n≤r.length):
  Zbd r=((r.drop 4).take n::(Zbd (r.drop (4+n))).1,(Zbd (r.drop (4+n))).2):=by
 obtain⟨a,b,c,d,t,rfl⟩:=Zbq h4
 have e:Zd3 a b c d=n:=hn
 simp only[List.length_cons] at ht
 have h':1≤Zd3 a b c d∧Zd3 a b c d≤33792:=h
 rw[ZjX h' (by omega),e]
 have e2:(a::b::c::d::t).drop (4+n)=t.drop n:=by rw[Nat.add_comm];rfl
 rw[e2]
 rfl
def ZbC (bad:Bool)(buf:List Int):(List Int×Bool)×List (List Int)×Int:=
 if bad then(([],true),[],9) else
  match(Zbd buf).2 with
  |none=>(([],true),(Zbd buf).1,5)
  |some r=>((r,false),(Zbd buf).1,0)
theorem ZcL {buf:List Int}{l:List (List Int)}(h:Zbd buf=(l,none)):ZbC false buf=(([],true),l,5):=by simp[ZbC,h]
theorem ZbT {buf r:List Int}{l:List (List Int)}(h:Zbd buf=(l,some r)):ZbC false buf=((r,false),l,0):=by simp[ZbC,h]
end Go.Kb.Frame
namespace Go.Proofs.YtmmhcllibpmfnaaGreatDoor.Fr
open Go.RowKit Go.Kb
abbrev ZjQ (w:World)(base:Nat)(v:Value)(l:List Int):Prop:=w.ownsRow base 5 1 v l.length (u8s l)
theorem ZjQ.rd {w:World}{base:Nat}{v:Value}{l:List Int}(h:ZjQ w base v l):RI .u8 w v l:=RdN.of_own h
def ZqO (xs:List Int):List Int×Int:=if 1≤xs.length∧xs.length≤33792 then(four xs.length++xs,0) else([],5)
theorem Zfg {xs:List Int}(h:1≤xs.length∧xs.length≤33792):ZqO xs=(four xs.length++xs,0):=if_pos h
theorem ZoK {xs:List Int}(h:¬(1≤xs.length∧xs.length≤33792)):ZqO xs=([],5):=if_neg h
theorem ZjY (v:Value)(xs:List Int)(w:World)(h:RI .u8 w v xs)(hn:xs.length≤100000000):
  Calls Tryz.prog 23 #[v] w fun e w'=>∃v',e= .returned (.tuple #[v',.int .i64 (ZqO xs).2])∧ZjQ w' w.heap.size v' (ZqO xs).1∧Ext w w':=by
 obtain⟨hl,A,c,rfl,hnc,hcm,hA⟩:=id h
 have H:=zh h
 clear h hl hA
 by_cases h1:1≤xs.length∧xs.length≤33792
 ·have H1:=zh h1
  have hd:decide (1≤(xs.length:Int)∧(xs.length:Int)≤33792)=true:=by simp;omega
  have HD:=zh hd
  obtain⟨h2,h3⟩:=h1
  clear hd
  go_enter Tryz.func23,Tryz.ntmps23
  go_wp2_with(first
   |(go_at_call 51;refine(fits_any _ _).mono ?_;rintro e w1 ⟨rfl,rfl⟩;rw[HD.out])
   |(at_builtin;refine ZfQ _ rfl _ _ rfl w.heap.size _ 4 _ rfl (own_lit w w.heap.size _ _ (Nat.le_refl _) (by simp[maxLen])) _ xs.length _ rfl (H.out.alloc _) (Zbf _ _) (by omega) (by simp) ?_;intro v2 w2 hown2 hB2 hg2 hat2))
  go_ret2
  refine⟨v2,by rw[Zfg H1.out];rfl,?_,zX⟩
  rw[Zfg H1.out]
  have:(four (xs.length:Int)++xs).length=4+xs.length:=by simp[four];omega
  unfold ZjQ
  rw[this]
  have e1:(xs.length:Int)/ 65536 % 256=(xs.length:Int)/ 65536:=by omega
  have e2:(xs.length:Int)/ 256 % 256=(xs.length:Int)/ 256:=by omega
  simpa [four,e1,e2] using hown2
 ·have H1:=zh h1
  have hd:decide (1≤(xs.length:Int)∧(xs.length:Int)≤33792)=false:=by simp;omega
  have HD:=zh hd
  clear h1 hd
  go_enter Tryz.func23,Tryz.ntmps23
  go_wp2_with(go_at_call 51;refine(fits_any _ _).mono ?_;rintro e w1 ⟨rfl,rfl⟩;rw[HD.out])
  go_ret2
  rw[ZoK H1.out]
  exact⟨_,rfl,World.ownsRow_nil _ _ _ _,zX⟩
/-! ## lists of rows of bytes -/
/- append at one slice type -/
theorem ZfR:(Tryz.prog.info? 43).map (fun i=>(i.zero,i.size,i.bytes))=some (some (.slice none 0 0),1,24):=by kernel_rfl
theorem Zmb (w:World){ops:Array Oper}{rest:List Oper}{o:Oper}{a:Act}{Q:Exit→Act→World→Prop}(hgd:o.guard=none)(s x:Operand)
  (ho:o.op= .call {callee:=.builtin .append,args:=#[s,x],argTypes:=#[91,91]})
  (base:Nat) (v:Value) (n:Nat) (xs:List Value) (hs:a.eval s=v) (hown:w.ownsRow base 43 1 v n xs)
  (y:Value) (m:Nat) (news:List Value) (hx:a.eval x=y) (hr:RdN w 1 y m news) (h1:∀u∈news,u.oneCell'=true)
  (hb:n+m≤137438953472) (hbase:base≤w.heap.size)
  (h:∀v' w',w'.ownsRow base 43 1 v' (n+m) (xs++news)→Below base w w'→w.grownBy w' v.ownBlock→(v'.ownBlock=v.ownBlock∨v'.ownBlock=some w.heap.size)→wpList Tryz.prog ops Q rest (a.put o.dst v') w'):wpList Tryz.prog ops Q (o::rest) a w:=by
 obtain⟨i0,hi0,hz0,hz1,hz2⟩:=info_parts ZfR
 exact Za1 w hgd s x _ ho base _ i0 _ 1 24 Tryz.underlying91 hi0 hz0 hz1 hz2 rfl (by omega) v n xs hs hown y m news hx hr h1 (by unfold maxLen;omega) (by omega) hbase
  fun v' w' a1 a2 a3=>h v' w' a1 ((Below.refl _ _).grown a2 hbase fun k hk=>(hown.lt k hk).1) a2 a3
theorem ZjZ (w:World){ops:Array Oper}{o:Oper}{a:Act}{K:Act→World→Prop}{Q:Exit→Act→World→Prop}{E:Prop}(hgd:o.guard=none)(s x:Operand)
  (ho:o.op= .call {callee:=.builtin .append,args:=#[s,x],argTypes:=#[91,91]})
  (base:Nat) (v:Value) (n:Nat) (xs:List Value) (hs:a.eval s=v) (hown:w.ownsRow base 43 1 v n xs)
  (y:Value) (m:Nat) (news:List Value) (hx:a.eval x=y) (hr:RdN w 1 y m news) (h1:∀u∈news,u.oneCell'=true)
  (hb:n+m≤137438953472) (hbase:base≤w.heap.size)
  (h:∀v' w',w'.ownsRow base 43 1 v' (n+m) (xs++news)→Below base w w'→w.grownBy w' v.ownBlock→(v'.ownBlock=v.ownBlock∨v'.ownBlock=some w.heap.size)→K (a.put o.dst v') w'):
  if Region.wanted o (yielded ops a.tmps)=true then Oper.wp Tryz.prog o a w K Q else E:=by
 obtain⟨i0,hi0,hz0,hz1,hz2⟩:=info_parts ZfR
 exact ZeH w hgd s x _ ho base _ i0 _ 1 24 Tryz.underlying91 hi0 hz0 hz1 hz2 rfl (by omega) v n xs hs hown y m news hx hr h1 (by unfold maxLen;omega) (by omega) hbase
  fun v' w' a1 a2 a3=>h v' w' a1 ((Below.refl _ _).grown a2 hbase fun k hk=>(hown.lt k hk).1) a2 a3
def ZqH (w:World)(v:Value)(ls:List (List Int)):Prop:=
 ∃vs:List Value,vs.length=ls.length∧RdN w 1 v ls.length vs∧∀ (j:Nat) x l,vs[j]?=some x→ls[j]?=some l→RI .u8 w x l
theorem ZqH.ext {w w':World}{v:Value}{ls:List (List Int)}(h:ZqH w v ls)(hE:Ext w w'):ZqH w' v ls:=by
 obtain⟨vs,h1,h2,h3⟩:=h
 exact⟨vs,h1,h2.ext hE,fun j x l hx hl=>(h3 j x l hx hl).ext hE⟩
def Zbk (w:World)(base:Nat)(v:Value)(ls:List (List Int))(vs:List Value):Prop:=
 vs.length=ls.length∧w.ownsRow base 43 1 v ls.length vs∧∀ (j:Nat) x l,vs[j]?=some x→ls[j]?=some l→ZjQ w base x l
def Zb3 (w:World)(base:Nat)(v:Value)(ls:List (List Int)):Prop:=∃vs:List Value,Zbk w base v ls vs
theorem Zbk.mod {S:Nat→Prop}{w w':World}{base:Nat}{v:Value}{ls:List (List Int)}{vs:List Value}(h:Zbk w base v ls vs)(hM:Mod S w w')(hS:∀k,base≤k→¬S k):Zbk w' base v ls vs:=by
 obtain⟨h1,h2,h3⟩:=h
 exact⟨h1,own_mod h2 hM fun k hk=>hS k (h2.lt k hk).1,fun j x l hx hl=>own_mod (h3 j x l hx hl) hM fun k hk=>hS k ((h3 j x l hx hl).lt k hk).1⟩
theorem Zbk.lower {w:World}{base base':Nat}{v:Value}{ls:List (List Int)}{vs:List Value}(h:Zbk w base v ls vs)(hb:base'≤base):Zbk w base' v ls vs:=by
 obtain⟨h1,h2,h3⟩:=h
 exact⟨h1,ZdL h2 hb,fun j x l hx hl=>ZdL (h3 j x l hx hl) hb⟩
theorem Zbk.ext {w w':World}{base:Nat}{v:Value}{ls:List (List Int)}{vs:List Value}(h:Zbk w base v ls vs)(hE:Ext w w'):Zbk w' base v ls vs:=by
 obtain⟨h1,h2,h3⟩:=h
 exact⟨h1,Za8 h2 hE,fun j x l hx hl=>Za8 (h3 j x l hx hl) hE⟩
theorem Zbk.lt {w:World}{base:Nat}{v:Value}{ls:List (List Int)}{vs:List Value}(h:Zbk w base v ls vs):∀x∈vs,∀k,x.ownBlock=some k→k<w.heap.size:=by
 intro x hx k hk
 obtain⟨j,hj,rfl⟩:=List.getElem_of_mem hx
 have hl:j<ls.length:=by have:=h.1;omega
 exact((h.2.2 j _ _ (List.getElem?_eq_getElem hj) (List.getElem?_eq_getElem hl)).lt k hk).2
theorem Zbk.one {w:World}{base:Nat}{v:Value}{l:List Int}{vs:List Value}(h:Zbk w base v [l] vs):
  ∃g c A c',v= .slice (some ⟨g,0,none⟩) 1 c∧g<w.heap.size∧w.cell? ⟨g,0,none⟩=some (.slice A l.length c')∧RI .u8 w (.slice A l.length c') l:=by
 obtain⟨h1,h2,h3⟩:=h
 match vs,h1 with
 | [x],_=>
  obtain⟨g,c,rfl,_,hlt⟩:=h2.form (by simp)
  have hx:=h3 0 x l rfl rfl
  obtain⟨A,c',rfl⟩:=Zau hx
  exact⟨g,c,A,c',rfl,hlt,by rw[h2.cellAt 0 (by simp)];rfl,hx.rd⟩
theorem Zbk.nil (w:World)(base:Nat):Zbk w base (.slice none 0 0) [] []:=⟨rfl,World.ownsRow_nil _ _ _ _,fun j x l hx=>by simp at hx⟩
theorem Zb3.rd {w:World}{base:Nat}{v:Value}{ls:List (List Int)}(h:Zb3 w base v ls):ZqH w v ls:=by
 obtain⟨vs,h1,h2,h3⟩:=h
 exact⟨vs,h1,RdN.of_own h2,fun j x l hx hl=>(h3 j x l hx hl).rd⟩
theorem Zb3.ext {w w':World}{base:Nat}{v:Value}{ls:List (List Int)}(h:Zb3 w base v ls)(hE:Ext w w'):Zb3 w' base v ls:=by
 obtain⟨vs,h1,h2,h3⟩:=h
 exact⟨vs,h1,Za8 h2 hE,fun j x l hx hl=>Za8 (h3 j x l hx hl) hE⟩
theorem Zb3.nil (w:World)(base:Nat):Zb3 w base (.slice none 0 0) []:=⟨[],rfl,World.ownsRow_nil _ _ _ _,fun j x l hx=>by simp at hx⟩
end Go.Proofs.YtmmhcllibpmfnaaGreatDoor.Fr
