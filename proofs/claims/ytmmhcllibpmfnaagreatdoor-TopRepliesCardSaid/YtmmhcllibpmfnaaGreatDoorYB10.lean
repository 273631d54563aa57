/- Parts NJ28 UE28 GA28 GB28. No condition. -/
import Derived.Test.YtmmhcllibpmfnaaGreatDoorYB05
import Derived.Test.YtmmhcllibpmfnaaGreatDoorYB06
import Derived.Test.YtmmhcllibpmfnaaGreatDoorYB08
import Derived.Test.YtmmhcllibpmfnaaGreatDoorYB09
import Derived.LoopIn
import Derived.LoopNIn
import Derived.OwnWalkIn
import Derived.RangeFuncBound
import Derived.RangeFuncCalls
import Derived.RangeFuncLeaves
import Derived.RangeFuncNested
import Derived.Shelf.Abstract
import Derived.Shelf.RegionOpen
import Derived.TacticsInMore
import Derived.WalkKit
import Derived.Laws.Shifts
import Derived.Laws.ShiftsVarLaws
set_option maxRecDepth 100000
set_option maxHeartbeats 8000000
namespace Go.Proofs.YtmmhcllibpmfnaaGreatDoor.Md
open Go.RowKit Go.Shelf Go.Kb
attribute [local go_sem] Oper.semAt_some
abbrev OpF:={x:Int// ZaL x=true}
def toS (l:List Int):List OpF:=l.filterMap fun x=>if h:ZaL x=true then some ⟨x,h⟩ else none
theorem Zk5 (a b:List Int):toS (a++b)=toS a++toS b:=by simp[toS]
theorem Zk6 {x:Int}(h:ZaL x=true):toS [x]=[⟨x,h⟩]:=by simp[toS,h]
def upL (o:Int):List Int:=flagsAll.filter fun x=>decide (x<o)
theorem Znx {o:Int}(h:ZaL o=true):toS (upL (o+1))=toS (upL o)++ [⟨o,h⟩]:=by
 have hb:=ZbM h
 have:∀k:Nat,k<64→ZaL (30+k)=true→upL (30+k+1)=upL (30+k)++ [30+(k:Int)]:=by decide+kernel
 have h2:=this (o - 30).toNat (by omega) (by rw[show(30:Int)+((o - 30).toNat:Int)=o by omega];exact h)
 rw[show(30:Int)+((o - 30).toNat:Int)=o by omega] at h2
 rw[h2,Zk5,Zk6 h]
theorem Zp6 {o:Int}(h:ZaL o=true):(toS (upL o)).length<36:=by
 have hb:=ZbM h
 have:∀k:Nat,k<64→ZaL (30+k)=true→(upL (30+k)).length<36:=by decide+kernel
 have h2:=this (o - 30).toNat (by omega) (by rw[show(30:Int)+((o - 30).toNat:Int)=o by omega];exact h)
 rw[show(30:Int)+((o - 30).toNat:Int)=o by omega] at h2
 exact Nat.lt_of_le_of_lt (List.length_filterMap_le _ _) h2
def KpF (W W':World):Prop:=W.heap.size≤W'.heap.size∧∀ (g:Nat) (cs:Array Value) (fr:Nat×Nat),W.heap[g]?=some (.cells cs 444 fr)→W'.heap[g]?=some (.cells cs 444 fr)
theorem KpF.t {A B C:World}(h:KpF A B)(k:KpF B C):KpF A C:=⟨Nat.le_trans h.1 k.1,fun g cs fr hg=>k.2 g cs fr (h.2 g cs fr hg)⟩
theorem KpF.b (W:World)(l:Nat)(o o':Obj)(h:W.heap[l]?=some o)(ho:o.isCells=false):KpF W (W.putObj l o'):=by
 refine⟨by simp[World.putObj],fun g cs fr hg=>?_⟩
 by_cases e:g=l
 ·subst e
  rw[hg] at h
  cases h
  simp[Obj.isCells] at ho
 ·exact(World.putObj_heap_other (by omega)).trans hg
theorem KpF.blk {W W':World}(h:KpF W W'){g:Nat}{cs:Array Value}(hb:Blk W g 444 cs):Blk W' g 444 cs:=h.2 g cs _ hb
def loF (k:Nat):Int:=if k=0 then 30 else if k=1 then 50 else if k=2 then 70 else if k=3 then 90 else 94
def hiF (k:Nat):Int:=if k=0 then 42 else if k=1 then 62 else if k=2 then 75 else 93
theorem ixF (k:Nat)(hk:k<4):(∀w,(Instr.index 445 (.agg #[.int .i64 30,.int .i64 42,.int .i64 50,.int .i64 62,.int .i64 70,.int .i64 75,.int .i64 90,.int .i64 93]) (.int .i64 (k:Int))).run Tryz.prog w= .ok (.agg #[.int .i64 (loF k),.int .i64 (hiF k)]) w)∧(30≤loF k∧loF k≤hiF k∧hiF k≤93∧∀o:Int,loF k≤o→o≤hiF k→ZaL o=true)∧upL (hiF k+1)=upL (loF (k+1)):=by
 rcases k with _|_|_|_|k
 ·exact⟨fun w=>by kernel_rfl,⟨by decide,by decide,by decide,fun o h1 h2=>by simp[loF,hiF] at h1 h2;simp[ZaL];omega⟩,by decide+kernel⟩
 ·exact⟨fun w=>by kernel_rfl,⟨by decide,by decide,by decide,fun o h1 h2=>by simp[loF,hiF] at h1 h2;simp[ZaL];omega⟩,by decide+kernel⟩
 ·exact⟨fun w=>by kernel_rfl,⟨by decide,by decide,by decide,fun o h1 h2=>by simp[loF,hiF] at h1 h2;simp[ZaL];omega⟩,by decide+kernel⟩
 ·exact⟨fun w=>by kernel_rfl,⟨by decide,by decide,by decide,fun o h1 h2=>by simp[loF,hiF] at h1 h2;simp[ZaL];omega⟩,by decide+kernel⟩
 ·omega
theorem Zny (n:Nat)(hn:1≤n)(l:Nat)(J Jx:List OpF→World→Prop)(W:World)(hJ:AbidesFrom W.heap.size J)
 (hY:∀pre x W1,J pre W1→pre.length<36→YieldAt Fence.wide (n - 1) Tryz.prog l #[.int .i64 x.1] W1 fun e W'=>
   (e= .returned (.bool true)∧J (pre++ [x]) W'∧KpF W1 W')∨(e= .returned (.bool false)∧Jx (pre++ [x]) W'))
 (h0:J [] W):
 CallsIn Fence.wide n Tryz.prog 393 #[.func (.yield l) #[] #[]] W fun e W'=>(∃v,e= .returned v)∧((∃xs,xs=toS flagsAll∧J xs W')∨(∃pre,True∧Jx pre W')):=by
 refine callsIn_of_wp Tryz.func393 rfl trivial ?_ rfl
 simp only[Tryz.ntmps393,List.size_toArray,List.length_cons,List.length_nil,Nat.reduceAdd,Nat.reduceSub,Array.replicate_succ,Array.replicate_zero,List.push_toArray,List.append_toArray,List.nil_append,List.cons_append]
 gi_wp2_with (refine⟨trivial,?_⟩;gi_at_call 370;refine(callsIn_wide.2 (Ze2 _)).mono ?_;rintro e w1 ⟨rfl,E1⟩)
 have J1:J (toS (upL 30)) w1:=by
  rw[show upL 30=[] by decide+kernel]
  exact hJ [] W w1 none h0 ⟨E1.os,E1.tape,E1.output,E1.size,fun k hk _=>E1.block k hk⟩ (fun r e=>by cases e)
 have hS1:W.heap.size≤w1.heap.size:=E1.size
 gi_loopw [6] (fun i wr=>∃k:Nat,k≤4∧i= .int .i64 k∧J (toS (upL (loF k))) wr∧W.heap.size≤wr.heap.size) (fun i _=>4 - (intOf i).toNat)
 case atStart=>exact⟨0,by omega,rfl,J1,hS1⟩
 case round=>
  clear J1 hS1
  obtain⟨k,hk,rfl,hJr,hSr⟩:=hrel
  by_cases hlt:k<4
  ·obtain⟨hix,hg1,hg2⟩:=ixF k hlt
   have hk4:(k:Int)<4:=by omega
   have hst:∀w',J (toS (upL (hiF k+1))) w'→J (toS (upL (loF (k+1)))) w':=fun w' h=>by rw[←hg2];exact h
   clear hg2
   generalize hlo:loF k=lo at*
   generalize hhi:hiF k=hi at*
   clear hlo hhi
   obtain⟨g1,g2,g3,g4⟩:=hg1
   gi_wp2
   obtain⟨g,hg⟩:=zm (wr.heap.size)
   rw[hg]
   gi_loopw [4] (fun i wi=>∃o:Int,lo≤o∧o≤hi+1∧i= .int .i64 o∧J (toS (upL o)) wi∧Hid (Blk wi g 444 #[.int .i64 lo,.int .i64 hi])∧W.heap.size≤wi.heap.size) (fun i _=>(100 - intOf i).toNat)
   case atStart=>exact⟨lo,by omega,by omega,rfl,hJ _ _ _ none hJr (World.grownBy_alloc wr _ none) (fun r e=>by cases e),zh (Blk.at_ _ _ hg),by simp;omega⟩
   case round=>
    clear hJr hSr hg
    obtain⟨o,ho1,ho2,rfl,hJi,hBi,hSi⟩:=hrel
    obtain⟨bc0,bc1,bf0,bf1⟩:=hBi.out.two
    by_cases hle:o≤hi
    ·have hfo:=g4 o ho1 hle
     obtain⟨fn,tmps,assign,body,hy,hR⟩:=hY _ ⟨o,hfo⟩ wr hJi (Zp6 hfo)
     dsimp only at hy
     have h3:IntKind.i64.wrap (o+1)=o+1:=IntWalk.i64_in _ (by omega)
     gi_wp2
     refine hR.mono ?_
     rintro e w3 (⟨rfl,hJ3,hk3⟩|⟨rfl,hJx3⟩)
     ·have hB3:=zh (hk3.blk hBi.out)
      gi_wp2
      go_roundw
      case rel=>exact⟨o+1,by omega,by omega,rfl,by rw[Znx hfo];exact hJ3,hB3,Nat.le_trans hSi hk3.1⟩
      case measure=>simp[intOf];omega
     ·gi_wp2
      refine bodyPost_ret (results_none rfl _ _ _) rfl ?_
      exact⟨⟨_,rfl⟩,.inr ⟨_,trivial,hJx3⟩⟩
    ·obtain rfl:o=hi+1:=by omega
     have hJ5:=hst _ hJi
     gi_wp2
     go_roundw
     case rel=>exact⟨k+1,by omega,by simp,hJ5,hSi⟩
     case measure=>simp[intOf];omega
  ·obtain rfl:k=4:=by omega
   gi_wp2
   go_end0
   exact⟨⟨_,rfl⟩,.inl ⟨_,rfl,by rw[show flagsAll=upL (loF 4) by decide+kernel];exact hJr⟩⟩
theorem Zk7 (w:World):Calls Tryz.prog 364 #[] w fun e w'=>e= .returned (.func (.func 393) #[] #[])∧w'=w:=by
 go_enter Tryz.func364,Tryz.ntmps364
 go_wp2
 go_ret
 exact⟨rfl,rfl⟩
attribute [local go_sem] Oper.semAt_some
theorem Zp7 {l:List Int}(h:∀x∈l,ZaL x=true):(toS l).map (·.1)=l:=by
 induction l with
 |nil=>rfl
 |cons x l ih=>
  have hx:=h x (by simp)
  rw[show x::l=[x]++l from rfl,Zk5,Zk6 hx,List.map_append,ih fun y hy=>h y (by simp[hy])]
  rfl
def offS (f:Int)(l:List OpF):Int:=ZqM f (l.map (·.1))
theorem Zk8 (f:Int)(l:List OpF)(x:OpF):offS f (l++ [x])=ZbD (offS f l) x.1 false:=by
 unfold offS
 rw[List.map_append,List.map_cons,List.map_nil,Zgx]
theorem Zk9:∀ (l:List OpF) {f:Int} (_:0≤f∧f<18446744073709551616),0≤offS f l∧offS f l<18446744073709551616
 | [],_,hf=>hf
 |x::l,_,hf=>Zk9 l (ZcT false hf (ZbM x.2))
theorem Znz (t:Tm):offS t.f (toS flagsAll)=(offT 64 t).f:=by
 unfold offS
 rw[Zp7 ZfF,Znv]
theorem Zhs (n:Nat)(hn:1≤n)(w:World):SeqStopsK Fence.wide n Tryz.prog 393 #[] (fun x:OpF=>#[.int .i64 x.1]) KpF (fun xs=>xs=toS flagsAll) (fun _=>True) 36 w:=
 fun l J Jx W _ hJ _ hY h0=>Zny n hn l J Jx W hJ hY h0
theorem Zry {W W':World}(h:Ext W W'):KeepsOthers W W':=⟨h.size,fun _ _ hk _=>(h.block _ (Array.getElem?_eq_some_iff.1 hk).1).trans hk⟩
theorem Zrz {W W':World}(h:Ext W W'):KpF W W':=⟨h.size,fun _ _ _ hg=>(h.block _ (Array.getElem?_eq_some_iff.1 hg).1).trans hg⟩
theorem ZrA {W W':World}(h:KpF W W'){g:Nat}{t:TypeId}{cs:Array Value}(hb:Blk W' g t cs)(ht:t≠444)(i:Nat)(u:Value):KpF W (W'.setCell ⟨g,i,none⟩ u):=by
 refine⟨by simpa [World.setCell] using h.1,fun k ds fr hk=>?_⟩
 have h2:=h.2 k ds fr hk
 refine(Below.heap_setCell W' ⟨g,i,none⟩ u k ?_).trans h2
 rintro rfl
 unfold Blk at hb
 rw[hb] at h2
 simp at h2
 exact ht h2.2.1
theorem ZaA (t:Tm)(w:World)(ht:t.Ok):Calls Tryz.prog 320 #[.agg t.arr] w fun e w'=>e= .returned (.bool (rightL t))∧Ext w w':=by
 have hf:rightL t=decide ((offT 64 t).f=0∧t.c.getD 0 0=0∧0≤t.m∧t.m≤255∧0≤t.t∧t.t≤255):=rfl
 obtain⟨z,hz0⟩:=zm (rightL t);rw[hz0];have HZ:=zh (hz0.symm.trans hf);clear hz0 hf
 have hn:=t.size ht
 have a0:=Tm.at_ ht (k:=0) (by decide)
 have a22:=Tm.at22 ht
 have a23:=Tm.at23 ht
 have a19:=Tm.at19 ht
 have hall:=Znz t
 have hfb:=ht.f
 generalize hcs:t.arr=cs at*
 have c0:=(Blk.new w 39 cs).cell 19
 rw[a19] at c0
 clear hcs
 generalize t.f=f at*
 refine(callsIn_wide (n:=5)).1 ?_
 refine callsIn_of_wp_marks Tryz.func320 rfl trivial ?_ rfl
 simp only[Tryz.ntmps320,List.size_toArray,List.length_cons,List.length_nil,Nat.reduceAdd,Nat.reduceSub,Array.replicate_succ,Array.replicate_zero,List.push_toArray,List.append_toArray,List.nil_append,List.cons_append]
 gi_wp2_with (refine⟨trivial,?_⟩;gi_at_call 364;refine(callsIn_wide.2 (Zk7 _)).mono ?_;rintro e w1 ⟨rfl,rfl⟩)
 obtain⟨W0,hW0⟩:=zm ((w.alloc (.cells cs 39)).alloc (.cells #[.int .u64 f] 37))
 have hs0:W0.heap.size=w.heap.size+2:=by rw[←hW0];simp
 have hE0:Below w.heap.size w W0:=by rw[←hW0];exact zX
 have hT0:Blk W0 w.heap.size 39 cs:=by rw[←hW0];exact(Blk.new w _ cs).alloc _
 have hR0:Blk W0 (w.heap.size+1) 37 #[.int .u64 f]:=by rw[←hW0];exact Blk.at_ _ _ (by simp)
 rw[hW0]
 refine wpIn_rangeFunc_ownF rfl (by omega) (gf:=393) (lb:=#[]) rfl trivial (enters_of Tryz.func393 (by kernel_rfl) rfl)
  (Zhs 4 (by omega) W0) KpF.t (fun W l o o' _ h ho _=>KpF.b W l o o' h ho) (Below.refl _ _) (fun _=>rfl)
  (fun pre W=>(Blk W (w.heap.size+1) 37 #[.int .u64 (offS f pre)]∧Blk W w.heap.size 39 cs)∧Below w.heap.size w W)
  (fun _ _ _=>False)
  (OwnFrom.and (fun s A B row hs hg hr=>⟨hs.1.grown hg (fun e=>by have:=(hr _ e.symm).1;omega),hs.2.grown hg (fun e=>by have:=(hr _ e.symm).1;omega)⟩) (ownFrom_below (Nat.le_refl _) (by omega)))
  (fun _ _ _ _ _ hs _ _=>hs)
  ⟨⟨hR0,hT0⟩,hE0⟩ ?a1 ?assign ?body ?done ?stop
 case assign=>
  intro l x W K hK
  gi_wp2
  exact hK
 case stop=>
  rintro D c pre W hD _ h _
  exact h.elim
 case body=>
  rintro l pre x W ⟨⟨hR,hT⟩,hB⟩ _
  have hfl:=x.2
  have hb:=ZbM hfl
  have hv:bits .andNot .u64 (offS f pre) (pw x.1)=offS f (pre++ [x]):=by rw[Zbn (Zk9 pre hfb) hb,Zk8];rfl
  generalize hF2:offS f (pre++ [x])=f2 at*
  generalize offS f pre=f1 at*
  obtain⟨x,hx⟩:=x
  dsimp only at*
  have hc:=hR.cell0
  have hz:=hR.frozen 0
  have hd:1≤5 - 1 - 1:=by omega
  have hmx:Tryz.prog.follows .mixedOrders=true:=by kernel_rfl
  gi_wp2
  gi_region_with_o (refine⟨trivial,?_⟩;gi_at_call 334;refine(CallsIn.inRound l (callsIn_wide.2 (Zcj x _ hb))).mono ?_;rintro e w1 ⟨rfl,E1⟩;have E1:Ext W w1:=Ext.trans (Ext.drew (Ext.refl W)) E1;have hc1:=Zaa E1 hc;have hz1:=(hR.ext E1).frozen 0)
  all_goals exact⟨(Zry E1).trans (KeepsOthers.setCell _ _ _),ZrA (Zrz E1) (hR.ext E1) (by decide) _ _,⟨by rw[hF2];exact(hR.ext E1).set_ 0 (.int .u64 f2),(hT.ext E1).far (by simp) _⟩,Ext.setNew (Ext.trans hB E1) (by simp) _⟩
 case done=>
  rintro D ys W hD rfl ⟨⟨hR,hT⟩,hB⟩ hK
  rw[hall] at hR
  have c19:=hR.cell0
  have c0':=hT.cell 0
  have c22:=hT.cell 22
  have c23:=hT.cell 23
  rw[a0] at c0'
  rw[a22] at c22
  rw[a23] at c23
  have hEnd:Ext w (W.putObj D (.deferred none)):=hB.trans (belowK_b (w:=w) (Nat.le_refl _) W D _ _ (by omega) hK rfl rfl)
  clear a0 a22 a23 a19 hT hR hT0 hR0 c0 hall hW0
  generalize (offT 64 t).f=g at*
  generalize t.c.getD 0 0=x0 at*
  generalize t.m=m at*
  generalize t.t=tt at*
  by_cases b1:g=0
  ·subst b1
   by_cases b2:x0=0
   ·subst b2
    by_cases b3:0≤m
    ·by_cases b4:m≤255
     ·by_cases b5:0≤tt
      ·by_cases b6:tt≤255
       ·replace HZ:Hid (z=true):=zh (by rw[HZ.out];exact decide_eq_true ⟨rfl,rfl,b3,b4,b5,b6⟩)
        gi_wp2
        refine⟨by simp,.inl ⟨_,_,rfl,run_takeDeferred hK,?_⟩⟩
        exact⟨_,results_tmp rfl _ _ _,by rw[HZ.out];rfl,hEnd⟩
       ·
        replace HZ:Hid (z=false):=zh (by rw[HZ.out];exact decide_eq_false (fun h=>b6 h.2.2.2.2.2))
        gi_wp2
        refine⟨by simp,.inl ⟨_,_,rfl,run_takeDeferred hK,?_⟩⟩
        exact⟨_,results_tmp rfl _ _ _,by rw[HZ.out];rfl,hEnd⟩
      ·
       replace HZ:Hid (z=false):=zh (by rw[HZ.out];exact decide_eq_false (fun h=>b5 h.2.2.2.2.1))
       gi_wp2
       refine⟨by simp,.inl ⟨_,_,rfl,run_takeDeferred hK,?_⟩⟩
       exact⟨_,results_tmp rfl _ _ _,by rw[HZ.out];rfl,hEnd⟩
     ·
      replace HZ:Hid (z=false):=zh (by rw[HZ.out];exact decide_eq_false (fun h=>b4 h.2.2.2.1))
      gi_wp2
      refine⟨by simp,.inl ⟨_,_,rfl,run_takeDeferred hK,?_⟩⟩
      exact⟨_,results_tmp rfl _ _ _,by rw[HZ.out];rfl,hEnd⟩
    ·
     replace HZ:Hid (z=false):=zh (by rw[HZ.out];exact decide_eq_false (fun h=>b3 h.2.2.1))
     gi_wp2
     refine⟨by simp,.inl ⟨_,_,rfl,run_takeDeferred hK,?_⟩⟩
     exact⟨_,results_tmp rfl _ _ _,by rw[HZ.out];rfl,hEnd⟩
   ·have b2':(x0==0)=false:=by simpa using b2
    replace HZ:Hid (z=false):=zh (by rw[HZ.out];exact decide_eq_false (fun h=>b2 h.2.1))
    gi_wp2
    refine⟨by simp,.inl ⟨_,_,rfl,run_takeDeferred hK,?_⟩⟩
    exact⟨_,results_tmp rfl _ _ _,by rw[HZ.out];rfl,hEnd⟩
  ·have b1':(g==0)=false:=by simpa using b1
   replace HZ:Hid (z=false):=zh (by rw[HZ.out];exact decide_eq_false (fun h=>b1 h.1))
   gi_wp2
   refine⟨by simp,.inl ⟨_,_,rfl,run_takeDeferred hK,?_⟩⟩
   exact⟨_,results_tmp rfl _ _ _,by rw[HZ.out];rfl,hEnd⟩
end Go.Proofs.YtmmhcllibpmfnaaGreatDoor.Md
namespace Go.Proofs.YtmmhcllibpmfnaaGreatDoor
open Go.RowKit Go.Kb
theorem KrO.of_mod {S:Nat→Prop}{kb base:Nat}{w w':World}{pv:Value}{p:Tb.Pr}{tt:Option Nat}{z:Sz}(h:KrO kb base w pv p tt z)(M:Mod S w w')(hS:∀k,(∃cs t fr,w.heap[k]?=some (.cells cs t fr)∧t∈[218,234,327,329,276,281,382])→¬S k):KrO kb base w' pv p tt z:=by
 obtain⟨hkb,At,ct,Tt,ctt,As,cs,tb,sb,i,o,r,HB,HP,HT,HTA,HS,HSB,HTT⟩:=h
 have hb:∀ {k t cs},Blk w k t cs→t∈[218,234,327,329,276,281,382]→¬S k:=fun {k t cs} hk ht=>hS k ⟨_,_,_,hk,ht⟩
 have ho:∀ {D:Type} {e:Rep D} {T:TypeId} {v:Value} {l:List D},OwnS e T base (fun _=>False) w v l→T∈[218,234,327,329,276,281,382]→∀k,v.ownBlock=some k→¬S k:=fun {D e T v l} h hT k hk=>by
  obtain⟨_,cs,fr,h3⟩:=h.blkE hk
  exact hS k ⟨_,_,_,h3,hT⟩
 exact⟨hkb,At,ct,Tt,ctt,As,cs,tb,sb,i,o,r,HB.mod M (hb HB (by simp)),HP.mod M (ho HP (by simp)) (fun _ _ hk=>hk.elim),HT.mod M (ho HT (by simp)) (fun _ _ hk=>hk.elim),HTA.mod M (hb HTA (by simp)),HS.mod M (ho HS (by simp)) (fun _ _ hk=>hk.elim),HSB.mod M (hb HSB (by simp)),HTT.mod M (fun k ⟨cs,hk⟩=>hb hk (by simp))⟩
theorem KrO.ext {kb base:Nat}{w w':World}{pv:Value}{p:Tb.Pr}{tt:Option Nat}{z:Sz}(h:KrO kb base w pv p tt z)(E:Ext w w'):KrO kb base w' pv p tt z:=h.of_mod (Mod.of_ext (S:=fun _=>False) E) (fun _ _ h=>h)
abbrev krTys:List TypeId:=[218,234,327,329,276,281,382]
theorem KrO.modT {kb base base2:Nat}{w w':World}{pv:Value}{p:Tb.Pr}{tt:Option Nat}{z:Sz}{tys:List TypeId}(h:KrO kb base w pv p tt z)(M:ZaR tys base2 w w')(hd:∀t∈krTys,t∉tys):KrO kb base w' pv p tt z:=
 h.of_mod M (fun k ⟨cs,t,fr,h1,h2⟩ ⟨_,cs2,t2,fr2,h3,h4⟩=>by
  rw[h1] at h3
  simp at h3
  exact hd t h2 (by rw[h3.2.1];exact h4))
def Ze4 (kb base:Nat)(pv:Value)(prog:Int)(z:Sz)(ty:Bool)(w:World)(e:Ending)(w':World):Prop:=
 e= .returned (.tuple #[.int .i64 1,.int .i64 0])∧(∃tt,(tt.isSome=ty)∧KrO kb base w' pv (newP 1 prog) tt z)∧Mod (fun k=>k=kb) w w'
theorem Zht (kb base:Nat)(Ap:Option Addr)(np cp prog:Nat)(t:Md.Tm)(z:Sz)(w:World)(hkb:base≤kb)(HB:Blk w kb 218 (Zrv (.slice Ap np cp)))(hp:prog<np)(ht:t.Ok)(hr:Md.rightL t=true):
 Calls Tryz.prog 284 #[.pointer (some ⟨kb,0,none⟩),.int .i64 prog,.agg t.arr,.agg (szA z.z1 z.z2 z.z3 z.z4)] w (Ze4 kb base (.slice Ap np cp) prog z true w):=by
 have hn:=Md.Tm.size ht
 have HN:=zh (fun w'=>Znp t z.z1 z.z2 z.z3 z.z4 w' ht)
 have HR:=zh (fun w'=>Md.ZaA t w' ht)
 rw[hr] at HR
 have hiT:(Tryz.prog.info? 39).map (·.size)=some t.arr.size:=by rw[hn];kernel_rfl
 obtain⟨cs,hcs⟩:=zm (t.arr)
 rw[hcs] at HN HR hn hiT⊢
 have hiZ:=zi Tryz.prog 35 4
 obtain⟨W1,hW1⟩:=zn ((w.alloc (.cells cs 39)).alloc (.cells (szA z.z1 z.z2 z.z3 z.z4) 35))
 have E1:Ext w W1:=by rw[hW1];exact((Ext.refl _).alloc _).alloc _
 have B1:=zh (show Blk W1 w.heap.size 39 cs by rw[hW1];exact(Blk.new w _ _).alloc _)
 have B2:=zh (show Blk W1 (w.heap.size+1) 35 (szA z.z1 z.z2 z.z3 z.z4) by rw[hW1];exact Blk.at_ _ _ (by simp))
 have HW1:=zh hW1
 have HB1:=zh (HB.ext E1)
 have HKN:=zh (show ∀w',Ext W1 w'→Calls Tryz.prog 319 #[.pointer (some ⟨kb,0,none⟩),.int .i64 prog] w' (fun e w''=>e= .returned (.bool true)∧Ext w' w'') from fun w' E=>ZeX kb Ap np cp _ _ _ _ _ prog w' (HB1.out.ext E) hp)
 have hs1:=E1.size
 have hkw:=HB.lt
 clear hcs ht hr hW1 HB hp
 unfold Ze4
 go_enter Tryz.func284,Tryz.ntmps284
 go_upto_region 1 with fail
 rw[←HW1.out]
 clear HW1
 go_wp2_with fail
 refine(HKN.out _ (Ext.refl _)).mono ?_
 rintro e w2 ⟨rfl,E2⟩
 have B12:=zh (B1.out.ext E2)
 have E02:=E1.trans E2
 go_upto_region 5 with fail
 go_wp2_with(first|(refine wpList_load_row rfl 39 _ rfl _ rfl 39 _ _ _ B12.out Tryz.underlying39 rfl hiT ?_)|fail)
 refine(HR.out _).mono ?_
 rintro e w3 ⟨rfl,E3⟩
 have B13:=zh (B12.out.ext E3)
 have B23:=zh (B2.out.ext (E2.trans E3))
 have E03:=E02.trans E3
 go_upto_region 7 with fail
 go_wp2_with(first|(refine wpList_load_row rfl 39 _ rfl _ rfl 39 _ _ _ B13.out Tryz.underlying39 rfl hiT ?_)|(refine wpList_load_row rfl 35 _ rfl _ rfl 35 _ _ _ B23.out Tryz.underlying35 rfl hiZ ?_)|fail)
 refine(HN.out _).mono ?_
 rintro e w4 ⟨p,d,rfl,HP4,hpn,E4⟩
 have E04:=E03.trans E4
 obtain⟨w5,hw5⟩:=zn (w4.alloc (.cells #[.int .i64 0,.int .i64 0,.pointer (some ⟨p,0,none⟩),.pointer none,.pointer none,.pointer none,.bool false,.bool false,.bool false,.int .i64 0] 281))
 have E45:Ext w4 w5:=by rw[hw5];exact(Ext.refl _).alloc _
 have HSB:=zh (show Blk w5 w4.heap.size 281 (Zow 0 0 (some p) (.pointer none) (.pointer none) (.pointer none)) by rw[hw5];exact Blk.new w4 281 _)
 have E15:=(E2.trans E3).trans (E4.trans E45)
 have E05:=E1.trans E15
 have HB5:=zh (HB1.out.ext E15)
 have hs04:=E04.size
 have hs03:=E03.size
 have hs05:=E05.size
 have HTT:=zh (show ZbE base w5 (some p) z 0 from fun p' hp'=>by
  obtain rfl:=Option.some.inj hp'
  exact⟨by omega,d,0,HP4.ext E45⟩)
 have HBG:=zh (Zgv kb base w4.heap.size (.slice Ap np cp) prog (some p) z (.pointer none) (.pointer none) (.pointer none) w5 hkb HB5.out (by omega) HSB.out HTT.out)
 unfold ZfC at HBG
 have HW5:=zh hw5
 have E05:=zh E05
 have HPN:=zh hpn
 clear hw5 HKN HN HR B12 B13 B23 B1 B2 HB1 E2 E3 E4 E45 E15 HP4
 go_wp2_with fail
 rw[←HW5.out]
 refine(HBG.out).mono ?_
 rintro e w6 ⟨rfl,HK6,M6⟩
 have HK6:=zh HK6
 have M6:=zh M6
 clear HBG HB5 HSB HTT HW5
 go_wp2
 go_ret2
 refine⟨rfl,⟨some p,rfl,HK6.out⟩,?_⟩
 refine Mod.transN (Mod.of_ext (S:=fun k=>k=kb) E05.out) M6.out (fun k hk he=>?_)
 rcases he with he|he|he
 ·have:=HPN.out;omega
 ·exact he
 ·have h9:p=k:=Option.some.inj he
  have:=HPN.out;omega
theorem Zgz (kb base:Nat)(Ap:Option Addr)(np cp prog:Nat)(z:Sz)(w:World)(hkb:base≤kb)(HB:Blk w kb 218 (Zrv (.slice Ap np cp)))(hp:prog<np):
 Calls Tryz.prog 285 #[.pointer (some ⟨kb,0,none⟩),.int .i64 prog] w (Ze4 kb base (.slice Ap np cp) prog z false w):=by
 have HKN:=zh (ZeX kb Ap np cp _ _ _ _ _ prog w HB hp)
 have HB0:=zh HB
 have hkw:=HB.lt
 unfold Ze4
 clear HB hp
 go_enter Tryz.func285,Tryz.ntmps285
 go_wp2_with fail
 refine(HKN.out).mono ?_
 rintro e w1 ⟨rfl,E1⟩
 go_wp2_with fail
 refine(Zfp _).mono ?_
 rintro e w2 ⟨r1,rfl,E2⟩
 go_wp2_with fail
 refine(Zfp _).mono ?_
 rintro e w3 ⟨r2,rfl,E3⟩
 go_wp2_with fail
 refine(Zfp _).mono ?_
 rintro e w4 ⟨r3,rfl,E4⟩
 have E04:=((E1.trans E2).trans E3).trans E4
 obtain⟨w5,hw5⟩:=zn (w4.alloc (.cells #[.int .i64 0,.int .i64 0,.pointer none,.pointer (some ⟨r1,0,none⟩),.pointer (some ⟨r2,0,none⟩),.pointer (some ⟨r3,0,none⟩),.bool false,.bool false,.bool false,.int .i64 0] 281))
 have E45:Ext w4 w5:=by rw[hw5];exact(Ext.refl _).alloc _
 have HSB:=zh (show Blk w5 w4.heap.size 281 (Zow 0 0 none (.pointer (some ⟨r1,0,none⟩)) (.pointer (some ⟨r2,0,none⟩)) (.pointer (some ⟨r3,0,none⟩))) by rw[hw5];exact Blk.new w4 281 _)
 have E05:=E04.trans E45
 have hs04:=E04.size
 have hs05:=E05.size
 have HB5:=zh (HB0.out.ext E05)
 have HTT:=zh (show ZbE base w5 none z 0 from fun p' hp'=>by cases hp')
 have HBG:=zh (Zgv kb base w4.heap.size (.slice Ap np cp) prog none z _ _ _ w5 hkb HB5.out (by omega) HSB.out HTT.out)
 unfold ZfC at HBG
 have HW5:=zh hw5
 have E05:=zh E05
 clear hw5 HKN HB0 E1 E2 E3 E4 E45 E04
 go_wp2_with fail
 rw[←HW5.out]
 refine(HBG.out).mono ?_
 rintro e w6 ⟨rfl,HK6,M6⟩
 have HK6:=zh HK6
 have M6:=zh M6
 clear HBG HB5 HSB HTT HW5
 go_wp2
 go_ret2
 refine⟨rfl,⟨none,rfl,HK6.out⟩,?_⟩
 refine Mod.transN (Mod.of_ext (S:=fun k=>k=kb) E05.out) M6.out (fun k hk he=>?_)
 rcases he with he|he|he
 ·omega
 ·exact he
 ·cases he
end Go.Proofs.YtmmhcllibpmfnaaGreatDoor
namespace Go.Proofs.YtmmhcllibpmfnaaGreatDoor.Tb
open Go.RowKit Go.Kb
def ZgA (l:List Pr)(nx pid:Int):Pr×Bool:=if rightL l nx=true then(match l.find? (fun p=>p.pid==pid) with|some p=>(p,true)|none=>(zeroP,false)) else(zeroP,false)
theorem RdY.oks {A:Nat→Prop}{w:World}{v:Value}{l:List Pr}(h:RdY Rp A w v l):∀p∈l,p.ok:=by
 intro p hp
 obtain⟨j,hj,rfl⟩:=List.getElem_of_mem hp
 obtain⟨us,_,he⟩:=h
 exact(he.2 j _ (List.getElem?_eq_getElem hj)).2
theorem i43z:(Tryz.prog.info? 234).map (·.size)=some zeroP.cells.toArray.size:=by rw[List.size_toArray];exact ZbI Za4
theorem Zbw (w:World)(n:Nat)(hn:w.heap.size=n):Blk (w.alloc (.cells #[.int .i64 0,.int .i64 0,.int .i64 0,.int .i64 0,.int .i64 0,.int .i64 0,.int .i64 0,.int .u64 0,.int .u64 0,.int .i64 0,.int .i64 0,.int .i64 0,.int .i64 0,.int .i64 0,.int .i64 0,.int .i64 0,.int .i64 0,.int .i64 0,.int .i64 0,.int .i64 0,.int .i64 0,.int .i64 0,.int .i64 0,.int .i64 0,.int .i64 0,.int .i64 0,.int .i64 0,.int .i64 0,.int .i64 0,.int .i64 0,.int .i64 0,.int .i64 0,.int .i64 0,.int .i64 0,.int .i64 0,.int .i64 0,.int .i64 0,.int .i64 0,.int .i64 0,.int .i64 0,.int .i64 0,.int .i64 0,.bool false] 234)) n 234 zeroP.cells.toArray:=Blk.at_ _ _ hn
theorem Zla {A:Nat→Prop}(Ad:Option Addr)(c:Nat)(l:List Pr)(nx pid:Int)(w:World)(h:RdY Rp A w (.slice Ad l.length c) l):
 Calls Tryz.prog 352 #[.agg #[.slice Ad l.length c,.int .i64 nx],.int .i64 pid] w fun e w'=>e= .returned (.tuple #[.agg (ZgA l nx pid).1.cells.toArray,.bool (ZgA l nx pid).2])∧Ext w w':=by
 have H:=zh (h.mono (B:=fun _=>True) fun _ _ _=>trivial)
 have hbox:=zh (Blk.new w 79 #[.slice Ad l.length c,.int .i64 nx])
 have hzr:=zh (Zbw (w.alloc (.cells #[.slice Ad l.length c,.int .i64 nx] 79)) (w.heap.size+1) (by simp))
 have hbox:=zh (hbox.out.ext ((Ext.refl _).alloc (.cells #[.int .i64 0,.int .i64 0,.int .i64 0,.int .i64 0,.int .i64 0,.int .i64 0,.int .i64 0,.int .u64 0,.int .u64 0,.int .i64 0,.int .i64 0,.int .i64 0,.int .i64 0,.int .i64 0,.int .i64 0,.int .i64 0,.int .i64 0,.int .i64 0,.int .i64 0,.int .i64 0,.int .i64 0,.int .i64 0,.int .i64 0,.int .i64 0,.int .i64 0,.int .i64 0,.int .i64 0,.int .i64 0,.int .i64 0,.int .i64 0,.int .i64 0,.int .i64 0,.int .i64 0,.int .i64 0,.int .i64 0,.int .i64 0,.int .i64 0,.int .i64 0,.int .i64 0,.int .i64 0,.int .i64 0,.int .i64 0,.bool false] 234)))
 clear h
 cases hr:rightL l nx
 ·have HR:=zh (show ZgA l nx pid=(zeroP,false) by unfold ZgA;rw[hr];rfl)
  have HR0:=zh hr
  clear hr
  rw[HR.out]
  go_enter Tryz.func352,Tryz.ntmps352
  go_wp2_with fail
  refine(ZaA Ad c l nx _ (H.out.ext zX)).mono ?_
  rintro e w1 ⟨rfl,E1⟩
  rw[HR0.out]
  have hz1:=zh (hzr.out.ext E1)
  have E01:Ext w w1:=zX
  clear E1
  go_wp2_with(((refine wpList_store_A rfl 234 _ _ rfl (w.heap.size+1) _ rfl rfl 234 _ hz1.out (by rw[List.size_toArray];exact ZbI Za4) (Eq.trans (b:=43) (by rfl) (Eq.symm (show(zeroP).cells.toArray.size=43 from Pr.size Za4))) (Pr.one Za4) ?_);intro w2 H2 E2;have E2:Ext w w2:=E2 w.heap.size w E01 (by omega)))
  refine bodyPost_ret_by (Kb.Zab Tryz.results352 _ _ (w.heap.size+1) 234 _ _ _ rfl _ rfl H2 Tryz.underlying234 rfl (by rw[List.size_toArray];exact ZbI Za4)) rfl ?_
  exact⟨rfl,E2⟩
 ·have HR0:=zh hr
  have HG:ZgA l nx pid=(match l.find? (fun p=>p.pid==pid) with|some p=>(p,true)|none=>(zeroP,false)):=by unfold ZgA;rw[hr];rfl
  have HG:=zh HG
  clear hr
  go_enter Tryz.func352,Tryz.ntmps352
  go_wp2_with fail
  refine(ZaA Ad c l nx _ (H.out.ext zX)).mono ?_
  rintro e w1 ⟨rfl,E1⟩
  rw[HR0.out]
  have hz1:=zh (hzr.out.ext E1)
  have hbox:=zh (hbox.out.ext E1)
  have E01:Ext w w1:=zX
  clear E1
  go_wp2
  refine zg (fun w'=>Ext w1 w') (Ext.drew (Ext.refl _)) fun hHeld=>?_
  (refine zu 0 (fun _ h=>(hbox.out.ext h).two) ?_)
  refine zr 1 ?_
  (refine zc 2 (Zds pid _) ?_;rintro e w2 ⟨n2,rfl,F2,E2⟩ K hK;refine zo hK zX fun hHeld=>?_;clear hK K)
  have E12:Ext w1 w2:=by assumption
  have hfind:=Zfn Ad c l nx w2 (H.out.ext (E01.trans E12)) F2
  (refine zw 3 fun K hK=>?_;go_simp;go_at_call 378;refine(hfind).mono ?_;rintro e w4 ⟨E4,(⟨hx,m0,rfl,hm0,hz⟩|⟨j,b,off,hx,hlt,rfl,rfl⟩)⟩;all_goals ((try dsimp only);refine zo hK zX fun hHeld=>?_;clear hK K))
  all_goals
   refine zr 4 ?_
   refine zr 5 ?_
   refine zr 6 ?_
   refine zr 7 ?_
   refine zr 8 ?_
   refine zd ?_
   have E14:Ext w1 w4:=E12.trans E4
   have hz4:=zh (hz1.out.ext E14)
   have E04:Ext w w4:=E01.trans E14
  ·obtain⟨h1,h2⟩|⟨j',p,h1,h2,h3,h4,h5⟩:=Zef (f:=fun p=>p.pid==pid) (l:=l)
   ·have hg:ZgA l nx pid=(zeroP,false):=by
     rw[HG.out]
     have:l.find? (fun p=>p.pid==pid)=none:=by rw[List.find?_eq_none];rw[List.any_eq_false] at h2;exact h2
     rw[this]
    have HGG:=zh hg
    have HZ:=zh hz
    clear h1 h2 hz hx hg
    go_wp2_with(first
     |(refine wpList_load_row rfl 234 _ rfl _ rfl 234 _ _ _ HZ.out Tryz.underlying234 rfl i43z ?_)
     |((refine wpList_store_A rfl 234 _ _ rfl (w.heap.size+1) _ rfl rfl 234 _ hz4.out (by rw[List.size_toArray];exact ZbI Za4) (Eq.trans (b:=43) (by rfl) (Eq.symm (show(zeroP).cells.toArray.size=43 from Pr.size Za4))) (Pr.one Za4) ?_);intro w5 H5 E5;have E5:Ext w w5:=E5 w.heap.size w E04 (by omega)))
    refine bodyPost_ret_by (Kb.Zab Tryz.results352 _ _ (w.heap.size+1) 234 _ _ _ rfl _ rfl H5 Tryz.underlying234 rfl (by rw[List.size_toArray];exact ZbI Za4)) rfl ?_
    rw[HGG.out]
    exact⟨rfl,E5⟩
   ·rw[h1] at hx;omega
  ·obtain⟨h1,h2⟩|⟨j',p,h1,h2,h3,h4,h5⟩:=Zef (f:=fun p=>p.pid==pid) (l:=l)
   ·rw[h1] at hx;omega
   ·obtain rfl:j'=j:=by rw[h1] at hx;omega
    have hg:ZgA l nx pid=(p,true):=by rw[HG.out,h5]
    have HGG:=zh hg
    obtain⟨b',off',p',hAd,hd,hok,hcell⟩:=Zg9 (H.out.ext E04) hlt
    simp only[Option.some.injEq,Addr.mk.injEq,and_true] at hAd
    obtain⟨rfl,rfl⟩:=hAd
    obtain rfl:p'=p:=by have:=hd.out;rw[h2] at this;exact(Option.some.inj this).symm
    clear h1 h2 h3 h4 h5 hx hg hd
    go_wp2_with(first
     |(refine wpList_load_mid rfl 234 _ rfl b (off+j'*43) rfl p'.cells _ hcell.out Tryz.underlying234 rfl (ZbI hok) ?_)
     |((refine wpList_store_A rfl 234 _ _ rfl (w.heap.size+1) _ rfl rfl 234 _ hz4.out (by rw[List.size_toArray];exact ZbI hok) (Eq.trans (b:=43) (by rfl) (Eq.symm (show(p').cells.toArray.size=43 from Pr.size hok))) (Pr.one hok) ?_);intro w5 H5 E5;have E5:Ext w w5:=E5 w.heap.size w E04 (by omega)))
    refine bodyPost_ret_by (Kb.Zab Tryz.results352 _ _ (w.heap.size+1) 234 _ _ _ rfl _ rfl H5 Tryz.underlying234 rfl (by rw[List.size_toArray];exact ZbI hok)) rfl ?_
    rw[HGG.out]
    exact⟨rfl,E5⟩
abbrev Ib:Rep Int:=Rep.int .i64
def askL (l:List Pr)(nx:Int)(ps:List Int):Int:=if rightL l nx=true then if ps.all (ZbK l nx)=true then 0 else 8 else 4
theorem Zhu {A B:Nat→Prop}(Ad Ap:Option Addr)(c cp:Nat)(l:List Pr)(nx:Int)(ps:List Int)(w:World)(h:RdY Rp A w (.slice Ad l.length c) l)(h2:RdY Ib B w (.slice Ap ps.length cp) ps):
 Calls Tryz.prog 398 #[tv Ad l.length c nx,.slice Ap ps.length cp] w fun e w'=>e= .returned (.int .i64 (askL l nx ps))∧Ext w w':=by
 have H:=zh (Za9 (B:=fun _=>False) h)
 have H2:=zh h2
 have hbox:=zh (Blk.new w 79 #[.slice Ad l.length c,.int .i64 nx])
 obtain⟨_,_,hv,hc1,hc2⟩:=h2.shape
 simp only[Value.slice.injEq] at hv
 obtain⟨-,-,rfl⟩:=hv
 obtain⟨n,hn⟩:=zm (ps.length)
 rw[hn] at H2 hc1⊢
 have HN:=zh hn
 clear h h2 hn
 cases hr:rightL l nx
 ·have HR:=zh hr
  clear hr
  go_enter Tryz.func398,Tryz.ntmps398
  go_wp2_with fail
  refine(ZaA Ad c l nx _ (H.out.ext zX)).mono ?_
  rintro e w1 ⟨rfl,E1⟩
  rw[HR.out]
  have E01:Ext w w1:=zX
  go_wp2
  go_ret
  exact⟨by unfold askL;rw[HR.out];rfl,E01⟩
 ·have HR:=zh hr
  clear hr
  have HA:Hid (askL l nx ps=if ps.all (ZbK l nx)=true then 0 else 8):=zh (by unfold askL;rw[HR.out];rfl)
  go_enter Tryz.func398,Tryz.ntmps398
  go_wp2_with fail
  refine(ZaA Ad c l nx _ (H.out.ext zX)).mono ?_
  rintro e w1 ⟨rfl,E1⟩
  rw[HR.out]
  have hbox:=zh (hbox.out.ext E1)
  have E01:Ext w w1:=zX
  clear E1
  go_wp2
  go_loopw [12] (fun i wr=>∃ (m:Nat),m≤n∧i= .int .i64 m∧Hid (∀x∈ps.take m,ZbK l nx x=true)∧Hid (Blk wr w.heap.size 79 #[.slice Ad l.length c,.int .i64 nx])∧Ext w wr) (fun i _=>n - (intOf i).toNat)
  case atStart=>exact⟨0,Nat.zero_le _,rfl,zh (by simp),hbox,E01⟩
  case round=>
   clear hbox E01
   obtain⟨m,hm,rfl,HD,hbox,hE⟩:=hrel
   by_cases hlt:m<n
   ·obtain⟨b,off,u,d,rfl,q,hd,hrl⟩:=(H2.out.ext hE).at1 rfl hlt
    have hu:u= .int .i64 d:=(List.cons.inj (show[u]=[.int .i64 d] from hrl.out)).1
    rw[hu] at q
    clear hu hrl
    have hb:=hbox.out.two
    cases hlv:ZbK l nx d
    ·have HL:=zh hlv
     clear hlv
     go_wp2_with fail
     refine(ZdP Ad c l nx d _ (H.out.ext hE)).mono ?_
     rintro e w2 ⟨rfl,E2⟩
     rw[HL.out]
     go_wp2
     go_ret
     refine⟨?_,hE.trans E2⟩
     rw[HA.out,if_neg (fun h=>by have:=List.all_eq_true.1 h d (List.mem_of_getElem? hd.out);rw[HL.out] at this;cases this)]
     rfl
    ·have HL:=zh hlv
     clear hlv
     go_wp2_with fail
     refine(ZdP Ad c l nx d _ (H.out.ext hE)).mono ?_
     rintro e w2 ⟨rfl,E2⟩
     rw[HL.out]
     have hbox2:=zh (hbox.out.ext E2)
     have E02:Ext w w2:=hE.trans E2
     go_wp2
     go_roundw
     case rel=>exact⟨m+1,by omega,by go_num,zh (by
      rw[List.take_add_one,hd.out]
      intro x hx
      simp only[Option.toList_some,List.mem_append,List.mem_singleton] at hx
      exact hx.elim (HD.out x) fun h=>by rw[h];exact HL.out),hbox2,E02⟩
     case measure=>simp[intOf];omega
   ·go_wp2
    go_ret
    refine⟨?_,hE⟩
    rw[HA.out,if_pos (List.all_eq_true.2 fun x hx=>HD.out x (by rw[List.take_of_length_le (by have:=HN.out;omega)];exact hx))]
    rfl
theorem wpList_build_eq {P:Program}{ops:Array Oper}{rest:List Oper}{o:Oper}{a:Act}{w:World}{Q:Exit→Act→World→Prop}(hg:o.guard=none)(t:TypeId)(parts:Array (Nat×Operand))(ho:o.op= .build t parts){L:Array Value}
 (hf:P.built t (parts.map fun(i,x)=>(i,a.eval x)).toList=some L) (h:wpList P ops Q rest (a.put o.dst (.agg L)) w):wpList P ops Q (o::rest) a w:=by
 refine wpList_build hg t parts ho (by rw[hf];rfl) ?_
 rw[hf]
 exact h
def Zhv (p:Pr)(pid prog:Int):Pr:=⟨0,pid,p.group,p.session,0,prog,0,0,p.mask,p.acts,0,false⟩
theorem ZnA {p:Pr}(pid prog:Int)(h:p.ok):(Zhv p pid prog).ok:=h
theorem Zjw {p:Pr}(pid prog:Int)(h:p.ok):Tryz.prog.built 234 [(1,.int .i64 pid),(2,.int .i64 p.group),(3,.int .i64 p.session),(5,.int .i64 prog),(8,.int .u64 p.mask),(9,.agg (p.acts.map (Value.int .i64)).toArray)]=some (Zhv p pid prog).cells.toArray:=by
 unfold Pr.ok at h
 obtain⟨pid0,parent,group,session,state,prog0,pc,pending,mask,acts,status,told⟩:=p
 simp only at h
 match acts,h with
 | [x0,x1,x2,x3,x4,x5,x6,x7,x8,x9,x10,x11,x12,x13,x14,x15,x16,x17,x18,x19,x20,x21,x22,x23,x24,x25,x26,x27,x28,x29,x30,x31],_=>(show Tryz.prog.built _ _=some _;kernel_rfl)
theorem i32a {p:Pr}(h:p.ok):(Tryz.prog.info? 232).map (·.size)=some (p.acts.map (Value.int .i64)).length:=by
 rw[List.length_map,show p.acts.length=32 from h]
 kernel_rfl
theorem Zp8 {w:World}{b o:Nat}{p:Pr}(h:PrAt w b o p):∀i u,(p.acts.map (Value.int .i64))[i]?=some u→w.cell? ⟨b,o+9+i,none⟩=some u:=fun i u hu=>by
 rw[List.getElem?_map] at hu
 cases hx:p.acts[i]? with
 |none=>rw[hx] at hu;cases hu
 |some x=>rw[hx] at hu;cases hu;exact h.ca i x hx
theorem Zeq {l:List Pr}{nx pid:Int}(h:askL l nx [pid]=0):rightL l nx=true∧∃p,ZgA l nx pid=(p,true)∧p∈l∧p.pid=pid:=by
 unfold askL at h
 split at h
 ·rename_i hr
  split at h
  ·rename_i hl
   simp only[List.all_cons,List.all_nil,Bool.and_true,ZbK,hr,Bool.true_and,List.any_eq_true,Bool.and_eq_true,beq_iff_eq] at hl
   obtain⟨p,hp,hpid,_⟩:=hl
   refine⟨hr,?_⟩
   have hg:ZgA l nx pid=(match l.find? (fun p=>p.pid==pid) with|some p=>(p,true)|none=>(zeroP,false)):=by unfold ZgA;rw[hr];rfl
   cases hf:l.find? (fun p=>p.pid==pid) with
   |none=>
    have:=List.find?_eq_none.1 hf p hp
    simp[hpid] at this
   |some q=>exact⟨q,by rw[hg,hf],List.mem_of_find?_eq_some hf,by simpa using List.find?_some hf⟩
  ·cases h
 ·cases h
def Zim (l:List Pr)(nx pid prog:Int)(Ad:Option Addr)(c:Nat)(w:World)(e:Ending)(w':World):Prop:=
 (askL l nx [pid]≠0∧Ext w w'∧e= .returned (.tuple #[tv Ad l.length c nx,.int .i64 0,.int .i64 (askL l nx [pid])]))∨(askL l nx [pid]=0∧ZaY l nx (Zhv (ZgA l nx pid).1 pid prog) Ad c w e w')
theorem ZnB {A:Nat→Prop}(Ad:Option Addr)(c:Nat)(l:List Pr)(nx pid prog:Int)(w:World)(h:RdY Rp A w (.slice Ad l.length c) l):
 Calls Tryz.prog 377 #[tv Ad l.length c nx,.int .i64 pid,.int .i64 prog] w (Zim l nx pid prog Ad c w):=by
 have H:=zh (Za9 (B:=fun _=>False) h)
 have hres:=zh (Blk.at_ (w:=w.alloc (.cells #[.slice Ad l.length c,.int .i64 nx] 79)) (B:=w.heap.size+1) 79 #[.slice none 0 0,.int .i64 0] (by simp))
 have hbox:=zh ((Blk.new w 79 #[.slice Ad l.length c,.int .i64 nx]).alloc (.cells #[.slice none 0 0,.int .i64 0] 79))
 have hoks:=RdY.oks h
 clear h
 obtain⟨e0,he0⟩:=zm (askL l nx [pid])
 have HE:=zh he0
 clear he0
 go_enter Tryz.func377,Tryz.ntmps377
 go_wp2_with fail
 refine(Zhu (B:=fun _=>True) Ad _ c _ l nx [pid] _ (H.out.ext zX) (RdY.singleB (e:=Ib) (cs:=[.int .i64 pid]) rfl (Blk.at_ _ _ (by simp)))).mono ?_
 rintro e w1 ⟨rfl,E1⟩
 rw[HE.out]
 have E01:Ext w w1:=zX
 have hs:=zh (hres.out.ext (Ext.trans ((Ext.refl _).alloc _) E1))
 have hb:=zh (hbox.out.ext (Ext.trans ((Ext.refl _).alloc _) E1))
 have hsz:=hs.out.lt
 clear E1 hres hbox
 have kb:=hb.out.two
 have ks:=hs.out.two
 by_cases hz:e0=0
 ·subst hz
  obtain⟨hr,p,hg,hpl,hpid⟩:=Zeq HE.out
  have hok:=hoks p hpl
  have hl:=(ZbJ hr).1
  have HG:=zh hg
  clear hr hg hpl hpid hoks kb ks
  have kb:=hb.out.two
  go_wp2_with fail
  refine(Zla Ad c l nx pid _ (H.out.ext E01)).mono ?_
  rintro e w2 ⟨rfl,E2⟩
  rw[HG.out]
  have E02:=E01.trans E2
  have kb:=(hb.out.ext E2).two
  have hz2:=E02.size
  have hz3:=E2.size
  go_wp2_with(first
   |((refine wpList_store_A rfl 234 _ _ rfl (w2.heap.size) _ rfl rfl 234 _ (Zbw w2 _ rfl) (by rw[List.size_toArray];exact ZbI hok) (Eq.trans (b:=43) (by rfl) (Eq.symm (show(p).cells.toArray.size=43 from Pr.size hok))) (Pr.one hok) ?_);intro w3 H3 E3;have E13:Ext w1 w3:=E3 w1.heap.size w1 (E2.alloc _) (by omega);have hp3:=Zaq hok H3;have c2:=hp3.c2;have c3:=hp3.c3;have c8:=hp3.c8;have kb:=(hb.out.ext E13).two;clear E3)
   |(refine wpList_load_mid rfl 232 _ rfl w2.heap.size (0+9) rfl (p.acts.map (Value.int .i64)) _ (Zp8 hp3) Tryz.underlying232 rfl (i32a hok) ?_)
   |(refine wpList_build_eq rfl 234 _ rfl (L:=(Zhv p pid prog).cells.toArray) ?_ ?_;(focus((try simp[go_sem]);exact Zjw pid prog hok))))
  have E03:Ext w w3:=E01.trans E13
  have hs:=zh (hs.out.ext E13)
  have hsz:=hs.out.lt
  clear c2 c3 c8 kb hp3 H3
  refine(Zib Ad c l nx (Zhv p pid prog) _ (H.out.ext E03) (by omega) (ZnA _ _ hok)).mono ?_
  rintro e w4 hm
  have hE:=hm.1
  have hp0:Zhv p pid prog=Zhv (ZgA l nx pid).1 pid prog:=by rw[HG.out]
  obtain⟨_,⟨h32,rfl⟩|⟨h32,A',c',rfl,_⟩⟩:=id hm
  ·clear h32
   have hs2:=hs.out.ext hE
   have ks:=hs2.two
   have hM7:Mod (fun k=>k=w.heap.size+1) w4 _:=((Mod.refl _ w4).set1 (.slice Ad l.length c) (o:=0)).set1 (.int .i64 nx) (o:=1)
   obtain⟨q0,q1,_,_⟩:=(hs2.put2 (.slice Ad l.length c) (.int .i64 nx)).two
   go_wp2
   refine bodyPost_ret (v:=.tuple #[tv Ad l.length c nx,.int .i64 0,.int .i64 10]) (by simp[results,Tryz.results377,go_sem,q0,q1]) rfl ?_
   exact .inr ⟨HE.out,by rw[←hp0];exact hm.box E03 (by omega) hsz hM7⟩
  ·have hs2:=hs.out.ext hE
   have ks:=hs2.two
   have hM7:Mod (fun k=>k=w.heap.size+1) w4 _:=((Mod.refl _ w4).set1 (.slice A' (l.length+1) c') (o:=0)).set1 (.int .i64 (Zct nx)) (o:=1)
   obtain⟨q0,q1,_,_⟩:=(hs2.put2 (.slice A' (l.length+1) c') (.int .i64 (Zct nx))).two
   go_wp2
   refine bodyPost_ret (v:=.tuple #[tv A' (l.length+1) c' (Zct nx),.int .i64 nx,.int .i64 0]) (by simp[results,Tryz.results377,go_sem,q0,q1]) rfl ?_
   exact .inr ⟨HE.out,by rw[←hp0];exact hm.box E03 (by omega) hsz hM7⟩
 ·have hz2:(e0 !=0)=true:=by simpa using hz
  have hM7:Mod (fun k=>k=w.heap.size+1) w1 _:=((Mod.refl _ w1).set1 (.slice Ad l.length c) (o:=0)).set1 (.int .i64 nx) (o:=1)
  obtain⟨q0,q1,_,_⟩:=(hs.out.put2 (.slice Ad l.length c) (.int .i64 nx)).two
  go_wp2
  refine bodyPost_ret (v:=.tuple #[tv Ad l.length c nx,.int .i64 0,.int .i64 e0]) (by simp[results,Tryz.results377,go_sem,q0,q1]) rfl ?_
  exact .inl ⟨by rw[HE.out];exact hz,Mod.toExt E01 hM7 (by intro k hk he;omega),by rw[HE.out]⟩
section
variable {base G n c j:Nat} {B:Nat→Prop} {w w':World} {l:List Pr} {p p':Pr}
theorem ZrB (h:OwnS Rp 234 base B w (.slice (some ⟨G,0,none⟩) n c) l)(hp:l[j]?=some p):p.ok∧base≤G∧G<w.heap.size∧PrAt w G (j*43) p∧(∀o,w.frozen? ⟨G,o,none⟩=false)∧∀i u,p.cells[i]?=some u→w.cell? ⟨G,j*43+i,none⟩=some u:=by
 have hj:j<l.length:=(List.getElem?_eq_some_iff.1 hp).1
 obtain⟨_,_,hv,_⟩:=h.shape
 simp only[Value.slice.injEq] at hv
 obtain⟨-,hl,-⟩:=hv
 obtain⟨b,off,q,hb,hd,hok,hc⟩:=Zg9 h.y (show j<n by omega)
 cases hb
 rw[hp] at hd
 have hq:p=q:=by have:=hd.out;cases this;rfl
 subst hq
 have hc:=hc.out
 simp only[Nat.zero_add] at hc
 have hf:=(h.addr (by omega))
 obtain⟨g,hg,_,hfr⟩:=hf
 cases hg
 obtain⟨h1,h2⟩:=h.row G rfl
 exact⟨hok,h1,h2,Zko hok hc,hfr,hc⟩
end
def Zlb (k:Nat)(bs fs:Array Value)(g:Pr→Pr)(w:World):Prop:=
 (∀args w',(callFunc k args).run Tryz.prog w'= .ok (.enter k args) w')∧∀ (G base n c j:Nat) (l:List Pr) (p:Pr) (w':World),Ext w w'→w.heap.size≤base→
   OwnS Rp 234 base (fun _=>False) w' (.slice (some ⟨G,0,none⟩) n c) l→l[j]?=some p→
   Calls Tryz.prog k (bs.push (.pointer (some ⟨G,j*43,none⟩))++fs) w' fun e w''=>e= .returned (.tuple #[])∧OwnS Rp 234 base (fun _=>False) w'' (.slice (some ⟨G,0,none⟩) n c) (l.set j (g p))∧Mod (fun k=>k=G) w' w''
theorem Zlb.ext {k:Nat}{bs fs:Array Value}{g:Pr→Pr}{w w':World}(h:Zlb k bs fs g w)(hE:Ext w w'):Zlb k bs fs g w':=
 ⟨h.1,fun G base n c j l p w2 h1 h2=>h.2 G base n c j l p w2 (hE.trans h1) (Nat.le_trans hE.size h2)⟩
def ZaO (g:Pr→Pr)(pid:Int)(l:List Pr):List Pr:=
 match l.findIdx? (fun p=>p.pid==pid) with
 |none=>l
 |some j=>match l[j]? with
  |none=>l
  |some p=>l.set j (g p)
theorem ZgB {g:Pr→Pr}{pid:Int}{l:List Pr}(h:idxL (fun p=>p.pid==pid) l= -1):ZaO g pid l=l:=by
 unfold ZaO
 unfold idxL at h
 split at h
 ·omega
 ·rename_i hn;rw[hn]
theorem ZgC {g:Pr→Pr}{pid:Int}{l:List Pr}{j:Nat}{p:Pr}(h:idxL (fun p=>p.pid==pid) l=j)(hp:l[j]?=some p):ZaO g pid l=l.set j (g p):=by
 unfold ZaO
 unfold idxL at h
 split at h
 ·rename_i i hi
  obtain rfl:i=j:=by omega
  simp only[hi,hp]
 ·omega
theorem Zhw {g:Pr→Pr}{pid:Int}{l:List Pr}:(ZaO g pid l).length=l.length:=by
 unfold ZaO
 split
 ·rfl
 ·split<;>simp
theorem Zjx {A:Nat→Prop}{k:Nat}{bs fs:Array Value}{g:Pr→Pr}(Ad:Option Addr)(c:Nat)(l:List Pr)(nx pid:Int)(w:World)(h:RdY Rp A w (.slice Ad l.length c) l)(hn:l.length≤100000)(hf:Zlb k bs fs g w):
 Calls Tryz.prog 386 #[tv Ad l.length c nx,.int .i64 pid,.func (.func k) bs fs] w fun e w'=>∃A' c',e= .returned (tv A' l.length c' nx)∧OwnS Rp 234 w.heap.size (fun _=>False) w' (.slice A' l.length c') (ZaO g pid l)∧Ext w w':=by
 have H:=zh (Za9 (B:=fun _=>False) h)
 have HF:=zh hf
 obtain⟨W,hW⟩:=zn ((w.alloc (.cells #[.slice Ad l.length c,.int .i64 nx] 79)).alloc (.cells #[.slice none 0 0,.int .i64 0] 79))
 have hres:=zh (show Blk W (w.heap.size+1) 79 #[.slice none 0 0,.int .i64 0] by rw[hW];exact Blk.at_ _ _ (by simp))
 have hbox:=zh (show Blk W w.heap.size 79 #[.slice Ad l.length c,.int .i64 nx] by rw[hW];exact(Blk.new w _ _).alloc _)
 have E0:Ext w W:=by rw[hW];exact zX
 have hsz:=zh (show W.heap.size=w.heap.size+2 by rw[hW];simp)
 have HW:=zh hW
 clear h hf hW
 go_enter Tryz.func386,Tryz.ntmps386
 go_wp2_with fail
 rw[←HW.out]
 refine(ZmM Ad c l nx _ (H.out.ext E0) (by omega)).mono ?_
 rintro e w1 ⟨A2,c2,rfl,o2,E1⟩
 have hr2:=o2.row
 have hz:=hsz.out
 have kb:=(hbox.out.ext E1).two
 have hMz:Mod (fun k=>k=w.heap.size) w1 _:=((Mod.refl _ w1).set1 (.slice A2 l.length c2) (o:=0)).set1 (.int .i64 nx) (o:=1)
 have BW:=zh ((hbox.out.ext E1).put2 (.slice A2 l.length c2) (.int .i64 nx))
 have hs1:=zh ((hres.out.ext E1).mod hMz (by show ¬_=_;omega))
 have O1:=zh (o2.mod hMz (fun k hk he=>by have:=(hr2 k hk).1;omega) (fun k _ hk he=>hk))
 have E01:Ext w _:=Mod.toExt (E0.trans E1) hMz (by intro k hk he;omega)
 clear hMz o2 hr2 hz
 go_wp2
 clear kb
 generalize (w1.setCell _ _).setCell _ _=W1 at*
 refine zg (fun w'=>Ext W1 w') (Ext.drew (Ext.refl _)) fun hHeld=>?_
 (refine zu 0 (fun _ h=>(BW.out.ext h).two) ?_)
 refine zr 1 ?_
 (refine zc 2 (Zds pid _) ?_;rintro e w2 ⟨n2,rfl,F2,E2⟩ K hK;refine zo hK zX fun hHeld=>?_;clear hK K)
 have E12:Ext W1 w2:=by assumption
 have hfind:=Zfn A2 c2 l nx w2 (RdY.ext (Za9 (B:=fun _=>False) O1.out.y) E12) F2
 (refine zw 3 fun K hK=>?_;go_simp;go_at_call 378;refine(hfind).mono ?_;rintro e w4 ⟨E4,(⟨hx,m0,rfl,hm0,hz⟩|⟨j,b,off,hx,hlt,rfl,rfl⟩)⟩;all_goals ((try dsimp only);refine zo hK zX fun hHeld=>?_;clear hK K))
 all_goals
  refine zr 4 ?_
  refine zr 5 ?_
  refine zr 6 ?_
  refine zr 7 ?_
  refine zr 8 ?_
  refine zd ?_
  have E14:Ext W1 w4:=E12.trans E4
  have E04:Ext w w4:=E01.trans E14
  have hz:=hsz.out
  have O4:=zh (O1.out.ext E14)
  have B4:=zh (BW.out.ext E14)
  have S4:=zh (hs1.out.ext E14)
  clear O1 BW hs1 F2 hfind
 ·have HX:=zh (ZgB (g:=g) hx)
  clear hx hz
  have kb:=B4.out.two
  have ks:=S4.out.two
  have hM7:Mod (fun k=>k=w.heap.size+1) w4 _:=((Mod.refl _ w4).set1 (.slice A2 l.length c2) (o:=0)).set1 (.int .i64 nx) (o:=1)
  obtain⟨q0,q1,_,_⟩:=(S4.out.put2 (.slice A2 l.length c2) (.int .i64 nx)).two
  go_wp2
  refine bodyPost_ret (v:=tv A2 l.length c2 nx) (by simp[results,Tryz.results386,go_sem,q0,q1]) rfl ?_
  have hr:=O4.out.row
  have hz:=hsz.out
  refine⟨A2,c2,rfl,?_,Mod.toExt E04 hM7 (by intro k hk he;omega)⟩
  rw[HX.out]
  exact(O4.out.mod hM7 (fun k hk he=>by have:=(hr k hk).1;omega) (fun k _ hk _=>hk)).lower (by omega)
 ·obtain⟨p,hp⟩:∃p,l[j]?=some p:=⟨_,List.getElem?_eq_getElem hlt⟩
  have HX:=zh (ZgC (g:=g) hx hp)
  obtain⟨b',hb',hbase,_⟩:=O4.out.addr (by omega)
  simp only[Option.some.injEq,Addr.mk.injEq,and_true] at hb'
  obtain⟨rfl,rfl⟩:=hb'
  have HK:=HF.out.1
  have HA:=zh (HF.out.2 b W.heap.size l.length c2 j l p w4 E04 (by omega) O4.out hp)
  clear hx hp hz
  go_wp2_with fail
  refine HA.out.mono ?_
  rintro e w5 ⟨rfl,O5,M5⟩
  have hz:=hsz.out
  have hr:=O5.row
  have B5:=zh (B4.out.mod M5 (by show ¬_=_;omega))
  have S5:=zh (S4.out.mod M5 (by show ¬_=_;omega))
  have E05:Ext w w5:=Mod.toExt E04 M5 (by intro k hk he;omega)
  have O5:=zh O5
  have kb:=B5.out.two
  have ks:=S5.out.two
  have hM7:Mod (fun k=>k=w.heap.size+1) w5 _:=((Mod.refl _ w5).set1 (.slice (some ⟨b,0,none⟩) l.length c2) (o:=0)).set1 (.int .i64 nx) (o:=1)
  obtain⟨q0,q1,_,_⟩:=(S5.out.put2 (.slice (some ⟨b,0,none⟩) l.length c2) (.int .i64 nx)).two
  clear hz hr
  go_wp2
  refine bodyPost_ret (v:=tv (some ⟨b,0,none⟩) l.length c2 nx) (by simp[results,Tryz.results386,go_sem,q0,q1]) rfl ?_
  have hr:=O5.out.row
  have hz:=hsz.out
  refine⟨_,c2,rfl,?_,Mod.toExt E05 hM7 (by intro k hk he;omega)⟩
  rw[HX.out]
  exact(O5.out.mod hM7 (fun k hk he=>by have:=(hr k hk).1;omega) (fun k _ hk _=>hk)).lower (by omega)
theorem Zhx {g:Pr→Pr}{k:Int}:ZaO g k []=[]:=rfl
theorem ZgD {g:Pr→Pr}{k:Int}{p:Pr}{r:List Pr}:ZaO g k (p::r)=if p.pid=k then g p::r else p::ZaO g k r:=by
 unfold ZaO
 rw[List.findIdx?_cons]
 by_cases h:p.pid=k
 ·simp[h]
 ·have:(p.pid==k)=false:=by simpa using h
  rw[this,if_neg h]
  simp only[Bool.false_eq_true,if_false]
  cases r.findIdx? (fun p=>p.pid==k) with
  |none=>rfl
  |some j=>
   simp only[Option.map_some,List.getElem?_cons_succ]
   cases r[j]? with
   |none=>rfl
   |some q=>rfl
theorem ZnC (cur L:List Value)(a b N:Nat)(hL:L.length=b)(h:a+b≤N)(hN:N≤cur.length):((cur.take a++L)++cur.drop (a+b)).take N=(cur.take N).take a++ (L++ (cur.take N).drop (a+b)):=by
 have h1:(cur.take a).length=a:=by simp;omega
 rw[List.take_append,List.take_append,List.length_append,h1,hL,List.take_take,List.take_take,List.drop_take,Nat.min_eq_right (by omega:a≤N),Nat.min_eq_left (by omega:a≤N),List.take_of_length_le (l:=L) (by omega),List.append_assoc]
theorem Zp9 {base G n c j:Nat}{w:World}{l:List Pr}{p':Pr}(h:OwnS Rp 234 base (fun _=>False) w (.slice (some ⟨G,0,none⟩) n c) l)(hj:j<n)(hk:p'.ok):
 OwnS Rp 234 base (fun _=>False) (w.setCells G (j*43) p'.cells) (.slice (some ⟨G,0,none⟩) n c) (l.set j p'):=by
 obtain⟨us,ho,he⟩:=h
 have hln:=Zfa ho
 obtain⟨hul,⟨hv,_⟩|⟨g',cap,cur,hv,hb0,hb,hcap,hmax,hcs,htk⟩⟩:=ho
 ·cases hv
 cases hv
 clear hln
 have hul:us.length=l.length*43:=hul
 have hcs:cur.size=c*43:=hcs
 have htk:List.take (l.length*43) cur.toList=us:=htk
 have hb:Blk w G 234 cur:=hb
 have hpl:=Pr.len hk
 have hB:=Blk.setCells p'.cells (j*43) w cur hb (by rw[hpl,hcs];omega)
 have htl:(cur.toList.take (j*43)).length=j*43:=by simp;omega
 have hset:l.set j p'=l.take j++ ([p']++l.drop (j+1)):=by rw[List.set_eq_take_append_cons_drop,if_pos hj];rfl
 refine⟨us.take (j*43)++ (p'.cells++us.drop ((j+1)*43)),⟨?_,.inr ⟨G,c,_,by rw[List.length_set],hb0,hB,by rw[List.length_set];exact hcap,hmax,?_,?_⟩⟩,?_⟩
 ·rw[List.length_set,List.length_append,List.length_append,List.length_take,List.length_drop,hpl,hul]
  show _=l.length*43
  omega
 ·rw[List.size_toArray,List.length_append,List.length_append,htl,hpl,List.length_drop,Array.length_toList,hcs]
  show _=c*43
  omega
 ·rw[List.length_set]
  show((cur.toList.take (j*43)++p'.cells)++cur.toList.drop (j*43+p'.cells.length)).take (l.length*43)=_
  rw[←htk,hpl,ZnC cur.toList p'.cells (j*43) 43 (l.length*43) hpl (by omega) (by have:cur.toList.length=cur.size:=rfl;omega),Nat.add_mul,Nat.one_mul]
 ·rw[hset]
  have e1:=he.take j (by omega)
  have e2:=he.drop (j+1)
  exact RdE.keep (RdE.append e1 (RdE.append (RdE.single (Zia _ w hk)) e2)) fun k _ hk=>hk.1.elim
theorem Zer {f:Pr→Bool}{l:List Pr}(h:idxL f l= -1):l.find? f=none:=by
 rcases Zef (f:=f) (l:=l) with⟨_,h2⟩|⟨j,p,h1,_⟩
 ·rw[List.find?_eq_none];rw[List.any_eq_false] at h2;exact h2
 ·omega
theorem Zes {f:Pr→Bool}{l:List Pr}{j:Nat}{p:Pr}(h:idxL f l=j)(hp:l[j]?=some p):l.find? f=some p:=by
 rcases Zef (f:=f) (l:=l) with⟨h1,_⟩|⟨j',p',h1,h2,_,_,h5⟩
 ·omega
 ·obtain rfl:j'=j:=by omega
  rw[hp] at h2;cases h2;exact h5
theorem Zhy (args:Array Value)(w:World):(callFunc 387 args).run Tryz.prog w= .ok (.enter 387 args) w:=by kernel_rfl
theorem Zlc {m:Nat}{q:Pr}(w:World)(hq:q.ok)(h:Blk w m 234 q.cells.toArray):Zlb 387 #[] #[.pointer (some ⟨m,0,none⟩)] (fun _=>q) w:=by
 refine⟨Zhy,fun G base n c j l p w0 hE hb O hp=>?_⟩
 obtain⟨hok,hG,hlt,hat,hfr,hc⟩:=ZrB O hp
 have hB:=zh (h.ext hE)
 have hj:j<n:=by
  obtain⟨_,_,hv,_⟩:=O.shape
  simp only[Value.slice.injEq] at hv
  have:=(List.getElem?_eq_some_iff.1 hp).1
  omega
 have hth:w0.there G (j*43) 43:=fun t ht=>⟨by rw[hc t _ (List.getElem?_eq_getElem (by rw[Pr.len hok];exact ht))];rfl,hfr _⟩
 have O2:=zh (Zp9 O hj hq)
 have M2:=zh (Mod.setCells q.cells (j*43) w0 w0 (Mod.refl (fun k=>k=G) w0))
 have hq3:=Pr.len hq
 clear O hp hat hok hc
 show Calls Tryz.prog _ #[.pointer (some ⟨G,j*43,none⟩),.pointer (some ⟨m,0,none⟩)] w0 _
 go_enter Tryz.func387,Tryz.ntmps387
 go_wp2_with(first
  |(refine wpList_load_row rfl 234 _ rfl _ rfl 234 _ _ _ hB.out Tryz.underlying234 rfl (by rw[List.size_toArray];exact ZbI hq) ?_)
  |(refine wpList_store_mid rfl 234 _ _ rfl G (j*43) q.cells.toArray rfl rfl (by rw[List.size_toArray,hq3];exact hth) (by rw[List.size_toArray];exact ZbI hq) (Pr.one hq) ?_))
 go_end0
 exact⟨rfl,O2.out,M2.out⟩
def Zqa (l:List Pr)(nx:Int)(q:Pr)(w:World)(e:Ending)(w':World):Prop:=
 Ext w w'∧((rightL l nx=false∧e= .returned (tv none 0 0 0))∨(rightL l nx=true∧∃A' c',e= .returned (tv A' l.length c' nx)∧OwnS Rp 234 w.heap.size (fun _=>False) w' (.slice A' l.length c') (ZaO (fun _=>q) q.pid l)))
theorem Zfy {A:Nat→Prop}(Ad:Option Addr)(c:Nat)(l:List Pr)(nx:Int)(q:Pr)(w:World)(h:RdY Rp A w (.slice Ad l.length c) l)(hq:q.ok):
 Calls Tryz.prog 354 #[tv Ad l.length c nx,.agg q.cells.toArray] w (Zqa l nx q w):=by
 have H:=zh (Za9 (B:=fun _=>False) h)
 obtain⟨W,hW⟩:=zn (((w.alloc (.cells #[.slice Ad l.length c,.int .i64 nx] 79)).alloc (.cells q.cells.toArray 234)).alloc (.cells #[.slice none 0 0,.int .i64 0] 79))
 have hres:=zh (show Blk W (w.heap.size+1+1) 79 #[.slice none 0 0,.int .i64 0] by rw[hW];exact Blk.at_ _ _ (by simp))
 have hp:=zh (show Blk W (w.heap.size+1) 234 q.cells.toArray by rw[hW];exact(Blk.at_ _ _ (by simp)).alloc _)
 have hbox:=zh (show Blk W w.heap.size 79 #[.slice Ad l.length c,.int .i64 nx] by rw[hW];exact((Blk.new w _ _).alloc _).alloc _)
 have E0:Ext w W:=by rw[hW];exact zX
 have hsz:=zh (show W.heap.size=w.heap.size+3 by rw[hW];simp)
 have HW:=zh hW
 clear h hW
 go_enter Tryz.func354,Tryz.ntmps354
 go_wp2_with fail
 rw[←HW.out]
 refine(ZaA Ad c l nx _ (H.out.ext E0)).mono ?_
 rintro e w1 ⟨rfl,E1⟩
 have E01:Ext w w1:=E0.trans E1
 have kb:=(hbox.out.ext E1).two
 have ks:=(hres.out.ext E1).two
 have kp:=(Zaq hq (hp.out.ext E1)).c0
 cases hr:rightL l nx
 ·have HR:=zh hr
  clear hr
  have hM7:Mod (fun k=>k=w.heap.size+1+1) w1 _:=((Mod.refl _ w1).set1 (.slice none 0 0) (o:=0)).set1 (.int .i64 0) (o:=1)
  obtain⟨q0,q1,_,_⟩:=((hres.out.ext E1).put2 (.slice none 0 0) (.int .i64 0)).two
  go_wp2
  refine bodyPost_ret (v:=tv none 0 0 0) (by simp[results,Tryz.results354,go_sem,q0,q1]) rfl ?_
  exact⟨Mod.toExt E01 hM7 (by intro k hk he;omega),.inl ⟨HR.out,rfl⟩⟩
 ·have HR:=zh hr
  have hl:=(ZbJ hr).1
  clear hr
  go_wp2_with fail
  refine(Zjx Ad c l nx q.pid w1 (H.out.ext E01) (by omega) (Zlc w1 hq (hp.out.ext E1))).mono ?_
  rintro e w2 ⟨A2,c2,rfl,O2,E2⟩
  have S2:=hres.out.ext (E1.trans E2)
  have ks:=S2.two
  have hz:=hsz.out
  have hz1:=E1.size
  have hr2:=zh O2.row
  have hM7:Mod (fun k=>k=w.heap.size+1+1) w2 _:=((Mod.refl _ w2).set1 (.slice A2 l.length c2) (o:=0)).set1 (.int .i64 nx) (o:=1)
  obtain⟨q0,q1,_,_⟩:=(S2.put2 (.slice A2 l.length c2) (.int .i64 nx)).two
  have HZ:=zh (show w.heap.size+3≤w1.heap.size by omega)
  clear hz hz1
  go_wp2
  refine bodyPost_ret (v:=tv A2 l.length c2 nx) (by simp[results,Tryz.results354,go_sem,q0,q1]) rfl ?_
  have hz:=HZ.out
  exact⟨Mod.toExt (E01.trans E2) hM7 (by intro k hk he;omega),.inr ⟨HR.out,A2,c2,rfl,(O2.mod hM7 (fun k hk he=>by have:=(hr2.out k hk).1;omega) (fun k _ hk _=>hk)).lower (by omega)⟩⟩
def ofP (group:Int)(p:Pr):Bool:=Zgc p&&p.group==group
def ofN (group:Int)(l:List Pr)(m:Nat):List Pr:=(l.take m).filter (ofP group)
theorem ZrC {group:Int}{l:List Pr}{m:Nat}{p:Pr}(hp:l[m]?=some p)(h:ofP group p=false):ofN group l (m+1)=ofN group l m:=by
 unfold ofN
 rw[List.take_add_one,hp,List.filter_append]
 simp[h]
theorem Zqb {group:Int}{l:List Pr}{m:Nat}{p:Pr}(hp:l[m]?=some p)(h:ofP group p=true):ofN group l (m+1)=ofN group l m++ [p]:=by
 unfold ofN
 rw[List.take_add_one,hp,List.filter_append]
 simp[h]
theorem Zld {A:Nat→Prop}(Ad:Option Addr)(c:Nat)(l:List Pr)(nx group:Int)(w:World)(h:RdY Rp A w (.slice Ad l.length c) l)(hn:l.length≤100000):
 Calls Tryz.prog 349 #[tv Ad l.length c nx,.int .i64 group] w fun e w'=>∃A' c',e= .returned (.slice A' (l.filter (ofP group)).length c')∧OwnS Rp 234 w.heap.size (fun _=>False) w' (.slice A' (l.filter (ofP group)).length c') (l.filter (ofP group))∧Ext w w':=by
 have H:=zh (Za9 (B:=fun _=>False) h)
 obtain⟨_,_,hv,hc1,_⟩:=h.shape
 simp only[Value.slice.injEq] at hv
 obtain⟨-,-,rfl⟩:=hv
 obtain⟨N,hN⟩:=zm (l.length)
 rw[hN] at H hn hc1⊢
 have HN:=zh hN
 clear h hN
 go_enter Tryz.func349,Tryz.ntmps349
 go_wp2
 go_loopw [5,11] (fun o i wr=>∃ (m k c':Nat) (A':Option Addr),m≤N∧i= .int .i64 m∧o= .slice A' k c'∧k≤m∧Hid ((ofN group l m).length=k)∧Hid (OwnS Rp 234 w.heap.size (fun _=>False) wr (.slice A' k c') (ofN group l m))∧Ext w wr) (fun _ i _=>N - (intOf i).toNat)
 case atStart=>exact⟨0,0,0,none,Nat.zero_le _,rfl,rfl,Nat.le_refl _,zh rfl,zh (OwnS.nil _ _ _ _ _),zX⟩
 case round=>
  obtain⟨m,k,c',A',hm,rfl,rfl,hk,HK,O,hE⟩:=hrel
  by_cases hmn:m<N
  ·obtain⟨b,off,p,rfl,hd,hok,hcell⟩:=Zg9 (H.out.ext hE) hmn
   have hp3:=Pr.len hok
   have hp4:=Zkq hok
   have hws:=hE.size
   cases hlv:ofP group p
   ·have HY:=zh (ZrC hd.out hlv)
    have hlp:=hlv
    unfold ofP at hlp
    cases hl1:Zgc p
    ·have HL1:=zh hl1
     clear hlv hlp hl1
     go_wp2_with(first
      |(refine wpList_load_mid rfl 234 _ rfl b (off+m*43) rfl p.cells _ hcell.out Tryz.underlying234 rfl (ZbI hok) ?_)
      |((refine wpList_store_A rfl 234 _ _ rfl (wr.heap.size) _ rfl rfl 234 _ (Zbw wr _ rfl) (by rw[List.size_toArray];exact ZbI hok) (Eq.trans (b:=43) (by rfl) (Eq.symm (show(p).cells.toArray.size=43 from Pr.size hok))) (Pr.one hok) ?_);intro w2 H2 E2;have E2:Ext wr w2:=E2 wr.heap.size wr ((Ext.refl wr).alloc _) (Nat.le_refl _);have c2:=(Zaq hok H2).c2)
      |(refine wpList_load_row rfl 234 _ rfl _ rfl 234 _ _ _ H2 Tryz.underlying234 rfl (by rw[List.size_toArray];exact ZbI hok) ?_)
      |(refine(Zcs p _ hok).mono ?_;rintro e w3 ⟨rfl,E3⟩;rw[HL1.out];have E03:Ext wr w3:=E2.trans E3))
     go_roundw
     case rel=>exact⟨m+1,k,c',A',by omega,by go_num,rfl,by omega,zh (by rw[HY.out,HK.out]),zh (by rw[HY.out];exact O.out.ext E03),hE.trans E03⟩
     case measure=>simp[intOf];omega
    ·have HL1:=zh hl1
     have hgb:(p.group==group)=false:=by rw[hl1] at hlp;simpa using hlp
     clear hlv hlp hl1
     go_wp2_with(first
      |(refine wpList_load_mid rfl 234 _ rfl b (off+m*43) rfl p.cells _ hcell.out Tryz.underlying234 rfl (ZbI hok) ?_)
      |((refine wpList_store_A rfl 234 _ _ rfl (wr.heap.size) _ rfl rfl 234 _ (Zbw wr _ rfl) (by rw[List.size_toArray];exact ZbI hok) (Eq.trans (b:=43) (by rfl) (Eq.symm (show(p).cells.toArray.size=43 from Pr.size hok))) (Pr.one hok) ?_);intro w2 H2 E2;have E2:Ext wr w2:=E2 wr.heap.size wr ((Ext.refl wr).alloc _) (Nat.le_refl _);have c2:=(Zaq hok H2).c2)
      |(refine wpList_load_row rfl 234 _ rfl _ rfl 234 _ _ _ H2 Tryz.underlying234 rfl (by rw[List.size_toArray];exact ZbI hok) ?_)
      |(refine(Zcs p _ hok).mono ?_;rintro e w3 ⟨rfl,E3⟩;rw[HL1.out];have c2:=Zaa E3 c2;have E03:Ext wr w3:=E2.trans E3))
     go_roundw
     case rel=>exact⟨m+1,k,c',A',by omega,by go_num,rfl,by omega,zh (by rw[HY.out,HK.out]),zh (by rw[HY.out];exact O.out.ext E03),hE.trans E03⟩
     case measure=>simp[intOf];omega
   ·have hlp:=hlv
    unfold ofP at hlp
    simp only[Bool.and_eq_true,beq_iff_eq] at hlp
    obtain⟨hl1,hl2⟩:=hlp
    have HL1:=zh hl1
    have HY:=zh (Zqb hd.out hlv)
    have hgb:(p.group==group)=true:=by simpa using hl2
    clear hlv hl1
    go_wp2_with(first
     |(refine wpList_load_mid rfl 234 _ rfl b (off+m*43) rfl p.cells _ hcell.out Tryz.underlying234 rfl (ZbI hok) ?_)
     |((refine wpList_store_A rfl 234 _ _ rfl (wr.heap.size) _ rfl rfl 234 _ (Zbw wr _ rfl) (by rw[List.size_toArray];exact ZbI hok) (Eq.trans (b:=43) (by rfl) (Eq.symm (show(p).cells.toArray.size=43 from Pr.size hok))) (Pr.one hok) ?_);intro w2 H2 E2;have E2:Ext wr w2:=E2 wr.heap.size wr ((Ext.refl wr).alloc _) (Nat.le_refl _);have c2:=(Zaq hok H2).c2)
     |(refine wpList_load_row rfl 234 _ rfl _ rfl 234 _ _ _ H2 Tryz.underlying234 rfl (by rw[List.size_toArray];exact ZbI hok) ?_)
     |(refine wpList_load_row rfl 234 _ rfl _ rfl 234 _ _ _ (Blk.ext H2 E3) Tryz.underlying234 rfl (by rw[List.size_toArray];exact ZbI hok) ?_)
     |(refine(Zcs p _ hok).mono ?_;rintro e w3 ⟨rfl,E3⟩;rw[HL1.out];have c2:=Zaa E3 c2;have E03:Ext wr w3:=E2.trans E3;have hws3:=E03.size)
     |(at_builtin;refine wpList_app (e:=Rp) (base:=w.heap.size) (B:=fun _=>False) (A:=fun _=>False) rfl (.tmp 23) (.tmp 25) rfl Tryz.underlying77 Zfo rfl ((O.out.ext E03).alloc _) rfl (RdY.singleB (cs:=p.cells) (Zia (fun _=>False) _ hok) (Blk.at_ _ _ rfl)) rfl (fun _ _ h=>h.elim) (N:=k+1) (by have:=HK.out;rw[this];rfl) (by simp[maxLen];omega) (by omega) (by simp;omega) ?_;intro A5 c5 w5 o5 M5 D5))
    have E5:Ext w w5:=Below.trans ((hE.trans E03).alloc _) D5
    have o5:=zh o5
    clear M5 D5
    go_roundw
    case rel=>exact⟨m+1,k+1,c5,A5,by omega,by go_num,rfl,by omega,zh (by rw[HY.out,List.length_append,HK.out];rfl),zh (by rw[HY.out];exact o5.out),E5⟩
    case measure=>simp[intOf];omega
  ·obtain rfl:m=N:=by omega
   have hf:ofN group l m=l.filter (ofP group):=by unfold ofN;rw[←HN.out,List.take_length]
   have O2:=O.out
   have hk2:=HK.out
   rw[hf] at O2 hk2
   have O2:=zh O2
   have HK2:=zh hk2
   clear hk2 hf
   go_wp2
   go_ret
   rw[HK2.out]
   exact⟨A',c',rfl,O2.out,hE⟩
theorem ZnD:(Tryz.prog.info? 3).map (fun i=>(i.zero,i.size,i.bytes))=some (some (.int .i64 0),Ib.size,8):=by kernel_rfl
def Zle (l:List Pr)(nx group:Int):List Int:=if rightL l nx=true then(l.filter (ofP group)).map (·.pid) else[]
theorem Zhz {A:Nat→Prop}(Ad:Option Addr)(c:Nat)(l:List Pr)(nx group:Int)(w:World)(h:RdY Rp A w (.slice Ad l.length c) l):
 Calls Tryz.prog 309 #[tv Ad l.length c nx,.int .i64 group] w fun e w'=>∃A' c',e= .returned (.slice A' (Zle l nx group).length c')∧OwnS Ib 3 w.heap.size (fun _=>False) w' (.slice A' (Zle l nx group).length c') (Zle l nx group)∧Ext w w':=by
 have H:=zh (Za9 (B:=fun _=>False) h)
 have hbox:=zh (Blk.new w 79 #[.slice Ad l.length c,.int .i64 nx])
 clear h
 cases hr:rightL l nx
 ·have HR:=zh hr
  have HM:=zh (show Zle l nx group=[] by unfold Zle;rw[hr];rfl)
  clear hr
  go_enter Tryz.func309,Tryz.ntmps309
  go_wp2_with fail
  refine(ZaA Ad c l nx _ (H.out.ext zX)).mono ?_
  rintro e w1 ⟨rfl,E1⟩
  rw[HR.out]
  have E01:Ext w w1:=zX
  go_wp2
  go_ret
  rw[HM.out]
  exact⟨none,0,rfl,OwnS.nil _ _ _ _ _,E01⟩
 ·have HR:=zh hr
  have hl:=(ZbJ hr).1
  have HM:=zh (show Zle l nx group=(l.filter (ofP group)).map (·.pid) by unfold Zle;rw[hr];rfl)
  clear hr
  go_enter Tryz.func309,Tryz.ntmps309
  go_wp2_with fail
  refine(ZaA Ad c l nx _ (H.out.ext zX)).mono ?_
  rintro e w1 ⟨rfl,E1⟩
  rw[HR.out]
  have E01:Ext w w1:=zX
  have kb:=(hbox.out.ext E1).two
  clear E1 hbox
  go_wp2_with fail
  refine(Zld Ad c l nx group _ (H.out.ext E01) (by omega)).mono ?_
  rintro e w2 ⟨A2,c2,rfl,O2,E2⟩
  have E02:Ext w w2:=E01.trans E2
  obtain⟨L,hL⟩:=zm (l.filter (ofP group))
  have hLn:L.length≤32:=by rw[←hL];exact Nat.le_trans (List.length_filter_le _ _) hl
  rw[hL] at O2 HM⊢
  obtain⟨_,_,hv,hc1,_⟩:=O2.shape
  simp only[Value.slice.injEq] at hv
  obtain⟨-,-,rfl⟩:=hv
  obtain⟨N,hN⟩:=zm (L.length)
  rw[hN] at O2 hLn hc1⊢
  have HN:=zh hN
  have HO:=zh (Za9 (B:=fun _=>False) O2.y)
  clear hN hL O2 kb
  go_wp2
  go_loopw [5,15] (fun o i wr=>∃ (m c':Nat) (A':Option Addr),m≤N∧i= .int .i64 m∧o= .slice A' m c'∧Hid (OwnS Ib 3 w2.heap.size (fun _=>False) wr (.slice A' m c') ((L.take m).map (·.pid)))∧Hid (Ext w2 wr)) (fun _ i _=>N - (intOf i).toNat)
  case atStart=>exact⟨0,0,none,Nat.zero_le _,rfl,rfl,zh (OwnS.nil _ _ _ _ _),zh (Ext.refl _)⟩
  case round=>
   obtain⟨m,c',A',hm,rfl,rfl,O,hE⟩:=hrel
   by_cases hmn:m<N
   ·obtain⟨b,off,p,rfl,hd,hok,hcell⟩:=Zg9 (HO.out.ext hE.out) hmn
    have hws:=hE.out.size
    have HY:=zh (show(L.take (m+1)).map (·.pid)=(L.take m).map (·.pid)++ [p.pid] by rw[List.take_add_one,hd.out];simp)
    have HZ:=zh (show((L.take m).map (·.pid)).length=m by rw[List.length_map,List.length_take];have:=HN.out;omega)
    go_wp2_with(first
     |(refine wpList_load_mid rfl 234 _ rfl b (off+m*43) rfl p.cells _ hcell.out Tryz.underlying234 rfl (ZbI hok) ?_)
     |((refine wpList_store_A rfl 234 _ _ rfl (wr.heap.size) _ rfl rfl 234 _ (Zbw wr _ rfl) (by rw[List.size_toArray];exact ZbI hok) (Eq.trans (b:=43) (by rfl) (Eq.symm (show(p).cells.toArray.size=43 from Pr.size hok))) (Pr.one hok) ?_);intro w4 H2 E4;have E4:Ext wr w4:=E4 wr.heap.size wr ((Ext.refl wr).alloc _) (Nat.le_refl _);have c0:=(Zaq hok H2).c0;have hws4:=E4.size)
     |(at_builtin;refine wpList_app (e:=Ib) (base:=w2.heap.size) (B:=fun _=>False) (A:=fun _=>False) rfl (.tmp 19) (.tmp 22) rfl Tryz.underlying109 ZnD rfl ((O.out.ext E4).alloc _) rfl (RdY.singleB (e:=Ib) (cs:=[.int .i64 p.pid]) (d:=p.pid) rfl (Blk.at_ _ _ rfl)) rfl (fun _ _ h=>h.elim) (N:=m+1) (by rw[HZ.out];rfl) (by simp[maxLen];omega) (by omega) (by simp;omega) ?_;intro A5 c5 w5 o5 M5 D5))
    have E5:Hid (Ext w2 w5):=zh (Below.trans ((hE.out.trans E4).alloc _) D5)
    have o5:=zh o5
    clear M5 D5
    go_roundw
    case rel=>exact⟨m+1,c5,A5,by omega,by go_num,rfl,zh (by rw[HY.out];exact o5.out),E5⟩
    case measure=>simp[intOf];omega
   ·obtain rfl:m=N:=by omega
    have hf:Zle l nx group=(L.take m).map (·.pid):=by rw[HM.out,List.take_of_length_le (by have:=HN.out;omega)]
    have HF:=zh hf
    have HFL:=zh (show((L.take m).map (·.pid)).length=m by rw[List.length_map,List.length_take];have:=HN.out;omega)
    clear hf
    go_wp2
    go_ret
    rw[HF.out,HFL.out]
    exact⟨A',c',rfl,O.out.lower E02.size,E02.trans hE.out⟩
end Go.Proofs.YtmmhcllibpmfnaaGreatDoor.Tb
namespace Go.Proofs.YtmmhcllibpmfnaaGreatDoor.Sg
open Go.RowKit Go.Kb Go.Kb.Bits
def Zet (x y:ByteArray):Bool:=x.toList==y.toList
def Zox (name:ByteArray):Option Nat:=(List.range 29).find? fun k=>Zet name (nameB k)
def idxL (name:ByteArray):Int:=match Zox name with|some k=>(k:Int)|none=> -1
theorem ZdO {name:ByteArray}{k:Nat}(hk:k<29)(h:Zet name (nameB k)=true)(hn:∀j:Nat,j<k→Zet name (nameB j)=false):idxL name=(k:Int):=by
 have:Zox name=some k:=by
  unfold Zox
  rw[List.find?_range_eq_some]
  exact⟨h,by simpa using hk,fun j hj=>by simp[hn j hj]⟩
 unfold idxL
 rw[this]
theorem Zfm {name:ByteArray}(hn:∀j:Nat,j<29→Zet name (nameB j)=false):idxL name= -1:=by
 have:Zox name=none:=by
  unfold Zox
  rw[List.find?_range_eq_none]
  exact fun j hj=>by simp[hn j hj]
 unfold idxL
 rw[this]
theorem ZnE (k:Nat)(hk:k<29):namesA[k]?=some (.string (nameB k)):=by
 unfold namesA nameB
 have hl:k<ZkO.length:=hk
 simp[hl]
theorem Zcr (b:Nat)(name:ByteArray)(w:World)(hb:Blk w b 411 namesA):Calls Tryz.prog 392 #[.slice (some ⟨b,0,none⟩) 29 29,.string name] w fun e w'=>e= .returned (.int .i64 (idxL name))∧Ext w w':=by
 have HS:=zh fun k hk h hn=>ZdO (name:=name) (k:=k) hk h hn
 have HN:=zh fun hn=>Zfm (name:=name) hn
 generalize idxL name=r at*
 go_enter Tryz.func392,Tryz.ntmps392
 go_wp2
 go_loopw [8] (fun i wr=>∃k:Nat,k≤29∧i= .int .i64 k∧Hid (∀j:Nat,j<k→Zet name (nameB j)=false)∧Ext w wr) (fun i _=>29 - (intOf i).toNat)
 case atStart=>exact⟨0,by omega,rfl,zh fun j hj=>by omega,zX⟩
 case round=>
  obtain⟨k,hk,rfl,hj,hE⟩:=hrel
  by_cases hlt:k<29
  ·have k1:(k:Int)<29:=by omega
   have k2:(0:Int)≤(k:Int):=by omega
   have hc:w.cell? ⟨b,k,none⟩=some (.string (nameB k)):=by rw[hb.cell];exact ZnE k hlt
   have hc:=Zaa hE hc
   have HSk:=zh (HS.out k hlt)
   have HJk:=zh fun(h:Zet name (nameB k)=false) (j:Nat) (hjk:j<k+1)=>show Zet name (nameB j)=false by
    rcases Nat.lt_succ_iff_lt_or_eq.1 hjk with h1|h1
    ·exact hj.out j h1
    ·rw[h1];exact h
   have hq0:∃q,Zet name (nameB k)=q:=⟨_,rfl⟩
   obtain⟨q,hq⟩:=hq0
   have HQ:=zh hq
   have hq1:(name.toList== (nameB k).toList)=q:=hq
   clear hq
   cases q
   ·go_wp2
    go_roundw
    case rel=>exact⟨k+1,by omega,by simp,zh (HJk.out HQ.out),hE⟩
    case measure=>first|(simp[intOf];omega)|(show 29 - _<_;simp[intOf];omega)
   ·go_wp2
    go_ret
    exact⟨by rw[HSk.out HQ.out hj.out];rfl,hE⟩
  ·obtain rfl:k=29:=by omega
   have hr:=HN.out hj.out
   go_wp2
   go_ret
   exact⟨by rw[hr];rfl,hE⟩
def numL (name:ByteArray):Int×Bool:=if name.toList.isEmpty then(0,false) else(max (idxL name) 0,decide (0<idxL name))
theorem ZaF (name:ByteArray)(w:World):Calls Tryz.prog 363 #[.string name] w fun e w'=>e= .returned (.tuple #[.int .i64 (numL name).1,.bool (numL name).2])∧Ext w w':=by
 have hi:=Ze0
 have h1:=Zgr
 have hz:=Ze1
 have hIX:=zh fun b w' h=>Zcr b name w' h
 have hnum:numL name=if name.toList.isEmpty then(0,false) else(max (idxL name) 0,decide (0<idxL name)):=rfl
 generalize numL name=nl at*
 generalize idxL name=r at*
 have hN:=zh fun w'=>Zen w'
 generalize hA:namesA=A at*
 have hzA:(#[.string ⟨#[]⟩,.string ⟨#[]⟩,.string ⟨#[]⟩,.string ⟨#[]⟩,.string ⟨#[]⟩,.string ⟨#[]⟩,.string ⟨#[]⟩,.string ⟨#[]⟩,.string ⟨#[]⟩,.string ⟨#[]⟩,.string ⟨#[]⟩,.string ⟨#[]⟩,.string ⟨#[]⟩,.string ⟨#[]⟩,.string ⟨#[]⟩,.string ⟨#[]⟩,.string ⟨#[]⟩,.string ⟨#[]⟩,.string ⟨#[]⟩,.string ⟨#[]⟩,.string ⟨#[]⟩,.string ⟨#[]⟩,.string ⟨#[]⟩,.string ⟨#[]⟩,.string ⟨#[]⟩,.string ⟨#[]⟩,.string ⟨#[]⟩,.string ⟨#[]⟩,.string ⟨#[]⟩]:Array Value).size=A.size:=by rw[hz];rfl
 clear hA
 have HZA:=zh hzA
 have H1:=zh h1
 clear hzA h1
 have hq0:∃q,name.toList.isEmpty=q:=⟨_,rfl⟩
 obtain⟨q,hq⟩:=hq0
 cases q
 ·rw[hq,if_neg (by decide)] at hnum
  subst hnum
  go_enter Tryz.func363,Tryz.ntmps363
  go_wp2_with(first
   |((go_at_call 332;(with_reducible refine(hN.out _).mono ?_);rintro e w1 ⟨rfl,E1⟩))
   |(refine wpList_store_A rfl 411 _ _ rfl w1.heap.size _ rfl rfl 411 _ (Blk.at_ _ _ rfl) hi HZA.out H1.out ?_;intro w2 H2 E2;have E2:Ext w w2:=E2 w.heap.size w zX (by have:=E1.size;omega))
   |((go_at_call 392;(with_reducible refine(hIX.out _ _ H2).mono ?_);rintro e w3 ⟨rfl,E3⟩)))
  all_goals go_ret2
  all_goals refine⟨?_,zX⟩
  all_goals show Ending.returned (Value.tuple #[Value.int .i64 _,Value.bool _])=Ending.returned (Value.tuple #[Value.int .i64 _,Value.bool _])
  all_goals (congr 4;first|done|(congr 1;omega))
 ·rw[hq,if_pos rfl] at hnum
  subst hnum
  go_enter Tryz.func363,Tryz.ntmps363
  go_wp2
  go_ret2
  exact⟨rfl,zX⟩
def rowsT:List (Int×ByteArray×Int×Bool):=[(1,⟨#[72,85,80]⟩,1,true),(2,⟨#[73,78,84]⟩,1,true),(3,⟨#[81,85,73,84]⟩,2,true),(4,⟨#[73,76,76]⟩,2,true),(5,⟨#[84,82,65,80]⟩,2,false),(6,⟨#[65,66,82,84]⟩,2,true),(7,⟨#[66,85,83]⟩,2,false),(8,⟨#[70,80,69]⟩,2,true),(9,⟨#[75,73,76,76]⟩,1,true),(10,⟨#[85,83,82,49]⟩,1,true),(11,⟨#[83,69,71,86]⟩,2,true),(12,⟨#[85,83,82,50]⟩,1,true),(13,⟨#[80,73,80,69]⟩,1,true),(14,⟨#[65,76,82,77]⟩,1,true),(15,⟨#[84,69,82,77]⟩,1,true),(17,⟨#[67,72,76,68]⟩,3,false),(18,⟨#[67,79,78,84]⟩,5,false),(19,⟨#[83,84,79,80]⟩,4,false),(20,⟨#[84,83,84,80]⟩,4,false),(21,⟨#[84,84,73,78]⟩,4,false),(22,⟨#[84,84,79,85]⟩,4,false),(28,⟨#[87,73,78,67,72]⟩,3,false)]
def ZsJ (r:Int×ByteArray×Int×Bool):List Value:=[.int .i64 r.1,.string r.2.1,.int .i64 r.2.2.1,.bool r.2.2.2]
def Zlf:Array Value:=(rowsT.flatMap ZsJ).toArray
theorem Zin (w:World):Calls Tryz.prog 67 #[] w fun e w'=>e= .returned (.slice (some ⟨w.heap.size,0,none⟩) 22 22)∧Blk w' w.heap.size 193 Zlf∧Ext w w':=by
 go_enter Tryz.func67,Tryz.ntmps67
 go_wp2
 go_ret
 exact⟨rfl,Blk.at_ _ _ rfl,zX⟩
abbrev Row:=Int×ByteArray×Int×Bool
def Zsm:Row:=(0,⟨#[]⟩,0,false)
def rowAt (k:Nat):Row:=rowsT.getD k Zsm
def rowL (sig:Int):Row:=(rowsT.find? fun r=>r.1==sig).getD Zsm
theorem ZnF:rowsT.length=22:=rfl
theorem Zes {p:Row→Bool}{k:Nat}(hk:k<22)(h:p (rowAt k)=true)(hn:∀j:Nat,j<k→p (rowAt j)=false):rowsT.find? p=some (rowAt k):=by
 rw[List.find?_eq_some_iff_getElem]
 have e:∀j:Nat,j<22→∀h:j<rowsT.length,rowsT[j]=rowAt j:=fun j hj h=>by unfold rowAt;simp[h]
 exact⟨h,k,hk,e k hk hk,fun j hj=>by rw[e j (by omega) (by rw[ZnF];omega),hn j hj];rfl⟩
theorem Zer {p:Row→Bool}(hn:∀j:Nat,j<22→p (rowAt j)=false):rowsT.find? p=none:=by
 rw[List.find?_eq_none]
 intro r hr
 obtain⟨j,hj,rfl⟩:=List.getElem_of_mem hr
 have:=hn j hj
 unfold rowAt at this
 simp only[List.getD_eq_getElem?_getD,List.getElem?_eq_getElem hj,Option.getD_some] at this
 rw[this]
 decide
theorem Zio (k:Nat)(hk:k<22):Zlf[k*4]?=some (.int .i64 (rowAt k).1)∧Zlf[k*4+1]?=some (.string (rowAt k).2.1)∧Zlf[k*4+2]?=some (.int .i64 (rowAt k).2.2.1)∧Zlf[k*4+3]?=some (.bool (rowAt k).2.2.2):=by
 rcases k with _|_|_|_|_|_|_|_|_|_|_|_|_|_|_|_|_|_|_|_|_|_|k
 all_goals first|exact⟨rfl,rfl,rfl,rfl⟩|omega
theorem Zlg {sig:Int}{k:Nat}(hk:k<22)(h:(rowAt k).1=sig)(hn:∀j:Nat,j<k→¬(rowAt j).1=sig):rowL sig=rowAt k:=by
 unfold rowL
 rw[Zes hk (by simpa using h) fun j hj=>by simpa using hn j hj]
 rfl
theorem ZgE {sig:Int}(hn:∀j:Nat,j<22→¬(rowAt j).1=sig):rowL sig=Zsm:=by
 unfold rowL
 rw[Zer fun j hj=>by simpa using hn j hj]
 rfl
theorem Zip (k:Nat)(hk:k<22):isL (rowAt k).1=true:=by
 have:∀k:Nat,k<22→isL (rowAt k).1=true:=by decide+kernel
 exact this k hk
theorem Zqc {sig:Int}(h:isL sig=true):∃j:Nat,j<22∧(rowAt j).1=sig:=by
 have hb:=Zel h
 have:∀k:Nat,k<29→isL (k:Int)=true→∃j:Nat,j<22∧(rowAt j).1=(k:Int):=by decide+kernel
 obtain⟨j,h1,h2⟩:=this sig.toNat (by omega) (by rw[show((sig.toNat:Nat):Int)=sig by omega];exact h)
 exact⟨j,h1,by omega⟩
theorem Zld (sig:Int)(w:World):Calls Tryz.prog 68 #[.int .i64 sig] w fun e w'=>e= .returned (.tuple #[.agg (ZsJ (rowL sig)).toArray,.bool (isL sig)])∧Ext w w':=by
 have HS:=zh fun k hk h hn=>Zlg (sig:=sig) (k:=k) hk h hn
 have HN:=zh fun hn=>ZgE (sig:=sig) hn
 have HI:=zh fun j hj=>Zip j hj
 have HR:=zh fun h=>Zqc (sig:=sig) h
 generalize hrl:rowL sig=rl at*
 generalize hil:isL sig=il at*
 have HIL:=zh hil
 clear hrl hil
 go_enter Tryz.func68,Tryz.ntmps68
 go_wp2_with((go_at_call 67;(with_reducible refine(Zin _).mono ?_);rintro e w1 ⟨rfl,hB,E1⟩))
 simp only[World.size_alloc] at hB
 have hE0:Ext (w.alloc (.cells #[.int .i64 0,.string ⟨#[]⟩,.int .i64 0,.bool false] 193)) w1:=E1
 have hZ:=(Blk.new w 193 #[.int .i64 0,.string ⟨#[]⟩,.int .i64 0,.bool false]).ext hE0
 have hE1:Ext w w1:=Ext.trans ((Ext.refl w).alloc _) hE0
 have HB:=zh hB
 have HZ:=zh hZ
 clear hB hZ E1 hE0
 go_loopw [8] (fun i wr=>∃k:Nat,k≤22∧i= .int .i64 k∧Hid (∀j:Nat,j<k→¬(rowAt j).1=sig)∧Ext w1 wr) (fun i _=>22 - (intOf i).toNat)
 case atStart=>exact⟨0,by omega,rfl,zh fun j hj=>by omega,Ext.refl _⟩
 case round=>
  obtain⟨k,hk,rfl,hj,hE⟩:=hrel
  have hZr:=HZ.out.ext hE
  have z0:=hZr.cell 0
  have z1:=hZr.cell 1
  have z2:=hZr.cell 2
  have z3:=hZr.cell 3
  have y0:=hZr.frozen 0
  have y1:=hZr.frozen 1
  have y2:=hZr.frozen 2
  have y3:=hZr.frozen 3
  by_cases hlt:k<22
  ·have k1:(k:Int)<22:=by omega
   have k2:(0:Int)≤(k:Int):=by omega
   obtain⟨r0,r1,r2,r3⟩:=Zio k hlt
   have hBr:=HB.out.ext hE
   have c0:=hBr.cell (k*4)
   have c1:=hBr.cell (k*4+1)
   have c2:=hBr.cell (k*4+2)
   have c3:=hBr.cell (k*4+3)
   rw[r0] at c0
   rw[r1] at c1
   rw[r2] at c2
   rw[r3] at c3
   have HJ:=zh fun(h:¬(rowAt k).1=sig) (j:Nat) (hjk:j<k+1)=>show ¬(rowAt j).1=sig by
    rcases Nat.lt_succ_iff_lt_or_eq.1 hjk with h1|h1
    ·exact hj.out j h1
    ·rw[h1];exact h
   have HSk:=zh fun h=>HS.out k hlt h hj.out
   have hik:=HI.out k hlt
   have HIK:=zh hik
   clear r0 r1 r2 r3 hik
   generalize hrow:rowAt k=row at*
   have HRW:=zh hrow
   clear hrow
   obtain⟨n,s,d,wi⟩:=row
   simp only at c0 c1 c2 c3 HSk HIK HJ
   by_cases hns:n=sig
   ·have hrl:=HSk.out hns
    have hil:true=il:=by rw[←HIL.out,←hns];exact HIK.out.symm
    subst hns hil
    have HRL:=zh hrl
    clear hrl HSk HJ HRW HIK HIL HS HN HI HR
    have z0:=fun o=>(hZr.alloc o).cell 0
    have z1:=fun o=>(hZr.alloc o).cell 1
    have z2:=fun o=>(hZr.alloc o).cell 2
    have z3:=fun o=>(hZr.alloc o).cell 3
    have y0:=fun o=>(hZr.alloc o).frozen 0
    have y1:=fun o=>(hZr.alloc o).frozen 1
    have y2:=fun o=>(hZr.alloc o).frozen 2
    have y3:=fun o=>(hZr.alloc o).frozen 3
    go_wp2
    refine bodyPost_ret_by (Go.Kb.Zab Tryz.results68 _ _ w.heap.size 193 #[.int .i64 n,.string s,.int .i64 d,.bool wi] _ _ rfl (.bool true) rfl (((((hZr.alloc _).set_ 0 (.int .i64 n)).set_ 1 (.string s)).set_ 2 (.int .i64 d)).set_ 3 (.bool wi)) Tryz.underlying193 rfl (by kernel_rfl)) rfl ?_
    refine⟨by rw[HRL.out];rfl,?_⟩
    refine Ext.setNew (Ext.setNew (Ext.setNew (Ext.setNew (Ext.trans hE1 zX) ?_ _) ?_ _) ?_ _) ?_ _<;>exact Nat.le_refl _
   ·have hns':(n==sig)=false:=by simpa using hns
    go_wp2
    go_roundw
    case rel=>exact⟨k+1,by omega,by simp,zh (HJ.out hns),zX⟩
    case measure=>first|(simp[intOf];omega)|(show 22 - _<_;simp[intOf];omega)
  ·obtain rfl:k=22:=by omega
   have hrl:=HN.out hj.out
   have hil:il=false:=by
    cases hq:il
    ·rfl
    ·obtain⟨j,h1,h2⟩:=HR.out hq
     exact absurd h2 (hj.out j h1)
   subst hrl hil
   clear HS HN HI HR HIL hj
   go_wp2
   refine bodyPost_ret_by (Go.Kb.Zab Tryz.results68 _ _ w.heap.size 193 #[.int .i64 0,.string ⟨#[]⟩,.int .i64 0,.bool false] _ _ rfl (.bool false) rfl ((((hZr.set_ 0 (.int .i64 0)).set_ 1 (.string ⟨#[]⟩)).set_ 2 (.int .i64 0)).set_ 3 (.bool false)) Tryz.underlying193 rfl (by kernel_rfl)) rfl ?_
   refine⟨rfl,?_⟩
   refine Ext.setNew (Ext.setNew (Ext.setNew (Ext.setNew (Ext.trans hE1 zX) ?_ _) ?_ _) ?_ _) ?_ _<;>exact Nat.le_refl _
def wireL (sig:Int):Bool:=(rowL sig).2.2.2
theorem ZnG (sig:Int):wireL sig=(isL sig&&decide (sig≤15)&&!(sig==5||sig==7)):=by
 by_cases hs:isL sig=true
 ·have hb:=Zel hs
  have:∀k:Nat,k<29→isL (k:Int)=true→wireL (k:Int)=(isL (k:Int)&&decide ((k:Int)≤15)&&!((k:Int)==5|| (k:Int)==7)):=by decide+kernel
  obtain⟨k,rfl⟩:=Int.eq_ofNat_of_zero_le (show 0≤sig by omega)
  exact this k (by omega) hs
 ·unfold wireL
  rw[ZgE fun j hj h=>hs (by rw[←h];exact Zip j hj)]
  simp[hs,Zsm]
def rnumL (name:ByteArray):Int×Bool:=match rowsT.find? (fun r=>r.2.1.toList==name.toList) with|some r=>(r.1,true)|none=>(0,false)
theorem Zlh {name:ByteArray}{k:Nat}(hk:k<22)(h:((rowAt k).2.1.toList==name.toList)=true)(hn:∀j:Nat,j<k→((rowAt j).2.1.toList==name.toList)=false):rnumL name=((rowAt k).1,true):=by
 unfold rnumL
 rw[Zes hk h hn]
theorem Zeu {name:ByteArray}(hn:∀j:Nat,j<22→((rowAt j).2.1.toList==name.toList)=false):rnumL name=(0,false):=by
 unfold rnumL
 rw[Zer hn]
theorem Zjy {x y:ByteArray}(h:Zet x y=true):x.toList=y.toList:=by simpa [Zet] using h
theorem ZnH (name:ByteArray):rnumL name=numL name:=by
 have tab:∀k:Nat,k<29→isL (k:Int)=true→rnumL (nameB k)=((k:Int),true):=by decide+kernel
 have tabE:∀k:Nat,k<29→isL (k:Int)=false→(nameB k).toList.isEmpty=true:=fun k hk h=>by rw[Zhg k hk,h];rfl
 have rows:∀j:Nat,j<22→∃k:Nat,k<29∧(rowAt j).2.1=nameB k∧isL (k:Int)=true:=by decide+kernel
 have congrR:∀x y:ByteArray,x.toList=y.toList→rnumL x=rnumL y:=fun x y h=>by unfold rnumL;rw[h]
 unfold numL
 by_cases he:name.toList.isEmpty=true
 ·rw[if_pos he]
  refine Zeu fun j hj=>?_
  obtain⟨k,hk,h1,h2⟩:=rows j hj
  have h3:=Zhg k hk
  rw[h2] at h3
  rw[h1]
  rw[List.isEmpty_iff] at he
  rw[he]
  cases hq:(nameB k).toList with
  |nil=>rw[hq] at h3;simp at h3
  |cons a l=>rfl
 ·rw[if_neg he]
  cases ho:Zox name with
  |some k=>
   unfold Zox at ho
   rw[List.find?_range_eq_some] at ho
   obtain⟨h1,h2,h3⟩:=ho
   have hk:k<29:=by simpa using h2
   have hl:=Zjy h1
   have hi:isL (k:Int)=true:=by
    cases hq:isL (k:Int)
    ·have:=tabE k hk hq
     rw[←hl] at this
     exact absurd this he
    ·rfl
   have hb:=Zel hi
   have hx:idxL name=(k:Int):=ZdO hk h1 fun j hj=>by simpa using h3 j hj
   rw[congrR name (nameB k) hl,tab k hk hi,hx]
   simp only[Prod.mk.injEq]
   refine⟨by omega,?_⟩
   simp;omega
  |none=>
   have hx:idxL name= -1:=by unfold idxL;rw[ho]
   unfold Zox at ho
   rw[List.find?_range_eq_none] at ho
   rw[hx]
   refine(Zeu fun j hj=>?_).trans rfl
   obtain⟨k,hk,h1,h2⟩:=rows j hj
   have:=ho k hk
   rw[h1]
   cases hq:(nameB k).toList==name.toList
   ·rfl
   ·exfalso
    have hq2:(nameB k).toList=name.toList:=by simpa using hq
    simp[Zet,hq2] at this
theorem Zli (sig:Int)(w:World):Calls Tryz.prog 37 #[.int .i64 sig] w fun e w'=>e= .returned (.bool (wireL sig))∧Ext w w':=by
 have hO:=fun w'=>Zld sig w'
 have hn:wireL sig=(rowL sig).2.2.2:=rfl
 generalize wireL sig=s0 at*
 generalize rowL sig=rr at*
 obtain⟨n,s,d,wi⟩:=rr
 simp only[ZsJ] at hO
 simp only at hn
 subst hn
 generalize isL sig=il at*
 have HO:=zh hO
 clear hO
 go_enter Tryz.func37,Tryz.ntmps37
 go_wp2_with((go_at_call 68;(with_reducible refine(HO.out _).mono ?_);rintro e w1 ⟨rfl,E1⟩))
 go_ret
 exact⟨rfl,zX⟩
theorem Ziq (sig:Int)(w:World):Calls Tryz.prog 287 #[.int .i64 sig] w fun e w'=>e= .returned (.bool (wireL sig))∧Ext w w':=by
 have hW:=ZnG sig
 have HI:=zh fun w'=>Zds sig w'
 generalize wireL sig=wl at*
 generalize isL sig=il at*
 by_cases h5:sig=5
 ·subst h5
  have:wl=false:=by rw[hW];simp
  subst this
  clear hW
  go_enter Tryz.func287,Tryz.ntmps287
  go_wp2
  go_ret
  exact⟨rfl,zX⟩
 ·by_cases h7:sig=7
  ·subst h7
   have:wl=false:=by rw[hW];simp
   subst this
   clear hW h5
   go_enter Tryz.func287,Tryz.ntmps287
   go_wp2
   go_ret
   exact⟨rfl,zX⟩
  ·have b5:(sig==5)=false:=by simpa using h5
   have b7:(sig==7)=false:=by simpa using h7
   rw[b5,b7] at hW
   clear h5 h7
   cases il
   ·have:wl=false:=by rw[hW];simp
    subst this
    clear hW
    go_enter Tryz.func287,Tryz.ntmps287
    go_wp2_with((go_at_call 296;(with_reducible refine(HI.out _).mono ?_);rintro e w1 ⟨rfl,E1⟩))
    go_ret
    exact⟨rfl,zX⟩
   ·by_cases h15:sig≤15
    ·have:wl=true:=by rw[hW];simpa using h15
     subst this
     clear hW
     go_enter Tryz.func287,Tryz.ntmps287
     go_wp2_with((go_at_call 296;(with_reducible refine(HI.out _).mono ?_);rintro e w1 ⟨rfl,E1⟩))
     go_ret
     exact⟨by simp,zX⟩
    ·have:wl=false:=by rw[hW];simpa using h15
     subst this
     clear hW
     go_enter Tryz.func287,Tryz.ntmps287
     go_wp2_with((go_at_call 296;(with_reducible refine(HI.out _).mono ?_);rintro e w1 ⟨rfl,E1⟩))
     go_ret
     exact⟨by simp;omega,zX⟩
abbrev U64 (s:Int):Prop:=0≤s∧s<18446744073709551616
def bitL (sig:Int):Int:=if isL sig then pw sig else 0
def hasL (s sig:Int):Bool:=isL sig&&onL s sig
def Zoy (s sig:Int):Int:=if isL sig then ZbD s sig true else s
def ZgX (s sig:Int):Int:=if isL sig then ZbD s sig false else s
theorem ZgF {sig:Int}(h:isL sig=true):0≤sig∧sig≤63:=by have:=Zel h;omega
theorem Zqd {s:Int}(h:U64 s)(sig:Int):U64 (Zoy s sig):=by
 unfold Zoy
 by_cases hs:isL sig=true
 ·rw[if_pos hs];exact ZcT true h (ZgF hs)
 ·rw[if_neg hs];exact h
theorem Zlj {s:Int}(h:U64 s)(sig:Int):U64 (ZgX s sig):=by
 unfold ZgX
 by_cases hs:isL sig=true
 ·rw[if_pos hs];exact ZcT false h (ZgF hs)
 ·rw[if_neg hs];exact h
theorem Zir {s:Int}(h:U64 s):bits .and .u64 s 0=0∧bits .or .u64 s 0=s∧bits .andNot .u64 s 0=s:=by
 obtain⟨h0,h1⟩:=h
 rw[u64_and s 0 h0 h1 (by omega) (by omega),u64_or s 0 h0 h1 (by omega) (by omega),u64_andNot s 0 h0 h1 (by omega) (by omega)]
 obtain⟨X,rfl⟩:=Int.eq_ofNat_of_zero_le h0
 have hx:X<2 ^ 64:=by omega
 have e:=Zb0 64 X 0 hx (by decide)
 simp only[Nat.and_zero,Nat.add_zero,Nat.sub_zero] at e
 have e2:(18446744073709551615:Nat)=2 ^ 64 - 1:=by decide
 refine⟨by simp,by simp,?_⟩
 simp only[Int.toNat_natCast,Int.toNat_zero,Nat.sub_zero]
 rw[e2,e]
theorem ZrD {s:Int}(h:U64 s)(sig:Int):bits .or .u64 s (bitL sig)=Zoy s sig:=by
 unfold bitL Zoy
 cases hs:isL sig
 ·simp[(Zir h).2.1]
 ·rw[if_pos rfl,if_pos rfl,Zjp h (ZgF hs)];rfl
theorem Zjz {s:Int}(h:U64 s)(sig:Int):bits .andNot .u64 s (bitL sig)=ZgX s sig:=by
 unfold bitL ZgX
 cases hs:isL sig
 ·simp[(Zir h).2.2]
 ·rw[if_pos rfl,if_pos rfl,Zbn h (ZgF hs)];rfl
theorem Zcj (sig:Int)(w:World):Calls Tryz.prog 402 #[.int .i64 sig] w fun e w'=>e= .returned (.int .u64 (bitL sig))∧Ext w w':=by
 have HI:=zh fun w'=>Zds sig w'
 unfold bitL
 cases hs:isL sig
 ·rw[hs] at HI
  go_enter Tryz.func402,Tryz.ntmps402
  go_wp2_with((go_at_call 296;(with_reducible refine(HI.out _).mono ?_);rintro e w1 ⟨rfl,E1⟩))
  go_ret
  exact⟨rfl,zX⟩
 ·rw[hs] at HI
  obtain⟨h1,h2⟩:=Zel hs
  have h4:min sig.toNat 64=sig.toNat:=by omega
  have h5:IntKind.u64.wrap (2 ^ sig.toNat)=pw sig:=by
   have:=Zb6 (ZgF hs)
   unfold pw at*
   simp only[IntKind.wrap,IntKind.bits,IntKind.signed]
   simp
   omega
  go_enter Tryz.func402,Tryz.ntmps402
  go_wp2_with((go_at_call 296;(with_reducible refine(HI.out _).mono ?_);rintro e w1 ⟨rfl,E1⟩))
  go_ret
  exact⟨by simp,zX⟩
theorem Zqe (s sig:Int)(w:World)(h:U64 s):Calls Tryz.prog 385 #[.int .u64 s,.int .i64 sig] w fun e w'=>e= .returned (.int .u64 (Zoy s sig))∧Ext w w':=by
 have HB:=zh fun w'=>Zcj sig w'
 have hv:=ZrD h sig
 generalize hr:Zoy s sig=r at*
 generalize bitL sig=b at*
 clear hr h
 go_enter Tryz.func385,Tryz.ntmps385
 go_wp2_with((go_at_call 402;(with_reducible refine(HB.out _).mono ?_);rintro e w1 ⟨rfl,E1⟩))
 go_ret
 refine⟨?_,zX⟩
 rw[←hv]
 rfl
theorem Zlk (s sig:Int)(w:World)(h:U64 s):Calls Tryz.prog 382 #[.int .u64 s,.int .i64 sig] w fun e w'=>e= .returned (.int .u64 (ZgX s sig))∧Ext w w':=by
 have HB:=zh fun w'=>Zcj sig w'
 have hv:=Zjz h sig
 generalize hr:ZgX s sig=r at*
 generalize bitL sig=b at*
 clear hr h
 go_enter Tryz.func382,Tryz.ntmps382
 go_wp2_with((go_at_call 402;(with_reducible refine(HB.out _).mono ?_);rintro e w1 ⟨rfl,E1⟩))
 go_ret
 refine⟨?_,zX⟩
 rw[←hv]
 rfl
theorem ZhA (name:ByteArray)(w:World):Calls Tryz.prog 36 #[.string name] w fun e w'=>e= .returned (.tuple #[.int .i64 (rnumL name).1,.bool (rnumL name).2])∧Ext w w':=by
 have HS:=zh fun k hk h hn=>Zlh (name:=name) (k:=k) hk h hn
 have HN:=zh fun hn=>Zeu (name:=name) hn
 generalize rnumL name=rl at*
 go_enter Tryz.func36,Tryz.ntmps36
 go_wp2_with((go_at_call 67;(with_reducible refine(Zin _).mono ?_);rintro e w1 ⟨rfl,hB,E1⟩))
 have HB:=zh hB
 clear hB
 go_loopw [8] (fun i wr=>∃k:Nat,k≤22∧i= .int .i64 k∧Hid (∀j:Nat,j<k→((rowAt j).2.1.toList==name.toList)=false)∧Ext w1 wr) (fun i _=>22 - (intOf i).toNat)
 case atStart=>exact⟨0,by omega,rfl,zh fun j hj=>by omega,Ext.refl _⟩
 case round=>
  obtain⟨k,hk,rfl,hj,hE⟩:=hrel
  by_cases hlt:k<22
  ·have k1:(k:Int)<22:=by omega
   have k2:(0:Int)≤(k:Int):=by omega
   obtain⟨r0,r1,r2,r3⟩:=Zio k hlt
   have hBr:=HB.out.ext hE
   have c0:=hBr.cell (k*4)
   have c1:=hBr.cell (k*4+1)
   have c2:=hBr.cell (k*4+2)
   have c3:=hBr.cell (k*4+3)
   rw[r0] at c0
   rw[r1] at c1
   rw[r2] at c2
   rw[r3] at c3
   have HJ:=zh fun(h:((rowAt k).2.1.toList==name.toList)=false) (j:Nat) (hjk:j<k+1)=>show((rowAt j).2.1.toList==name.toList)=false by
    rcases Nat.lt_succ_iff_lt_or_eq.1 hjk with h1|h1
    ·exact hj.out j h1
    ·rw[h1];exact h
   have HSk:=zh fun h=>HS.out k hlt h hj.out
   clear r0 r1 r2 r3
   generalize rowAt k=row at*
   obtain⟨n,s,d,wi⟩:=row
   simp only at c0 c1 c2 c3 HSk HJ
   have hq0:∃q,(s.toList==name.toList)=q:=⟨_,rfl⟩
   obtain⟨q,hq⟩:=hq0
   have HQ:=zh hq
   cases q
   ·go_wp2
    go_roundw
    case rel=>exact⟨k+1,by omega,by simp,zh (HJ.out HQ.out),zX⟩
    case measure=>first|(simp[intOf];omega)|(show 22 - _<_;simp[intOf];omega)
   ·have hrl:=HSk.out HQ.out
    have HRL:=zh hrl
    clear hrl
    go_wp2
    go_ret2
    exact⟨by rw[HRL.out];rfl,Ext.trans E1 zX⟩
  ·obtain rfl:k=22:=by omega
   have hrl:=HN.out hj.out
   subst hrl
   go_wp2
   go_ret2
   exact⟨rfl,Ext.trans E1 hE⟩
end Go.Proofs.YtmmhcllibpmfnaaGreatDoor.Sg
