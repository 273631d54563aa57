/- Parts PL04 PM04 PN04 PO04 SJ17 SK17 PQ04 KF28 KG28 KH28 KI28 KJ28 KK28 KL28 KM28 KN28 KP28 KR28 MG28 KT28 KU28. No condition. -/
import Derived.Test.YtmmhcllibpmfnaaGreatDoorYB02
import Derived.Test.YtmmhcllibpmfnaaGreatDoorYB04
import Derived.Test.YtmmhcllibpmfnaaGreatDoorYB06
set_option maxRecDepth 100000
set_option maxHeartbeats 8000000
namespace Go.Proofs.YtmmhcllibpmfnaaGreatDoor
open Go.RowKit Go.Kb
theorem ZkB (k:Nat)(h1:1≤k)(h10:k≤10)(n:Nat):Zbv n k=[.string (nmQ k),kvQ n k,.func (.func (gQ k)) #[] #[],.func (.func (pQ k)) #[] #[],.func (.func (aQ k)) #[] #[]]:=by
 rcases k with _|_|_|_|_|_|_|_|_|_|_|k
 all_goals first|rfl|omega
theorem Zq7 (k:Nat)(h1:1≤k)(h10:k≤10)(w:World):Calls Tryz.prog 28 #[.int .i64 (k:Int)] w fun e w'=>
  ∃A c,e= .returned (.tuple #[.agg #[.string (nmQ k),.slice A (kindsQ k).length c,.func (.func (gQ k)) #[] #[],.func (.func (pQ k)) #[] #[],.func (.func (aQ k)) #[] #[]],.bool true])∧Ext w w'∧RI .i64 w' (.slice A (kindsQ k).length c) (kindsQ k):=
 (Zst k h1 h10 w).mono fun e w' h=>by
  obtain⟨n,rfl,hE,hR⟩:=h
  obtain⟨A,c,hs,-,-⟩:=hR.shape
  rw[ZkB k h1 h10 n,hs]
  exact⟨A,c,rfl,hE,by rw[←hs];exact hR⟩
theorem Zq8 (k:Int)(h:k<1∨10<k)(w:World):Calls Tryz.prog 28 #[.int .i64 k] w fun e w'=>
  e= .returned (.tuple #[.agg #[.string ⟨#[]⟩,.slice none 0 0,.nilFunc,.nilFunc,.nilFunc],.bool false])∧Ext w w':=by
 have hi:=zi Tryz.prog 114 5
 by_cases h1:k<1
 ·go_enter Tryz.func28,Tryz.ntmps28
  go_wp2_with(refine wpList_store_M rfl 114 _ _ rfl w.heap.size _ rfl rfl 114 _ (Blk.new _ _ _) hi rfl (by simp[Value.oneCell']) ?_;intro w2 HB M2)
  refine bodyPost_ret_by (Kb.Zab Tryz.results28 _ _ w.heap.size 114 _ _ _ rfl _ rfl HB Tryz.underlying114 rfl hi) rfl ?_
  exact⟨rfl,Mod.toExt zX M2 (by intro k hk he;omega)⟩
 ·have h2:10<k:=by omega
  go_enter Tryz.func28,Tryz.ntmps28
  go_wp2_with(refine wpList_store_M rfl 114 _ _ rfl w.heap.size _ rfl rfl 114 _ (Blk.new _ _ _) hi rfl (by simp[Value.oneCell']) ?_;intro w2 HB M2)
  refine bodyPost_ret_by (Kb.Zab Tryz.results28 _ _ w.heap.size 114 _ _ _ rfl _ rfl HB Tryz.underlying114 rfl hi) rfl ?_
  exact⟨rfl,Mod.toExt zX M2 (by intro k hk he;omega)⟩
def fldsQ (r:Rq):Nat→List Fd
 |1=>[⟨4,0,bsL r.tx⟩,⟨3,r.c1,[]⟩,⟨3,r.c2,[]⟩,⟨3,r.c3,[]⟩,⟨3,r.c4,[]⟩,⟨4,0,r.mo⟩]
 |2=>[⟨4,0,bsL r.tx⟩,⟨4,0,bsL r.vl⟩]
 |4=>[⟨4,0,bsL r.tx⟩]
 |5=>[⟨4,0,bsL r.tx⟩]
 |6=>[⟨3,r.c1,[]⟩,⟨3,r.c2,[]⟩,⟨3,r.c3,[]⟩,⟨3,r.c4,[]⟩]
 |7=>[⟨2,if r.on=true then 1 else 0,[]⟩]
 |8=>[⟨4,0,bsL r.tx⟩]
 |9=>[⟨3,r.co,[]⟩]
 |10=>[⟨4,0,bsL r.tx⟩,⟨2,if r.on=true then 1 else 0,[]⟩,⟨4,0,bsL r.vl⟩,⟨4,0,bsL r.la⟩]
 |_=>[]
def Zpy (r:Rq)(k:Nat):List Fd:=(fldsQ r k).map (fun f=>⟨0,f.n,f.t⟩)
structure Rq.Ok (r:Rq):Prop where
 tx:r.tx.size≤10000
 vl:r.vl.size≤10000
 la:r.la.size≤10000
 mo:r.mo.length≤10000
 bs:Bs r.mo
 c1:0≤r.c1∧r.c1≤4294967295
 c2:0≤r.c2∧r.c2≤4294967295
 c3:0≤r.c3∧r.c3≤4294967295
 c4:0≤r.c4∧r.c4≤4294967295
 co:0≤r.co∧r.co≤4294967295
theorem Zci (r:Rq)(k:Nat):(fldsQ r k).map (·.k)=kindsQ k:=by
 rcases k with _|_|_|_|_|_|_|_|_|_|_|k
 all_goals rfl
theorem Zcw (r:Rq)(k:Nat):(fldsQ r k).length=(kindsQ k).length:=by rw[←Zci r k,List.length_map]
theorem ZbL (k:Nat):(kindsQ k).length≤6:=by
 unfold kindsQ
 split<;>decide
theorem Zei (k:Nat):Zdw (kindsQ k):=by
 unfold Zdw kindsQ
 split
 all_goals
  intro i x h
  rcases i with _|_|_|_|_|_|i
  all_goals simp at h
  all_goals first|(subst h;exact⟨by omega,by omega⟩)|(exact absurd h (by simp))
structure GetsQ (r:Rq)(k:Nat):Prop where
 enters:∀args w',(callFunc (gQ k) args).run Tryz.prog w'= .ok (.enter (gQ k) args) w'
 gets:∀g v A w,Blk w g 119 (rqA r v)→RdS Ub8 A w v r.mo→(∀j,A j→j<w.heap.size)→Calls Tryz.prog (gQ k) #[.pointer (some ⟨g,0,none⟩)] w (Zgi A (Zpy r k) w)
theorem Zpz (args:Array Value)(w:World):(callFunc 106 args).run Tryz.prog w= .ok (.enter 106 args) w:=by kernel_rfl
theorem ZpA (args:Array Value)(w:World):(callFunc 109 args).run Tryz.prog w= .ok (.enter 109 args) w:=by kernel_rfl
theorem ZmV (args:Array Value)(w:World):(callFunc 112 args).run Tryz.prog w= .ok (.enter 112 args) w:=by kernel_rfl
theorem Zfr (args:Array Value)(w:World):(callFunc 115 args).run Tryz.prog w= .ok (.enter 115 args) w:=by kernel_rfl
theorem ZmW (args:Array Value)(w:World):(callFunc 119 args).run Tryz.prog w= .ok (.enter 119 args) w:=by kernel_rfl
theorem Zq9 (args:Array Value)(w:World):(callFunc 121 args).run Tryz.prog w= .ok (.enter 121 args) w:=by kernel_rfl
theorem ZmX (args:Array Value)(w:World):(callFunc 123 args).run Tryz.prog w= .ok (.enter 123 args) w:=by kernel_rfl
theorem ZkC (args:Array Value)(w:World):(callFunc 125 args).run Tryz.prog w= .ok (.enter 125 args) w:=by kernel_rfl
theorem Zsu {r:Rq}(hr:r.Ok)(k:Nat)(h1:1≤k)(h10:k≤10):GetsQ r k:=by
 have e1:r.tx.size≤1000000:=by have:=hr.tx;omega
 have e2:r.vl.size≤1000000:=by have:=hr.vl;omega
 have e3:r.la.size≤1000000:=by have:=hr.la;omega
 rcases k with _|_|_|_|_|_|_|_|_|_|_|k
 ·omega
 ·exact⟨Zpz,fun g v A w h hv hA=>Zpv g r v A w h hv hA e1⟩
 ·exact⟨ZpA,fun g v A w h _ _=>Zpu g r v A w h e1 e2⟩
 ·exact⟨ZmV,fun g _ A w _ _ _=>ZmR g A w⟩
 ·exact⟨Zfr,fun g v A w h _ _=>ZdT g r v A w h e1⟩
 ·exact⟨Zfr,fun g v A w h _ _=>ZdT g r v A w h e1⟩
 ·exact⟨ZmW,fun g v A w h _ _=>(Zie g r v w h).mono fun _ _ ⟨v2,he,ho,hE⟩=>⟨v2,he,ho.mono (fun _ _ h9=>h9.elim),hE⟩⟩
 ·exact⟨Zq9,fun g v A w h _ _=>Zq4 g r v A w h⟩
 ·exact⟨Zfr,fun g v A w h _ _=>ZdT g r v A w h e1⟩
 ·exact⟨ZmX,fun g v A w h _ _=>ZmS g r v A w h⟩
 ·exact⟨ZkC,fun g v A w h _ _=>Zky g r v A w h e1 e2 e3⟩
 ·omega
structure AsksQ (r:Rq)(k:Nat):Prop where
 enters:∀args w',(callFunc (aQ k) args).run Tryz.prog w'= .ok (.enter (aQ k) args) w'
 asks:∀g Av cv w,Blk w g 119 (rqA r (.slice Av r.mo.length cv))→Calls Tryz.prog (aQ k) #[.pointer (some ⟨g,0,none⟩)] w (Zgh (Zbe r) w)
theorem ZpB (args:Array Value)(w:World):(callFunc 108 args).run Tryz.prog w= .ok (.enter 108 args) w:=by kernel_rfl
theorem ZpC (args:Array Value)(w:World):(callFunc 111 args).run Tryz.prog w= .ok (.enter 111 args) w:=by kernel_rfl
theorem ZdV (args:Array Value)(w:World):(callFunc 114 args).run Tryz.prog w= .ok (.enter 114 args) w:=by kernel_rfl
theorem ZmY (args:Array Value)(w:World):(callFunc 117 args).run Tryz.prog w= .ok (.enter 117 args) w:=by kernel_rfl
theorem Zih (args:Array Value)(w:World):(callFunc 118 args).run Tryz.prog w= .ok (.enter 118 args) w:=by kernel_rfl
theorem ZkD (args:Array Value)(w:World):(callFunc 127 args).run Tryz.prog w= .ok (.enter 127 args) w:=by kernel_rfl
theorem Zra {r:Rq}(k:Nat)(hk:r.k=(k:Int))(h1:1≤k)(h10:k≤10):AsksQ r k:=by
 rcases k with _|_|_|_|_|_|_|_|_|_|_|k
 ·omega
 ·exact⟨ZpB,fun g Av cv w h=>by rw[show Zbe r=Zax [Zay r.tx 0,ZaP r.mo.length] by simp[Zbe,hk]];exact Zps g r Av cv w h⟩
 ·exact⟨ZpC,fun g Av cv w h=>by rw[show Zbe r=(if Zcv r.tx=true then 4 else Zax [Zay r.tx 1,ZaP r.vl.size]) by simp[Zbe,hk]];exact Zpt g r _ w h⟩
 ·exact⟨ZdV,fun g Av cv w _=>by rw[show Zbe r=0 by simp[Zbe,hk]];exact ZdS g w⟩
 ·exact⟨ZmY,fun g Av cv w h=>by rw[show Zbe r=ZaP r.tx.size by simp[Zbe,hk]];exact ZmQ g r _ w h⟩
 ·exact⟨Zih,fun g Av cv w h=>by rw[show Zbe r=Zay r.tx 1 by simp[Zbe,hk]];exact Zid g r _ w h⟩
 ·exact⟨ZdV,fun g Av cv w _=>by rw[show Zbe r=0 by simp[Zbe,hk]];exact ZdS g w⟩
 ·exact⟨ZdV,fun g Av cv w _=>by rw[show Zbe r=0 by simp[Zbe,hk]];exact ZdS g w⟩
 ·exact⟨Zih,fun g Av cv w h=>by rw[show Zbe r=Zay r.tx 1 by simp[Zbe,hk]];exact Zid g r _ w h⟩
 ·exact⟨ZdV,fun g Av cv w _=>by rw[show Zbe r=0 by simp[Zbe,hk]];exact ZdS g w⟩
 ·exact⟨ZkD,fun g Av cv w h=>by rw[show Zbe r=Zax [Zay r.tx 1,Zay r.la 0,ZaP r.vl.size] by simp[Zbe,hk]];exact Zkx g r _ w h⟩
 ·omega
def rq0 (k:Nat):Rq:=⟨k,⟨#[]⟩,⟨#[]⟩,⟨#[]⟩,0,0,0,0,[],false,0⟩
def ownQ (r:Rq):Nat→Rq
 |1=>⟨1,r.tx,⟨#[]⟩,⟨#[]⟩,r.c1,r.c2,r.c3,r.c4,r.mo,false,0⟩
 |2=>⟨2,r.tx,r.vl,⟨#[]⟩,0,0,0,0,[],false,0⟩
 |4=>⟨4,r.tx,⟨#[]⟩,⟨#[]⟩,0,0,0,0,[],false,0⟩
 |5=>⟨5,r.tx,⟨#[]⟩,⟨#[]⟩,0,0,0,0,[],false,0⟩
 |6=>⟨6,⟨#[]⟩,⟨#[]⟩,⟨#[]⟩,r.c1,r.c2,r.c3,r.c4,[],false,0⟩
 |7=>⟨7,⟨#[]⟩,⟨#[]⟩,⟨#[]⟩,0,0,0,0,[],r.on,0⟩
 |8=>⟨8,r.tx,⟨#[]⟩,⟨#[]⟩,0,0,0,0,[],false,0⟩
 |9=>⟨9,⟨#[]⟩,⟨#[]⟩,⟨#[]⟩,0,0,0,0,[],false,r.co⟩
 |10=>⟨10,r.tx,r.vl,r.la,0,0,0,0,[],r.on,0⟩
 |k=>rq0 k
theorem ZkE {r:Rq}(k:Nat)(hk:r.k=(k:Int))(h1:1≤k)(h10:k≤10):Zbe (ownQ r k)=Zbe r:=by
 rcases k with _|_|_|_|_|_|_|_|_|_|_|k
 ·omega
 all_goals first|omega|simp[Zbe,ownQ,rq0,hk]
theorem ZpD (r:Rq)(k:Nat):(ownQ r k).k=(k:Int):=by
 unfold ownQ
 split<;>rfl
theorem ZmZ (b:Bool):((if b=true then(1:Int) else 0)==1)=b:=by cases b<;>rfl
structure PutsQ (r:Rq)(k:Nat):Prop where
 enters:∀args w',(callFunc (pQ k) args).run Tryz.prog w'= .ok (.enter (pQ k) args) w'
 puts:∀g v Ad n c A w,Blk w g 119 (rqA (rq0 k) v)→RdS Ub8 A w v []→RdS FdR A w (.slice Ad n c) (fldsQ r k)→(∀j,A j→j≠g∧j<w.heap.size)→Calls Tryz.prog (pQ k) #[.pointer (some ⟨g,0,none⟩),.slice Ad n c] w (PuP g A (ownQ r k) w)
theorem ZpE (args:Array Value)(w:World):(callFunc 107 args).run Tryz.prog w= .ok (.enter 107 args) w:=by kernel_rfl
theorem ZpF (args:Array Value)(w:World):(callFunc 110 args).run Tryz.prog w= .ok (.enter 110 args) w:=by kernel_rfl
theorem Zm0 (args:Array Value)(w:World):(callFunc 113 args).run Tryz.prog w= .ok (.enter 113 args) w:=by kernel_rfl
theorem Zfs (args:Array Value)(w:World):(callFunc 116 args).run Tryz.prog w= .ok (.enter 116 args) w:=by kernel_rfl
theorem Zm1 (args:Array Value)(w:World):(callFunc 120 args).run Tryz.prog w= .ok (.enter 120 args) w:=by kernel_rfl
theorem Zrb (args:Array Value)(w:World):(callFunc 122 args).run Tryz.prog w= .ok (.enter 122 args) w:=by kernel_rfl
theorem Zm2 (args:Array Value)(w:World):(callFunc 124 args).run Tryz.prog w= .ok (.enter 124 args) w:=by kernel_rfl
theorem ZkF (args:Array Value)(w:World):(callFunc 126 args).run Tryz.prog w= .ok (.enter 126 args) w:=by kernel_rfl
theorem ZcQ {D:Type}{e:Rep D}{A:Nat→Prop}{w:World}{Ad:Option Addr}{n c:Nat}{fs:List D}(h:RdS e A w (.slice Ad n c) fs):n=fs.length:=by
 obtain⟨_,_,hv,_⟩:=h.1.shape
 simp only[Value.slice.injEq] at hv
 exact hv.2.1
theorem Zsv (r:Rq)(k:Nat)(h1:1≤k)(h10:k≤10):PutsQ r k:=by
 rcases k with _|_|_|_|_|_|_|_|_|_|_|k
 ·omega
 ·refine⟨ZpE,fun g v Ad n c A w h hv hl hA=>?_⟩
  have h9:=Zpx g (rq0 1) v Ad n c _ ⟨4,0,bsL r.tx⟩ ⟨3,r.c1,[]⟩ ⟨3,r.c2,[]⟩ ⟨3,r.c3,[]⟩ ⟨3,r.c4,[]⟩ ⟨4,0,r.mo⟩ A w h hv hl rfl hA
  simp only[str_back] at h9
  exact h9
 ·refine⟨ZpF,fun g v Ad n c A w h hv hl hA=>?_⟩
  have h9:=Zpw g (rq0 2) v Ad n c _ ⟨4,0,bsL r.tx⟩ ⟨4,0,bsL r.vl⟩ A w h hv hl rfl rfl (by rw[ZcQ hl];show 0<2;omega) hA
  simp only[str_back] at h9
  exact h9
 ·exact⟨Zm0,fun g v Ad n c A w h hv _ _=>ZmT g (rq0 3) v _ A w h hv⟩
 ·refine⟨Zfs,fun g v Ad n c A w h hv hl hA=>?_⟩
  have h9:=ZdU g (rq0 4) v Ad n c _ ⟨4,0,bsL r.tx⟩ A w h hv hl rfl (by rw[ZcQ hl];show 0<1;omega) hA
  simp only[str_back] at h9
  exact h9
 ·refine⟨Zfs,fun g v Ad n c A w h hv hl hA=>?_⟩
  have h9:=ZdU g (rq0 5) v Ad n c _ ⟨4,0,bsL r.tx⟩ A w h hv hl rfl (by rw[ZcQ hl];show 0<1;omega) hA
  simp only[str_back] at h9
  exact h9
 ·exact⟨Zm1,fun g v Ad n c A w h hv hl hA=>Zif g (rq0 6) v Ad n c _ ⟨3,r.c1,[]⟩ ⟨3,r.c2,[]⟩ ⟨3,r.c3,[]⟩ ⟨3,r.c4,[]⟩ A w h hv hl rfl rfl rfl rfl hA⟩
 ·refine⟨Zrb,fun g v Ad n c A w h hv hl hA=>?_⟩
  have h9:=Zq5 g (rq0 7) v Ad n c _ ⟨2,if r.on=true then 1 else 0,[]⟩ A w h hv hl rfl (by rw[ZcQ hl];show 0<1;omega) hA
  simp only[ZmZ] at h9
  exact h9
 ·refine⟨Zfs,fun g v Ad n c A w h hv hl hA=>?_⟩
  have h9:=ZdU g (rq0 8) v Ad n c _ ⟨4,0,bsL r.tx⟩ A w h hv hl rfl (by rw[ZcQ hl];show 0<1;omega) hA
  simp only[str_back] at h9
  exact h9
 ·exact⟨Zm2,fun g v Ad n c A w h hv hl hA=>ZmU g (rq0 9) v Ad n c _ ⟨3,r.co,[]⟩ A w h hv hl rfl (by rw[ZcQ hl];show 0<1;omega) hA⟩
 ·refine⟨ZkF,fun g v Ad n c A w h hv hl hA=>?_⟩
  have h9:=Zkz g (rq0 10) v Ad n c _ ⟨4,0,bsL r.tx⟩ ⟨2,if r.on=true then 1 else 0,[]⟩ ⟨4,0,bsL r.vl⟩ ⟨4,0,bsL r.la⟩ A w h hv hl rfl rfl rfl rfl hA
  simp only[str_back,ZmZ] at h9
  exact h9
 ·omega
theorem Zgj {a b:Int}(h:Zax [a,b]=0):a=0∧b=0:=by
 unfold Zax at h
 by_cases ha:a=0
 ·rw[if_pos ha] at h
  unfold Zax at h
  by_cases hb:b=0
  ·exact⟨ha,hb⟩
  ·rw[if_neg hb] at h;exact⟨ha,h⟩
 ·rw[if_neg ha] at h;exact absurd h ha
theorem Zos {a b c:Int}(h:Zax [a,b,c]=0):a=0∧b=0∧c=0:=by
 unfold Zax at h
 by_cases ha:a=0
 ·rw[if_pos ha] at h
  exact⟨ha,Zgj h⟩
 ·rw[if_neg ha] at h;exact absurd h ha
theorem ZbY {n:Nat}(h:ZaP (n:Int)=0):n≤1024:=by
 unfold ZaP at h
 by_cases hn:(1024:Int)<n
 ·rw[if_pos hn] at h;cases h
 ·omega
theorem Zft (b:Bool):0≤(if b=true then(1:Int) else 0)∧(if b=true then(1:Int) else 0)≤1:=by cases b<;>decide
theorem Zm3 {r:Rq}(hr:r.Ok)(k:Nat):∀f∈fldsQ r k,FdOk f:=by
 obtain⟨-,-,-,-,-,h1,h2,h3,h4,h5⟩:=hr
 have hf:=Zft r.on
 unfold fldsQ
 split
 all_goals
  intro f hm
  simp only[List.mem_cons,List.not_mem_nil,or_false] at hm
 ·rcases hm with rfl|rfl|rfl|rfl|rfl|rfl
  all_goals exact⟨by simp,by dsimp only;omega⟩
 ·rcases hm with rfl|rfl
  all_goals exact⟨by simp,by dsimp only;omega⟩
 ·subst hm;exact⟨by simp,by dsimp only;omega⟩
 ·subst hm;exact⟨by simp,by dsimp only;omega⟩
 ·rcases hm with rfl|rfl|rfl|rfl
  all_goals exact⟨by simp,by dsimp only;omega⟩
 ·subst hm;exact⟨by simp,by dsimp only;omega⟩
 ·subst hm;exact⟨by simp,by dsimp only;omega⟩
 ·subst hm;exact⟨by simp,by dsimp only;omega⟩
 ·rcases hm with rfl|rfl|rfl|rfl
  all_goals exact⟨by simp,by dsimp only;omega⟩
structure FdSm (f:Fd):Prop where
 can:Zeb f
 sh:f.t.length≤1024
theorem Zm4 {n:Int}(h:0≤n∧n≤4294967295):FdSm ⟨3,n,[]⟩:=⟨.inr (.inr (.inl ⟨rfl,h,rfl⟩)),by simp⟩
theorem can4 {t:List Int}(h:t.length≤1024):FdSm ⟨4,0,t⟩:=⟨.inr (.inr (.inr (.inl ⟨rfl,rfl,by dsimp only;omega⟩))),h⟩
theorem can2 (b:Bool):FdSm ⟨2,if b=true then 1 else 0,[]⟩:=⟨.inr (.inl ⟨rfl,Zft b,rfl⟩),by simp⟩
theorem Zfu {s:ByteArray}(h:s.size≤1024):FdSm ⟨4,0,bsL s⟩:=can4 (by rw[ZcM];exact h)
theorem ZbZ {r:Rq}(hr:r.Ok)(k:Nat)(hk:r.k=(k:Int))(ha:Zbe r=0):∀f∈fldsQ r k,FdSm f:=by
 obtain⟨-,-,-,-,-,h1,h2,h3,h4,h5⟩:=hr
 have w64:∀ {s:ByteArray} {n:Int},Zay s n=0→s.size≤1024:=fun h=>Nat.le_trans (Zjb h) (by omega)
 rcases k with _|_|_|_|_|_|_|_|_|_|_|k
 ·intro f hm;simp[fldsQ] at hm
 ·have ha:Zax [Zay r.tx 0,ZaP r.mo.length]=0:=by simpa [Zbe,hk] using ha
  obtain⟨a1,a2⟩:=Zgj ha
  intro f hm
  simp only[fldsQ,List.mem_cons,List.not_mem_nil,or_false] at hm
  rcases hm with rfl|rfl|rfl|rfl|rfl|rfl
  ·exact Zfu (w64 a1)
  ·exact Zm4 h1
  ·exact Zm4 h2
  ·exact Zm4 h3
  ·exact Zm4 h4
  ·exact can4 (ZbY a2)
 ·have ha:(if Zcv r.tx=true then 4 else Zax [Zay r.tx 1,ZaP r.vl.size])=0:=by simpa [Zbe,hk] using ha
  have ha:Zax [Zay r.tx 1,ZaP r.vl.size]=0:=by
   by_cases hh:Zcv r.tx=true
   ·rw[if_pos hh] at ha;cases ha
   ·rwa [if_neg hh] at ha
  obtain⟨a1,a2⟩:=Zgj ha
  intro f hm
  simp only[fldsQ,List.mem_cons,List.not_mem_nil,or_false] at hm
  rcases hm with rfl|rfl
  ·exact Zfu (w64 a1)
  ·exact Zfu (ZbY a2)
 ·intro f hm;simp[fldsQ] at hm
 ·have ha:ZaP r.tx.size=0:=by simpa [Zbe,hk] using ha
  intro f hm
  simp only[fldsQ,List.mem_cons,List.not_mem_nil,or_false] at hm
  subst hm
  exact Zfu (ZbY ha)
 ·have ha:Zay r.tx 1=0:=by simpa [Zbe,hk] using ha
  intro f hm
  simp only[fldsQ,List.mem_cons,List.not_mem_nil,or_false] at hm
  subst hm
  exact Zfu (w64 ha)
 ·intro f hm
  simp only[fldsQ,List.mem_cons,List.not_mem_nil,or_false] at hm
  rcases hm with rfl|rfl|rfl|rfl
  ·exact Zm4 h1
  ·exact Zm4 h2
  ·exact Zm4 h3
  ·exact Zm4 h4
 ·intro f hm
  simp only[fldsQ,List.mem_cons,List.not_mem_nil,or_false] at hm
  subst hm
  exact can2 _
 ·have ha:Zay r.tx 1=0:=by simpa [Zbe,hk] using ha
  intro f hm
  simp only[fldsQ,List.mem_cons,List.not_mem_nil,or_false] at hm
  subst hm
  exact Zfu (w64 ha)
 ·intro f hm
  simp only[fldsQ,List.mem_cons,List.not_mem_nil,or_false] at hm
  subst hm
  exact Zm4 h5
 ·have ha:Zax [Zay r.tx 1,Zay r.la 0,ZaP r.vl.size]=0:=by simpa [Zbe,hk] using ha
  obtain⟨a1,a2,a3⟩:=Zos ha
  intro f hm
  simp only[fldsQ,List.mem_cons,List.not_mem_nil,or_false] at hm
  rcases hm with rfl|rfl|rfl|rfl
  ·exact Zfu (w64 a1)
  ·exact can2 _
  ·exact Zfu (ZbY a3)
  ·exact Zfu (w64 a2)
 ·intro f hm;simp[fldsQ] at hm
theorem Zrc {f:Fd}(h:FdSm f):fltF f.k f.n f.t=0:=by
 obtain⟨k,n,t⟩:=f
 obtain⟨h,hs⟩:=h
 dsimp only at hs
 rcases h with⟨rfl,hn,ht⟩|⟨rfl,hn,ht⟩|⟨rfl,hn,ht⟩|⟨rfl,hn,ht⟩|⟨rfl,hn,ht⟩<;>dsimp only at hn ht
 ·have:¬(255:Int)<n:=by omega
  simp[fltF,this]
 ·have:¬(1:Int)<n:=by omega
  simp[fltF,this]
 ·simp[fltF]
 ·have:¬32768<t.length:=by omega
  simp[fltF,this]
 ·have:¬33792<t.length:=by omega
  simp[fltF,this]
theorem Zrd {f:Fd}(h:FdSm f):(encF f.k f.n f.t).length≤1028:=by
 obtain⟨k,n,t⟩:=f
 obtain⟨h,hs⟩:=h
 dsimp only at hs
 rcases h with⟨rfl,hn,ht⟩|⟨rfl,hn,ht⟩|⟨rfl,hn,ht⟩|⟨rfl,hn,ht⟩|⟨rfl,hn,ht⟩<;>dsimp only at hn ht
 ·simp[encF]
 ·simp[encF]
 ·simp[encF,Fr.four]
 ·simp[encF,Fr.four];omega
 ·simp[encF];omega
theorem Zhc:∀ (fs:List Fd),(∀f∈fs,FdSm f)→(encL fs).length≤fs.length*1028
 | [],_=>by simp[encL]
 |f::fs,h=>by
  have h1:=Zrd (h f (List.mem_cons_self))
  have h2:=Zhc fs (fun g hg=>h g (List.mem_cons_of_mem _ hg))
  have e:encL (f::fs)=encF f.k f.n f.t++encL fs:=rfl
  rw[e,List.length_append,List.length_cons]
  omega
def mixF (fs:List Fd)(m:Nat):List Fd:=fs.take m++ (fs.drop m).map (fun f=>⟨0,f.n,f.t⟩)
theorem ZpG (fs:List Fd)(m:Nat):(mixF fs m).length=fs.length:=by
 unfold mixF
 rw[List.length_append,List.length_map,←List.length_append,List.take_append_drop]
theorem Zm5 (fs:List Fd):mixF fs 0=fs.map (fun f=>⟨0,f.n,f.t⟩):=by simp[mixF]
theorem ZpH (fs:List Fd):mixF fs fs.length=fs:=by simp[mixF]
theorem Zre {fs:List Fd}{m:Nat}{f:Fd}(h:fs[m]?=some f):(mixF fs m)[m]?=some ⟨0,f.n,f.t⟩:=by
 obtain⟨hlt,he⟩:=List.getElem?_eq_some_iff.1 h
 unfold mixF
 have hl:(fs.take m).length=m:=by rw[List.length_take];omega
 rw[List.getElem?_append_right (by omega),hl,Nat.sub_self,List.drop_eq_getElem_cons hlt,he]
 rfl
theorem ZpI {fs:List Fd}{m:Nat}{f:Fd}(h:fs[m]?=some f):(mixF fs m).set m f=mixF fs (m+1):=by
 obtain⟨hlt,he⟩:=List.getElem?_eq_some_iff.1 h
 unfold mixF
 have hl:(fs.take m).length=m:=by rw[List.length_take];omega
 rw[List.set_append_right _ _ (by omega),hl,Nat.sub_self,List.drop_eq_getElem_cons hlt,he,List.map_cons,List.set_cons_zero,List.take_add_one,h]
 simp
def Zrf (r:Rq)(w:World)(e:Ending)(w':World):Prop:=
 ∃ (nm:ByteArray) (u:Value) (q:Int),e= .returned (.tuple #[.string nm,u,.int .i64 q])∧Ext w w'∧
  (q=0→∃k:Nat,r.k=(k:Int)∧1≤k∧k≤10∧nm=nmQ k∧Zbe r=0∧OwnS Ub8 5 w.heap.size (fun _=>False) w' u (encL (fldsQ r k)))∧(q≠0→nm=⟨#[]⟩∧u= .slice none 0 0)∧(∀k:Nat,r.k=(k:Int)→1≤k→k≤10→Zbe r=0→q=0)
theorem Zej (r:Rq)(v:Value)(w:World)(hv:RdS Ub8 (fun j=>j<w.heap.size) w v r.mo)(hr:r.Ok):Calls Tryz.prog 11 #[.agg (rqA r v)] w (Zrf r w):=by
 obtain⟨Av,cv,rfl,-,-⟩:=hv.shape
 have HD:=zh hv
 have HOK:=zh hr
 have hiQ:=zi Tryz.prog 46 11
 have hiR:=zi Tryz.prog 114 5
 obtain⟨W1,hW1⟩:=zn (w.alloc (.cells (rqA r (.slice Av r.mo.length cv)) 46))
 have E1:Ext w W1:=by rw[hW1];exact(Ext.refl _).alloc _
 have P1:=zh (show Blk W1 w.heap.size 46 (rqA r (.slice Av r.mo.length cv)) by rw[hW1];exact Blk.new w _ _)
 have HW1:=zh hW1
 have k0:=(rqC P1.out).k0
 have hs1:w.heap.size<W1.heap.size:=P1.out.lt
 clear hv hr hW1
 by_cases hin:1≤r.k∧r.k≤10
 ·obtain⟨k,hk⟩:∃k:Nat,r.k=(k:Int):=⟨r.k.toNat,by omega⟩
  have h1:1≤k:=by omega
  have h10:k≤10:=by omega
  have HOF:=zh (show ∀w',Calls Tryz.prog 28 #[.int .i64 r.k] w' _ from fun w'=>by rw[hk];exact Zq7 k h1 h10 w')
  have hasks:=Zra k hk h1 h10
  have hgets:=Zsu HOK.out k h1 h10
  have hen1:=hasks.enters
  have hen2:=hgets.enters
  have HA:=zh hasks.asks
  have HG:=zh hgets.gets
  have HK:=zh (show r.k=(k:Int)∧1≤k∧k≤10 from⟨hk,h1,h10⟩)
  clear hasks hgets hk h1 h10 hin
  go_enter Tryz.func11,Tryz.ntmps11
  go_upto_region 1 with fail
  rw[←HW1.out]
  clear HW1
  go_wp2_with fail
  refine(HOF.out _).mono ?_
  rintro e w2 ⟨Ak,ck,rfl,E2,RK⟩
  have E02:Ext w w2:=E1.trans E2
  have P2:=zh (P1.out.ext E2)
  have RK:=zh RK
  clear k0 P1 E1 HOF
  go_upto_region 2 with(refine wpList_store_M rfl 114 _ _ rfl w2.heap.size _ rfl rfl 114 _ (Blk.new _ _ _) hiR rfl (by simp[Value.oneCell']) ?_;intro w3 P3 M3)
  have E3:Ext w2 w3:=Mod.toExt ((Ext.refl w2).alloc _) M3 (fun k hk he=>by omega)
  have E03:=E02.trans E3
  have P2:=zh (P2.out.ext E3)
  have RK:=zh (RdN.ext RK.out E3)
  obtain⟨n3,hn3⟩:=zm (w2.heap.size)
  rw[hn3] at P3⊢
  have P3:=zh P3
  clear M3 E3 E2 E02 hn3
  go_upto_region 5 with(refine wpList_load_row rfl 46 _ rfl _ rfl 46 _ _ _ P2.out Tryz.underlying46 rfl hiQ ?_)
  obtain⟨W6,hW6⟩:=zn (w3.alloc (.cells (rqA r (.slice Av r.mo.length cv)) 119))
  have E6:Ext w3 W6:=by rw[hW6];exact(Ext.refl _).alloc _
  have P6:=zh (show Blk W6 w3.heap.size 119 (rqA r (.slice Av r.mo.length cv)) by rw[hW6];exact Blk.new w3 _ _)
  have hs3:w.heap.size≤w3.heap.size:=E03.size
  obtain⟨n6,hn6⟩:=zm (w3.heap.size)
  rw[←hW6]
  rw[hn6] at P6 hs3⊢
  have E06:=E03.trans E6
  have P3:=zh (P3.out.ext E6)
  have RK:=zh (RdN.ext RK.out E6)
  have kf4:=P3.out.cell 4
  clear hW6 hn6 P2 E6 E03
  generalize Value.agg (rqA r (.slice Av r.mo.length cv))=z21
  obtain⟨z,hz⟩:=zm (Zbe r)
  rw[hz] at HA
  have HZ:=zh hz
  clear hz
  go_wp2_with fail
  refine(HA.out n6 Av cv _ P6.out).mono ?_
  rintro e w7 ⟨rfl,E7⟩
  have E07:=E06.trans E7
  have P3:=zh (P3.out.ext E7)
  have P6:=zh (P6.out.ext E7)
  have RK:=zh (RdN.ext RK.out E7)
  clear kf4 E06 E7 HA hen1
  by_cases hz0:z=0
  ·subst hz0
   have kf2:=P3.out.cell 2
   obtain⟨N,hN⟩:=zm ((fldsQ r k).length)
   have HN:=zh hN
   have hNK:(kindsQ k).length=N:=by rw[←Zcw r k];exact hN
   have hN6:N≤6:=by rw[←hNK];exact ZbL k
   clear hN
   go_wp2_with fail
   refine(HG.out n6 _ (fun j=>j<w.heap.size) w7 P6.out (HD.out.ext E07) (fun j hj=>by have:=E07.size;omega)).mono ?_
   rintro e w8 ⟨vl,rfl,o8,E8⟩
   have hbl:(Zpy r k).length=N:=by unfold Zpy;rw[List.length_map];exact HN.out
   obtain⟨A8,c8,rfl,-,-⟩:=o8.shape
   have O8:=zh (show OwnS FdR 86 w7.heap.size (fun j=>j<w.heap.size∨w7.heap.size≤j) w8 (.slice A8 N c8) (mixF (fldsQ r k) 0) by rw[Zm5,←hbl];exact o8)
   rw[hbl]
   have E8:=zh E8
   have HS7:=zh E07.size
   have RK:=zh (show RI .i64 w7 (.slice Ak N ck) (kindsQ k) by have h9:=RK.out;rw[←hNK];exact h9)
   rw[hNK] at P3
   clear o8 hbl kf2 HG hen2 P6
   go_wp2
   go_loopw [37] (fun i wr=>∃m:Nat,m≤N∧i= .int .i64 m∧Hid (OwnS FdR 86 w7.heap.size (fun j=>j<w.heap.size∨w7.heap.size≤j) wr (.slice A8 N c8) (mixF (fldsQ r k) m))∧Hid (Ext w7 wr)) (fun i _=>N - (intOf i).toNat)
   case atStart=>exact⟨0,Nat.zero_le _,rfl,O8,E8⟩
   case round=>
    clear O8 E8
    obtain⟨m,hm,rfl,HO,hE⟩:=hrel
    by_cases hmn:m<N
    ·obtain⟨bk,offk,x,rfl,hx,hdx⟩:=(RdN.ext RK.out hE.out).icell hmn
     obtain⟨g8,rfl,hg8,hfz⟩:=HO.out.addr (by omega)
     obtain⟨f,hf⟩:∃f,(fldsQ r k)[m]?=some f:=⟨_,List.getElem?_eq_getElem (by rw[HN.out];exact hmn)⟩
     have hfx:f.k=x:=by
      have h9:=hdx.out
      rw[←Zci r k,List.getElem?_map,hf] at h9
      simpa using h9
     obtain⟨b9,o9,At,ct,f9,he9,c0,-,-,-,-,-⟩:=Zfh HO.out.y hmn
     simp only[Option.some.injEq,Addr.mk.injEq,and_true] at he9
     obtain⟨rfl,rfl⟩:=he9
     have kr1:=(P3.out.ext hE.out).cell 1
     have hfz0:=hfz (m*4)
     have c0:wr.cell? ⟨g8,m*4,none⟩=some (.int .i64 f9.k):=by simpa using c0
     have HO2:=zh (show OwnS FdR 86 w7.heap.size (fun j=>j<w.heap.size∨w7.heap.size≤j) (wr.setCell ⟨g8,m*4,none⟩ (.int .i64 x)) (.slice (some ⟨g8,0,none⟩) N c8) (mixF (fldsQ r k) (m+1)) from by
      rw[←ZpI hf]
      refine OwnS.store (i:=0) HO.out (by rw[ZpG,HN.out];exact hmn) (by show 0<4;omega) ?_
      rintro cs d hd ⟨vt,rfl,ht⟩
      rw[Zre hf] at hd
      obtain rfl:=Option.some.inj hd
      exact⟨vt,by rw[hfx];rfl,ht⟩)
     have hE2:=zh (Mod.toExt hE.out ((Mod.refl (fun j=>j=g8) wr).set1 (o:=m*4) (.int .i64 x)) (fun j hj he=>by omega))
     clear HO hE hfz
     go_wp2
     go_roundw
     case rel=>exact⟨m+1,by omega,by go_num,HO2,hE2⟩
     case measure=>simp[intOf];omega
    ·obtain rfl:m=N:=by omega
     have HOE:=zh (show OwnS FdR 86 w7.heap.size (fun j=>j<w.heap.size∨w7.heap.size≤j) wr (.slice A8 m c8) (fldsQ r k) by
      have h9:=HO.out
      rw[show mixF (fldsQ r k) m=fldsQ r k by rw[←HN.out];exact ZpH _] at h9
      exact h9)
     have HW:=zh (ZeQ _ (fldsQ r k) wr HOE.out.rdT.y (by rw[HN.out];omega) (by rw[Zci];exact Zei k) (Zm3 HOK.out k))
     have HEE:=zh (E07.trans hE.out)
     have P3:=zh (P3.out.ext hE.out)
     have hes:=HEE.out.size
     clear HO hE HOE
     go_wp2_with fail
     refine(HW.out).mono ?_
     rintro e w9 ⟨u,q,rfl,E9,hq0,hq1,hq2⟩
     have HQ0:=zh hq0
     have HQ1:=zh hq1
     have HQ2:=zh hq2
     have E09:=HEE.out.trans E9
     have kr0:=(P3.out.ext E9).cell 0
     clear hq0 hq1 hq2 E9
     by_cases hqz:q=0
     ·have HQ3:=zh ((HQ0.out hqz).2.2.lower hes)
      subst hqz
      clear HQ0 HQ1
      go_wp2
      go_ret3
      exact⟨_,u,0,rfl,E09,fun _=>⟨k,HK.out.1,HK.out.2.1,HK.out.2.2,rfl,HZ.out,HQ3.out⟩,fun h=>absurd rfl h,fun _ _ _ _ _=>rfl⟩
     ·have hqb:(q==0)=false:=by simpa using hqz
      go_wp2
      go_ret3
      exact⟨_,_,q,rfl,E09,fun h=>absurd h hqz,fun _=>⟨rfl,rfl⟩,fun _ _ _ _ _=>HQ2.out (fun f hf=>Zrc (ZbZ HOK.out k HK.out.1 HZ.out f hf)) (by
       have h8:=Zhc _ (ZbZ HOK.out k HK.out.1 HZ.out)
       rw[HN.out] at h8
       omega)⟩
  ·have hzb:(z==0)=false:=by simpa using hz0
   go_wp2
   go_ret3
   exact⟨_,_,z,rfl,E07,fun h=>absurd h hz0,fun _=>⟨rfl,rfl⟩,fun _ _ _ _ ha=>absurd (HZ.out.symm.trans ha) hz0⟩
 ·have HOF:=zh (fun w'=>Zq8 r.k (by omega) w')
  have HNI:=zh hin
  clear hin
  go_enter Tryz.func11,Tryz.ntmps11
  go_upto_region 1 with fail
  rw[←HW1.out]
  clear HW1
  go_wp2_with fail
  refine(HOF.out _).mono ?_
  rintro e w2 ⟨rfl,E2⟩
  have E02:Ext w w2:=E1.trans E2
  clear k0 P1 E1 HOF
  go_upto_region 2 with(refine wpList_store_M rfl 114 _ _ rfl w2.heap.size _ rfl rfl 114 _ (Blk.new _ _ _) hiR rfl (by simp[Value.oneCell']) ?_;intro w3 P3 M3)
  have E03:=E02.trans (Mod.toExt ((Ext.refl w2).alloc _) M3 (fun k hk he=>by omega))
  clear M3 P3 E2 E02
  go_wp2
  go_ret3
  exact⟨_,_,8,rfl,E03,fun h=>absurd h (by decide),fun _=>⟨rfl,rfl⟩,fun k hk h1 h10 _=>absurd ⟨by omega,by omega⟩ HNI.out⟩
theorem ZkG (n:Nat):Zbv n 0=[.string ⟨#[]⟩,.slice none 0 0,.nilFunc,.nilFunc,.nilFunc]:=rfl
theorem ZpJ (m k:Nat)(h:m<k)(hk:k≤10):((nmQ m).toList== (nmQ k).toList)=false:=by
 have h9:∀m:Fin 11,∀k:Fin 11,m.1<k.1→((nmQ m.1).data.toList== (nmQ k.1).data.toList)=false:=by decide
 rw[Go.Lib.toList_data,Go.Lib.toList_data]
 exact h9 ⟨m,by omega⟩ ⟨k,by omega⟩ h
def ZkH (r:Rq)(k:Nat)(w:World)(e:Ending)(w':World):Prop:=
 ∃v,e= .returned (.tuple #[.agg (rqA (ownQ r k) v),.int .i64 0])∧RdS Ub8 (fun j=>w.heap.size≤j) w' v (ownQ r k).mo∧Ext w w'
theorem Zhd (r:Rq)(k:Nat)(vb:Value)(w:World)(h:RI .u8 w vb (encL (fldsQ r k)))(hk:r.k=(k:Int))(h1:1≤k)(h10:k≤10)(ha:Zbe r=0)(hr:r.Ok):
  Calls Tryz.prog 282 #[.string (nmQ k),vb] w (ZkH r k w):=by
 have hiQ:=zi Tryz.prog 46 11
 have hiR:=zi Tryz.prog 114 5
 obtain⟨A,c,rfl,hc1,hc2⟩:=h.shape
 obtain⟨L,hL⟩:=zm ((encL (fldsQ r k)).length)
 have H:=zh (show RdN w 1 (.slice A L c) (encL (fldsQ r k)).length ((encL (fldsQ r k)).map (Value.int .u8)) by rw[←hL];exact h)
 have HOK:=zh hr
 have HSM:=zh (ZbZ hr k hk ha)
 have hputs:=Zsv r k h1 h10
 have hasks:=Zra (r:=ownQ r k) k (ZpD r k) h1 h10
 have hen1:=hasks.enters
 have hen2:=hputs.enters
 have HA:=zh (show ∀g Av cv w,Blk w g 119 (rqA (ownQ r k) (.slice Av (ownQ r k).mo.length cv))→Calls Tryz.prog (aQ k) #[.pointer (some ⟨g,0,none⟩)] w (Zgh 0 w) from fun g Av cv w h9=>by
  have h8:=hasks.asks g Av cv w h9
  rw[ZkE k hk h1 h10,ha] at h8
  exact h8)
 have HP:=zh hputs.puts
 have HR:=zh fun w'=>ZeY w'
 have hk11:(k:Int)<11:=by omega
 obtain⟨W1,hW1⟩:=zn (w.alloc (.cells #[.int .i64 0,.string ⟨#[]⟩,.string ⟨#[]⟩,.string ⟨#[]⟩,.int .u32 0,.int .u32 0,.int .u32 0,.int .u32 0,.slice none 0 0,.bool false,.int .u32 0] 46))
 have E1:Ext w W1:=by rw[hW1];exact(Ext.refl _).alloc _
 have P1:=zh (show Blk W1 w.heap.size 46 (rqA (rq0 0) (.slice none 0 0)) by rw[hW1];exact Blk.new w _ _)
 have HW1:=zh hW1
 rw[hL] at hc1⊢
 clear h hr ha hL hputs hasks hW1 hk
 go_enter Tryz.func282,Tryz.ntmps282
 go_upto_region 1 with fail
 rw[←HW1.out]
 clear HW1
 go_wp2_with fail
 refine(HR.out _).mono ?_
 rintro e w2 ⟨rfl,E2,R2⟩
 obtain⟨n,hn⟩:=zm (W1.heap.size)
 rw[hn] at R2⊢
 have R2:=zh (R2.out k h10)
 have E02:=E1.trans E2
 have P2:=zh (P1.out.ext E2)
 have hs2:w.heap.size<w2.heap.size:=P2.out.lt
 clear E1 E2 P1 hn HR
 go_wp2
 go_loopw [13] (fun i wr=>∃m:Nat,m≤k∧i= .int .i64 m∧Hid (Ext w2 wr)) (fun i _=>k - (intOf i).toNat)
 case atStart=>exact⟨0,Nat.zero_le _,rfl,zh (Ext.refl _)⟩
 case round=>
  obtain⟨m,hm,rfl,hE⟩:=hrel
  have hm11:(m:Int)<11:=by omega
  by_cases hm0:m=0
  ·subst hm0
   have hix:=Zch 0 (by omega) n
   rw[ZkG] at hix
   have h00:((0:Nat):Int)=0:=rfl
   rw[h00] at hix hm11
   rw[h00]
   clear h00
   go_upto_region 4 with(refine wpList_store_M rfl 114 _ _ rfl wr.heap.size _ rfl rfl 114 _ (Blk.new _ _ _) hiR rfl (by simp[Value.oneCell']) ?_;intro w3 P3 M3)
   have E3:=zh (hE.out.trans (Mod.toExt ((Ext.refl wr).alloc _) M3 (fun k hk he=>by omega)))
   clear M3 P3
   go_wp2_with(refine wpList_openG rfl rfl ?_)
   exact⟨⟨1,by omega,by go_num,E3⟩,by simp[intOf];omega⟩
  ·have hmi:¬((m:Int)=0):=by omega
   have hmb:((m:Int)==0)=false:=by simpa using hmi
   have hix:=Zch m (by omega) n
   rw[ZkB m (by omega) (by omega) n] at hix
   by_cases hmk:m<k
   ·have hne:=ZpJ m k hmk h10
    obtain⟨kvm,hkv⟩:=zm (kvQ n m)
    have hk1:kvm.oneCell'=true:=by
     rw[←hkv]
     unfold kvQ
     split<;>rfl
    rw[hkv] at hix
    clear hkv
    go_upto_region 4 with(refine wpList_store_M rfl 114 _ _ rfl wr.heap.size _ rfl rfl 114 _ (Blk.new _ _ _) hiR rfl (by simp[Value.oneCell'];exact hk1) ?_;intro w3 P3 M3)
    have kp0:=P3.cell 0
    simp only[List.getElem?_toArray,List.getElem?_cons_zero] at kp0
    have E3:=zh (hE.out.trans (Mod.toExt ((Ext.refl wr).alloc _) M3 (fun k hk he=>by omega)))
    clear M3 P3
    go_wp2_with(refine wpList_openG rfl rfl ?_)
    exact⟨⟨m+1,by omega,by go_num,E3⟩,by simp[intOf];omega⟩
   ·obtain rfl:m=k:=by omega
    obtain⟨Ak,ck,hkv,-,-⟩:=R2.out.shape
    rw[hkv] at R2 hix
    obtain⟨NK,hNK⟩:=zm ((kindsQ m).length)
    have R2:=zh (show RdN w2 1 (.slice Ak NK ck) (kindsQ m).length ((kindsQ m).map (Value.int .i64)) by rw[←hNK];exact R2.out)
    rw[hNK] at hix
    clear hkv hmk
    obtain⟨wq,rfl⟩:=zn (wr)
    go_upto_region 4 with(refine wpList_store_M rfl 114 _ _ rfl wq.heap.size _ rfl rfl 114 _ (Blk.new _ _ _) hiR rfl (by simp[Value.oneCell']) ?_;intro w3 P3 M3)
    have E23:=zh (hE.out.trans (Mod.toExt ((Ext.refl wq).alloc _) M3 (fun k hk he=>by omega)))
    obtain⟨n3,hn3⟩:=zm (wq.heap.size)
    rw[hn3] at P3⊢
    have P3:=zh P3
    have kp0:=P3.out.cell 0
    have kp1:=P3.out.cell 1
    simp only[zG] at kp0 kp1
    have E03:=E02.trans E23.out
    have HRD:=zh (Zf0 (.slice Ak NK ck) (.slice A L c) (fldsQ r m) w3 (by rw[Zci];exact RdN.ext R2.out E23.out) (RdN.ext H.out E03) (by rw[Zcw];have:=ZbL m;omega) (by rw[Zci];exact Zei m) (fun f hf=>(HSM.out f hf).can))
    clear hE M3 hn3 hix
    go_wp2_with(first|(refine wpList_openG rfl rfl ?_)|fail)
    with_reducible refine(HRD.out).mono ?_
    rintro e w4 ⟨vl,rfl,o4,E4⟩
    obtain⟨Al,cl,rfl,-,-⟩:=o4.shape
    obtain⟨NF,hNF⟩:=zm ((fldsQ r m).length)
    have HL4:=zh ((o4.rd (A:=fun j=>w3.heap.size≤j) (fun j hj=>hj) (fun j hj=>hj)).lt)
    rw[hNF] at HL4⊢
    have E04:=E03.trans E4
    have P3:=zh (P3.out.ext E4)
    have P2:=zh (P2.out.ext (E23.out.trans E4))
    have hn3l:n3<w4.heap.size:=P3.out.lt
    have hw34:w.heap.size<w3.heap.size:=Nat.lt_of_lt_of_le hs2 E23.out.size
    have hw04:w.heap.size<w4.heap.size:=P2.out.lt
    clear o4 E4 kp0 kp1 HRD E03 E23 R2
    go_upto_region 9 with fail
    obtain⟨W5,hW5⟩:=zn (w4.alloc (.cells #[.int .i64 m,.string ⟨#[]⟩,.string ⟨#[]⟩,.string ⟨#[]⟩,.int .u32 0,.int .u32 0,.int .u32 0,.int .u32 0,.slice none 0 0,.bool false,.int .u32 0] 119))
    have E5:Ext w4 W5:=by rw[hW5];exact(Ext.refl _).alloc _
    have P5:=zh (show Blk W5 w4.heap.size 119 (rqA (rq0 m) (.slice none 0 0)) by rw[hW5];exact Blk.new w4 _ _)
    rw[←hW5]
    clear hW5
    obtain⟨n5,hn5⟩:=zm (w4.heap.size)
    have HL5:=zh ((HL4.out.mono (B:=fun j=>w3.heap.size≤j∧j<n5) (fun j _ hj=>by rw[←hn5];exact hj)).ext E5)
    have P3:=zh (P3.out.ext E5)
    have P2:=zh (P2.out.ext E5)
    have E05:=E04.trans E5
    have hw5:n5<W5.heap.size:=by rw[←hn5];exact P5.out.lt
    rw[hn5] at P5 hn3l hw04⊢
    have kp3:=P3.out.cell 3
    simp only[zG] at kp3
    clear HL4 E5 E04 hn5
    go_wp2_with fail
    refine(HP.out n5 _ Al NF cl (fun j=>w3.heap.size≤j∧j<n5) W5 P5.out (RdS.nil _ _ _) HL5.out (fun j hj=>⟨by omega,by omega⟩)).mono ?_
    rintro e w6 ⟨rfl,v6,B6,V6,M6⟩
    have B6:=zh B6
    have V6:=zh V6
    have HM6:=zh M6
    have P3:=zh (P3.out.mod M6 (by omega))
    have P2:=zh (P2.out.mod M6 (by omega))
    have kp4:=P3.out.cell 4
    simp only[zG] at kp4
    obtain⟨Av,cv,rfl,-,-⟩:=V6.out.shape
    have HA:=zh (fun w' h9=>HA.out n5 Av cv w' h9)
    have HRES:=zh (show ∀v e w',(e= .returned (.tuple #[.agg (rqA (ownQ r m) v),.int .i64 0])∧RdS Ub8 (fun j=>w.heap.size≤j) w' v (ownQ r m).mo∧Ext w w')→ZkH r m w e w' from fun v _ _ h=>⟨v,h⟩)
    generalize ownQ r m=om at*
    clear M6 kp3 HP hen2 HL5 HSM HOK H
    go_wp2_with fail
    refine(HA.out _ B6.out).mono ?_
    rintro e w7 ⟨rfl,E7⟩
    have B7:=zh (B6.out.ext E7)
    have V7:=zh (V6.out.ext E7)
    have P2:=zh (P2.out.ext E7)
    have HM7:=zh (HM6.out.ext E7)
    clear B6 V6 P3 HM6 E7 kp4 HA hen1
    go_wp2_with(first|(refine wpList_load_row rfl 46 _ rfl _ rfl 119 _ _ _ B7.out Tryz.underlying46 rfl hiQ ?_)|(refine wpList_store_M rfl 46 _ _ rfl w.heap.size _ rfl rfl 46 _ P2.out hiQ rfl (by simp[Value.oneCell']) ?_;intro w10 P10 M10))
    refine bodyPost_ret_by (Kb.Zab Tryz.results282 _ _ w.heap.size 46 _ _ _ rfl _ rfl P10 Tryz.underlying46 rfl hiQ) rfl ?_
    refine HRES.out _ _ _ ⟨rfl,?_,?_⟩
    ·exact(V7.out.mod M10 (fun j _ hj he=>by omega)).mono (fun j _ hj=>by omega)
    ·exact Mod.toExt (Mod.toExt E05 HM7.out (fun j hj he=>by omega)) M10 (fun j hj he=>by omega)
theorem ZpK (g:Nat)(w:World)(h:Blk w g 86 ZqI):
  Calls Tryz.prog 22 #[.slice (some ⟨g,0,none⟩) 1 1] w fun e w'=>∃A c,e= .returned (.tuple #[.slice A 1 c,.int .i64 0])∧OwnS Ub8 5 w.heap.size (fun _=>False) w' (.slice A 1 c) [1]∧Ext w w':=by
 unfold ZqI at h
 have HG:=zh h
 clear h
 have mk:∀w,(Instr.makeSlice 109 (.int .i64 1) (.int .i64 1)).run Tryz.prog w= .ok (.slice (some ⟨w.heap.size,0,none⟩) 1 1) (w.alloc (.cells #[.int .i64 0] 3)):=fun w=>by kernel_rfl
 have hi21:=zi Tryz.prog 163 21
 have hone:sortsV.all (·.oneCell')=true:=by simp[sortsV,fnV,Value.oneCell']
 go_enter Tryz.func22,Tryz.ntmps22
 go_upto_region 2 with fail
 obtain⟨W1,hW1⟩:=zn (w.alloc (.cells #[.int .i64 0] 3))
 have B1:=zh (show Blk W1 w.heap.size 3 #[.int .i64 0] by rw[hW1];exact Blk.new w _ _)
 have E01:Ext w W1:=by rw[hW1];exact(Ext.refl _).alloc _
 rw[←hW1]
 have hgl:=HG.out.lt
 clear hW1
 have B1':=zh (show Blk W1 w.heap.size 3 #[.int .i64 (if(0:Nat)=0 then 0 else 2)] from B1.out)
 go_wp2
 go_loopw [17] (fun i wr=>∃m:Nat,m≤1∧i= .int .i64 m∧Hid (Blk wr w.heap.size 3 #[.int .i64 (if m=0 then 0 else 2)])∧Hid (Ext w wr)) (fun i _=>1 - (intOf i).toNat)
 case atStart=>exact⟨0,Nat.zero_le _,rfl,B1',zh E01⟩
 case round=>
  clear B1 B1'
  obtain⟨m,hm,rfl,BK,hE⟩:=hrel
  by_cases hmn:m<1
  ·obtain rfl:m=0:=by omega
   have kg:=HG.out.ext hE.out
   have k0:=kg.cell 0
   have k1:=kg.cell 1
   have k2:=kg.cell 2
   have k3:=kg.cell 3
   go_upto_region 5 with fail
   obtain⟨W5,hW5⟩:=zn (wr.alloc (.cells #[.int .i64 2,.int .u32 1,.slice none 0 0,.slice none 0 0] 86))
   have E5:Ext wr W5:=by rw[hW5];exact(Ext.refl _).alloc _
   have P5:Blk W5 wr.heap.size 86 #[.int .i64 2,.int .u32 1,.slice none 0 0,.slice none 0 0]:=by rw[hW5];exact Blk.new wr _ _
   rw[←hW5]
   clear hW5
   have kp0:=P5.cell 0
   have BK5:=BK.out.ext E5
   have kb:=BK5.cell0
   have fb:=BK5.frozen 0
   have BK2:=zh (BK5.set_ 0 (.int .i64 2))
   have M2:Mod (fun k=>k=w.heap.size) W5 _:=(Mod.refl _ _).set1 (.int .i64 2) (o:=0)
   have hE2:=zh (Mod.toExt (hE.out.trans E5) M2 (by intro k hk he;omega))
   clear M2 kg k0 k1 k2 k3 BK hE E5
   go_wp2
   go_roundw
   case rel=>exact⟨1,by omega,by go_num,BK2,hE2⟩
   case measure=>simp[intOf]
  ·obtain rfl:m=1:=by omega
   have BK:=zh (show Blk wr w.heap.size 3 #[.int .i64 2] from BK.out)
   go_wp2_with fail
   refine(row2 _ _ BK.out).mono ?_
   rintro e w2 ⟨rfl,E2⟩
   have E02:=hE.out.trans E2
   go_wp2_with fail
   refine(Zd6 _).mono ?_
   rintro e w3 ⟨rfl,E3⟩
   have E03:=zh (E02.trans E3)
   clear E02 E2 E3 hE BK
   go_upto_region 10 with(refine wpList_store_A rfl 163 _ _ rfl w3.heap.size sortsV rfl rfl 163 _ (show Blk _ _ _ _ from Blk.at_ _ _ rfl) hi21 rfl hone ?_;intro w4 HB4 E4;have E4:Ext w3 w4:=E4 w3.heap.size w3 ((Ext.refl w3).alloc _) (by omega))
   have E04:=zh (E03.out.trans E4)
   have B7:=zh HB4
   obtain⟨n7,hn7⟩:=zm (w3.heap.size)
   rw[hn7] at B7⊢
   have HN7:=zh (show w.heap.size≤n7 by rw[←hn7];exact E03.out.size)
   clear E4 E03 HB4 hn7
   go_upto_region 11 with fail
   obtain⟨W8,hW8⟩:=zn (w4.alloc (.cells #[.slice none 0 0] 167))
   have E48:Ext w4 W8:=by rw[hW8];exact(Ext.refl _).alloc _
   have B8:=zh (show Blk W8 w4.heap.size 167 #[.slice none 0 0] by rw[hW8];exact Blk.new w4 _ _)
   obtain⟨n8,hn8⟩:=zm (w4.heap.size)
   have HN8:=zh (show n7<n8 by rw[←hn8];exact B7.out.lt)
   rw[←hW8]
   rw[hn8] at B8⊢
   have E08:=zh (E04.out.trans E48)
   have B7:=zh (B7.out.ext E48)
   clear hW8 E04 E48 hn8
   go_wp2
   go_loopw [36] (fun i wr=>∃m:Nat,m≤1∧i= .int .i64 m∧Hid (if m=0 then wr=W8 else ∃A c,Blk wr n8 167 #[.slice A 1 c]∧OwnS Ub8 5 w.heap.size (fun _=>False) wr (.slice A 1 c) [1])∧Hid (Ext w wr)) (fun i _=>1 - (intOf i).toNat)
   case atStart=>exact⟨0,Nat.zero_le _,rfl,zh (by rw[if_pos rfl]),E08⟩
   case round=>
    obtain⟨m,hm,rfl,HWR,hE⟩:=hrel
    by_cases hmn:m<1
    ·obtain rfl:m=0:=by omega
     have hwr:wr=W8:=by simpa using HWR.out
     subst hwr
     have kg:=HG.out.ext E08.out
     have k0:=kg.cell 0
     have k1:=kg.cell 1
     have k2:=kg.cell 2
     have k3:=kg.cell 3
     go_upto_region 14 with fail
     obtain⟨W10,hW10⟩:=zn (wr.alloc (.cells #[.int .i64 2,.int .u32 1,.slice none 0 0,.slice none 0 0] 86))
     have E10:Ext wr W10:=by rw[hW10];exact(Ext.refl _).alloc _
     have P10:=zh (show Blk W10 wr.heap.size 86 #[.int .i64 2,.int .u32 1,.slice none 0 0,.slice none 0 0] by rw[hW10];exact Blk.new wr _ _)
     rw[←hW10]
     clear hW10
     obtain⟨n10,hn10⟩:=zm (wr.heap.size)
     have HN10:=zh (show n8<n10 by rw[←hn10];exact B8.out.lt)
     rw[hn10] at P10⊢
     have hs6:sortsV[6]?=some (.func (.func 88) #[] #[]):=by rfl
     have hs7:sortsV[7]?=some (.func (.func 86) #[] #[]):=by rfl
     have S6:=zh (show W10.cell? ⟨n7,6,none⟩=some (.func (.func 88) #[] #[]) by rw[(B7.out.ext E10).cell,hs6])
     have HS7:=zh hs7
     have B7:=zh (B7.out.ext E10)
     have B8:=zh (B8.out.ext E10)
     have E010:=zh (E08.out.trans E10)
     clear hs6 hs7 hn10 kg k0 k1 k2 k3 E10 hE HWR
     refine zg (fun w'=>Ext W10 w') (Ext.drew (Ext.refl _)) fun hHeld=>?_
     refine zr 0 ?_
     (refine zu 1 (fun _ h=>(P10.out.ext h).cell 0) ?_)
     refine zr 2 ?_
     refine zr 3 ?_
     refine zv 4 S6.out ?_
     (refine zT (i:=5) (v:=?_) rfl (Or.inl ⟨by rfl,?_⟩) ?_;rotate_left;(focus(intro w' hSw;have c0:=(P10.out.ext hSw).cell 0;have c1:=(P10.out.ext hSw).cell 1;have c2:=(P10.out.ext hSw).cell 2;have c3:=(P10.out.ext hSw).cell 3;go_simp;try with_reducible rfl));(try simp only[zP]))
     (refine zc 6 (ZiG _) ?_;rintro e w11 ⟨rfl,E11⟩ K hK;refine zo hK zX fun hHeld=>?_;clear hK K)
     refine zr 7 ?_
     refine zd ?_
     have B7:=zh (B7.out.ext hHeld)
     have B8:=zh (B8.out.ext hHeld)
     have P10:=zh (P10.out.ext hHeld)
     have E011:=zh (E010.out.trans hHeld)
     clear hHeld E11 E010 S6
     go_upto_region 17 with fail
     have h78:=HN8.out
     have h810:=HN10.out
     refine zg (fun w'=>Mod (fun k=>k=n8) w11 w') (Mod.of_ext (Ext.drew (Ext.refl _))) fun hHeld=>?_
     obtain⟨D,hD⟩:=zn (w11.drew)
     have ED:Ext w11 D:=by rw[hD];exact(Ext.refl _).drew
     rw[←hD] at hHeld⊢
     clear hD
     refine zr 0 ?_
     (refine zu 1 (fun _ h=>(P10.out.mod h (by omega)).cell 0) ?_)
     refine zr 2 ?_
     refine zr 3 ?_
     (refine zT (i:=4) (v:=?_) rfl (Or.inl ⟨by rfl,?_⟩) ?_;rotate_left;(focus(intro w' hSw;have kc:=(B7.out.mod hSw (by omega)).cell 7;rw[HS7.out] at kc;go_simp;try with_reducible rfl));(try simp only[zP]))
     refine zr 5 ?_
     (refine zT (i:=6) (v:=?_) rfl (Or.inl ⟨by rfl,?_⟩) ?_;rotate_left;(focus(intro w' hSw;have c0:=(P10.out.mod hSw (by omega)).cell 0;have c1:=(P10.out.mod hSw (by omega)).cell 1;have c2:=(P10.out.mod hSw (by omega)).cell 2;have c3:=(P10.out.mod hSw (by omega)).cell 3;go_simp;try with_reducible rfl));(try simp only[zP]))
     (refine zc 7 (Zsq n8 _ (B8.out.ext ED)) ?_;rintro e w12 ⟨rfl,A12,c12,B12,O12,M12⟩ K hK;refine zo hK ((Mod.of_ext ED).trans M12) fun hHeld=>?_;clear hK K)
     refine zd ?_
     have kb:=B12.cell 0
     have hE12:=zh (Mod.toExt E011.out hHeld (by intro k hk he;have:=HN7.out;omega))
     have HWR2:=zh (show(if(1:Nat)=0 then w12=wr else ∃A c,Blk w12 n8 167 #[.slice A 1 c]∧OwnS Ub8 5 w.heap.size (fun _=>False) w12 (.slice A 1 c) [1]) from⟨A12,c12,B12,O12.lower (Nat.le_trans E011.out.size ED.size)⟩)
     clear hHeld B12 O12 M12 ED
     go_wp2
     go_roundw
     case rel=>exact⟨1,by omega,by go_num,HWR2,hE12⟩
     case measure=>simp[intOf]
    ·obtain rfl:m=1:=by omega
     obtain⟨A,c,B,O⟩:∃A c,Blk wr n8 167 #[.slice A 1 c]∧OwnS Ub8 5 w.heap.size (fun _=>False) wr (.slice A 1 c) [1]:=by simpa using HWR.out
     have kb:=B.cell 0
     have O:=zh O
     go_wp2
     refine bodyPost_ret (v:=.tuple #[.slice A 1 c,.int .i64 0]) (by simp[results,Tryz.results22,go_sem]) rfl ?_
     exact⟨A,c,rfl,O.out,hE.out⟩
end Go.Proofs.YtmmhcllibpmfnaaGreatDoor
namespace Go.Proofs.YtmmhcllibpmfnaaGreatDoor
open Go.RowKit Go.Kb Go.Kb.Frame
open Fr
theorem exs1:Hid (ZqO [1]=([0,0,0,1,1],0)):=zh (by decide)
theorem exs2:Hid (ZbC false ([]++ [0,0,0,1,1])=(([],false),([[1]],0))):=zh (by decide)
theorem Zrg {l:List Int}(h:l.all (fun x=>decide (0≤x∧x≤255))=true):Bs l:=fun x hx=>of_decide_eq_true (List.all_eq_true.1 h x hx)
theorem Zjh (w:World):Calls Tryz.prog 5 #[] w fun e w'=>e= .returned (.bool true)∧Ext w w':=by
 go_enter Tryz.func5,Tryz.ntmps5
 go_wp2_with fail
 refine(ZpK _ _ (Blk.new _ _ _)).mono ?_
 rintro e w1 ⟨A1,c1,rfl,o1,E1⟩
 have R1:=zh (RdY.ri o1.y)
 clear o1
 go_wp2_with fail
 refine(ZjY _ [1] _ R1.out (by simp)).mono ?_
 rintro e w2 ⟨v2,rfl,o2,E2⟩
 rw[exs1.out] at o2⊢
 obtain⟨A2,c2,rfl⟩:=Zau o2
 have P2:=zh o2.rd
 clear o2 R1
 go_wp2_with fail
 refine(ZhR _ _ false [] [0,0,0,1,1] _ (RdN.nil _ _) P2.out (Zrg rfl) (Zrg rfl) (by simp) (by simp)).mono ?_
 rintro e w3 ⟨v3,l3,rfl,⟨vs3,m3,o3,_,r3⟩,E3⟩
 rw[exs2.out] at o3 r3⊢
 obtain⟨A3,c3,rfl⟩:=Zau r3
 obtain⟨g,d3,A5,c5,rfl,hg,hcell,hrd⟩:=o3.one
 have P3:=zh hrd
 clear o3 r3 hrd
 go_wp2_with fail
 refine(ZjV _ _ [1] [1] _ (P3.out.ext zX) (RI.lit .u8 [1] _ (by simp) (by simp))).mono ?_
 rintro e w4 ⟨rfl,E4⟩
 go_wp2
 go_ret
 exact⟨rfl,zX⟩
def mgQ (r:Rq)(k:Nat)(ch:Int)(wa:Bool):Mg:=⟨98,ch,0,0,0,0,nmQ k,⟨#[]⟩,wa,encL (fldsQ r k)⟩
def psQ:List Pa:=[paChan,paName,paWant,paRest]
theorem ZpL (r:Rq)(k:Nat)(ch:Int)(wa:Bool):rowL (mgQ r k ch wa).k=some psQ:=by simp[mgQ,rowL,psQ]
theorem Zii (r:Rq)(k:Nat)(ch:Int)(wa:Bool):flds (mgQ r k ch wa) psQ=[⟨1,98,[]⟩,⟨3,ch,[]⟩,⟨4,0,bsL (nmQ k)⟩,⟨2,if wa=true then 1 else 0,[]⟩,⟨6,0,encL (fldsQ r k)⟩]:=by rfl
theorem mgQ_own (r:Rq)(k:Nat)(ch:Int)(wa:Bool):ownM (mgQ r k ch wa)=mgQ r k ch wa:=by
 cases wa<;>simp[ownM,mgQ,rowL,putAll,putM,vOf,mg0,paChan,paName,paWant,paRest,str_back]
theorem ZpM (k:Nat)(h1:1≤k)(h10:k≤10):ZiL (nmQ k) 1:=by
 have h9:∀k:Fin 11,1≤k.1→(1≤(nmQ k.1).size∧(nmQ k.1).size≤64)∧∀c∈bsL (nmQ k.1),33≤c∧c≤126:=by decide
 obtain⟨⟨h2,h3⟩,h4⟩:=h9 ⟨k,by omega⟩ h1
 exact⟨by dsimp only at h2;omega,h3,h4⟩
theorem Zm6 {r:Rq}(hr:r.Ok)(k:Nat):∀f∈fldsQ r k,Bs f.t:=by
 have hb:=hr.bs
 have hn:Bs []:=fun x hx=>by simp at hx
 unfold fldsQ
 split
 all_goals
  intro f hm
  simp only[List.mem_cons,List.not_mem_nil,or_false] at hm
 ·rcases hm with rfl|rfl|rfl|rfl|rfl|rfl<;>first|exact bsL_bs _|exact hb|exact hn
 ·rcases hm with rfl|rfl<;>exact bsL_bs _
 ·subst hm;exact bsL_bs _
 ·subst hm;exact bsL_bs _
 ·rcases hm with rfl|rfl|rfl|rfl<;>exact hn
 ·subst hm;exact hn
 ·subst hm;exact bsL_bs _
 ·subst hm;exact hn
 ·rcases hm with rfl|rfl|rfl|rfl<;>first|exact bsL_bs _|exact hn
theorem Zij {r:Rq}(hr:r.Ok)(k:Nat)(hk:r.k=(k:Int))(ha:Zbe r=0):Bs (encL (fldsQ r k)):=by
 intro x hx
 simp only[encL,List.mem_flatten,List.mem_map] at hx
 obtain⟨l,⟨f,hf,rfl⟩,hx⟩:=hx
 exact Zom (ZbZ hr k hk ha f hf).can (Zm6 hr k f hf) x hx
theorem Zgk {r:Rq}(hr:r.Ok)(k:Nat)(hk:r.k=(k:Int))(ha:Zbe r=0):(encL (fldsQ r k)).length≤6168:=by
 have h1:=Zhc _ (ZbZ hr k hk ha)
 have h2:=ZbL k
 rw[←Zcw r k] at h2
 omega
structure MgQG (m:Mg):Prop where
 ok:m.Ok
 row:rowL m.k=some psQ
 fit:FitP m
 flt:∀f∈flds m psQ,fltF f.k f.n f.t=0
 len:(encL (flds m psQ)).length≤33792
 own:ownM m=m
theorem Zm7 {r:Rq}(hr:r.Ok)(k:Nat)(hk:r.k=(k:Int))(h1:1≤k)(h10:k≤10)(ha:Zbe r=0)(ch:Int)(wa:Bool)(hc:0≤ch∧ch≤4294967295):MgQG (mgQ r k ch wa):=by
 have hl:=Zgk hr k hk ha
 have hw:=ZpM k h1 h10
 have hwl:(bsL (nmQ k)).length≤64:=by rw[ZcM];exact hw.2.1
 refine⟨⟨hc,by simp[mgQ],by simp[mgQ],by simp[mgQ],by simp[mgQ],?_,by show(⟨#[]⟩:ByteArray).size≤_;decide,?_,Zij hr k hk ha⟩,ZpL r k ch wa,?_,?_,?_,mgQ_own r k ch wa⟩
 ·show(nmQ k).size≤10000
  have:=hw.2.1;omega
 ·show(encL (fldsQ r k)).length≤100000
  omega
 ·simp[FitP,mgQ];exact hw
 ·rw[Zii]
  have hb:=Zft wa
  have h2:¬(1:Int)<(if wa=true then 1 else 0):=by omega
  have h3:¬32768<(bsL (nmQ k)).length:=by omega
  have h4:¬33792<(encL (fldsQ r k)).length:=by omega
  intro f hm
  simp only[List.mem_cons,List.not_mem_nil,or_false] at hm
  rcases hm with rfl|rfl|rfl|rfl|rfl<;>dsimp only
  ·simp[fltF]
  ·simp[fltF]
  ·simp[fltF,h3]
  ·rw[show fltF 2 (if wa=true then 1 else 0) []=(if(1:Int)<(if wa=true then 1 else 0) then 5 else 0) by simp[fltF],if_neg h2]
  ·simp[fltF,h4]
 ·rw[Zii]
  simp[encL,encF,Fr.four] at hl hwl⊢
  omega
end Go.Proofs.YtmmhcllibpmfnaaGreatDoor
namespace Go.Proofs.YtmmhcllibpmfnaaGreatDoor
open Go.RowKit Go.Kb
theorem ZkI (s:ByteArray)(w:World):Calls Tryz.prog 335 #[.string s,.int .u8 32] w fun e w'=>e= .returned (.int .i64 (Go.Lib.indexByte s.data.toList 32))∧Ext w w':=by
 go_enter Tryz.func335,Tryz.ntmps335
 go_wp2
 rw[run_callFunc_extern Tryz.func371 (by kernel_rfl) (by kernel_rfl) (by kernel_rfl) (e:=Extern.BytealgIndexByte.indexByte) (by kernel_rfl),Go.Lib.run_indexByteString]
 simp only[Result.andThen]
 rw[Oper.upon_value]
 go_wp2
 go_ret
 exact⟨rfl,zX⟩
theorem Zgl (s:ByteArray)(w:World):Calls Tryz.prog 299 #[.string s,.string ⟨#[32]⟩] w fun e w'=>e= .returned (.int .i64 (Go.Lib.indexByte s.data.toList 32))∧Ext w w':=by
 cases hb:(([32]:List UInt8)==s.toList) with
 |true=>
  have hs:s.data.toList=[32]:=(Go.Lib.toList_data s).symm.trans (beq_iff_eq.1 hb).symm
  have h0:Go.Lib.indexByte s.data.toList 32=0:=by rw[hs];rfl
  have H0:=zh h0
  clear hs h0
  go_enter Tryz.func299,Tryz.ntmps299
  go_wp2
  go_ret
  exact⟨by rw[H0.out];rfl,zX⟩
 |false=>
  have h61:((({data:=#[32]}:ByteArray)[0].toNat:Nat):Int)=32:=by rfl
  go_enter Tryz.func299,Tryz.ntmps299
  go_wp2_with fail
  refine(ZkI s _).mono ?_
  rintro e w1 ⟨rfl,E1⟩
  go_wp2
  go_ret
  exact⟨rfl,zX⟩
theorem Zba {P:Program}{fn:Func}{p q r:Tmp}(h:fn.results=#[.tmp p,.tmp q,.tmp r])(tmps:Array Value)(w:World)(v1 v2 v3:Value)(h1:tmps.getD p undef=v1)(h2:tmps.getD q undef=v2)(h3:tmps.getD r undef=v3):
  (results fn tmps).run P w= .ok (.tuple #[v1,v2,v3]) w:=by
 have h1':tmps[p]?.getD undef=v1:=by simpa using h1
 have h2':tmps[q]?.getD undef=v2:=by simpa using h2
 have h3':tmps[r]?.getD undef=v3:=by simpa using h3
 simp[results,h,h1',h2',h3']
theorem Zgm (l:List UInt8)(c:UInt8):Go.Lib.indexByte l c<(l.length:Int):=by
 induction l with
 |nil=>simp[Go.Lib.indexByte]
 |cons b l ih=>
  unfold Go.Lib.indexByte
  split
  ·simp only[List.length_cons];omega
  ·split
   ·simp only[List.length_cons];omega
   ·simp only[List.length_cons];omega
def Zgn (s:ByteArray):ByteArray:=if Go.Lib.indexByte s.data.toList 32= -1 then s else s.extract 0 (Go.Lib.indexByte s.data.toList 32).toNat
def Zsj (s:ByteArray)(w:World)(e:Ending)(w':World):Prop:=(∃ (r:ByteArray) (b:Bool),e= .returned (.tuple #[.string s,.string r,.bool b]))∧Ext w w'
theorem Zm8 (s:ByteArray)(w:World)(hs:s.size≤100000000):Calls Tryz.prog 391 #[.string s,.string ⟨#[32]⟩] w (Zsj (Zgn s) w):=by
 have HI:=zh (fun w'=>Zgl s w')
 have hge:=Go.Lib.indexByte_ge s.data.toList 32
 unfold Zgn
 obtain⟨n,hn⟩:=zm (Go.Lib.indexByte s.data.toList 32)
 have hlt:n<(s.size:Int):=by rw[←hn];exact Zgm _ _
 rw[hn] at HI hge⊢
 clear hn
 by_cases h1:n= -1
 ·subst h1
  go_enter Tryz.func391,Tryz.ntmps391
  go_wp2_with fail
  refine(HI.out _).mono ?_
  rintro e w1 ⟨rfl,E1⟩
  go_wp2
  refine bodyPost_ret_by (Zba Tryz.results391 _ _ _ _ _ rfl rfl rfl) rfl ?_
  exact⟨⟨_,_,rfl⟩,E1⟩
 ·obtain⟨k,rfl⟩:∃k:Nat,n=(k:Int):=⟨n.toNat,by omega⟩
  rw[if_neg h1]
  go_enter Tryz.func391,Tryz.ntmps391
  go_wp2_with fail
  refine(HI.out _).mono ?_
  rintro e w1 ⟨rfl,E1⟩
  go_wp2
  have i0:(0:Int)≤(k:Int):=by omega
  have i1:(k:Int)≤(s.size:Int):=by omega
  have i2:(k:Int)+1≤(s.size:Int):=by omega
  have hwr:IntKind.i64.wrap ((k:Int)+1)=(k:Int)+1:=by unfold IntKind.wrap;simp[IntKind.bits,IntKind.signed];omega
  have i3:(0:Int)≤(k:Int)+1:=by omega
  refine zg (fun w'=>Ext w1 w') (Ext.drew (Ext.refl _)) fun hHeld=>?_
  refine zr 0 ?_
  refine zr 1 ?_
  refine zr 2 ?_
  refine zr 3 ?_
  refine zr 4 ?_
  refine zr 5 ?_
  refine zr 6 ?_
  refine zr 7 ?_
  try rw[hwr]
  refine zr 8 ?_
  refine zr 9 ?_
  refine zr 10 ?_
  refine zr 11 ?_
  refine zd ?_
  go_wp2_with fail
  refine bodyPost_ret_by (Zba Tryz.results391 _ _ _ _ _ rfl rfl rfl) rfl ?_
  exact⟨⟨_,_,rfl⟩,E1.trans hHeld⟩
theorem ZpN (s:ByteArray)(w:World)(hs:s.size≤100000000):Calls Tryz.prog 361 #[.string s,.string ⟨#[32]⟩] w (Zsj (Zgn s) w):=by
 have HC:=zh (fun w'=>Zm8 s w' hs)
 unfold Zsj at HC
 obtain⟨u,hu⟩:=zm (Zgn s)
 rw[hu] at HC⊢
 clear hu hs
 go_enter Tryz.func361,Tryz.ntmps361
 go_wp2_with fail
 refine(HC.out _).mono ?_
 rintro e w1 ⟨⟨r,b,rfl⟩,E1⟩
 go_wp2
 refine bodyPost_ret_by (Zba Tryz.results361 _ _ _ _ _ rfl rfl rfl) rfl ?_
 exact⟨⟨_,_,rfl⟩,E1⟩
def PgR:Rep ByteArray where
 size:=2
 pos:=by decide
 rel:=fun _ _ cs d=>∃v,cs=[.string d,v]∧v.oneCell'=true
 len:=fun⟨v,h,_⟩=>by rw[h];rfl
 one:=fun⟨v,h,h2⟩ u hu=>by
  rw[h] at hu
  simp at hu
  rcases hu with rfl|rfl
  ·rfl
  ·exact h2
 keep:=fun h _=>h
theorem Zm9 {A:Nat→Prop}(k:Nat)(bs fs:Array Value)(f:ByteArray→Bool)(v:Value)(l:List ByteArray)(w:World)(h:RdY PgR A w v l)(hf:Zg0 k bs fs PgR f w):
  Calls Tryz.prog 405 #[v,.func (.func k) bs fs] w fun e w'=>e= .returned (.int .i64 (Zdq f l))∧Ext w w':=by
 obtain⟨Ad,c,rfl,hc1,hc2⟩:=h.shape
 have H:=zh (h.mono (B:=fun _=>True) fun _ _ _=>trivial)
 have HF:=zh hf
 have hi:∀cs:List Value,cs.length=2→(Tryz.prog.info? 101).map (·.size)=some cs.length:=fun cs hcs=>by rw[hcs];kernel_rfl
 have HI:=zh hi
 obtain⟨n,hn⟩:=zm (l.length)
 rw[hn] at H hc1⊢
 have HN:=zh hn
 clear h hf hn hi
 go_enter Tryz.func405,Tryz.ntmps405
 go_wp2
 go_loopw [8] (fun i wr=>∃m:Nat,m≤n∧i= .int .i64 m∧Hid (∀p∈l.take m,f p=false)∧Ext w wr) (fun i _=>n - (intOf i).toNat)
 case atStart=>exact⟨0,Nat.zero_le _,rfl,zh (by simp),zX⟩
 case round=>
  obtain⟨m,hm,rfl,HD,hE⟩:=hrel
  by_cases hlt:m<n
  ·obtain⟨b,off,c2,d,cs,hv,hd,hrel2,hlen,hcell⟩:=(H.out.ext hE).cells (j:=m) (by rw[HN.out];exact hlt)
   simp only[Value.slice.injEq] at hv
   obtain⟨rfl,-,rfl⟩:=hv
   have HCELL:=zh (show wr.rangeAt b (off+m*2) cs from hcell)
   have HLEN:=zh (show cs.length=2 from hlen)
   have HA:=zh (HF.out.2 cs d wr hE hrel2.out)
   have HK:=HF.out.1
   clear hlen hcell
   cases hp:f d
   ·rw[hp] at HA
    have HP:=zh hp
    clear hp
    go_wp2_with(first
     |(refine wpList_load_mid rfl 101 _ rfl b (off+m*2) rfl cs _ HCELL.out Tryz.underlying101 rfl (HI.out _ HLEN.out) ?_)
     |(refine HA.out.mono ?_;rintro e w2 ⟨rfl,E2⟩))
    go_roundw
    case rel=>exact⟨m+1,by omega,by go_num,zh (by
     rw[List.take_add_one,hd.out]
     intro q hq
     rcases List.mem_append.1 hq with h|h
     ·exact HD.out q h
     ·simp at h;rw[h];exact HP.out),zX⟩
    case measure=>simp[intOf];omega
   ·rw[hp] at HA
    have HP:=zh hp
    clear hp
    go_wp2_with(first
     |(refine wpList_load_mid rfl 101 _ rfl b (off+m*2) rfl cs _ HCELL.out Tryz.underlying101 rfl (HI.out _ HLEN.out) ?_)
     |(refine HA.out.mono ?_;rintro e w2 ⟨rfl,E2⟩))
    go_ret
    exact⟨by rw[ZaZ hd.out HD.out HP.out];rfl,zX⟩
  ·go_wp2
   go_ret
   obtain rfl:m=l.length:=by have:=HN.out;omega
   have:=HD.out
   rw[List.take_length] at this
   exact⟨by rw[ZaD this];rfl,zX⟩
theorem Zfv (args:Array Value)(w:World):(callFunc 406 args).run Tryz.prog w= .ok (.enter 406 args) w:=by kernel_rfl
theorem Zji (n:Nat)(x d:ByteArray)(v:Value)(w:World)(h:Blk w n 9 #[.string x]):
  Calls Tryz.prog 406 #[.agg #[.string d,v],.pointer (some ⟨n,0,none⟩)] w fun e w'=>e= .returned (.bool (d.toList==x.toList))∧Ext w w':=by
 have k0:=h.cell0
 have hl:=h.lt
 clear h
 go_enter Tryz.func406,Tryz.ntmps406
 go_wp2
 go_ret
 exact⟨rfl,zX⟩
theorem Zjj {x:ByteArray}{n:Nat}{w:World}(h:Blk w n 9 #[.string x]):Zg0 406 #[] #[.pointer (some ⟨n,0,none⟩)] PgR (fun d=>d.toList==x.toList) w:=
 ⟨Zfv,fun cs d w' hE hr=>by
  obtain⟨v,rfl,hv⟩:=hr
  exact Zji n x d v w' (h.ext hE)⟩
theorem ZpO {D:Type}(f:D→Bool)(l:List D): -1≤Zdq f l:=by
 unfold Zdq
 split
 ·omega
 ·omega
def fndP (ns:List ByteArray)(x:ByteArray):Int:=Zdq (fun d=>d.toList==x.toList) ns
theorem ZpP {A:Nat→Prop}(v:Value)(ns:List ByteArray)(x:ByteArray)(w:World)(h:RdY PgR A w v ns):
  Calls Tryz.prog 390 #[v,.string x] w fun e w'=>e= .returned (.tuple #[.int .i64 (if 0≤fndP ns x then fndP ns x else 0),.bool (decide (0≤fndP ns x))])∧Ext w w':=by
 have H:=zh h
 have B:=zh (Blk.new w 9 #[.string x])
 have HI:=zh (fun w' (E:Ext (w.alloc (.cells #[.string x] 9)) w')=>Zm9 _ _ _ _ v ns w' ((h.ext ((Ext.refl _).alloc _)).ext E) (Zjj (B.out.ext E)))
 obtain⟨Ad,c,rfl,-,-⟩:=h.shape
 obtain⟨i,hi⟩:=zm (fndP ns x)
 have HI:=zh (show ∀w',Ext (w.alloc (.cells #[.string x] 9)) w'→Calls Tryz.prog _ _ w' (fun e w''=>e= .returned (.int .i64 i)∧Ext w' w'') from fun w' E=>by
  have h9:=HI.out w' E
  rw[show Zdq (fun d=>d.toList==x.toList) ns=i from hi] at h9
  exact h9)
 have hge: -1≤i:=by rw[←hi];exact ZpO _ _
 rw[hi]
 clear h hi
 by_cases h0:0≤i
 ·rw[if_pos h0,decide_eq_true h0]
  have hm:¬i<0:=by omega
  go_enter Tryz.func390,Tryz.ntmps390
  go_wp2_with fail
  refine(HI.out _ (Ext.refl _)).mono ?_
  rintro e w1 ⟨rfl,E1⟩
  go_wp2
  go_ret2
  exact⟨rfl,zX⟩
 ·rw[if_neg h0,decide_eq_false h0]
  obtain rfl:i= -1:=by omega
  clear h0
  go_enter Tryz.func390,Tryz.ntmps390
  go_wp2_with fail
  refine(HI.out _ (Ext.refl _)).mono ?_
  rintro e w1 ⟨rfl,E1⟩
  go_wp2
  go_ret2
  exact⟨rfl,zX⟩
theorem Zak {w:World}{g:Nat}{t:TypeId}{cs:Array Value}(h:Blk w g t cs){i:Nat}{u:Value}(hi:cs[i]?=some u):w.cell? ⟨g,i,none⟩=some u:=(h.cell i).trans hi
theorem Zek (a:Nat)(cs:Array Value)(u:Value)(w:World)(h:Blk w a 372 cs)(h4:cs[44]?=some u):
  Calls Tryz.prog 357 #[.pointer (some ⟨a,0,none⟩)] w fun e w'=>e= .returned (.tuple #[])∧Blk w' a 372 (cs.setIfInBounds 44 (.bool true))∧Mod (fun k=>k=a) w w':=by
 have k4:=Zak h h4
 have f4:=h.frozen 44
 have HB:=zh h
 clear h
 go_enter Tryz.func357,Tryz.ntmps357
 go_wp2
 go_end0
 exact⟨rfl,HB.out.set_ 44 (.bool true),(Mod.refl _ _).set1 _⟩
theorem Zhe (a:Nat)(cs:Array Value)(u u2:Value)(x:Int)(w:World)(h:Blk w a 372 cs)(h4:cs[44]?=some u)(h5:cs[45]?=some u2):
  Calls Tryz.prog 362 #[.pointer (some ⟨a,0,none⟩),.int .i64 x] w fun e w'=>e= .returned (.tuple #[])∧Blk w' a 372 ((cs.setIfInBounds 44 (.bool true)).setIfInBounds 45 (.int .i64 x))∧Mod (fun k=>k=a) w w':=by
 have HO:=zh (Zek a cs u w h h4)
 have h5b:(cs.setIfInBounds 44 (.bool true))[45]?=some u2:=by rw[Array.getElem?_setIfInBounds_ne (by decide)];exact h5
 clear h h4 h5
 go_enter Tryz.func362,Tryz.ntmps362
 go_wp2_with fail
 refine(HO.out).mono ?_
 rintro e w1 ⟨rfl,B1,M1⟩
 have k5:=Zak B1 h5b
 have f5:=B1.frozen 45
 have B1:=zh B1
 have M1:=zh M1
 clear HO h5b
 go_wp2
 go_end0
 exact⟨rfl,B1.out.set_ 45 (.int .i64 x),M1.out.set1 _⟩
def Zsk (cs:Array Value)(i:Int):Array Value:=(((cs.setIfInBounds 31 (.bool true)).setIfInBounds 44 (.bool true)).setIfInBounds 45 (.int .i64 1)).setIfInBounds 46 (.int .i64 i)
def StP (a:Nat)(cs:Array Value)(st:Bool)(i:Int)(w:World)(e:Ending)(w':World):Prop:=
 e= .returned (.tuple #[])∧Blk w' a 372 (if st=false∧0≤i then Zsk cs i else cs)∧Mod (fun k=>k=a) w w'
theorem ZcR {A:Nat→Prop}(a:Nat)(cs:Array Value)(st:Bool)(u4 u5 u6 pv:Value)(ns:List ByteArray)(x:ByteArray)(w:World)(h:Blk w a 372 cs)(h31:cs[31]?=some (.bool st))(h43:cs[43]?=some pv)(h4:cs[44]?=some u4)(h5:cs[45]?=some u5)(h6:cs[46]?=some u6)
  (hp:RdY PgR A w pv ns):Calls Tryz.prog 360 #[.pointer (some ⟨a,0,none⟩),.string x] w (StP a cs st (fndP ns x) w):=by
 have HF:=zh (ZpP pv ns x w hp)
 have k43:=Zak h h43
 have HB:=zh h
 have H31:=zh h31
 have H4:=zh h4
 have H5:=zh h5
 have H6:=zh h6
 obtain⟨i,hi⟩:=zm (fndP ns x)
 unfold StP
 rw[hi] at HF⊢
 clear h h31 h43 h4 h5 h6 hp hi
 by_cases h0:0≤i
 ·rw[if_pos h0,decide_eq_true h0] at HF
  cases st with
  |true=>
   rw[if_neg (by simp)]
   go_enter Tryz.func360,Tryz.ntmps360
   go_wp2_with fail
   refine(HF.out).mono ?_
   rintro e w1 ⟨rfl,E1⟩
   have k31:=Zak (HB.out.ext E1) H31.out
   clear k43 HF
   go_wp2
   first|go_end0|(refine bodyPost_ret (v:=.tuple #[]) (results_none rfl _ _ _) rfl ?_)
   exact⟨rfl,HB.out.ext E1,Mod.of_ext E1⟩
  |false=>
   rw[if_pos ⟨rfl,h0⟩]
   go_enter Tryz.func360,Tryz.ntmps360
   go_wp2_with fail
   refine(HF.out).mono ?_
   rintro e w1 ⟨rfl,E1⟩
   have B1:=zh (HB.out.ext E1)
   have k31:=Zak B1.out H31.out
   have f31:=B1.out.frozen 31
   have B2:=zh (B1.out.set_ 31 (.bool true))
   have M2:Kb.Mod (fun k=>k=a) w1 (w1.setCell ⟨a,31,none⟩ (.bool true)):=(Mod.refl _ _).set1 _
   have HD:=zh (Zhe a (cs.setIfInBounds 31 (.bool true)) u4 u5 1 _ B2.out (by rw[Array.getElem?_setIfInBounds_ne (by decide)];exact H4.out) (by rw[Array.getElem?_setIfInBounds_ne (by decide)];exact H5.out))
   have M02:=zh ((Mod.of_ext E1).trans M2)
   clear k43 HF M2
   go_wp2_with fail
   refine(HD.out).mono ?_
   rintro e w3 ⟨rfl,B3,M3⟩
   have k46:=Zak B3 (show(((cs.setIfInBounds 31 (.bool true)).setIfInBounds 44 (.bool true)).setIfInBounds 45 (.int .i64 1))[46]?=some u6 by rw[Array.getElem?_setIfInBounds_ne (by decide),Array.getElem?_setIfInBounds_ne (by decide),Array.getElem?_setIfInBounds_ne (by decide)];exact H6.out)
   have f46:=B3.frozen 46
   have B3:=zh B3
   have M3:=zh M3
   clear HD B2 k31 f31
   go_wp2
   go_end0
   exact⟨rfl,B3.out.set_ 46 (.int .i64 i),(M02.out.trans M3.out).set1 _⟩
 ·rw[if_neg h0,decide_eq_false h0] at HF
  rw[if_neg (fun h=>h0 h.2)]
  go_enter Tryz.func360,Tryz.ntmps360
  go_wp2_with fail
  refine(HF.out).mono ?_
  rintro e w1 ⟨rfl,E1⟩
  have k31:=Zak (HB.out.ext E1) H31.out
  clear k43 HF
  cases st
  all_goals
   go_wp2
   first|go_end0|(refine bodyPost_ret (v:=.tuple #[]) (results_none rfl _ _ _) rfl ?_)
   exact⟨rfl,HB.out.ext E1,Mod.of_ext E1⟩
theorem ZkJ {A:Nat→Prop}(a:Nat)(cs:Array Value)(st:Bool)(u4 u5 u6 pv:Value)(ns:List ByteArray)(x:ByteArray)(w:World)(h:Blk w a 372 cs)(h31:cs[31]?=some (.bool st))(h33:cs[33]?=some (.string x))(h43:cs[43]?=some pv)(h4:cs[44]?=some u4)(h5:cs[45]?=some u5)(h6:cs[46]?=some u6)
  (hp:RdY PgR A w pv ns) (hx:x.size≤100000000):Calls Tryz.prog 315 #[.pointer (some ⟨a,0,none⟩)] w (StP a cs st (fndP ns (Zgn x)) w):=by
 have k33:=Zak h h33
 have HC:=zh (fun w'=>ZpN x w' hx)
 unfold Zsj at HC
 have HS:=zh (fun w' (E:Ext w w')=>ZcR (A:=A) a cs st u4 u5 u6 pv ns (Zgn x) w' (h.ext E) h31 h43 h4 h5 h6 (hp.ext E))
 unfold StP at HS⊢
 obtain⟨y,hy⟩:=zm (Zgn x)
 rw[hy] at HC HS⊢
 obtain⟨z,hz⟩:=zm ((if st=false∧0≤fndP ns y then Zsk cs (fndP ns y) else cs))
 rw[hz] at HS⊢
 clear h h31 h33 h43 h4 h5 h6 hp hx hy hz
 go_enter Tryz.func315,Tryz.ntmps315
 go_wp2_with fail
 refine(HC.out _).mono ?_
 rintro e w1 ⟨⟨r,b,rfl⟩,E1⟩
 go_wp2_with fail
 refine(HS.out _ E1).mono ?_
 rintro e w2 ⟨rfl,B2,M2⟩
 have B2:=zh B2
 have M2:=zh M2
 clear HS HC
 go_wp2
 go_end0
 exact⟨rfl,B2.out,(Mod.of_ext E1).trans M2.out⟩
theorem Zhf (args:Array Value)(w:World):(callFunc 315 args).run Tryz.prog w= .ok (.enter 315 args) w:=by kernel_rfl
abbrev qk (f:Nat):Value:=.func (.func f) #[] #[]
def kiA:Array Value:=#[qk 311,qk 312,qk 313,qk 314,qk 315,qk 316,qk 317,qk 311,qk 318,qk 311,qk 311]
theorem Zjk (w:World):Calls Tryz.prog 283 #[] w fun e w'=>e= .returned (.agg kiA)∧Ext w w':=by
 have hiK:=zi Tryz.prog 374 11
 go_enter Tryz.func283,Tryz.ntmps283
 go_upto_region 1 with fail
 have B1:=zh (Blk.new w 374 #[.nilFunc,.nilFunc,.nilFunc,.nilFunc,.nilFunc,.nilFunc,.nilFunc,.nilFunc,.nilFunc,.nilFunc,.nilFunc])
 have E1:Ext w (w.alloc (.cells #[.nilFunc,.nilFunc,.nilFunc,.nilFunc,.nilFunc,.nilFunc,.nilFunc,.nilFunc,.nilFunc,.nilFunc,.nilFunc] 374)):=(Ext.refl _).alloc _
 go_wp2_with(first|(refine wpList_store_M rfl 374 _ _ rfl w.heap.size _ rfl rfl 374 _ B1.out hiK rfl (by simp[Value.oneCell']) ?_;intro w4 P4 M4)|fail)
 refine bodyPost_ret_by (results_cell_row Tryz.results283 _ _ w.heap.size 374 _ _ _ rfl P4 Tryz.underlying374 rfl hiK) rfl ?_
 exact⟨rfl,Mod.toExt E1 M4 (fun k hk he=>by omega)⟩
theorem Zad {P:Program}{fn:Func}{p p2:Tmp}{ty ty2:TypeId}(h:fn.results=#[.cell p ty,.cell p2 ty2])(tmps:Array Value)(w:World)(g g2:Nat)(t t2:TypeId)(cs cs2:Array Value)(fr fr2:Nat×Nat)(d d2:TypeDesc)
  (hp:tmps.getD p undef= .pointer (some ⟨g,0,none⟩)) (hp2:tmps.getD p2 undef= .pointer (some ⟨g2,0,none⟩)) (hg:w.heap[g]?=some (.cells cs t fr)) (hg2:w.heap[g2]?=some (.cells cs2 t2 fr2))
  (hu:P.underlying ty=some d) (hd:(match d with| .struct _| .array _ _=>true|_=>false)=true) (hi:(P.info? ty).map (·.size)=some cs.size)
  (hu2:P.underlying ty2=some d2) (hd2:(match d2 with| .struct _| .array _ _=>true|_=>false)=true) (hi2:(P.info? ty2).map (·.size)=some cs2.size):
  (results fn tmps).run P w= .ok (.tuple #[.agg cs,.agg cs2]) w:=by
 have hp':tmps[p]?.getD undef= .pointer (some ⟨g,0,none⟩):=by simpa using hp
 have hp2':tmps[p2]?.getD undef= .pointer (some ⟨g2,0,none⟩):=by simpa using hp2
 simp[results,h,hp',hp2',asAddr,run_loadVar_row w g t ty cs fr d hg hu hd hi,run_loadVar_row w g2 t2 ty2 cs2 fr2 d2 hg2 hu2 hd2 hi2]
def rqE (tx:ByteArray):Rq:=⟨4,tx,⟨#[]⟩,⟨#[]⟩,0,0,0,0,[],false,0⟩
abbrev rqZ:Array Value:=#[.int .i64 0,.string ⟨#[]⟩,.string ⟨#[]⟩,.string ⟨#[]⟩,.int .u32 0,.int .u32 0,.int .u32 0,.int .u32 0,.slice none 0 0,.bool false,.int .u32 0]
def coA:Array Value:=#[qk 149,qk 150,qk 151,qk 152,qk 153,qk 154,qk 149,qk 155]
theorem ZkK (w:World):Calls Tryz.prog 76 #[] w fun e w'=>e= .returned (.agg coA)∧Ext w w':=by
 have hiK:=zi Tryz.prog 209 8
 go_enter Tryz.func76,Tryz.ntmps76
 go_upto_region 1 with fail
 have B1:=zh (Blk.new w 209 #[.nilFunc,.nilFunc,.nilFunc,.nilFunc,.nilFunc,.nilFunc,.nilFunc,.nilFunc])
 have E1:Ext w (w.alloc (.cells #[.nilFunc,.nilFunc,.nilFunc,.nilFunc,.nilFunc,.nilFunc,.nilFunc,.nilFunc] 209)):=(Ext.refl _).alloc _
 go_wp2_with(first|(refine wpList_store_M rfl 209 _ _ rfl w.heap.size _ rfl rfl 209 _ B1.out hiK rfl (by simp[Value.oneCell']) ?_;intro w4 P4 M4)|fail)
 refine bodyPost_ret_by (results_cell_row Tryz.results76 _ _ w.heap.size 209 _ _ _ rfl P4 Tryz.underlying209 rfl hiK) rfl ?_
 exact⟨rfl,Mod.toExt E1 M4 (fun k hk he=>by omega)⟩
theorem ZkL (k:Nat)(bs fs:Array Value)(w:World):Calls Tryz.prog 156 #[.slice none 0 0,.func (.func k) bs fs] w fun e w'=>e= .returned (.int .i64 (-1))∧Ext w w':=by
 go_enter Tryz.func156,Tryz.ntmps156
 go_wp2
 go_loopw [8] (fun i wr=>i= .int .i64 0∧wr=w) (fun _ _=>0)
 case atStart=>exact⟨rfl,rfl⟩
 case round=>
  obtain⟨rfl,rfl⟩:=hrel
  go_wp2
  go_ret
  exact⟨rfl,Ext.refl _⟩
theorem Zjl (k:Nat)(bs fs:Array Value)(w:World):Calls Tryz.prog 77 #[.slice none 0 0,.func (.func k) bs fs] w fun e w'=>e= .returned (.slice none 0 0)∧Ext w w':=by
 go_enter Tryz.func77,Tryz.ntmps77
 go_wp2_with fail
 refine(ZkL _ _ _ _).mono ?_
 rintro e w1 ⟨rfl,E1⟩
 go_wp2
 go_ret
 exact⟨rfl,E1⟩
theorem Zgo (g:Nat)(pv fv bd cv lm dd kp lv sv:Value)(w:World)(h:Blk w g 143 (ZbA pv fv bd cv lm dd kp lv (.slice none 0 0) sv)):
  Calls Tryz.prog 41 #[.pointer (some ⟨g,0,none⟩)] w fun e w'=>e= .returned (.tuple #[])∧Blk w' g 143 (ZbA pv fv bd cv lm dd kp lv (.slice none 0 0) sv)∧Mod (fun k=>k=g) w w':=by
 obtain⟨W1,hW1⟩:=zn (w.alloc (.cells #[.pointer (some ⟨g,0,none⟩)] 30))
 have E1:Ext w W1:=by rw[hW1];exact(Ext.refl _).alloc _
 have B1:=zh (show Blk W1 w.heap.size 30 #[.pointer (some ⟨g,0,none⟩)] by rw[hW1];exact Blk.new w _ _)
 have HW1:=zh hW1
 have HB:=zh (h.ext E1)
 have k8:=HB.out.cell 8
 have b0:=B1.out.cell 0
 simp only[zG] at k8 b0
 clear h hW1
 go_enter Tryz.func41,Tryz.ntmps41
 go_upto_region 1 with fail
 rw[←HW1.out]
 clear HW1
 refine Zao 9 (fun w'=>Ext W1 w') (by kernel_rfl) (Ext.drew (Ext.refl _)) (fun hHeld=>?_)
 obtain⟨D,hD⟩:=zn (W1.drew)
 have ED:Ext W1 D:=by rw[hD];exact(Ext.refl _).drew
 rw[←hD] at hHeld⊢
 clear hD
 (refine zl 0 (fun _ h=>Zaa h b0) ?_)
 (refine zl 1 (fun _ h=>Zaa h b0) ?_)
 refine zk 2 ?_
 refine zk 3 ?_
 (refine zl 4 (fun _ h=>Zaa h k8) ?_)
 refine zk 5 ?_
 refine zy 6 fun K hK=>?_
 go_simp
 refine(Zjl _ _ _ _).mono ?_
 rintro e w2 ⟨rfl,E2⟩
 (try dsimp only)
 have E12:=ED.trans E2
 refine zo hK E12 fun hHeld=>?_
 clear hK K
 (refine zy 7 fun K hK=>?_;go_simp;refine zo hK E12 fun hHeld=>?_;clear hK K)
 refine zk 8 ?_
 have HB2:=zh (HB.out.ext E12)
 have k8:=HB2.out.cell 8
 have f8:=HB2.out.frozen 8
 simp only[zG] at k8
 (refine Zam (rs:=[9]) (by kernel_rfl) (by simp) ?_;refine Zaj.last rfl (fun K hK=>?_) Zaj.nil;go_simp;refine hK.out _ _ ?_;clear hK K;(try simp only[zP]))
 refine Zaw (by kernel_rfl) ?_ _
 go_end0
 exact⟨rfl,by simpa using HB2.out.set_ 8 (.slice none 0 0),(Mod.of_ext (E1.trans E12)).trans ((Mod.refl _ _).set1 _)⟩
theorem Zjm (g:Nat)(pv fv bd cv lm dd kp lv sv:Value)(w:World)(h:Blk w g 143 (ZbA pv fv bd cv lm dd kp lv (.slice none 0 0) sv)):
  Calls Tryz.prog 43 #[.pointer (some ⟨g,0,none⟩)] w fun e w'=>e= .returned sv∧Blk w' g 143 (ZbA pv fv bd cv lm dd kp lv (.slice none 0 0) (.slice none 0 0))∧Mod (fun k=>k=g) w w':=by
 have HS:=zh (Zgo g pv fv bd cv lm dd kp lv sv w h)
 clear h
 go_enter Tryz.func43,Tryz.ntmps43
 go_wp2_with fail
 refine(HS.out).mono ?_
 rintro e w1 ⟨rfl,B1,M1⟩
 have k9:=B1.cell 9
 have f9:=B1.frozen 9
 simp only[zG] at k9
 have B1:=zh B1
 have M1:=zh M1
 clear HS
 go_wp2
 go_ret
 exact⟨rfl,by simpa using B1.out.set_ 9 (.slice none 0 0),M1.out.trans ((Mod.refl _ _).set1 _)⟩
theorem Zjn {A:Nat→Prop}(kb:Nat)(pv tk ss kn:Value)(At:Option Addr)(ct:Nat)(l:List Tb.Pr)(nx:Int)(w:World)(h:Blk w kb 218 (ZeW pv (.slice At l.length ct) (.int .i64 nx) tk ss kn))(hr:RdY Tb.Rp A w (.slice At l.length ct) l)(hl:l.length≤1000):
  Calls Tryz.prog 48 #[.pointer (some ⟨kb,0,none⟩)] w fun e w'=>∃A' c',e= .returned (.agg #[.slice A' l.length c',.int .i64 nx])∧Ext w w':=by
 have hiT:=zi Tryz.prog 79 2
 obtain⟨W1,hW1⟩:=zn (w.alloc (.cells #[.slice none 0 0,.int .i64 0] 79))
 have E1:Ext w W1:=by rw[hW1];exact(Ext.refl _).alloc _
 have B1:=zh (show Blk W1 w.heap.size 79 #[.slice none 0 0,.int .i64 0] by rw[hW1];exact Blk.new w _ _)
 have HW1:=zh hW1
 have HB:=zh (h.ext E1)
 have HCL:=zh (fun w' (E:Ext W1 w')=>Tb.ZdQ (A:=A) (.slice At l.length ct) l w' ((hr.ext E1).ext E) (by omega))
 obtain⟨n,hn⟩:=zm (l.length)
 rw[hn] at HB HCL⊢
 have k1:=HB.out.cell 1
 have k2:=HB.out.cell 2
 simp only[zG] at k1 k2
 have hw1:=B1.out.lt
 have hkl:=h.lt
 obtain⟨n0,hn0⟩:=zm (w.heap.size)
 have HN0:=zh hn0
 rw[hn0] at B1 hw1 hkl
 have hkw:=HB.out.lt
 clear h hr hW1 hn hn0 hl
 go_enter Tryz.func48,Tryz.ntmps48
 go_upto_region 1 with fail
 rw[←HW1.out]
 rw[HN0.out]
 clear HW1
 go_upto_region 3 with fail
 have hk0:¬kb=n0:=by omega
 refine zg (fun w'=>Kb.Mod (fun k=>k=n0) W1 w') (Mod.of_ext (Ext.drew (Ext.refl _))) fun hHeld=>?_
 obtain⟨D,hD⟩:=zn (W1.drew)
 have ED:Ext W1 D:=by rw[hD];exact(Ext.refl _).drew
 rw[←hD] at hHeld⊢
 clear hD
 refine zr 0 ?_
 refine zr 1 ?_
 refine zr 2 ?_
 refine zr 3 ?_
 (refine zu 4 (fun _ h=>(h.cell kb 1 hkw hk0).trans k1) ?_)
 refine zr 6 ?_
 refine zr 7 ?_
 refine zr 8 ?_
 refine zr 9 ?_
 (refine zu 10 (fun _ h=>(h.cell kb 2 hkw hk0).trans k2) ?_)
 refine zw 5 fun K hK=>?_
 go_simp
 refine(HCL.out D ED).mono ?_
 rintro e w2 ⟨A2,c2,rfl,-,E2⟩
 (try dsimp only)
 refine zo hK (Mod.of_ext (ED.trans E2)) fun hHeld=>?_
 clear hK K
 (refine zU 11 (v:=.agg #[.slice A2 n c2,.int .i64 nx]) rfl (Zae (by rfl) 79 _ rfl (by simp[go_sem];exact(by kernel_rfl))) ?_)
 (refine zw 12 fun K hK=>?_;rw[if_pos (by rfl)];refine Zag 79 _ _ rfl (n0) _ rfl rfl 79 _ (B1.out.ext (ED.trans E2)) hiT (by rfl) (by simp[Value.oneCell']) ?_;intro u3 B3 M3;refine zo hK ((Mod.of_ext (ED.trans E2)).trans M3) fun hHeld=>?_;clear hK K)
 refine zd ?_
 go_wp2_with fail
 refine bodyPost_ret_by (results_cell_row Tryz.results48 _ _ n0 79 _ _ _ rfl B3 Tryz.underlying79 rfl hiT) rfl ?_
 exact⟨A2,c2,rfl,Mod.toExt E1 hHeld (fun k hk he=>by have:=HN0.out;omega)⟩
theorem Zjo (g kb base:Nat)(pv fv bd cv lm dd lv lf sv pp:Value)(l:List Tb.Pr)(nx kn:Int)(tbs sbs:List Nat)(ts:List (Int×Int))(w:World)(h:Blk w g 143 (ZbA pv fv bd cv lm dd (.pointer (some ⟨kb,0,none⟩)) lv lf sv))(hk:ZmO kb base w pp l nx kn tbs sbs ts)(hl:l.length≤1000):
  Calls Tryz.prog 21 #[.pointer (some ⟨g,0,none⟩)] w fun e w'=>∃A' c',e= .returned (.agg #[.slice A' l.length c',.int .i64 nx])∧Ext w w':=by
 have hiT:=zi Tryz.prog 79 2
 obtain⟨W1,hW1⟩:=zn (w.alloc (.cells #[.slice none 0 0,.int .i64 0] 79))
 have E1:Ext w W1:=by rw[hW1];exact(Ext.refl _).alloc _
 have B1:=zh (show Blk W1 w.heap.size 79 #[.slice none 0 0,.int .i64 0] by rw[hW1];exact Blk.new w _ _)
 have HW1:=zh hW1
 have k6:=(h.ext E1).cell 6
 simp only[zG] at k6
 obtain⟨hkb,At,ct,tk,ss,HB,HP,-⟩:=hk
 have HT:=zh (Zjn (A:=fun _=>True) kb pp tk ss (.int .i64 kn) At ct l nx W1 (HB.ext E1) ((HP.ext E1).rdT.y) hl)
 obtain⟨n,hn⟩:=zm (l.length)
 rw[hn] at HT⊢
 have hw1:=B1.out.lt
 clear h HB HP hW1 hn hl hkb
 go_enter Tryz.func21,Tryz.ntmps21
 go_upto_region 1 with fail
 rw[←HW1.out]
 clear HW1
 go_wp2_with fail
 refine(HT.out).mono ?_
 rintro e w2 ⟨A2,c2,rfl,E2⟩
 have B12:=zh (B1.out.ext E2)
 have E02:=E1.trans E2
 clear HT
 go_wp2_with(refine wpList_store_M rfl 79 _ _ rfl w.heap.size _ rfl rfl 79 _ B12.out hiT rfl (by simp[Value.oneCell']) ?_;intro w5 P5 M5)
 refine bodyPost_ret_by (results_cell_row Tryz.results21 _ _ w.heap.size 79 _ _ _ rfl P5 Tryz.underlying79 rfl hiT) rfl ?_
 exact⟨A2,c2,rfl,Mod.toExt E02 M5 (fun k hk he=>by omega)⟩
theorem co_1 (w:World):(Instr.index 209 (.agg coA) (.int .i64 1)).run Tryz.prog w= .ok (.func (.func 150) #[] #[]) w:=by kernel_rfl
theorem co_5 (w:World):(Instr.index 209 (.agg coA) (.int .i64 5)).run Tryz.prog w= .ok (.func (.func 154) #[] #[]) w:=by kernel_rfl
theorem ZeJ (args:Array Value)(w:World):(callFunc 150 args).run Tryz.prog w= .ok (.enter 150 args) w:=by kernel_rfl
theorem Zfw (args:Array Value)(w:World):(callFunc 154 args).run Tryz.prog w= .ok (.enter 154 args) w:=by kernel_rfl
theorem LnsAt.set {w w':World}{bs:List Nat}{ls:List Ln}{j b:Nat}{x y:Ln}(h:LnsAt w bs ls)(hnd:bs.Nodup)(hj:ls[j]?=some x)(hb:bs[j]?=some b)(hB:Blk w' b 311 (lnL y).toArray)(hlo:y.lo=x.lo)(hsc:y.sc.length=32)
  (hk:∀b'∈bs,b'≠b→w'.heap[b']?=w.heap[b']?):LnsAt w' bs (ls.set j y):=by
 have hjl:=(List.getElem?_eq_some_iff.1 hj).1
 refine⟨by rw[List.length_set];exact h.len,fun i b2 x2 h1 h2=>?_,fun i x2 h2=>?_,fun x2 hx2=>?_⟩
 ·by_cases hij:i=j
  ·subst hij
   rw[List.getElem?_set_self hjl] at h2
   rw[hb] at h1
   obtain rfl:=Option.some.inj h1
   obtain rfl:=Option.some.inj h2
   exact hB
  ·rw[List.getElem?_set_ne (fun he=>hij he.symm)] at h2
   have hne:b2≠b:=fun he=>by
    subst he
    exact hij ((List.getElem?_inj (List.getElem?_eq_some_iff.1 h1).1 hnd).1 (h1.trans hb.symm))
   have h9:=h.blk i b2 x2 h1 h2
   unfold Blk at*
   rw[hk b2 (List.mem_of_getElem? h1) hne]
   exact h9
 ·by_cases hij:i=j
  ·subst hij
   rw[List.getElem?_set_self hjl] at h2
   obtain rfl:=Option.some.inj h2
   rw[hlo]
   exact h.lo i x hj
  ·rw[List.getElem?_set_ne (fun he=>hij he.symm)] at h2
   exact h.lo i x2 h2
 ·rcases List.mem_or_eq_of_mem_set hx2 with h9|h9
  ·exact h.sc x2 h9
  ·rw[h9];exact hsc
theorem LnsAt.snoc {w:World}{bs:List Nat}{ls:List Ln}{b:Nat}{y:Ln}(h:LnsAt w bs ls)(hB:Blk w b 311 (lnL y).toArray)(hlo:y.lo=(ls.length:Int))(hsc:y.sc.length=32):LnsAt w (bs++ [b]) (ls++ [y]):=by
 have hl:=h.len
 refine⟨by simp[hl],fun i b2 x2 h1 h2=>?_,fun i x2 h2=>?_,fun x2 hx2=>?_⟩
 ·rcases Nat.lt_or_ge i bs.length with hi|hi
  ·rw[List.getElem?_append_left hi] at h1
   rw[List.getElem?_append_left (by omega)] at h2
   exact h.blk i b2 x2 h1 h2
  ·have h9:=(List.getElem?_eq_some_iff.1 h1).1
   simp at h9
   rw[List.getElem?_append_right hi] at h1
   rw[List.getElem?_append_right (by omega)] at h2
   rw[show i - bs.length=0 by omega] at h1
   rw[show i - ls.length=0 by omega] at h2
   simp at h1 h2
   rw[←h1,←h2]
   exact hB
 ·rcases Nat.lt_or_ge i ls.length with hi|hi
  ·rw[List.getElem?_append_left hi] at h2
   exact h.lo i x2 h2
  ·have h9:=(List.getElem?_eq_some_iff.1 h2).1
   simp at h9
   rw[List.getElem?_append_right hi,show i - ls.length=0 by omega] at h2
   simp at h2
   rw[←h2,hlo]
   omega
 ·rcases List.mem_append.1 hx2 with h9|h9
  ·exact h.sc x2 h9
  ·simp at h9
   rw[h9];exact hsc
theorem LnsAt.blkOf {w:World}{bs:List Nat}{ls:List Ln}(h:LnsAt w bs ls){b:Nat}(hb:b∈bs):∃x∈ls,Blk w b 311 (lnL x).toArray:=by
 obtain⟨j,hj,rfl⟩:=List.getElem_of_mem hb
 have hj2:j<ls.length:=by rw[←h.len];exact hj
 exact⟨ls[j],List.getElem_mem hj2,h.blk j _ _ (List.getElem?_eq_getElem hj) (List.getElem?_eq_getElem hj2)⟩
theorem LnsAt.mod {S:Nat→Prop}{w w':World}{bs:List Nat}{ls:List Ln}(h:LnsAt w bs ls)(M:Mod S w w')(hS:∀b∈bs,¬S b):LnsAt w' bs ls:=
 h.keep (fun b hb=>M.block b (by obtain⟨x,_,h9⟩:=h.blkOf hb;exact h9.lt) (hS b hb))
theorem LnsAt.modT {w w':World}{bs:List Nat}{ls:List Ln}(h:LnsAt w bs ls){tys:List TypeId}{base:Nat}(M:ZaR tys base w w')(ht:311∉tys):LnsAt w' bs ls:=
 h.mod M (fun b hb=>by obtain⟨x,_,h9⟩:=h.blkOf hb;exact h9.nty ht)
theorem Zfx {x:Ln}{i:Nat}{u:Value}(h:x.sc[i]?=some u):(lnL x)[1+i]?=some u:=by
 unfold lnL
 rw[Nat.add_comm,List.getElem?_cons_succ,List.getElem?_append_left (List.getElem?_eq_some_iff.1 h).1]
 exact h
theorem ZpQ {x:Ln}(h:x.sc.length=32):(lnL x).length=36:=by simp[lnL,h]
theorem ZpR {x:Ln}(h:x.sc.length=32){s:List Value}(hs:s.length=32):((lnL x).toArray.toList.take 1++s++ (lnL x).toArray.toList.drop (1+s.length)).toArray=(lnL {x with sc:=s}).toArray:=by
 have h1:(lnL x).toArray.toList= .int .u32 x.lo::(x.sc++ [.int .i64 x.kid,.slice none 0 0,.bool false]):=rfl
 rw[h1,hs,show 1+32=32+1 from rfl,List.drop_succ_cons,List.drop_append_of_le_length (by omega),←h,List.drop_length]
 rfl
structure SvT where
 cs:List Ch
 ls:List Ln
 said:List Int
 pr:List Tb.Pr
 nx:Int
 kn:Int
 ts:List (Int×Int)
 dead:Bool
abbrev Zrh:List TypeId:=[143,218,327,276,311,272]
def Emp (v:Value):Prop:=∀w,RI .u8 w v []
theorem Emp.of {w:World}{v:Value}(h:RI .u8 w v []):Emp v:=fun _=>RdN.keep h (fun b off j u hu=>by simp at hu)
theorem Emp.nil:Emp (.slice none 0 0):=fun w=>RdN.nil w 1
structure SvW (g kb base:Nat)(ns:List ByteArray)(S:SvT)(sb:Option Nat)(w:World)(pv fv cv lv sv:Value)(bs:List Nat)(Ap:Option Addr)(cp:Nat)(tbs sbs:List Nat):Prop where
 hb:base≤w.heap.size
 hbg:base≤g
 blk:Blk w g 143 (ZbA pv fv (.bool false) cv lm4 (.bool S.dead) (.pointer (some ⟨kb,0,none⟩)) lv (.slice none 0 0) sv)
 em:Emp fv
 pg:OwnS PgR 101 base (fun _=>False) w pv ns
 ch:OwnS ChR 156 base (fun _=>False) w cv S.cs
 ln:OwnS Zcn 272 base (fun _=>False) w lv bs
 la:LnsAt w bs S.ls
 nd:bs.Nodup
 bb:∀b∈bs,base≤b
 sd:OwnS Ub8 5 base (fun _=>False) w sv S.said
 sb:sv.ownBlock=sb
 kr:ZmO kb base w (.slice Ap ns.length cp) S.pr S.nx S.kn tbs sbs S.ts
 kl:sbs.length=S.ts.length
def Zna (g kb base:Nat)(ns:List ByteArray)(S:SvT)(sb:Option Nat)(w:World):Prop:=∃pv fv cv lv sv bs Ap cp tbs sbs,SvW g kb base ns S sb w pv fv cv lv sv bs Ap cp tbs sbs
def SvM (base:Nat)(sb:Option Nat)(w w':World):Prop:=Mod (fun k=>ZaT Zrh base w k∨sb=some k) w w'
def ZqL (g kb base:Nat)(ns:List ByteArray)(S:SvT)(sb:Option Nat)(w w':World):Prop:=∃sb',Zna g kb base ns S sb' w'∧(∀k,sb'=some k→sb=some k∨w.heap.size≤k)∧SvM base sb w w'
theorem SvM.of_ext {base:Nat}{sb:Option Nat}{w w':World}(E:Ext w w'):SvM base sb w w':=Mod.of_ext E
theorem SvM.trans {base:Nat}{sb sb1:Option Nat}{w w1 w2:World}(h:SvM base sb w w1)(hs:∀k,sb1=some k→sb=some k∨w.heap.size≤k)(h2:SvM base sb1 w1 w2):SvM base sb w w2:=
 Mod.transN h h2 (fun i hi hT=>by
  by_cases hA:ZaT Zrh base w i∨sb=some i
  ·exact hA
  ·rcases hT with⟨h1,cs,t,fr,h3,h4⟩|h1
   ·rw[h.block i hi hA] at h3
    exact .inl ⟨h1,cs,t,fr,h3,h4⟩
   ·rcases hs i h1 with h2|h2
    ·exact .inr h2
    ·omega)
theorem ZqL.trans {g kb base:Nat}{ns:List ByteArray}{S:SvT}{sb sb1:Option Nat}{w w1 w2:World}(h:SvM base sb w w1)(hs:∀k,sb1=some k→sb=some k∨w.heap.size≤k)(h2:ZqL g kb base ns S sb1 w1 w2):ZqL g kb base ns S sb w w2:=by
 obtain⟨sb2,h3,h4,h5⟩:=h2
 have hz:=h.size
 exact⟨sb2,h3,fun k hk=>(h4 k hk).elim (hs k) (fun h9=>.inr (by omega)),h.trans hs h5⟩
theorem SvM.size {base:Nat}{sb:Option Nat}{w w':World}(h:SvM base sb w w'):w.heap.size≤w'.heap.size:=Mod.size h
theorem SvW.ext {g kb base:Nat}{ns:List ByteArray}{S:SvT}{sb:Option Nat}{w w':World}{pv fv cv lv sv:Value}{bs:List Nat}{Ap:Option Addr}{cp:Nat}{tbs sbs:List Nat}(h:SvW g kb base ns S sb w pv fv cv lv sv bs Ap cp tbs sbs)(E:Ext w w'):SvW g kb base ns S sb w' pv fv cv lv sv bs Ap cp tbs sbs:=
 ⟨Nat.le_trans h.hb E.size,h.hbg,h.blk.ext E,h.em,h.pg.ext E,h.ch.ext E,h.ln.ext E,h.la.ext E,h.nd,h.bb,h.sd.ext E,h.sb,h.kr.ext E,h.kl⟩
theorem Zna.ext {g kb base:Nat}{ns:List ByteArray}{S:SvT}{sb:Option Nat}{w w':World}(h:Zna g kb base ns S sb w)(E:Ext w w'):Zna g kb base ns S sb w':=by
 obtain⟨pv,fv,cv,lv,sv,bs,Ap,cp,tbs,sbs,h⟩:=h
 exact⟨pv,fv,cv,lv,sv,bs,Ap,cp,tbs,sbs,h.ext E⟩
theorem ZqL.ext {g kb base:Nat}{ns:List ByteArray}{S:SvT}{sb:Option Nat}{w w1 w2:World}(h:ZqL g kb base ns S sb w w1)(E:Ext w1 w2):ZqL g kb base ns S sb w w2:=by
 obtain⟨sb',h1,h2,h3⟩:=h
 exact⟨sb',h1.ext E,h2,Mod.ext h3 E⟩
theorem SvW.ne {g kb base:Nat}{ns:List ByteArray}{S:SvT}{sb:Option Nat}{w:World}{pv fv cv lv sv:Value}{bs:List Nat}{Ap:Option Addr}{cp:Nat}{tbs sbs:List Nat}(h:SvW g kb base ns S sb w pv fv cv lv sv bs Ap cp tbs sbs):
  (∀b∈bs,b≠g∧b≠kb∧sb≠some b∧lv.ownBlock≠some b)∧kb≠g∧sb≠some g∧sb≠some kb∧lv.ownBlock≠some g∧lv.ownBlock≠some kb:=by
 obtain⟨-,At,ct,tk,ss,HK,-⟩:=h.kr
 refine⟨fun b hb=>?_,?_,?_,?_,?_,?_⟩
 ·obtain⟨x,-,hB⟩:=h.la.blkOf hb
  refine⟨Zap hB h.blk (by decide),Zap hB HK (by decide),?_,Zai h.ln hB (by decide)⟩
  rw[←h.sb]
  exact Zai h.sd hB (by decide)
 ·exact Zap HK h.blk (by decide)
 ·rw[←h.sb];exact Zai h.sd h.blk (by decide)
 ·rw[←h.sb];exact Zai h.sd HK (by decide)
 ·exact Zai h.ln h.blk (by decide)
 ·exact Zai h.ln HK (by decide)
structure MgS (m:Mg):Prop where
 ch:0≤m.ch∧m.ch≤4294967295
 se:0≤m.se∧m.se≤4294967295
 wi:0≤m.wi∧m.wi≤4294967295
 pk:0≤m.pk∧m.pk≤4294967295
 co:0≤m.co∧m.co≤4294967295
 nm:m.nm.size≤64
 la:m.la=⟨#[]⟩
 da:m.da.length≤64
 bs:Bs m.da
theorem MgS.ok {m:Mg}(h:MgS m):m.Ok:=⟨h.ch,h.se,h.wi,h.pk,h.co,Nat.le_trans h.nm (by decide),by rw[h.la];decide,Nat.le_trans h.da (by decide),h.bs⟩
theorem Znb {m:Mg}(h:MgS m)(hk:m.k=99∨m.k=100):GoodM m:=by
 refine⟨h.ok,[paChan],?_,?_,?_,?_⟩
 ·rcases hk with hk|hk<;>simp[rowL,hk]
 ·rcases hk with hk|hk<;>simp[FitP,hk]
 ·intro f hf
  rcases hk with hk|hk<;>simp[flds,vOf,paChan,hk] at hf<;>rcases hf with rfl|rfl<;>simp[fltF]
 ·rcases hk with hk|hk<;>simp[flds,encL,encF,Fr.four,vOf,paChan,hk]
theorem ZkM {m:Mg}(h:MgS m)(hk:m.k=91):GoodM m:=by
 have hd:=h.da
 have hd2:¬33792<m.da.length:=by omega
 refine⟨h.ok,[paChan,paSender,paWindow,paPacket,paRest],?_,?_,?_,?_⟩
 ·simp[rowL,hk]
 ·simp[FitP,hk]
 ·intro f hf
  simp[flds,vOf,paChan,paSender,paWindow,paPacket,paRest,hk] at hf
  rcases hf with rfl|rfl|rfl|rfl|rfl|rfl<;>simp[fltF]<;>omega
 ·simp[flds,encL,encF,Fr.four,vOf,paChan,paSender,paWindow,paPacket,paRest,hk]
  omega
theorem Zot {x:Int}{c:Ch}(h:0≤c.re∧c.re≤4294967295):MgS (ansM x c):=⟨h,⟨by simp[ansM],by simp[ansM]⟩,⟨by simp[ansM],by simp[ansM]⟩,⟨by simp[ansM],by simp[ansM]⟩,⟨by simp[ansM],by simp[ansM]⟩,by show(⟨#[]⟩:ByteArray).size≤_;decide,rfl,by simp[ansM],fun x hx=>by simp[ansM] at hx⟩
theorem Zgp {b:Bool}{c:Ch}(h:0≤c.re∧c.re≤4294967295):GoodM (ansM (ansK b) c):=Znb (Zot h) (by cases b<;>simp[ansM,ansK])
theorem ZeZ {cs:List Ch}{m:Mg}(h:0≤m.se∧m.se≤4294967295)(hn:cs.length≤1000):GoodM (ZaI cs m):=ZkM ⟨h,⟨by simp[ZaI],by simp[ZaI];omega⟩,⟨by simp[ZaI],by simp[ZaI]⟩,⟨by simp[ZaI],by simp[ZaI]⟩,⟨by simp[ZaI],by simp[ZaI]⟩,by show(⟨#[]⟩:ByteArray).size≤_;decide,rfl,by simp[ZaI],fun x hx=>by simp[ZaI] at hx⟩ rfl
section
variable {g kb base:Nat} {ns:List ByteArray} {S:SvT} {sb:Option Nat} {w w':World} {pv fv cv lv sv:Value} {bs:List Nat} {Ap:Option Addr} {cp:Nat} {tbs sbs:List Nat}
theorem SvW.line {j b:Nat}{x y:Ln}(h:SvW g kb base ns S sb w pv fv cv lv sv bs Ap cp tbs sbs)(hx:S.ls[j]?=some x)(hb:bs[j]?=some b)(M:Mod (fun k=>k=b) w w')(hB:Blk w' b 311 (lnL y).toArray)(hlo:y.lo=x.lo)(hsc:y.sc.length=32):
  SvW g kb base ns {S with ls:=S.ls.set j y} sb w' pv fv cv lv sv bs Ap cp tbs sbs:=by
 have hold:=h.la.blk j b x hb hx
 have hbb:=h.bb b (List.mem_of_getElem? hb)
 have MT:ZaR [311] base w w':=ZaR.of_mod M (fun k _ hk=>by rw[hk];exact hold.ty (by decide) hbb)
 exact⟨Nat.le_trans h.hb M.size,h.hbg,h.blk.modT MT (by decide),h.em,h.pg.modT MT (by decide),h.ch.modT MT (by decide),h.ln.modT MT (by decide),h.la.set h.nd hx hb hB hlo hsc (fun b' hb' hne=>M.block b' (by
  obtain⟨x',-,hB'⟩:=h.la.blkOf hb'
  exact hB'.lt) hne),h.nd,h.bb,h.sd.modT MT (by decide),h.sb,h.kr.modT MT (by decide) (by decide) (by decide) (by decide) (by decide) (by decide),h.kl⟩
theorem SvM.line {j b:Nat}{x:Ln}(h:SvW g kb base ns S sb w pv fv cv lv sv bs Ap cp tbs sbs)(hx:S.ls[j]?=some x)(hb:bs[j]?=some b)(M:Mod (fun k=>k=b) w w'):SvM base sb w w':=
 Mod.mono M (fun k _ hk=>.inl (by rw[hk];exact(h.la.blk j b x hb hx).ty (by decide) (h.bb b (List.mem_of_getElem? hb))))
theorem SvW.start {j b:Nat}{x y:Ln}{pr:List Tb.Pr}{nx kn:Int}{ts:List (Int×Int)}{tbs2 sbs2:List Nat}(h:SvW g kb base ns S sb w pv fv cv lv sv bs Ap cp tbs sbs)(hx:S.ls[j]?=some x)(hb:bs[j]?=some b)(M:Mod (fun k=>k=b∨ZaT kTys base w k) w w')(hB:Blk w' b 311 (lnL y).toArray)(hlo:y.lo=x.lo)(hsc:y.sc.length=32)
  (hK:ZmO kb base w' (.slice Ap ns.length cp) pr nx kn tbs2 sbs2 ts) (hl:sbs2.length=ts.length):
  SvW g kb base ns {S with ls:=S.ls.set j y,pr:=pr,nx:=nx,kn:=kn,ts:=ts} sb w' pv fv cv lv sv bs Ap cp tbs2 sbs2:=by
 have hold:=h.la.blk j b x hb hx
 have hbb:=h.bb b (List.mem_of_getElem? hb)
 have MT:ZaR [311,218,327,276] base w w':=ZaR.of_mod M (fun k _ hk=>by
  rcases hk with hk|hk
  ·rw[hk];exact hold.ty (by decide) hbb
  ·exact hk.mono (fun t ht=>List.mem_cons_of_mem _ ht) (Nat.le_refl _))
 exact⟨Nat.le_trans h.hb M.size,h.hbg,h.blk.modT MT (by decide),h.em,h.pg.modT MT (by decide),h.ch.modT MT (by decide),h.ln.modT MT (by decide),h.la.set h.nd hx hb hB hlo hsc (fun b' hb' hne=>by
  obtain⟨x',-,hB'⟩:=h.la.blkOf hb'
  exact M.block b' hB'.lt (fun hk=>hk.elim hne (fun hk=>hB'.nty (by decide) hk))),h.nd,h.bb,h.sd.modT MT (by decide),h.sb,hK,hl⟩
theorem SvM.start {j b:Nat}{x:Ln}(h:SvW g kb base ns S sb w pv fv cv lv sv bs Ap cp tbs sbs)(hx:S.ls[j]?=some x)(hb:bs[j]?=some b)(M:Mod (fun k=>k=b∨ZaT kTys base w k) w w'):SvM base sb w w':=
 Mod.mono M (fun k _ hk=>.inl (hk.elim (fun hk=>by rw[hk];exact(h.la.blk j b x hb hx).ty (by decide) (h.bb b (List.mem_of_getElem? hb))) (fun hk=>hk.mono (fun t ht=>by
  simp only[List.mem_cons,List.not_mem_nil,or_false] at ht⊢
  rcases ht with rfl|rfl|rfl<;>simp) (Nat.le_refl _))))
theorem SvW.say {cv' sv':Value}{cs':List Ch}{l:List Int}{b2:Nat}(h:SvW g kb base ns S sb w pv fv cv lv sv bs Ap cp tbs sbs)(hb2:base≤b2)(M:Mod (fun k=>k=g∨sv.ownBlock=some k) w w')(hB:Blk w' g 143 (ZbA pv fv (.bool false) cv' lm4 (.bool S.dead) (.pointer (some ⟨kb,0,none⟩)) lv (.slice none 0 0) sv'))
  (hC:OwnS ChR 156 b2 (fun _=>False) w' cv' cs') (hs:OwnS Ub8 5 base (fun _=>False) w' sv' l):
  SvW g kb base ns {S with cs:=cs',said:=l} sv'.ownBlock w' pv fv cv' lv sv' bs Ap cp tbs sbs:=by
 have MT:ZaR [143,5] base w w':=ZaR.of_mod M (fun k _ hk=>by
  rcases hk with hk|hk
  ·rw[hk];exact h.blk.ty (by decide) h.hbg
  ·exact h.sd.ty hk (by decide) (Nat.le_refl _))
 exact⟨Nat.le_trans h.hb M.size,h.hbg,hB,h.em,h.pg.modT MT (by decide),hC.lower hb2,h.ln.modT MT (by decide),h.la.modT MT (by decide),h.nd,h.bb,hs,rfl,h.kr.modT MT (by decide) (by decide) (by decide) (by decide) (by decide) (by decide),h.kl⟩
theorem SvM.say (h:SvW g kb base ns S sb w pv fv cv lv sv bs Ap cp tbs sbs)(M:Mod (fun k=>k=g∨sv.ownBlock=some k) w w'):SvM base sb w w':=
 Mod.mono M (fun k _ hk=>hk.elim (fun hk=>.inl (by rw[hk];exact h.blk.ty (by decide) h.hbg)) (fun hk=>.inr (by rw[←h.sb];exact hk)))
end
section
variable {g kb base:Nat} {ns:List ByteArray} {S:SvT} {sb:Option Nat} {w w':World} {pv fv cv lv sv:Value} {bs:List Nat} {Ap:Option Addr} {cp:Nat} {tbs sbs:List Nat}
theorem SvW.gT (h:SvW g kb base ns S sb w pv fv cv lv sv bs Ap cp tbs sbs)(M:Mod (fun k=>k=g) w w'):ZaR [143] base w w':=ZaR.of_mod M (fun k _ hk=>by rw[hk];exact h.blk.ty (by decide) h.hbg)
theorem SvM.srv (h:SvW g kb base ns S sb w pv fv cv lv sv bs Ap cp tbs sbs)(M:Mod (fun k=>k=g) w w'):SvM base sb w w':=Mod.mono M (fun k _ hk=>.inl (by rw[hk];exact h.blk.ty (by decide) h.hbg))
theorem SvW.mux {cv':Value}{cs':List Ch}{dd:Bool}{b2:Nat}(h:SvW g kb base ns S sb w pv fv cv lv sv bs Ap cp tbs sbs)(hb2:base≤b2)(M:Mod (fun k=>k=g) w w')(hB:Blk w' g 143 (ZbA pv fv (.bool false) cv' lm4 (.bool dd) (.pointer (some ⟨kb,0,none⟩)) lv (.slice none 0 0) sv))
  (hC:OwnS ChR 156 b2 (fun _=>False) w' cv' cs'):SvW g kb base ns {S with cs:=cs',dead:=dd} sb w' pv fv cv' lv sv bs Ap cp tbs sbs:=by
 have MT:=h.gT M
 exact⟨Nat.le_trans h.hb M.size,h.hbg,hB,h.em,h.pg.modT MT (by decide),hC.lower hb2,h.ln.modT MT (by decide),h.la.modT MT (by decide),h.nd,h.bb,h.sd.modT MT (by decide),h.sb,h.kr.modT MT (by decide) (by decide) (by decide) (by decide) (by decide) (by decide),h.kl⟩
theorem SvW.frm {fv':Value}(h:SvW g kb base ns S sb w pv fv cv lv sv bs Ap cp tbs sbs)(M:Mod (fun k=>k=g) w w')(hB:Blk w' g 143 (ZbA pv fv' (.bool false) cv lm4 (.bool S.dead) (.pointer (some ⟨kb,0,none⟩)) lv (.slice none 0 0) sv))(he:Emp fv'):
  SvW g kb base ns S sb w' pv fv' cv lv sv bs Ap cp tbs sbs:=by
 have MT:=h.gT M
 exact⟨Nat.le_trans h.hb M.size,h.hbg,hB,he,h.pg.modT MT (by decide),h.ch.modT MT (by decide),h.ln.modT MT (by decide),h.la.modT MT (by decide),h.nd,h.bb,h.sd.modT MT (by decide),h.sb,h.kr.modT MT (by decide) (by decide) (by decide) (by decide) (by decide) (by decide),h.kl⟩
theorem SvW.quiet (h:SvW g kb base ns S sb w pv fv cv lv sv bs Ap cp tbs sbs)(M:Mod (fun k=>k=g) w w')(hB:Blk w' g 143 (ZbA pv fv (.bool false) cv lm4 (.bool S.dead) (.pointer (some ⟨kb,0,none⟩)) lv (.slice none 0 0) (.slice none 0 0))):
  SvW g kb base ns {S with said:=[]} none w' pv fv cv lv (.slice none 0 0) bs Ap cp tbs sbs:=by
 have MT:=h.gT M
 exact⟨Nat.le_trans h.hb M.size,h.hbg,hB,h.em,h.pg.modT MT (by decide),h.ch.modT MT (by decide),h.ln.modT MT (by decide),h.la.modT MT (by decide),h.nd,h.bb,OwnS.nil _ _ _ _ _,rfl,h.kr.modT MT (by decide) (by decide) (by decide) (by decide) (by decide) (by decide),h.kl⟩
theorem SvW.over (h:SvW g kb base ns S sb w pv fv cv lv sv bs Ap cp tbs sbs)(M:Mod (fun k=>k=g) w w')(hB:Blk w' g 143 (ZbA pv fv (.bool false) cv lm4 (.bool S.dead) (.pointer (some ⟨kb,0,none⟩)) (.slice none 0 0) (.slice none 0 0) sv)):
  SvW g kb base ns {S with ls:=[]} sb w' pv fv cv (.slice none 0 0) sv [] Ap cp tbs sbs:=by
 have MT:=h.gT M
 exact⟨Nat.le_trans h.hb M.size,h.hbg,hB,h.em,h.pg.modT MT (by decide),h.ch.modT MT (by decide),OwnS.nil _ _ _ _ _,⟨rfl,fun j b x hb=>(by simp at hb),fun j x hx=>(by simp at hx),fun x hx=>(by simp at hx)⟩,List.nodup_nil,fun b hb=>(by simp at hb),h.sd.modT MT (by decide),h.sb,h.kr.modT MT (by decide) (by decide) (by decide) (by decide) (by decide) (by decide),h.kl⟩
theorem SvW.opened {lv':Value}{b:Nat}{y:Ln}(h:SvW g kb base ns S sb w pv fv cv lv sv bs Ap cp tbs sbs)(M:Mod (fun k=>k=g∨lv.ownBlock=some k) w w')(hB:Blk w' g 143 (ZbA pv fv (.bool false) cv lm4 (.bool S.dead) (.pointer (some ⟨kb,0,none⟩)) lv' (.slice none 0 0) sv))
  (hL:OwnS Zcn 272 base (fun _=>False) w' lv' (bs++ [b])) (hb:w.heap.size≤b) (hX:Blk w' b 311 (lnL y).toArray) (hlo:y.lo=(S.ls.length:Int)) (hsc:y.sc.length=32):
  SvW g kb base ns {S with ls:=S.ls++ [y]} sb w' pv fv cv lv' sv (bs++ [b]) Ap cp tbs sbs:=by
 have MT:ZaR [143,272] base w w':=ZaR.of_mod M (fun k _ hk=>by
  rcases hk with hk|hk
  ·rw[hk];exact h.blk.ty (by decide) h.hbg
  ·exact h.ln.ty hk (by decide) (Nat.le_refl _))
 have hbl:∀b'∈bs,b'<w.heap.size:=fun b' hb'=>by
  obtain⟨x',-,hB'⟩:=h.la.blkOf hb'
  exact hB'.lt
 exact⟨Nat.le_trans h.hb M.size,h.hbg,hB,h.em,h.pg.modT MT (by decide),h.ch.modT MT (by decide),hL,(h.la.modT MT (by decide)).snoc hX hlo hsc,by
  rw[List.nodup_append]
  refine⟨h.nd,by simp,fun a ha c hc=>?_⟩
  simp at hc
  have:=hbl a ha
  omega,fun b' hb'=>by
  have h9:=h.hb
  rcases List.mem_append.1 hb' with hb'|hb'
  ·exact h.bb b' hb'
  ·simp at hb';omega,h.sd.modT MT (by decide),h.sb,h.kr.modT MT (by decide) (by decide) (by decide) (by decide) (by decide) (by decide),h.kl⟩
theorem SvM.opened (h:SvW g kb base ns S sb w pv fv cv lv sv bs Ap cp tbs sbs)(M:Mod (fun k=>k=g∨lv.ownBlock=some k) w w'):SvM base sb w w':=
 Mod.mono M (fun k _ hk=>.inl (hk.elim (fun hk=>by rw[hk];exact h.blk.ty (by decide) h.hbg) (fun hk=>h.ln.ty hk (by decide) (Nat.le_refl _))))
end
end Go.Proofs.YtmmhcllibpmfnaaGreatDoor
