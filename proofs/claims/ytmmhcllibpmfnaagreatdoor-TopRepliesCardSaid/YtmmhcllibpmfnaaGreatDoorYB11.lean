/- Parts GC28 SA28 SB28 SD28 UF28 UG28. No condition. -/
import Derived.Test.YtmmhcllibpmfnaaGreatDoorYB07
import Derived.Test.YtmmhcllibpmfnaaGreatDoorYB10
import Derived.Deep.CutBlock
import Derived.Deep.DeepCutAuto
set_option maxRecDepth 100000
set_option maxHeartbeats 8000000
namespace Go.Proofs.YtmmhcllibpmfnaaGreatDoor.Tb
open Go.RowKit Go.Kb Go.Kb.Bits
theorem Zis {l:List Pr}{nx pid:Int}(h:ZbK l nx pid=true):askL l nx [pid]=0:=by
 have hr:rightL l nx=true:=by
  unfold ZbK at h
  rw[Bool.and_eq_true] at h
  exact h.1
 unfold askL
 simp[hr,h]
end Go.Proofs.YtmmhcllibpmfnaaGreatDoor.Tb
namespace Go.Proofs.YtmmhcllibpmfnaaGreatDoor.Tb
open Go.RowKit Go.Kb
theorem RI.ofBlk {w:World}{g:Nat}{t:TypeId}{l:List Int}(h:Blk w g t (l.map (Value.int .i64)).toArray)(hm:l.length≤maxLen):RI .i64 w (.slice (some ⟨g,0,none⟩) l.length l.length) l:=
 ⟨by simp,_,_,rfl,Nat.le_refl _,hm,.inr ⟨g,0,rfl,fun j u hu=>by rw[Nat.zero_add,h.cell,List.getElem?_toArray];exact hu⟩⟩
theorem ZjA (v:Value)(l:List Int)(x:Int)(w:World)(hl:RI .i64 w v l):Calls Tryz.prog 403 #[v,.int .i64 x] w fun e w'=>(∃i:Int,e= .returned (.int .i64 i)∧decide (0≤i)=decide (x∈l))∧Ext w w':=by
 obtain⟨Ad,c,rfl,hc1,hc2⟩:=hl.shape
 have HL:=zh hl
 obtain⟨n,hn⟩:=zm (l.length)
 rw[hn] at HL hc1⊢
 have HN:=zh hn
 clear hl hn
 go_enter Tryz.func403,Tryz.ntmps403
 go_wp2
 go_loopw [8] (fun i wr=>∃m:Nat,m≤n∧i= .int .i64 m∧Hid (¬x∈l.take m)∧Ext w wr) (fun i _=>n - (intOf i).toNat)
 case atStart=>exact⟨0,Nat.zero_le _,rfl,zh (by simp),zX⟩
 case round=>
  obtain⟨m,hm,rfl,HD,hE⟩:=hrel
  by_cases hlt:m<n
  ·have Ha:=RdN.ext HL.out hE
   obtain⟨b,off,y,rfl,hc1,hy⟩:=RdN.icell Ha hlt
   have k1:(m:Int)<(n:Int):=by omega
   have k2:(0:Int)≤(m:Int):=by omega
   clear Ha
   by_cases hxy:x=y
   ·have hb:(x==y)=true:=by simpa using hxy
    have HX:=zh hxy
    clear hxy
    go_wp2
    go_ret
    exact⟨⟨m,rfl,by rw[decide_eq_true k2,decide_eq_true];rw[HX.out];exact List.mem_of_getElem? hy.out⟩,hE⟩
   ·have hb:(x==y)=false:=by simpa using hxy
    go_wp2
    go_roundw
    case rel=>exact⟨m+1,by omega,by go_num,zh (by
     rw[List.take_add_one,hy.out]
     intro hq
     rcases List.mem_append.1 hq with h|h
     ·exact HD.out h
     ·simp at h;exact hxy h),hE⟩
    case measure=>simp[intOf];omega
  ·obtain rfl:m=n:=by omega
   have ht:l.take m=l:=List.take_of_length_le (by have:=HN.out;omega)
   rw[ht] at HD
   have HD:=zh HD.out
   go_wp2
   go_ret
   exact⟨⟨-1,rfl,by rw[decide_eq_false HD.out];rfl⟩,hE⟩
theorem ZnI (v:Value)(l:List Int)(x:Int)(w:World)(hl:RI .i64 w v l):Calls Tryz.prog 384 #[v,.int .i64 x] w fun e w'=>e= .returned (.bool (decide (x∈l)))∧Ext w w':=by
 have HI:=zh (ZjA v l x w hl)
 clear hl
 generalize decide (x∈l)=d at*
 go_enter Tryz.func384,Tryz.ntmps384
 go_wp2_with fail
 refine HI.out.mono ?_
 rintro e w1 ⟨⟨i,rfl,hi⟩,E1⟩
 cases d
 ·have hi2:¬(0:Int)≤i:=of_decide_eq_false hi
  clear hi
  go_wp2
  go_ret
  exact⟨by show Ending.returned (.bool (decide (0≤i)))=_;rw[decide_eq_false (by omega)],E1⟩
 ·have hi2:(0:Int)≤i:=of_decide_eq_true hi
  clear hi
  go_wp2
  go_ret
  exact⟨rfl,E1⟩
def ZbB:List Int:=[19,20,21,22]
theorem Zll (w:World):Calls Tryz.prog 381 #[] w fun e w'=>∃v,e= .returned v∧RI .i64 w' v ZbB∧Ext w w':=by
 go_enter Tryz.func381,Tryz.ntmps381
 go_wp2
 go_ret
 exact⟨_,rfl,RI.ofBlk (l:=ZbB) (Blk.at_ _ _ rfl) (by decide),zX⟩
theorem ZcX {p:Pr}{x:Int}:p.cells.toArray.setIfInBounds 7 (.int .u64 x)=(Pr.cells {p with pending:=x}).toArray:=by
 simp[Pr.cells]
theorem ZjB {A:Nat→Prop}(Ad:Option Addr)(c:Nat)(l:List Pr)(nx:Int)(w:World)(h:RdY Rp A w (.slice Ad l.length c) l):
 Calls Tryz.prog 350 #[tv Ad l.length c nx] w fun e w'=>e= .returned (.bool (rightL l nx))∧Ext w w':=by
 have hF:=ZnB Ad c l nx 0 0 _ (RdY.ext h ((Ext.refl w).alloc (.cells #[.slice Ad l.length c,.int .i64 nx] 79)))
 unfold Zim ZaY at hF
 have HF:=zh hF
 have HA:=zh (show(rightL l nx=false→askL l nx [0]=4)∧(rightL l nx=true→askL l nx [0]=0∨askL l nx [0]=8) from⟨fun hr=>by unfold askL;rw[hr];rfl,fun hr=>by
  unfold askL
  rw[hr]
  cases[(0:Int)].all (ZbK l nx)
  ·exact .inr rfl
  ·exact .inl rfl⟩)
 clear h hF
 generalize rightL l nx=r at*
 generalize askL l nx [0]=a at*
 go_enter Tryz.func350,Tryz.ntmps350
 go_wp2_with fail
 refine HF.out.mono ?_
 rintro e w1 (⟨h,E1,rfl⟩|⟨h,E1,(⟨_,rfl⟩|⟨_,A1,c1,rfl,_⟩)⟩)
 ·cases r
  ·have ha:=HA.out.1 rfl
   subst ha
   go_wp2
   go_ret
   exact⟨rfl,zX⟩
  ·have ha:=(HA.out.2 rfl).resolve_left h
   subst ha
   go_wp2
   go_ret
   exact⟨rfl,zX⟩
 ·cases r
  ·have:=HA.out.1 rfl
   omega
  ·go_wp2
   go_ret
   exact⟨rfl,zX⟩
 ·cases r
  ·have:=HA.out.1 rfl
   omega
  ·go_wp2
   go_ret
   exact⟨rfl,zX⟩
def ZfG (T:TypeId)(Ad:Option Addr)(c:Nat)(l0:List Pr)(base:Nat)(w:World)(A':Option Addr)(c':Nat)(l:List Pr):Prop:=
 (A'=Ad∧c'=c∧l=l0)∨OwnS Rp T base (fun _=>False) w (.slice A' l0.length c') l
theorem ZfG.y {A:Nat→Prop}{T:TypeId}{Ad A':Option Addr}{c c' base:Nat}{l0 l:List Pr}{w0 w:World}(h:ZfG T Ad c l0 base w A' c' l)(hR:RdY Rp A w0 (.slice Ad l0.length c) l0)(E:Ext w0 w):RdY Rp (fun _=>False) w (.slice A' l0.length c') l:=by
 rcases h with⟨rfl,rfl,rfl⟩|h
 ·exact Za9 (hR.ext E)
 ·exact Za9 h.y
theorem ZfG.ext {T:TypeId}{Ad A':Option Addr}{c c' base:Nat}{l0 l:List Pr}{w w':World}(h:ZfG T Ad c l0 base w A' c' l)(E:Ext w w'):ZfG T Ad c l0 base w' A' c' l:=by
 rcases h with h|h
 ·exact .inl h
 ·exact .inr (h.ext E)
theorem ZfG.lower {T:TypeId}{Ad A':Option Addr}{c c' base base':Nat}{l0 l:List Pr}{w:World}(h:ZfG T Ad c l0 base w A' c' l)(hb:base'≤base):ZfG T Ad c l0 base' w A' c' l:=by
 rcases h with h|h
 ·exact .inl h
 ·exact .inr (h.lower hb)
theorem ZfG.trans {T:TypeId}{Ad A' A2:Option Addr}{c c' c2 base base2:Nat}{l0 l l2:List Pr}{w w':World}(h:ZfG T Ad c l0 base w A' c' l)(g:ZfG T A' c' l base2 w' A2 c2 l2)(hl:l.length=l0.length)(E:Ext w w')(hb:base≤base2):ZfG T Ad c l0 base w' A2 c2 l2:=by
 rcases g with⟨rfl,rfl,rfl⟩|g
 ·exact h.ext E
 ·rw[hl] at g
  exact .inr (g.lower hb)
theorem ZfG.mod {T t:TypeId}{Ad A':Option Addr}{c c' base k:Nat}{l0 l:List Pr}{w w':World}{cs:Array Value}(h:ZfG T Ad c l0 base w A' c' l)(M:Mod (fun j=>j=k) w w')(hb:Blk w k t cs)(hne:T≠t):ZfG T Ad c l0 base w' A' c' l:=by
 rcases h with h|h
 ·exact .inl h
 ·exact .inr (h.mod M (fun j hj he=>Zal h.choose_spec.1 hb hne (by rw[←he];exact hj)) (fun k _ hk _=>hk))
theorem ZgG {g:Pr→Pr}{k:Int}:∀ {l:List Pr} {q:Pr},q∈ZaO g k l→q∈l∨∃p∈l,q=g p
 | [],q,h=>by rw[Zhx] at h;cases h
 |p::r,q,h=>by
  rw[ZgD] at h
  split at h
  ·rcases List.mem_cons.1 h with rfl|h
   ·exact .inr ⟨p,by simp,rfl⟩
   ·exact .inl (by simp[h])
  ·rcases List.mem_cons.1 h with rfl|h
   ·exact .inl (by simp)
   ·rcases ZgG h with h|⟨x,h1,h2⟩
    ·exact .inl (by simp[h])
    ·exact .inr ⟨x,by simp[h1],h2⟩
def Zcl (p:Pr):Pr:=if p.state=2 then {p with state:=1} else p
theorem ZjC {p:Pr}{x:Int}:p.cells.toArray.setIfInBounds 4 (.int .i64 x)=(Pr.cells {p with state:=x}).toArray:=by
 simp[Pr.cells]
theorem ZfH (p:Pr)(hok:p.ok)(n:Nat)(w:World)(h:Blk w n 234 p.cells.toArray):
 Calls Tryz.prog 383 #[.pointer (some ⟨n,0,none⟩)] w fun e w'=>e= .returned (.tuple #[])∧Blk w' n 234 (Zcl p).cells.toArray∧Mod (fun k=>k=n) w w':=by
 have B:=zh h
 have k4:=(Zaq hok (show Blk w n 234 p.arr from h)).c4
 have f4:=h.frozen 4
 rw[Nat.zero_add] at k4
 clear h
 by_cases h2:p.state=2
 ·have hb:(p.state==2)=true:=by simpa using h2
  have HP:=zh (show Zcl p={p with state:=1} by unfold Zcl;rw[if_pos h2])
  clear h2
  go_enter Tryz.func383,Tryz.ntmps383
  go_wp2
  have B2:=B.out.set_ 4 (.int .i64 1)
  rw[ZjC] at B2
  go_end0
  rw[HP.out]
  exact⟨rfl,B2,(Mod.refl _ w).set1 _⟩
 ·have hb:(p.state==2)=false:=by simpa using h2
  have HP:=zh (show Zcl p=p by unfold Zcl;rw[if_neg h2])
  clear h2
  go_enter Tryz.func383,Tryz.ntmps383
  go_wp2
  go_end0
  rw[HP.out]
  exact⟨rfl,B.out,Mod.refl _ w⟩
def Zlm (p:Pr):Pr:={p with pending:=ZbB.foldl Sg.ZgX p.pending}
def ZhB (p:Pr):Pr:=Zcl (if p.state=2 then {Zlm p with told:=false} else Zlm p)
def ZeG (sig:Int)(p:Pr):Pr:=if sig=18 then ZhB p else if sig=9 then Zcl p else if sig∈ZbB then {p with pending:=Sg.ZgX p.pending 18} else p
def sentP (sig:Int)(p:Pr):Pr:={ZeG sig p with pending:=Sg.Zoy (ZeG sig p).pending sig}
theorem Zit {p:Pr}(h:p.ok):(Zcl p).ok:=by unfold Zcl;split<;>exact h
theorem Ze5 {p:Pr}:(Zcl p).pending=p.pending:=by unfold Zcl;split<;>rfl
theorem ZcY:∀ (l:List Int) {s:Int},Sg.U64 s→Sg.U64 (l.foldl Sg.ZgX s)
 | [],_,h=>h
 |x::r,_,h=>ZcY r (Sg.Zlj h x)
theorem Zln {sig:Int}{p:Pr}(h:p.ok):(ZeG sig p).ok:=by
 unfold ZeG ZhB Zlm
 split
 ·exact Zit (by split<;>exact h)
 ·split
  ·exact Zit h
  ·split<;>exact h
theorem Zlo {sig:Int}{p:Pr}(h:Sg.U64 p.pending):Sg.U64 (ZeG sig p).pending:=by
 unfold ZeG ZhB
 split
 ·rw[Ze5]
  split<;>exact ZcY _ h
 ·split
  ·rw[Ze5];exact h
  ·split
   ·exact Sg.Zlj h 18
   ·exact h
theorem ZjD {p:Pr}(h:p.ok){b:Bool}:p.cells.toArray.setIfInBounds 42 (.bool b)=(Pr.cells {p with told:=b}).toArray:=by
 unfold Pr.ok at h
 simp[Pr.cells,h]
theorem ZnJ (w:World):Calls Tryz.prog 381 #[] w fun e w'=>∃g,e= .returned (.slice (some ⟨g,0,none⟩) 4 4)∧Blk w' g 3 (ZbB.map (Value.int .i64)).toArray∧w.heap.size≤g∧Ext w w':=by
 go_enter Tryz.func381,Tryz.ntmps381
 go_wp2
 go_ret
 exact⟨_,rfl,Blk.at_ _ _ rfl,Nat.le_refl _,zX⟩
theorem ZnK (p:Pr)(sig:Int)(n:Nat)(w:World)(h:Blk w n 234 p.cells.toArray)(hok:p.ok)(hb:Sg.U64 p.pending):
 Calls Tryz.prog 353 #[.pointer (some ⟨n,0,none⟩),.int .i64 sig] w fun e w'=>e= .returned (.tuple #[])∧Blk w' n 234 (sentP sig p).cells.toArray∧Mod (fun k=>k=n) w w':=by
 have B:=zh h
 clear h
 go_enter Tryz.func353,Tryz.ntmps353
 go_upto_block 0 with fail
 go_cut [18] (fun _ wx=>Hid (Blk wx n 234 (ZeG sig p).cells.toArray)∧Hid (Mod (fun k=>k=n) w wx))
 case first=>
  by_cases h18:sig=18
  ·have h18b:(sig==18)=true:=by simpa using h18
   have HP:=zh (show ZeG sig p=ZhB p by unfold ZeG;rw[if_pos h18])
   have hnl:=B.out.lt
   clear h18
   go_wp2_with fail
   refine(ZnJ _).mono ?_
   rintro e w1 ⟨g,rfl,G,hg,E1⟩
   have G:=zh G
   have B:=zh (B.out.ext E1)
   have HNG:=zh (show g≠n by omega)
   have E1:=zh E1
   clear hnl hg
   go_wp2
   go_loopw [22] (fun i wr=>∃m:Nat,m≤4∧i= .int .i64 m∧Hid (Blk wr n 234 (Pr.cells {p with pending:=(ZbB.take m).foldl Sg.ZgX p.pending}).toArray)∧Hid (Mod (fun k=>k=n) w1 wr)) (fun i _=>4 - (intOf i).toNat)
   case atStart=>exact⟨0,Nat.zero_le _,rfl,B,zh (Mod.refl _ _)⟩
   case round=>
    obtain⟨m,hm,rfl,BM,HM⟩:=hrel
    obtain⟨q,hq⟩:∃q:Pr,q={p with pending:=(ZbB.take m).foldl Sg.ZgX p.pending}:=⟨_,rfl⟩
    rw[←hq] at BM
    have hqok:q.ok:=by rw[hq];exact hok
    have hqb:Sg.U64 q.pending:=by rw[hq];exact ZcY _ hb
    by_cases hmn:m<4
    ·obtain⟨x,hx⟩:∃x,ZbB[m]?=some x:=⟨_,List.getElem?_eq_getElem (by simpa [ZbB] using hmn)⟩
     have kx:wr.cell? ⟨g,m,none⟩=some (.int .i64 x):=by rw[(G.out.mod HM.out HNG.out).cell,List.getElem?_toArray,List.getElem?_map,hx];rfl
     have HN:=zh (show {q with pending:=Sg.ZgX q.pending x}={p with pending:=(ZbB.take (m+1)).foldl Sg.ZgX p.pending} by rw[hq,List.take_add_one,hx,List.foldl_append];rfl)
     have i1:(0:Int)≤(m:Int):=by omega
     have i2:(m:Int)<4:=by omega
     have pc7:=(Zaq hqok BM.out).c7
     clear hx hq
     go_wp2_with fail
     refine(Sg.Zlk q.pending x _ hqb).mono ?_
     rintro e w3 ⟨rfl,E3⟩
     have B3:=zh (BM.out.ext E3)
     have HM3:=zh (HM.out.ext E3)
     have pc7:=(Zaq hqok B3.out).c7
     have pf7:=B3.out.frozen 7
     clear kx E3
     go_wp2
     have B4:=B3.out.set_ 7 (.int .u64 (Sg.ZgX q.pending x))
     rw[ZcX,HN.out] at B4
     have B4:=zh B4
     have HM4:=zh (Mod.trans HM3.out ((Mod.refl (fun k=>k=n) w3).set1 (.int .u64 (Sg.ZgX q.pending x)) (o:=7)))
     go_roundw
     case rel=>exact⟨m+1,by omega,by go_num,B4,HM4⟩
     case measure=>simp[intOf];omega
    ·obtain rfl:m=4:=by omega
     have HF:=zh (show q=Zlm p from hq)
     have HST:=zh (show q.state=p.state by rw[hq])
     have pc4:=(Zaq hqok BM.out).c4
     have pc42:=(Zaq hqok BM.out).c42
     have pf42:=BM.out.frozen 42
     rw[Nat.zero_add] at pc4 pc42
     clear hq
     by_cases h2:q.state=2
     ·have h2b:(q.state==2)=true:=by simpa using h2
      have HP:=zh (show ZeG sig p=Zcl {q with told:=false} by rw[HP.out];unfold ZhB;rw[if_pos (by rw[←HST.out];exact h2),HF.out])
      clear h2
      go_upto_region 11 with fail
      have B4:=BM.out.set_ 42 (.bool false)
      rw[ZjD hqok] at B4
      have M4:Mod (fun k=>k=n) wr _:=(Mod.refl (fun k=>k=n) wr).set1 (.bool false) (o:=42)
      have HM4:=zh (HM.out.trans M4)
      have HW:=zh (ZfH {q with told:=false} hqok n _ B4)
      clear B4 M4 pc4 pc42 pf42
      go_wp2_with fail
      refine HW.out.mono ?_
      rintro e w5 ⟨rfl,B5,M5⟩
      go_wp2
      go_meet
      exact⟨by rw[HP.out];exact zh B5,zh ((Mod.of_ext E1.out).trans (HM4.out.trans M5))⟩
     ·have h2b:(q.state==2)=false:=by simpa using h2
      have HP:=zh (show ZeG sig p=Zcl q by rw[HP.out];unfold ZhB;rw[if_neg (by rw[←HST.out];exact h2),HF.out])
      have HW:=zh (ZfH q hqok n _ BM.out)
      clear h2 pc42 pf42
      go_wp2_with fail
      refine HW.out.mono ?_
      rintro e w5 ⟨rfl,B5,M5⟩
      go_wp2
      go_meet
      exact⟨by rw[HP.out];exact zh B5,zh ((Mod.of_ext E1.out).trans (HM.out.trans M5))⟩
  have h18b:(sig==18)=false:=by simpa using h18
  by_cases h9:sig=9
  ·have h9b:(sig==9)=true:=by simpa using h9
   have HP:=zh (show ZeG sig p=Zcl p by unfold ZeG;rw[if_neg h18,if_pos h9])
   have HW:=zh (ZfH p hok n w B.out)
   clear h9 h18
   go_wp2_with fail
   refine HW.out.mono ?_
   rintro e w1 ⟨rfl,B1,M1⟩
   go_wp2
   go_meet
   exact⟨by rw[HP.out];exact zh B1,zh M1⟩
  have h9b:(sig==9)=false:=by simpa using h9
  go_wp2_with fail
  refine(Zll _).mono ?_
  rintro e w1 ⟨v,rfl,R1,E1⟩
  have R1:=zh R1
  have B:=zh (B.out.ext E1)
  have HI:=zh (ZnI v ZbB sig _ R1.out)
  by_cases hin:sig∈ZbB
  ·have HP:=zh (show ZeG sig p={p with pending:=Sg.ZgX p.pending 18} by unfold ZeG;rw[if_neg h18,if_neg h9,if_pos hin])
   have HD:=zh (decide_eq_true hin)
   clear h18 h9 hin
   go_wp2_with fail
   refine HI.out.mono ?_
   rw[HD.out]
   rintro e w2 ⟨rfl,E2⟩
   have B:=zh (B.out.ext E2)
   have pc7:=(Zaq hok B.out).c7
   have E12:=E1.trans E2
   clear E1 E2 R1 HI
   go_wp2_with fail
   refine(Sg.Zlk p.pending 18 _ hb).mono ?_
   rintro e w3 ⟨rfl,E3⟩
   have B:=zh (B.out.ext E3)
   have E13:=E12.trans E3
   have pc7:=(Zaq hok B.out).c7
   have pf7:=B.out.frozen 7
   go_wp2
   go_meet
   exact⟨zh (by rw[HP.out,←ZcX];exact B.out.set_ 7 _),zh ((Mod.of_ext E13).set1 _)⟩
  ·have HP:=zh (show ZeG sig p=p by unfold ZeG;rw[if_neg h18,if_neg h9,if_neg hin])
   have HD:=zh (decide_eq_false hin)
   clear h18 h9 hin
   go_wp2_with fail
   refine HI.out.mono ?_
   rw[HD.out]
   rintro e w2 ⟨rfl,E2⟩
   have B:=zh (B.out.ext E2)
   have E12:=E1.trans E2
   clear E1 E2 R1 HI
   go_wp2
   go_meet
   exact⟨by rw[HP.out];exact B,zh (Mod.of_ext E12)⟩
 case rest=>
  obtain⟨B,M⟩:=hcut
  have hqok:(ZeG sig p).ok:=Zln hok
  have hqb:=Zlo (sig:=sig) hb
  have HS:=zh (show sentP sig p={ZeG sig p with pending:=Sg.Zoy (ZeG sig p).pending sig} from rfl)
  obtain⟨q,hq⟩:=zm (ZeG sig p)
  rw[hq] at B hqok hqb HS
  have pc7:=(Zaq hqok B.out).c7
  clear hq
  go_wp2_with fail
  refine(Sg.Zqe q.pending sig _ hqb).mono ?_
  rintro e w5 ⟨rfl,E5⟩
  have B:=zh (B.out.ext E5)
  have pc7:=(Zaq hqok B.out).c7
  have pf7:=B.out.frozen 7
  go_wp2
  go_end0
  exact⟨rfl,by rw[HS.out,←ZcX];exact B.out.set_ 7 _,(M.out.ext E5).set1 _⟩
theorem Zlp {sig:Int}{p:Pr}:(sentP sig p).pid=p.pid:=by
 unfold sentP ZeG ZhB Zlm Zcl
 repeat' split
 all_goals rfl
def sentL (l:List Pr)(nx pid sig:Int):List Pr×Int:=if rightL l nx=true then if Sg.isL sig=true then if ZbK l nx pid=true then(ZaO (fun _=>sentP sig (ZgA l nx pid).1) (ZgA l nx pid).1.pid l,0) else(l,8) else(l,2) else(l,4)
theorem Zlq {l:List Pr}{nx pid sig:Int}:(sentL l nx pid sig).1.length=l.length:=by
 unfold sentL
 split
 ·split
  ·split
   ·exact Zhw
   ·rfl
  ·rfl
 ·rfl
def ZfI (Ad:Option Addr)(c:Nat)(l:List Pr)(nx pid sig:Int)(w:World)(e:Ending)(w':World):Prop:=
 ∃A' c',e= .returned (.tuple #[tv A' l.length c' nx,.int .i64 (sentL l nx pid sig).2])∧ZfG 234 Ad c l w.heap.size w' A' c' (sentL l nx pid sig).1∧Ext w w'
theorem Zqf {A:Nat→Prop}(Ad:Option Addr)(c:Nat)(l:List Pr)(nx pid sig:Int)(w:World)(h:RdY Rp A w (.slice Ad l.length c) l)(hb:∀p∈l,Sg.U64 p.pending):
 Calls Tryz.prog 310 #[tv Ad l.length c nx,.int .i64 pid,.int .i64 sig] w (ZfI Ad c l nx pid sig w):=by
 have H:=zh (Za9 (B:=fun _=>False) h)
 have hoks:=zh (RdY.oks h)
 obtain⟨W,hW⟩:=zn ((w.alloc (.cells #[.slice Ad l.length c,.int .i64 nx] 79)).alloc (.cells #[.slice none 0 0,.int .i64 0] 79))
 have hres:=zh (show Blk W (w.heap.size+1) 79 #[.slice none 0 0,.int .i64 0] by rw[hW];exact Blk.at_ _ _ (by simp))
 have hbox:=zh (show Blk W w.heap.size 79 #[.slice Ad l.length c,.int .i64 nx] by rw[hW];exact(Blk.new w _ _).alloc _)
 have E0:Ext w W:=by rw[hW];exact zX
 have HW:=zh hW
 have HB:=zh hb
 obtain⟨kn,hkn⟩:=zm (Sg.isL sig)
 have HNM:=zh fun w'=>Sg.Zik sig w'
 rw[hkn] at HNM
 have hsl:sentL l nx pid sig=if rightL l nx=true then if kn=true then if ZbK l nx pid=true then(ZaO (fun _=>sentP sig (ZgA l nx pid).1) (ZgA l nx pid).1.pid l,0) else(l,8) else(l,2) else(l,4):=by rw[←hkn];rfl
 have HSL:=zh hsl
 clear h hW hb hkn hsl
 unfold ZfI
 go_enter Tryz.func310,Tryz.ntmps310
 go_wp2_with fail
 rw[←HW.out]
 refine(HNM.out _).mono ?_
 rintro e w1 ⟨rfl,E1⟩
 generalize (if kn=true then Sg.nameB sig.toNat else⟨#[]⟩:ByteArray)=nm at*
 have kb:=(hbox.out.ext E1).two
 have E01:=E0.trans E1
 have HR:=zh (ZjB (A:=fun _=>False) Ad c l nx w1 (H.out.ext E01))
 clear HNM
 go_wp2_with fail
 refine HR.out.mono ?_
 rintro e w2 ⟨rfl,E2⟩
 have E12:=E1.trans E2
 have E02:=E01.trans E2
 have kb:=(hbox.out.ext E12).two
 have ks:=(hres.out.ext E12).two
 clear HR E2
 cases hr:rightL l nx
 ·have HR:=zh hr
  clear hr
  have hM8:Mod (fun k=>k=w.heap.size+1) w2 _:=((Mod.refl _ w2).set1 (.slice Ad l.length c) (o:=0)).set1 (.int .i64 nx) (o:=1)
  obtain⟨q0,q1,_,_⟩:=((hres.out.ext E12).put2 (.slice Ad l.length c) (.int .i64 nx)).two
  go_wp2
  refine bodyPost_ret (v:=.tuple #[tv Ad l.length c nx,.int .i64 4]) (by simp[results,Tryz.results310,go_sem,q0,q1]) rfl ?_
  rw[HSL.out,HR.out]
  have EE:Ext w _:=Mod.toExt E02 hM8 (by intro k hk he;omega)
  exact⟨Ad,c,rfl,.inl ⟨rfl,rfl,rfl⟩,EE⟩
 ·have HR:=zh hr
  clear hr
  rcases Bool.eq_false_or_eq_true kn with hk|hk
  case inr=>
   subst hk
   have HK:=zh (show false=false from rfl)
   have hM8:Mod (fun k=>k=w.heap.size+1) w2 _:=((Mod.refl _ w2).set1 (.slice Ad l.length c) (o:=0)).set1 (.int .i64 nx) (o:=1)
   obtain⟨q0,q1,_,_⟩:=((hres.out.ext E12).put2 (.slice Ad l.length c) (.int .i64 nx)).two
   go_wp2
   refine bodyPost_ret (v:=.tuple #[tv Ad l.length c nx,.int .i64 2]) (by simp[results,Tryz.results310,go_sem,q0,q1]) rfl ?_
   rw[HSL.out,HR.out]
   have EE:Ext w _:=Mod.toExt E02 hM8 (by intro k hk he;omega)
   exact⟨Ad,c,rfl,.inl ⟨rfl,rfl,rfl⟩,EE⟩
  subst hk
  have HL:=zh (ZdP (A:=fun _=>False) Ad c l nx pid w2 (H.out.ext E02))
  clear ks
  go_wp2_with fail
  refine HL.out.mono ?_
  rintro e w3 ⟨rfl,E3⟩
  have E13:=E12.trans E3
  have E03:=E02.trans E3
  have kb:=(hbox.out.ext E13).two
  have ks:=(hres.out.ext E13).two
  clear HL E3
  cases hl:ZbK l nx pid
  ·have HL:=zh hl
   clear hl
   have hM8:Mod (fun k=>k=w.heap.size+1) w3 _:=((Mod.refl _ w3).set1 (.slice Ad l.length c) (o:=0)).set1 (.int .i64 nx) (o:=1)
   obtain⟨q0,q1,_,_⟩:=((hres.out.ext E13).put2 (.slice Ad l.length c) (.int .i64 nx)).two
   go_wp2
   refine bodyPost_ret (v:=.tuple #[tv Ad l.length c nx,.int .i64 8]) (by simp[results,Tryz.results310,go_sem,q0,q1]) rfl ?_
   rw[HSL.out,HR.out,HL.out]
   have EE:Ext w _:=Mod.toExt E03 hM8 (by intro k hk he;omega)
   exact⟨Ad,c,rfl,.inl ⟨rfl,rfl,rfl⟩,EE⟩
  ·obtain⟨_,p,hgp,hpl,_⟩:=Zeq (Zis hl)
   have HL:=zh hl
   have hpok:=hoks.out p hpl
   have hpp:=HB.out p hpl
   have hG:=Zla (A:=fun _=>False) Ad c l nx pid w3 (H.out.ext E03)
   rw[hgp] at hG
   have HG:=zh hG
   have HSL:=zh (HSL.out.trans (by rw[HR.out,HL.out,hgp];rfl):sentL l nx pid sig=(ZaO (fun _=>sentP sig p) p.pid l,0))
   have HPP:=zh hpp
   clear hl hgp hG ks hpp hpl
   go_wp2_with fail
   refine HG.out.mono ?_
   rintro e w4 ⟨rfl,E4⟩
   have E14:=E13.trans E4
   have E04:=E03.trans E4
   obtain⟨n10,hn10⟩:=zm (w4.heap.size)
   clear kb HG E4
   go_wp2_with((refine wpList_store_A rfl 234 _ _ rfl (n10) _ rfl rfl 234 _ (Zbw w4 n10 hn10) (by rw[List.size_toArray];exact ZbI hpok) (Eq.trans (b:=43) (by rfl) (Eq.symm (show(p).cells.toArray.size=43 from Pr.size hpok))) (Pr.one hpok) ?_);intro w5 H5 E5;have E45:Ext w4 w5:=E5 w4.heap.size w4 ((Ext.refl w4).alloc _) (by omega);have b10:=zh H5;clear E5 H5)
   have E15:=E14.trans E45
   have E05:=E04.trans E45
   refine(ZnK p sig n10 w5 b10.out hpok HPP.out).mono ?_
   rintro e w6 ⟨rfl,B6,M6⟩
   have hn1:=(hres.out.ext E14).lt
   have hz0:=E0.size
   have B6:=zh B6
   have hbox6:=zh ((hbox.out.ext E15).mod M6 (by omega))
   have hres6:=zh ((hres.out.ext E15).mod M6 (by omega))
   have E06:Ext w w6:=Mod.toExt E05 M6 (by intro k hk he;have:=E04.size;omega)
   have R6:=zh ((H.out.ext E04).ext (Mod.toExt E45 M6 (by intro k hk he;omega)))
   have hqok:(sentP sig p).ok:=Zln hpok
   have hqp:(sentP sig p).pid=p.pid:=Zlp
   generalize sentP sig p=q at*
   have kb:=hbox6.out.two
   clear b10 M6 hn10 E45 E15 E05 hz0
   go_wp2_with(refine wpList_load_row rfl 234 _ rfl _ rfl 234 _ _ _ B6.out Tryz.underlying234 rfl (by rw[List.size_toArray];exact ZbI hqok) ?_)
   refine(Zfy Ad c l nx q _ R6.out hqok).mono ?_
   rintro e w7 ⟨E7,⟨hr,_⟩|⟨_,A7,c7,rfl,O7⟩⟩
   ·rw[HR.out] at hr;cases hr
   rw[hqp] at O7
   have E07:=E06.trans E7
   have ks:=(hres6.out.ext E7).two
   have hM8:Mod (fun k=>k=w.heap.size+1) w7 _:=((Mod.refl _ w7).set1 (.slice A7 l.length c7) (o:=0)).set1 (.int .i64 nx) (o:=1)
   obtain⟨q0,q1,_,_⟩:=((hres6.out.ext E7).put2 (.slice A7 l.length c7) (.int .i64 nx)).two
   have hz6:w.heap.size+1<w6.heap.size:=hres6.out.lt
   have O8:=zh (O7.mod hM8 (fun k hk he=>by have:=(O7.row k hk).1;omega) (fun k _ hk _=>hk))
   clear O7 kb hz6
   go_wp2
   refine bodyPost_ret (v:=.tuple #[tv A7 l.length c7 nx,.int .i64 0]) (by simp[results,Tryz.results310,go_sem,q0,q1]) rfl ?_
   rw[HSL.out]
   exact⟨A7,c7,rfl,.inr (O8.out.lower E06.size),Mod.toExt E07 hM8 (by intro k hk he;omega)⟩
def sentsL (l:List Pr)(nx sig:Int)(ks:List Int):List Pr:=ks.foldl (fun l k=>(sentL l nx k sig).1) l
theorem ZcZ {nx sig:Int}:∀ {ks:List Int} {l:List Pr},(sentsL l nx sig ks).length=l.length
 | [],_=>rfl
 |k::ks,l=>by
  show(sentsL (sentL l nx k sig).1 nx sig ks).length=l.length
  rw[ZcZ,Zlq]
theorem ZhC {l:List Pr}{nx sig:Int}{ks:List Int}{m:Nat}{x:Int}(h:ks[m]?=some x):sentsL l nx sig (ks.take (m+1))=(sentL (sentsL l nx sig (ks.take m)) nx x sig).1:=by
 unfold sentsL
 rw[List.take_add_one,h,List.foldl_append]
 rfl
theorem ZnL {p:Pr}{sig:Int}(h:Sg.U64 p.pending):Sg.U64 (sentP sig p).pending:=Sg.Zqd (Zlo h) sig
theorem ZnM {l:List Pr}{nx k sig:Int}(h:∀p∈l,Sg.U64 p.pending):∀p∈(sentL l nx k sig).1,Sg.U64 p.pending:=by
 intro q hq
 unfold sentL at hq
 split at hq
 ·split at hq
  ·split at hq
   ·rename_i hl
    obtain⟨_,p,hgp,hpl,_⟩:=Zeq (Zis hl)
    rcases ZgG hq with h1|⟨x,h1,rfl⟩
    ·exact h q h1
    ·rw[hgp]
     exact ZnL (h p hpl)
   ·exact h q hq
  ·exact h q hq
 ·exact h q hq
theorem Zev {nx sig:Int}:∀ {ks:List Int} {l:List Pr},(∀p∈l,Sg.U64 p.pending)→∀p∈sentsL l nx sig ks,Sg.U64 p.pending
 | [],_,h=>h
 |k::ks,l,h=>Zev (ks:=ks) (l:=(sentL l nx k sig).1) (ZnM h)
def ZgH (l:List Pr)(nx g sig:Int):List Pr:=sentsL l nx sig (Zle l nx g)
theorem Zlr {l:List Pr}{nx g sig:Int}:(ZgH l nx g sig).length=l.length:=ZcZ
theorem Zbx {A:Nat→Prop}(Ad:Option Addr)(c:Nat)(l:List Pr)(nx g sig:Int)(w:World)(h:RdY Rp A w (.slice Ad l.length c) l)(hb:∀p∈l,Sg.U64 p.pending):
 Calls Tryz.prog 274 #[tv Ad l.length c nx,.int .i64 g,.int .i64 sig] w fun e w'=>∃A' c' k,e= .returned (.tuple #[tv A' l.length c' nx,.int .i64 k])∧ZfG 234 Ad c l w.heap.size w' A' c' (ZgH l nx g sig)∧Ext w w':=by
 have H:=zh (Za9 (B:=fun _=>False) h)
 obtain⟨W,hW⟩:=zn ((w.alloc (.cells #[.slice Ad l.length c,.int .i64 nx] 79)).alloc (.cells #[.slice none 0 0,.int .i64 0] 79))
 have hres:=zh (show Blk W (w.heap.size+1) 79 #[.slice none 0 0,.int .i64 0] by rw[hW];exact Blk.at_ _ _ (by simp))
 have hbox:=zh (show Blk W w.heap.size 79 #[.slice Ad l.length c,.int .i64 nx] by rw[hW];exact(Blk.new w _ _).alloc _)
 have E0:Ext w W:=by rw[hW];exact zX
 have HW:=zh hW
 have HB:=zh hb
 clear h hW hb
 go_enter Tryz.func274,Tryz.ntmps274
 go_wp2_with fail
 rw[←HW.out]
 have kb:=hbox.out.two
 go_wp2_with fail
 refine(Zhz (A:=fun _=>False) Ad c l nx g W (H.out.ext E0)).mono ?_
 rintro e w1 ⟨A1,c1,rfl,O1,E1⟩
 have E01:=E0.trans E1
 have hbox:=zh (hbox.out.ext E1)
 have hres:=zh (hres.out.ext E1)
 obtain⟨M,hM⟩:=zm (Zle l nx g)
 have HG:=zh (show ZgH l nx g sig=sentsL l nx sig M by unfold ZgH;rw[hM])
 rw[hM] at O1⊢
 obtain⟨K,hK⟩:=zm (M.length)
 have hK32:K≤100000:=by
  rw[←hK,←hM]
  unfold Zle
  split
  ·rename_i hr
   have:=(ZbJ hr).1
   have:=List.length_filter_le (ofP g) l
   simp only[List.length_map]
   omega
  ·simp
 rw[hK] at O1⊢
 have HM:=zh hM
 have HK:=zh hK
 have O1:=zh O1
 obtain⟨N,hN⟩:=zm (l.length)
 rw[hN] at H hbox⊢
 have HN:=zh hN
 have hlt1:=hres.out.lt
 have HLT:=zh hlt1
 have HW2:=zh (show W.heap.size=w.heap.size+2 by rw[HW.out];simp)
 clear hM hK kb hN hlt1 HW
 go_wp2
 go_loopw [8,16] (fun n i wr=>∃ (m:Nat) (k:Int) (A':Option Addr) (c':Nat),m≤K∧n= .int .i64 k∧i= .int .i64 m∧Hid (Blk wr w.heap.size 79 #[.slice A' N c',.int .i64 nx])∧Hid (Blk wr (w.heap.size+1) 79 #[.slice none 0 0,.int .i64 0])∧Hid (ZfG 234 Ad c l w.heap.size wr A' c' (sentsL l nx sig (M.take m)))∧Hid (OwnS Ib 3 W.heap.size (fun _=>False) wr (.slice A1 K c1) M)∧Ext w wr) (fun _ i _=>K - (intOf i).toNat)
 case atStart=>exact⟨0,0,Ad,c,Nat.zero_le _,rfl,rfl,hbox,hres,zh (.inl ⟨rfl,rfl,rfl⟩),O1,E01⟩
 case round=>
  clear hbox hres O1 E01 E1 E0
  obtain⟨m,k,A',c',hm,rfl,rfl,hbox,hres,HR,HY,hE⟩:=hrel
  by_cases hmn:m<K
  ·obtain⟨b,off,u,x,rfl,hc,hd,hu⟩:=RdY.at1 HY.out.y rfl hmn
   have hu: [u]=[Value.int .i64 x]:=hu.out
   cases hu
   have kb:=hbox.out.two
   have HT:=zh (ZhC (l:=l) (nx:=nx) (sig:=sig) hd.out)
   have hln:(sentsL l nx sig (M.take m)).length=N:=by rw[ZcZ,HN.out]
   have hst:=Zqf (A:=fun _=>False) A' c' (sentsL l nx sig (M.take m)) nx x sig wr (by rw[hln,←HN.out];exact HR.out.y (by rw[HN.out];exact H.out) hE) (Zev HB.out)
   unfold ZfI at hst
   rw[hln] at hst
   have HST:=zh hst
   have HLN:=zh hln
   clear hst hln hd
   have Hc:=hc
   go_wp2_with fail
   refine HST.out.mono ?_
   rintro e w2 ⟨A2,c2,rfl,R2,E2⟩
   rw[←HT.out] at R2
   generalize (sentL (sentsL l nx sig (M.take m)) nx x sig).2=er at*
   have R2:=zh R2
   have kb:=(hbox.out.ext E2).two
   have M3:Mod (fun k=>k=w.heap.size) w2 _:=((Mod.refl _ w2).set1 (.slice A2 N c2) (o:=0)).set1 (.int .i64 nx) (o:=1)
   have B3:=zh ((hbox.out.ext E2).put2 (.slice A2 N c2) (.int .i64 nx))
   have S3:=zh ((hres.out.ext E2).mod M3 (by show ¬_=_;omega))
   have EE:=Mod.toExt (hE.trans E2) M3 (by intro k hk he;omega)
   have Y3:=zh ((HY.out.ext E2).mod M3 (fun j hj he=>by have:=(HY.out.row j hj).1;have:=HW2.out;omega) (fun k _ hk _=>hk))
   have R3:=zh ((HR.out.trans R2.out (by rw[HLN.out,HN.out]) E2 hE.size).mod M3 (hbox.out.ext E2) (by decide))
   go_wp2
   all_goals go_roundw
   all_goals first
    |(case rel=>exact⟨m+1,_,A2,c2,by omega,rfl,by go_num,B3,S3,R3,Y3,EE⟩)
    |(case measure=>simp[intOf];omega)
  ·obtain rfl:m=K:=by omega
   have kb:=hbox.out.two
   have ks:=hres.out.two
   have hM7:Mod (fun k=>k=w.heap.size+1) wr _:=((Mod.refl _ wr).set1 (.slice A' N c') (o:=0)).set1 (.int .i64 nx) (o:=1)
   obtain⟨q0,q1,_,_⟩:=(hres.out.put2 (.slice A' N c') (.int .i64 nx)).two
   go_wp2
   refine bodyPost_ret (v:=.tuple #[tv A' N c' nx,.int .i64 k]) (by simp[results,Tryz.results274,go_sem,q0,q1]) rfl ?_
   have hf:ZgH l nx g sig=sentsL l nx sig (M.take m):=by rw[HG.out,List.take_of_length_le (by have:=HK.out;omega)]
   rw[hf,HN.out]
   exact⟨A',c',k,rfl,HR.out.mod hM7 hres.out (by decide),Mod.toExt hE hM7 (by intro k hk he;omega)⟩
end Go.Proofs.YtmmhcllibpmfnaaGreatDoor.Tb
namespace Go.Proofs.YtmmhcllibpmfnaaGreatDoor
open Go.RowKit Go.Kb
def Zbc:Rep (ByteArray×ByteArray) where
 size:=2
 pos:=by decide
 rel:=fun _ _ cs d=>cs=[.string d.1,.string d.2]
 len:=fun h=>by rw[h];rfl
 one:=fun h u hu=>by
  rw[h] at hu
  simp at hu
  rcases hu with rfl|rfl<;>rfl
 keep:=fun h _=>h
structure Sn where
 pty:Bool
 term:ByteArray
 z1:Int
 z2:Int
 z3:Int
 z4:Int
 t:Md.Tm
 env:List (ByteArray×ByteArray)
 st:Bool
structure Ac where
 ok:Bool
 d:Int
 pr:Int
 sg:Int
 a1:Int
 a2:Int
 a3:Int
 a4:Int
def acN:Ac:=⟨false,0,0,0,0,0,0,0⟩
def acY:Ac:=⟨true,0,0,0,0,0,0,0⟩
def sn0:Sn:=⟨false,⟨#[]⟩,0,0,0,0,Md.ZbN,[],false⟩
def Sn.size (s:Sn)(r:Rq):Sn:={s with z1:=r.c1,z2:=r.c2,z3:=r.c3,z4:=r.c4}
def Sn.ptyd (s:Sn)(r:Rq):Sn:={s with pty:=true,term:=r.tx,z1:=r.c1,z2:=r.c2,z3:=r.c3,z4:=r.c4,t:=(Md.decL r.mo Md.Zca).1}
def Zcy (s:Sn)(r:Rq):Sn×Ac:=if s.pty=true then(s,acN) else if s.st=true then(s,acN) else if ¬(Md.decL r.mo Md.Zca).2=0 then(s,acN) else if Md.rightL (Md.decL r.mo Md.Zca).1=true then(s.ptyd r,acY) else(s,acN)
def ZjE (l:List (ByteArray×ByteArray))(x:ByteArray):Int:=Zdq (fun v=>v.1.toList==x.toList) l
def ZqN (l:List (ByteArray×ByteArray))(i:Nat)(y:ByteArray):List (ByteArray×ByteArray):=l.set i ((l.getD i (⟨#[]⟩,⟨#[]⟩)).1,y)
def ZcG (s:Sn)(r:Rq):Sn×Ac:=
 if s.st=true then(s,acN) else if 0≤ZjE s.env r.tx then({s with env:=ZqN s.env (ZjE s.env r.tx).toNat r.vl},acY) else if 16≤s.env.length then(s,acN) else({s with env:=s.env++ [(r.tx,r.vl)]},acY)
def begN (s:Sn)(i:Int):Sn×Ac:=if s.st=false∧0≤i then({s with st:=true},⟨true,1,i,0,0,0,0,0⟩) else(s,acN)
def ZbF (s:Sn)(r:Rq):Sn×Ac:=if s.pty=true then(s.size r,if s.st=true then⟨true,2,0,0,r.c1,r.c2,r.c3,r.c4⟩ else acY) else(s,acN)
def ZgY (s:Sn)(r:Rq):Sn×Ac:=if s.st=true∧(Sg.numL r.tx).2=true∧Sg.wireL (Sg.numL r.tx).1=true then(s,⟨true,3,0,(Sg.numL r.tx).1,0,0,0,0⟩) else(s,acN)
def shB:ByteArray:=⟨#[115,104,101,108,108]⟩
def ZfM (ns:List ByteArray)(s:Sn)(r:Rq):Nat→Sn×Ac
 |1=>Zcy s r
 |2=>ZcG s r
 |3=>begN s (fndP ns shB)
 |4=>begN s (fndP ns (Zgn r.tx))
 |5=>begN s (fndP ns r.tx)
 |6=>ZbF s r
 |8=>ZgY s r
 |_=>(s,acN)
structure Sn.Ok (s:Sn):Prop where
 t:s.t.Ok
 en:s.env.length≤16
theorem ZnN (l:List (ByteArray×ByteArray))(i:Nat)(y:ByteArray):(ZqN l i y).length=l.length:=by simp[ZqN]
theorem ZfJ {ns:List ByteArray}{s:Sn}{r:Rq}(h:s.Ok)(hb:Bs r.mo)(k:Nat):(ZfM ns s r k).1.Ok:=by
 have hd:=Md.ZbO r.mo.length r.mo Md.Zca (Nat.le_refl _) Md.Zbb hb
 unfold ZfM
 split
 ·unfold Zcy
  repeat' split
  all_goals first|exact h|exact⟨hd,h.en⟩
 ·unfold ZcG
  split
  ·exact h
  ·split
   ·exact⟨h.t,by show(ZqN _ _ _).length≤16;rw[ZnN];exact h.en⟩
   ·split
    ·exact h
    ·rename_i h9
     exact⟨h.t,by show(s.env++ [(r.tx,r.vl)]).length≤16;rw[List.length_append];simp;omega⟩
 ·unfold begN;split
  ·exact⟨h.t,h.en⟩
  ·exact h
 ·unfold begN;split
  ·exact⟨h.t,h.en⟩
  ·exact h
 ·unfold begN;split
  ·exact⟨h.t,h.en⟩
  ·exact h
 ·unfold ZbF;split
  ·exact⟨h.t,h.en⟩
  ·exact h
 ·unfold ZgY;split
  ·exact h
  ·exact h
 ·exact h
theorem ZrE:sn0.Ok:=⟨Md.ZdY,by decide⟩
def Zcc (s:Sn):List Value:=[.bool s.pty,.string s.term,.int .u32 s.z1,.int .u32 s.z2,.int .u32 s.z3,.int .u32 s.z4]
def sesC (s:Sn)(ev:Value):List Value:=Zcc s++ (s.t.cells++ [ev,.bool s.st])
def rqL (r:Rq)(v:Value):List Value:=[.int .i64 r.k,.string r.tx,.string r.vl,.string r.la,.int .u32 r.c1,.int .u32 r.c2,.int .u32 r.c3,.int .u32 r.c4,v,.bool r.on,.int .u32 r.co]
def acC (a:Ac):List Value:=[.bool a.ok,.int .i64 a.d,.int .i64 a.pr,.int .i64 a.sg,.int .u32 a.a1,.int .u32 a.a2,.int .u32 a.a3,.int .u32 a.a4]
def asT (s:Sn)(ev:Value)(r:Rq)(mv pv:Value)(a:Ac):List Value:=ev:: .bool s.st::(rqL r mv++ (pv::acC a))
def asC (s:Sn)(ev:Value)(r:Rq)(mv pv:Value)(a:Ac):List Value:=Zcc s++ (s.t.cells++asT s ev r mv pv a)
abbrev asV (s:Sn)(ev:Value)(r:Rq)(mv pv:Value)(a:Ac):Array Value:=(asC s ev r mv pv a).toArray
theorem sesC_len {s:Sn}(h:s.t.Ok)(ev:Value):(sesC s ev).length=32:=by simp[sesC,Zcc,Md.Tm.len h]
section
variable {s:Sn} {ev:Value} {r:Rq} {mv pv:Value} {a:Ac}
theorem ZfK (h:s.t.Ok):(asC s ev r mv pv a).length=52:=by simp[asC,Zcc,asT,rqL,acC,Md.Tm.len h]
theorem ZeK {i:Nat}{u:Value}(hu:(Zcc s)[i]?=some u):(asV s ev r mv pv a)[i]?=some u:=by
 rw[List.getElem?_toArray,asC,List.getElem?_append_left (List.getElem?_eq_some_iff.1 hu).1]
 exact hu
theorem Zar (h:s.t.Ok){i:Nat}{u:Value}(hu:(asT s ev r mv pv a)[i]?=some u):(asV s ev r mv pv a)[30+i]?=some u:=by
 have h6:(Zcc s).length=6:=rfl
 rw[List.getElem?_toArray,asC,List.getElem?_append_right (by omega),List.getElem?_append_right (by rw[Md.Tm.len h,h6];omega),Md.Tm.len h,h6]
 rw[show 30+i - 6 - 24=i by omega]
 exact hu
theorem ZsK {i:Nat}{u:Value}(hu:s.t.cells[i]?=some u):(asV s ev r mv pv a)[6+i]?=some u:=by
 have h6:(Zcc s).length=6:=rfl
 rw[List.getElem?_toArray,asC,List.getElem?_append_right (by omega),List.getElem?_append_left (by rw[h6,show 6+i - 6=i by omega];exact(List.getElem?_eq_some_iff.1 hu).1),h6]
 rw[show 6+i - 6=i by omega]
 exact hu
theorem Zc0 (h:s.t.Ok){i:Nat}{u:Value}:(asV s ev r mv pv a).setIfInBounds (30+i) u=(Zcc s++ (s.t.cells++ (asT s ev r mv pv a).set i u)).toArray:=by
 have h6:(Zcc s).length=6:=rfl
 rw[List.setIfInBounds_toArray,asC,List.set_append_right _ _ (by omega),List.set_append_right _ _ (by rw[Md.Tm.len h,h6];omega),Md.Tm.len h,h6]
 rw[show 30+i - 6 - 24=i by omega]
theorem Ziu {i:Nat}{u:Value}(hi:i<6):(asV s ev r mv pv a).setIfInBounds i u=((Zcc s).set i u++ (s.t.cells++asT s ev r mv pv a)).toArray:=by
 rw[List.setIfInBounds_toArray,asC,List.set_append_left _ _ (by show i<6;exact hi)]
theorem as30 (h:s.t.Ok)(ev2:Value):(asV s ev r mv pv a).setIfInBounds 30 ev2=asV s ev2 r mv pv a:=Zc0 h (i:=0)
theorem as31 (h:s.t.Ok)(b:Bool):(asV s ev r mv pv a).setIfInBounds 31 (.bool b)=asV {s with st:=b} ev r mv pv a:=Zc0 h (i:=1)
theorem Zqg (h:s.t.Ok)(b:Bool):(asV s ev r mv pv a).setIfInBounds 44 (.bool b)=asV s ev r mv pv {a with ok:=b}:=Zc0 h (i:=14)
theorem ZsL (h:s.t.Ok)(x:Int):(asV s ev r mv pv a).setIfInBounds 45 (.int .i64 x)=asV s ev r mv pv {a with d:=x}:=Zc0 h (i:=15)
theorem as46 (h:s.t.Ok)(x:Int):(asV s ev r mv pv a).setIfInBounds 46 (.int .i64 x)=asV s ev r mv pv {a with pr:=x}:=Zc0 h (i:=16)
theorem as47 (h:s.t.Ok)(x:Int):(asV s ev r mv pv a).setIfInBounds 47 (.int .i64 x)=asV s ev r mv pv {a with sg:=x}:=Zc0 h (i:=17)
theorem as0 (b:Bool):(asV s ev r mv pv a).setIfInBounds 0 (.bool b)=asV {s with pty:=b} ev r mv pv a:=Ziu (by decide)
theorem as1 (x:ByteArray):(asV s ev r mv pv a).setIfInBounds 1 (.string x)=asV {s with term:=x} ev r mv pv a:=Ziu (by decide)
theorem as6 {t2:Md.Tm}(h:s.t.Ok)(h2:t2.Ok):((asV s ev r mv pv a).toList.take 6++t2.cells++ (asV s ev r mv pv a).toList.drop (6+t2.cells.length)).toArray=asV {s with t:=t2} ev r mv pv a:=by
 have e1:(asV s ev r mv pv a).toList=Zcc s++ (s.t.cells++asT s ev r mv pv a):=rfl
 have h6:(Zcc s).length=6:=rfl
 rw[e1,Md.Tm.len h2,List.take_append_of_le_length (by omega),List.take_of_length_le (by omega),List.drop_append,h6,List.drop_of_length_le (by omega),List.nil_append,List.drop_append,Md.Tm.len h,List.drop_of_length_le (by rw[Md.Tm.len h];omega),List.nil_append]
 show(Zcc s++t2.cells++asT s ev r mv pv a).toArray=_
 rw[List.append_assoc]
 rfl
end
def KdP (base a:Nat)(r:Rq)(mv pv ev:Value)(q:Sn×Ac)(w:World)(e:Ending)(w':World):Prop:=
 e= .returned (.tuple #[])∧∃ev',Blk w' a 372 (asV q.1 ev' r mv pv q.2)∧OwnS Zbc 367 base (fun _=>False) w' ev' q.1.env∧Mod (fun k=>k=a∨ev.ownBlock=some k) w w'
theorem KdP.of {base a:Nat}{r:Rq}{mv pv ev:Value}{s:Sn}{q:Sn×Ac}{cs:Array Value}{w w':World}(h:OwnS Zbc 367 base (fun _=>False) w ev s.env)(hB:Blk w a 372 cs)(hq:q.1.env=s.env)
 (B:Blk w' a 372 (asV q.1 ev r mv pv q.2)) (M:Mod (fun k=>k=a) w w'):KdP base a r mv pv ev q w (.returned (.tuple #[])) w':=
 ⟨rfl,ev,B,by rw[hq];exact h.mod M (fun k hk he=>Zai h hB (by decide) (by rw[hk,he])) (fun k _ hk=>hk.elim),M.mono (fun k _ hk=>.inl hk)⟩
theorem ZrF {s:Sn}{ev:Value}{r:Rq}{mv pv:Value}{a:Ac}{x1 x2 x3 x4:Int}(h:s.t.Ok):((asV s ev r mv pv a).toList.take 48++ ([.int .u32 x1,.int .u32 x2,.int .u32 x3,.int .u32 x4]:List Value)++ (asV s ev r mv pv a).toList.drop (48+4)).toArray=asV s ev r mv pv {a with a1:=x1,a2:=x2,a3:=x3,a4:=x4}:=by
 have e1:(asV s ev r mv pv a).toList=(Zcc s++s.t.cells)++asT s ev r mv pv a:=by unfold asV asC;simp
 have h3:(Zcc s++s.t.cells).length=30:=by simp[Zcc,Md.Tm.len h]
 rw[e1,List.take_append,List.drop_append,h3,List.take_of_length_le (by omega),List.drop_of_length_le (by omega)]
 show((Zcc s++s.t.cells)++_++_++_).toArray=_
 simp[asV,asC,asT,rqL,acC]
theorem ZhD (base a:Nat)(s:Sn)(r:Rq)(ev mv pv:Value)(w:World)(hs:s.Ok)(h:Blk w a 372 (asV s ev r mv pv acN))(he:OwnS Zbc 367 base (fun _=>False) w ev s.env):
 Calls Tryz.prog 317 #[.pointer (some ⟨a,0,none⟩)] w (KdP base a r mv pv ev (ZbF s r) w):=by
 have hiZ:=zi Tryz.prog 35 4
 have HB:=zh h
 have HE:=zh he
 have HS:=zh hs
 have k0:=Zak h (ZeK (i:=0) rfl)
 have k31:=Zak h (Zar hs.t (i:=1) rfl)
 obtain⟨p,hp⟩:=zm (s.pty)
 obtain⟨st,hst⟩:=zm (s.st)
 have HP:=zh hp
 have HST:=zh hst
 rw[hp] at k0
 have hLP:w.rangeAt a 36 [.int .u32 r.c1,.int .u32 r.c2,.int .u32 r.c3,.int .u32 r.c4]:=by
  intro i u hu
  rw[h.cell]
  rcases i with _|_|_|_|i
  ·exact Zar hs.t (i:=6) hu
  ·exact Zar hs.t (i:=7) hu
  ·exact Zar hs.t (i:=8) hu
  ·exact Zar hs.t (i:=9) hu
  ·simp at hu
 have hth:w.there a 2 4:=fun t ht=>⟨by
  have h6:(Zcc s)[2+t]?≠none:=by simp[Zcc];omega
  obtain⟨u,hu⟩:=Option.ne_none_iff_exists'.1 h6
  rw[Zak h (ZeK hu)];rfl,h.frozen _⟩
 clear h he hs hp hst
 cases p with
 |false=>
  go_enter Tryz.func317,Tryz.ntmps317
  go_wp2
  refine bodyPost_ret (v:=.tuple #[]) (results_none rfl _ _ _) rfl ?_
  have hz:ZbF s r=(s,acN):=by unfold ZbF;rw[if_neg (by rw[HP.out];decide)]
  rw[hz]
  exact KdP.of HE.out HB.out rfl HB.out (Mod.refl _ _)
 |true=>
  have B1:=zh (show Blk (w.setCells a 2 [.int .u32 r.c1,.int .u32 r.c2,.int .u32 r.c3,.int .u32 r.c4]) a 372 (asV (s.size r) ev r mv pv acN) from Blk.setCells [.int .u32 r.c1,.int .u32 r.c2,.int .u32 r.c3,.int .u32 r.c4] 2 w _ HB.out (by rw[List.size_toArray,ZfK HS.out.t];simp))
  have M1:=zh (Mod.setCells [.int .u32 r.c1,.int .u32 r.c2,.int .u32 r.c3,.int .u32 r.c4] 2 w w (Mod.refl (fun k=>k=a) w))
  go_enter Tryz.func317,Tryz.ntmps317
  go_upto_region 2 with(first|(refine wpList_load_mid rfl 35 _ rfl a 36 rfl [.int .u32 r.c1,.int .u32 r.c2,.int .u32 r.c3,.int .u32 r.c4] _ hLP Tryz.underlying35 rfl hiZ ?_)|(refine wpList_store_mid rfl 35 _ _ rfl a 2 #[.int .u32 r.c1,.int .u32 r.c2,.int .u32 r.c3,.int .u32 r.c4] rfl rfl (by exact hth) hiZ (by simp[Value.oneCell']) ?_))
  obtain⟨w1,hw1⟩:=zn (w.setCells a 2 [.int .u32 r.c1,.int .u32 r.c2,.int .u32 r.c3,.int .u32 r.c4])
  rw[←hw1] at B1 M1⊢
  have hT:(s.size r).t.Ok:=HS.out.t
  have HT:=zh hT
  have k31:=Zak B1.out (Zar hT (i:=1) rfl)
  rw[show(s.size r).st=st from HST.out] at k31
  clear hw1 hth hLP k0 hT
  cases st with
  |false=>
   have HO:=zh (Zek a _ (.bool false) w1 B1.out (Zar HT.out (i:=14) rfl))
   go_wp2_with fail
   refine(HO.out).mono ?_
   rintro e w2 ⟨rfl,B2,M2⟩
   rw[Zqg HT.out] at B2
   have B2:=zh B2
   have M2:=zh (M1.out.trans M2)
   clear HO
   go_wp2
   refine bodyPost_ret (v:=.tuple #[]) (results_none rfl _ _ _) rfl ?_
   have hz:ZbF s r=(s.size r,acY):=by unfold ZbF;rw[if_pos HP.out,if_neg (by rw[HST.out];decide)]
   rw[hz]
   exact KdP.of HE.out HB.out rfl B2.out M2.out
  |true=>
   have HO:=zh (Zhe a _ (.bool false) (.int .i64 0) 2 w1 B1.out (Zar HT.out (i:=14) rfl) (Zar HT.out (i:=15) rfl))
   go_wp2_with fail
   refine(HO.out).mono ?_
   rintro e w2 ⟨rfl,B2,M2⟩
   rw[Zqg HT.out,ZsL HT.out] at B2
   have B2:=zh B2
   have M2:=zh (M1.out.trans M2)
   have hLP:w2.rangeAt a 2 [.int .u32 r.c1,.int .u32 r.c2,.int .u32 r.c3,.int .u32 r.c4]:=by
    intro i u hu
    rw[B2.out.cell]
    rcases i with _|_|_|_|i
    ·exact ZeK (s:=s.size r) (i:=2) hu
    ·exact ZeK (s:=s.size r) (i:=3) hu
    ·exact ZeK (s:=s.size r) (i:=4) hu
    ·exact ZeK (s:=s.size r) (i:=5) hu
    ·simp at hu
   have hth:w2.there a 48 4:=fun t ht=>⟨by
    have h6:(asT (s.size r) ev r mv pv {({acN with ok:=true}:Ac) with d:=2})[18+t]?≠none:=by simp[asT,rqL,acC];omega
    obtain⟨u,hu⟩:=Option.ne_none_iff_exists'.1 h6
    have h9:=Zak B2.out (Zar HT.out hu)
    rw[show 30+(18+t)=48+t by omega] at h9
    rw[h9];rfl,B2.out.frozen _⟩
   have B3:=zh (Blk.setCells [.int .u32 r.c1,.int .u32 r.c2,.int .u32 r.c3,.int .u32 r.c4] 48 w2 _ B2.out (by rw[List.size_toArray,ZfK HT.out];simp))
   have M3:=zh (Mod.setCells [.int .u32 r.c1,.int .u32 r.c2,.int .u32 r.c3,.int .u32 r.c4] 48 w w2 M2.out)
   clear HO
   go_wp2_with(first|(refine wpList_load_mid rfl 35 _ rfl a 2 rfl [.int .u32 r.c1,.int .u32 r.c2,.int .u32 r.c3,.int .u32 r.c4] _ hLP Tryz.underlying35 rfl hiZ ?_)|(refine wpList_store_mid rfl 35 _ _ rfl a 48 #[.int .u32 r.c1,.int .u32 r.c2,.int .u32 r.c3,.int .u32 r.c4] rfl rfl (by exact hth) hiZ (by simp[Value.oneCell']) ?_))
   go_end0
   have hz:ZbF s r=(s.size r,⟨true,2,0,0,r.c1,r.c2,r.c3,r.c4⟩):=by unfold ZbF;rw[if_pos HP.out,if_pos HST.out]
   rw[hz]
   refine KdP.of HE.out HB.out rfl ?_ M3.out
   have h9:=B3.out
   rw[show([.int .u32 r.c1,.int .u32 r.c2,.int .u32 r.c3,.int .u32 r.c4]:List Value).length=4 from rfl,ZrF HT.out] at h9
   exact h9
theorem ZhE (base a:Nat)(s:Sn)(r:Rq)(ev mv pv:Value)(w:World)(hs:s.Ok)(h:Blk w a 372 (asV s ev r mv pv acN))(he:OwnS Zbc 367 base (fun _=>False) w ev s.env):
 Calls Tryz.prog 318 #[.pointer (some ⟨a,0,none⟩)] w (KdP base a r mv pv ev (ZgY s r) w):=by
 have HB:=zh h
 have HE:=zh he
 have HS:=zh hs
 have HNU:=zh (fun w'=>Sg.ZaF r.tx w')
 have HWI:=zh (fun sig w'=>Sg.Ziq sig w')
 have k33:=Zak h (Zar hs.t (i:=3) rfl)
 obtain⟨st,hst⟩:=zm (s.st)
 obtain⟨⟨x,b⟩,hx⟩:∃q,Sg.numL r.tx=q:=⟨_,rfl⟩
 obtain⟨wi,hwi⟩:=zm (Sg.wireL x)
 have hsg:ZgY s r=if st=true∧b=true∧wi=true then(s,⟨true,3,0,x,0,0,0,0⟩) else(s,acN):=by unfold ZgY;rw[hx,hst,hwi]
 have HSG:=zh hsg
 have HST:=zh hst
 rw[hx] at HNU
 have HWI:=zh (show ∀w',Calls Tryz.prog 287 #[.int .i64 x] w' (fun e w2=>e= .returned (.bool wi)∧Ext w' w2) from fun w'=>by rw[←hwi];exact HWI.out x w')
 clear h he hs hst hx hwi hsg
 go_enter Tryz.func318,Tryz.ntmps318
 go_wp2_with fail
 refine(HNU.out _).mono ?_
 rintro e w1 ⟨rfl,E1⟩
 have B1:=zh (HB.out.ext E1)
 have k31:=Zak B1.out (Zar HS.out.t (i:=1) rfl)
 rw[HST.out] at k31
 dsimp only
 clear HNU k33
 cases st with
 |false=>
  go_wp2
  refine bodyPost_ret (v:=.tuple #[]) (results_none rfl _ _ _) rfl ?_
  rw[HSG.out,if_neg (by simp)]
  exact KdP.of HE.out HB.out rfl B1.out (Mod.of_ext E1)
 |true=>
  cases b with
  |false=>
   go_wp2
   refine bodyPost_ret (v:=.tuple #[]) (results_none rfl _ _ _) rfl ?_
   rw[HSG.out,if_neg (by simp)]
   exact KdP.of HE.out HB.out rfl B1.out (Mod.of_ext E1)
  |true=>
   go_wp2_with fail
   refine(HWI.out _).mono ?_
   rintro e w2 ⟨rfl,E2⟩
   have B2:=zh (B1.out.ext E2)
   have E12:=zh (E1.trans E2)
   clear HWI k31
   cases wi with
   |false=>
    go_wp2
    refine bodyPost_ret (v:=.tuple #[]) (results_none rfl _ _ _) rfl ?_
    rw[HSG.out,if_neg (by simp)]
    exact KdP.of HE.out HB.out rfl B2.out (Mod.of_ext E12.out)
   |true=>
    have HO:=zh (Zhe a _ (.bool false) (.int .i64 0) 3 w2 B2.out (Zar HS.out.t (i:=14) rfl) (Zar HS.out.t (i:=15) rfl))
    go_wp2_with fail
    refine(HO.out).mono ?_
    rintro e w3 ⟨rfl,B3,M3⟩
    rw[Zqg HS.out.t,ZsL HS.out.t] at B3
    have k47:=Zak B3 (Zar HS.out.t (i:=17) rfl)
    have f47:=B3.frozen 47
    have B3:=zh B3
    have M3:=zh M3
    clear HO
    go_wp2
    go_end0
    rw[HSG.out,if_pos (by simp)]
    refine KdP.of HE.out HB.out rfl ?_ (((Mod.of_ext E12.out).trans M3.out).set1 _)
    have h9:=B3.out.set_ 47 (.int .i64 x)
    rw[as47 HS.out.t] at h9
    exact h9
theorem Zqh {s:Sn}{ev:Value}{r:Rq}{mv pv:Value}(h:s.t.Ok)(i:Int):(if s.st=false∧0≤i then Zsk (asV s ev r mv pv acN) i else asV s ev r mv pv acN)=asV (begN s i).1 ev r mv pv (begN s i).2:=by
 unfold begN
 by_cases hc:s.st=false∧0≤i
 ·rw[if_pos hc,if_pos hc]
  unfold Zsk
  rw[as31 h,Zqg (s:={s with st:=true}) h,ZsL (s:={s with st:=true}) h,as46 (s:={s with st:=true}) h]
  rfl
 ·rw[if_neg hc,if_neg hc]
theorem ZnO (s:Sn)(i:Int):(begN s i).1.env=s.env:=by unfold begN;split<;>rfl
theorem StP.kd {base a:Nat}{s:Sn}{r:Rq}{ev mv pv:Value}{i:Int}{w:World}{e:Ending}{w':World}(hs:s.Ok)(h:Blk w a 372 (asV s ev r mv pv acN))(he:OwnS Zbc 367 base (fun _=>False) w ev s.env)
 (H:StP a (asV s ev r mv pv acN) s.st i w e w'):KdP base a r mv pv ev (begN s i) w e w':=by
 obtain⟨rfl,B,M⟩:=H
 rw[Zqh hs.t] at B
 exact KdP.of he h (ZnO s i) B M
theorem ZjF {A:Nat→Prop}(base a:Nat)(s:Sn)(r:Rq)(ev mv pv:Value)(ns:List ByteArray)(w:World)(hs:s.Ok)(h:Blk w a 372 (asV s ev r mv pv acN))(he:OwnS Zbc 367 base (fun _=>False) w ev s.env)(hp:RdY PgR A w pv ns):
 Calls Tryz.prog 314 #[.pointer (some ⟨a,0,none⟩)] w (KdP base a r mv pv ev (begN s (fndP ns shB)) w):=by
 have HS:=zh ((ZcR (A:=A) a _ s.st (.bool false) (.int .i64 0) (.int .i64 0) pv ns shB w h (Zar hs.t (i:=1) rfl) (Zar hs.t (i:=13) rfl) (Zar hs.t (i:=14) rfl) (Zar hs.t (i:=15) rfl) (Zar hs.t (i:=16) rfl) hp).mono fun _ _ H=>StP.kd hs h he H)
 unfold shB at HS⊢
 generalize begN s (fndP ns ⟨#[115,104,101,108,108]⟩)=q at*
 unfold KdP at HS⊢
 clear h he hs hp
 go_enter Tryz.func314,Tryz.ntmps314
 go_wp2_with fail
 refine(HS.out).mono ?_
 rintro e w1 ⟨rfl,ev',h1,h2,h3⟩
 have H1:=zh h1
 have H2:=zh h2
 have H3:=zh h3
 clear HS h1 h2 h3
 go_wp2
 go_end0
 exact⟨rfl,ev',H1.out,H2.out,H3.out⟩
theorem ZnP {A:Nat→Prop}(base a:Nat)(s:Sn)(r:Rq)(ev mv pv:Value)(ns:List ByteArray)(w:World)(hs:s.Ok)(h:Blk w a 372 (asV s ev r mv pv acN))(he:OwnS Zbc 367 base (fun _=>False) w ev s.env)(hp:RdY PgR A w pv ns):
 Calls Tryz.prog 316 #[.pointer (some ⟨a,0,none⟩)] w (KdP base a r mv pv ev (begN s (fndP ns r.tx)) w):=by
 have HS:=zh ((ZcR (A:=A) a _ s.st (.bool false) (.int .i64 0) (.int .i64 0) pv ns r.tx w h (Zar hs.t (i:=1) rfl) (Zar hs.t (i:=13) rfl) (Zar hs.t (i:=14) rfl) (Zar hs.t (i:=15) rfl) (Zar hs.t (i:=16) rfl) hp).mono fun _ _ H=>StP.kd hs h he H)
 have k33:=Zak h (Zar hs.t (i:=3) rfl)
 generalize begN s (fndP ns r.tx)=q at*
 unfold KdP at HS⊢
 clear h he hs hp
 go_enter Tryz.func316,Tryz.ntmps316
 go_wp2_with fail
 refine(HS.out).mono ?_
 rintro e w1 ⟨rfl,ev',h1,h2,h3⟩
 have H1:=zh h1
 have H2:=zh h2
 have H3:=zh h3
 clear HS h1 h2 h3 k33
 go_wp2
 go_end0
 exact⟨rfl,ev',H1.out,H2.out,H3.out⟩
theorem ZjG {A:Nat→Prop}(base a:Nat)(s:Sn)(r:Rq)(ev mv pv:Value)(ns:List ByteArray)(w:World)(hs:s.Ok)(h:Blk w a 372 (asV s ev r mv pv acN))(he:OwnS Zbc 367 base (fun _=>False) w ev s.env)(hp:RdY PgR A w pv ns)(hx:r.tx.size≤100000000):
 Calls Tryz.prog 315 #[.pointer (some ⟨a,0,none⟩)] w (KdP base a r mv pv ev (begN s (fndP ns (Zgn r.tx))) w):=
 (ZkJ (A:=A) a _ s.st (.bool false) (.int .i64 0) (.int .i64 0) pv ns r.tx w h (Zar hs.t (i:=1) rfl) (Zar hs.t (i:=3) rfl) (Zar hs.t (i:=13) rfl) (Zar hs.t (i:=14) rfl) (Zar hs.t (i:=15) rfl) (Zar hs.t (i:=16) rfl) hp hx).mono fun _ _ H=>StP.kd hs h he H
theorem ZgI (base a:Nat)(s:Sn)(r:Rq)(ev mv pv:Value)(w:World)(h:Blk w a 372 (asV s ev r mv pv acN))(he:OwnS Zbc 367 base (fun _=>False) w ev s.env):
 Calls Tryz.prog 311 #[.pointer (some ⟨a,0,none⟩)] w (KdP base a r mv pv ev (s,acN) w):=by
 have HB:=zh h
 have HE:=zh he
 clear h he
 go_enter Tryz.func311,Tryz.ntmps311
 go_wp2
 go_end0
 exact KdP.of HE.out HB.out rfl HB.out (Mod.refl _ _)
theorem Zls {t:Md.Tm}(s:Sn)(r:Rq)(h:(Md.decL r.mo Md.Zca).1=t):s.ptyd r={({({s with pty:=true}:Sn) with term:=r.tx}:Sn).size r with t:=t}:=by subst h;rfl
theorem ZnQ {A:Nat→Prop}(base a:Nat)(s:Sn)(r:Rq)(ev mv pv:Value)(w:World)(hs:s.Ok)(h:Blk w a 372 (asV s ev r mv pv acN))(he:OwnS Zbc 367 base (fun _=>False) w ev s.env)(hm:RdS Ub8 A w mv r.mo)(hb:Bs r.mo):
 Calls Tryz.prog 312 #[.pointer (some ⟨a,0,none⟩)] w (KdP base a r mv pv ev (Zcy s r) w):=by
 have hiT:(Tryz.prog.info? 39).map (·.size)=some (Md.decL r.mo Md.Zca).1.arr.size:=by
  rw[Md.Tm.size (Md.ZbO r.mo.length r.mo Md.Zca (Nat.le_refl _) Md.Zbb hb)]
  kernel_rfl
 have hiZ:=zi Tryz.prog 35 4
 have HDF:=zh (fun w'=>Md.Zhj w')
 have HDC:=zh (fun w' (E:Ext w w')=>Md.ZcP Md.Zca mv r.mo w' Md.Zbb ((RdS.ri hm).ext E) hb)
 have HRI:=zh (fun w'=>Md.ZaA (Md.decL r.mo Md.Zca).1 w' (Md.ZbO r.mo.length r.mo Md.Zca (Nat.le_refl _) Md.Zbb hb))
 have HTO:=zh (Md.ZbO r.mo.length r.mo Md.Zca (Nat.le_refl _) Md.Zbb hb)
 have HQ:=zh (rfl:Zcy s r=Zcy s r)
 have HPD:=zh (fun t (h:(Md.decL r.mo Md.Zca).1=t)=>Zls s r h)
 unfold Zcy at HQ
 obtain⟨⟨T,ec⟩,hq⟩:∃q,Md.decL r.mo Md.Zca=q:=⟨_,rfl⟩
 have HDQ:=zh hq
 rw[hq] at HDC HRI HTO hiT
 obtain⟨ri,hri⟩:∃b,Md.rightL T=b:=⟨_,rfl⟩
 have HRQ:=zh hri
 dsimp only at HDC HRI HTO hiT
 rw[hri] at HRI
 have HB:=zh h
 have HE:=zh he
 have HS:=zh hs
 have k0:=Zak h (ZeK (i:=0) rfl)
 have k31:=Zak h (Zar hs.t (i:=1) rfl)
 have k40:=Zak h (Zar hs.t (i:=10) rfl)
 obtain⟨p,hp⟩:=zm (s.pty)
 obtain⟨st,hst⟩:=zm (s.st)
 have HP:=zh hp
 have HST:=zh hst
 rw[hp] at k0
 rw[hst] at k31
 clear h he hs hp hst hm hb hq hri HQ
 cases p with
 |true=>
  go_enter Tryz.func312,Tryz.ntmps312
  go_wp2
  refine bodyPost_ret (v:=.tuple #[]) (results_none rfl _ _ _) rfl ?_
  have hz:Zcy s r=(s,acN):=by unfold Zcy;rw[if_pos HP.out]
  rw[hz]
  exact KdP.of HE.out HB.out rfl HB.out (Mod.refl _ _)
 |false=>
  cases st with
  |true=>
   go_enter Tryz.func312,Tryz.ntmps312
   go_wp2_with(refine wpList_openG rfl rfl ?_)
   refine bodyPost_ret (v:=.tuple #[]) (results_none rfl _ _ _) rfl ?_
   have hz:Zcy s r=(s,acN):=by unfold Zcy;rw[if_neg (by rw[HP.out];decide),if_pos HST.out]
   rw[hz]
   exact KdP.of HE.out HB.out rfl HB.out (Mod.refl _ _)
  |false=>
   go_enter Tryz.func312,Tryz.ntmps312
   go_upto_region 1 with(first|(refine wpList_openG rfl rfl ?_)|fail)
   go_cut [2,3] (fun s2 s3 wx=>∃n2:Nat,s2= .pointer (some ⟨n2,0,none⟩)∧s3= .int .i64 ec∧w.heap.size≤n2∧Hid (Blk wx n2 39 T.arr)∧Ext w wx)
   case first=>
    refine zg (fun w'=>Ext w w') (Ext.drew (Ext.refl _)) fun hHeld=>?_
    have EH:Ext w w.drew:=Ext.drew (Ext.refl _)
    generalize w.drew=wc at*
    refine zr 0 ?_
    refine zr 1 ?_
    refine zr 2 ?_
    refine zr 3 ?_
    refine zv 4 k40 ?_
    clear hHeld
    iterate 3
     all_goals (first|refine wpAnyH_ready (rs:=[5]) (by decide+kernel) (by simp) ?_|refine wpAnyH_ready (rs:=[5,10]) (by decide+kernel) (by simp) ?_|refine wpAnyH_ready (rs:=[6]) (by decide+kernel) (by simp) ?_|refine wpAnyH_ready (rs:=[6,10]) (by decide+kernel) (by simp) ?_|refine wpAnyH_ready (rs:=[10]) (by decide+kernel) (by simp) ?_)
     all_goals (repeat' (first|exact AllReadyH.nil|refine AllReadyH.cons rfl (fun K hK=>?_) ?_))
     all_goals first
      |(
       go_simp
       go_at_call 356
       refine(HDF.out wc).mono ?_
       rintro e wc ⟨rfl,E3⟩
       (try dsimp only)
       refine zo hK (EH.trans E3) fun hHeld=>?_
       clear hK K hHeld
       (try have B2:=zh (B2.out.ext E3))
       have EH:=EH.trans E3
       (try have LB2:=B2.out.lt)
       clear E3
       )
      |(
       go_simp
       go_at_call 355
       refine(HDC.out wc EH).mono ?_
       rintro e wc ⟨rfl,E3⟩
       (try dsimp only)
       refine zo hK (EH.trans E3) fun hHeld=>?_
       clear hK K hHeld
       (try have B2:=zh (B2.out.ext E3))
       have EH:=EH.trans E3
       (try have LB2:=B2.out.lt)
       clear E3
       have hHeld:Ext w wc:=EH
       refine zr 7 ?_
       refine zr 8 ?_
       refine zr 9 ?_
       clear hHeld
       )
      |(
       go_simp
       refine zo hK (EH.alloc (.cells #[.int .u8 0,.int .u8 0,.int .u8 0,.int .u8 0,.int .u8 0,.int .u8 0,.int .u8 0,.int .u8 0,.int .u8 0,.int .u8 0,.int .u8 0,.int .u8 0,.int .u8 0,.int .u8 0,.int .u8 0,.int .u8 0,.int .u8 0,.int .u8 0,.int .u8 0,.int .u64 0,.int .u32 0,.int .u32 0,.int .i64 0,.int .i64 0] 39)) fun hHeld=>?_
       clear hK K hHeld
       have EX:=(Ext.refl wc).alloc (.cells #[.int .u8 0,.int .u8 0,.int .u8 0,.int .u8 0,.int .u8 0,.int .u8 0,.int .u8 0,.int .u8 0,.int .u8 0,.int .u8 0,.int .u8 0,.int .u8 0,.int .u8 0,.int .u8 0,.int .u8 0,.int .u8 0,.int .u8 0,.int .u8 0,.int .u8 0,.int .u64 0,.int .u32 0,.int .u32 0,.int .i64 0,.int .i64 0] 39)
       have B2:=zh (Blk.new wc 39 #[.int .u8 0,.int .u8 0,.int .u8 0,.int .u8 0,.int .u8 0,.int .u8 0,.int .u8 0,.int .u8 0,.int .u8 0,.int .u8 0,.int .u8 0,.int .u8 0,.int .u8 0,.int .u8 0,.int .u8 0,.int .u8 0,.int .u8 0,.int .u8 0,.int .u8 0,.int .u64 0,.int .u32 0,.int .u32 0,.int .i64 0,.int .i64 0])
       obtain⟨n2,hn2⟩:=zm (wc.heap.size)
       have hn2W:w.heap.size≤n2:=by rw[←hn2];exact EH.size
       have EH:=EH.trans EX
       clear EX
       rw[hn2] at B2⊢
       clear hn2
       generalize wc.alloc _=wc at*
       have LB2:=B2.out.lt
       )
    all_goals
     have hHeld:Ext w wc:=EH
     (refine zw 11 fun K hK=>?_;rw[if_pos (by rfl)];refine Zag 39 _ _ rfl (n2) _ rfl rfl 39 _ B2.out hiT (by rw[Md.Tm.size HTO.out];rfl) (Md.Tm.one _) ?_;intro u4 B8 M8;refine zo hK (Mod.toExt hHeld M8 (fun k hk he=>by omega)) fun hHeld=>?_;clear hK K)
     refine zr 12 ?_
     refine zd ?_
     go_wp2_with fail
     go_meet
     exact⟨n2,rfl,rfl,hn2W,zh B8,hHeld⟩
   case rest=>
    obtain⟨n2,rfl,rfl,h2,B2,E02⟩:=hcut
    obtain⟨w3,hw3⟩:=zn (wc)
    subst hw3
    have HB3:=zh (HB.out.ext E02)
    have hal:=HB.out.lt
    clear k0 k31 k40 HDF HDC
    by_cases h0:ec=0
    ·subst h0
     go_wp2_with(first|(refine wpList_openG rfl rfl ?_;(refine wpList_load_row rfl 39 _ rfl _ rfl 39 _ _ _ B2.out Tryz.underlying39 rfl hiT ?_))|(refine wpList_openG rfl rfl ?_)|fail)
     refine(HRI.out _).mono ?_
     rintro e w4 ⟨rfl,E4⟩
     have B4:=zh (B2.out.ext E4)
     have HB4:=zh (HB3.out.ext E4)
     have E04:=zh (E02.trans E4)
     clear HRI B2 HB3 E02 E4
     cases ri with
     |false=>
      go_wp2
      refine bodyPost_ret (v:=.tuple #[]) (results_none rfl _ _ _) rfl ?_
      have hz:Zcy s r=(s,acN):=by unfold Zcy;rw[if_neg (by rw[HP.out];decide),if_neg (by rw[HST.out];decide),HDQ.out,if_neg (by simp),if_neg (by rw[HRQ.out];decide)]
      rw[hz]
      exact KdP.of HE.out HB.out rfl HB4.out (Mod.of_ext E04.out)
     |true=>
      have hn2a:¬n2=a:=by omega
      have hn2l:=B4.out.lt
      go_upto_region 3 with fail
      refine zg (fun w'=>(∃s':Sn,s'.t.Ok∧Blk w' a 372 (asV s' ev r mv pv acN))∧Kb.Mod (fun k=>k=a) w4 w') ⟨⟨s,HS.out.t,HB4.out.ext (Ext.drew (Ext.refl _))⟩,Mod.of_ext (Ext.drew (Ext.refl _))⟩ fun hHeld=>?_
      obtain⟨D,hD⟩:=zn (w4.drew)
      have ED:Ext w4 D:=by rw[hD];exact(Ext.refl _).drew
      rw[←hD] at hHeld⊢
      clear hD
      have hZ:∀w',((∃s':Sn,s'.t.Ok∧Blk w' a 372 (asV s' ev r mv pv acN))∧Kb.Mod (fun k=>k=a) w4 w')→w'.cell? ⟨a,33,none⟩=some (.string r.tx)∧w'.rangeAt a 36 [.int .u32 r.c1,.int .u32 r.c2,.int .u32 r.c3,.int .u32 r.c4]:=fun w' hw'=>by
       obtain⟨⟨s',hs',hB'⟩,-⟩:=hw'
       refine⟨Zak hB' (Zar hs' (i:=3) rfl),fun i u hu=>?_⟩
       rw[hB'.cell]
       rcases i with _|_|_|_|i
       ·exact Zar hs' (i:=6) hu
       ·exact Zar hs' (i:=7) hu
       ·exact Zar hs' (i:=8) hu
       ·exact Zar hs' (i:=9) hu
       ·simp at hu
      refine zr 0 ?_
      refine zr 1 ?_
      refine zr 2 ?_
      refine zr 3 ?_
      refine zr 4 ?_
      refine zr 5 ?_
      refine zr 6 ?_
      refine zr 7 ?_
      (refine zu 8 (fun w' h=>(hZ w' h).1) ?_)
      refine zr 9 ?_
      refine zr 10 ?_
      refine zr 11 ?_
      refine zr 12 ?_
      (refine zU 13 rfl (yieldsIf_load_mid (by rfl) 35 _ rfl _ _ rfl [.int .u32 r.c1,.int .u32 r.c2,.int .u32 r.c3,.int .u32 r.c4] _ (fun w' hSw=>(hZ w' hSw).2) Tryz.underlying35 rfl hiZ) ?_)
      (refine zU 14 rfl (Zac (by rfl) 39 _ rfl _ rfl 39 T.arr _ _ (fun w' hSw=>(B4.out.mod hSw.2 hn2a)) Tryz.underlying39 rfl hiT) ?_)
      refine zr 15 ?_
      refine zr 16 ?_
      refine zr 17 ?_
      have B5:=zh (HB4.out.ext ED)
      have M5:=zh (Mod.of_ext (S:=fun k=>k=a) ED)
      have q9:=Zak B5.out (ZeK (i:=0) rfl)
      have f9:=B5.out.frozen 0
      have B6:=zh (show Blk (D.setCell ⟨a,0,none⟩ (.bool true)) a 372 (asV {s with pty:=true} ev r mv pv acN) by have h9:=B5.out.set_ 0 (.bool true);rw[as0] at h9;exact h9)
      have M6:=zh (M5.out.set1 (o:=0) (.bool true))
      (refine za 18 ⟨⟨{s with pty:=true},HS.out.t,B6.out⟩,M6.out⟩ fun hHeld=>?_)
      clear q9 f9 B5 M5 hHeld
      generalize D.setCell ⟨a,0,none⟩ (.bool true)=D1 at*
      have hHeld:(∃s':Sn,s'.t.Ok∧Blk D1 a 372 (asV s' ev r mv pv acN))∧Kb.Mod (fun k=>k=a) w4 D1:=⟨⟨{s with pty:=true},HS.out.t,B6.out⟩,M6.out⟩
      refine zr 19 ?_
      refine zr 20 ?_
      refine zr 21 ?_
      have q9:=Zak B6.out (ZeK (i:=1) rfl)
      have f9:=B6.out.frozen 1
      have B7:=zh (show Blk (D1.setCell ⟨a,1,none⟩ (.string r.tx)) a 372 (asV {({s with pty:=true}:Sn) with term:=r.tx} ev r mv pv acN) by have h9:=B6.out.set_ 1 (.string r.tx);rw[as1] at h9;exact h9)
      have M7:=zh (M6.out.set1 (o:=1) (.string r.tx))
      (refine za 22 ⟨⟨{({s with pty:=true}:Sn) with term:=r.tx},HS.out.t,B7.out⟩,M7.out⟩ fun hHeld=>?_)
      clear q9 f9 B6 M6 hHeld
      generalize D1.setCell ⟨a,1,none⟩ (.string r.tx)=D2 at*
      have hHeld:(∃s':Sn,s'.t.Ok∧Blk D2 a 372 (asV s' ev r mv pv acN))∧Kb.Mod (fun k=>k=a) w4 D2:=⟨⟨{({s with pty:=true}:Sn) with term:=r.tx},HS.out.t,B7.out⟩,M7.out⟩
      refine zr 23 ?_
      refine zr 24 ?_
      refine zr 25 ?_
      have hth:D2.there a 2 4:=fun t ht=>⟨by
       have h6:(Zcc {({s with pty:=true}:Sn) with term:=r.tx})[2+t]?≠none:=by simp[Zcc];omega
       obtain⟨u,hu⟩:=Option.ne_none_iff_exists'.1 h6
       rw[Zak B7.out (ZeK hu)];rfl,B7.out.frozen _⟩
      have B8:=zh (show Blk (D2.setCells a 2 [.int .u32 r.c1,.int .u32 r.c2,.int .u32 r.c3,.int .u32 r.c4]) a 372 (asV (({({s with pty:=true}:Sn) with term:=r.tx}:Sn).size r) ev r mv pv acN) from Blk.setCells [.int .u32 r.c1,.int .u32 r.c2,.int .u32 r.c3,.int .u32 r.c4] 2 D2 _ B7.out (by rw[List.size_toArray,ZfK (show({({s with pty:=true}:Sn) with term:=r.tx}:Sn).t.Ok from HS.out.t)];simp))
      have M8:=zh (Mod.setCells [.int .u32 r.c1,.int .u32 r.c2,.int .u32 r.c3,.int .u32 r.c4] 2 w4 D2 M7.out)
      (refine zw 26 fun K hK=>?_;rw[if_pos (by rfl)];refine wp_store_mid 35 _ _ rfl (a) (2) (#[.int .u32 r.c1,.int .u32 r.c2,.int .u32 r.c3,.int .u32 r.c4]) rfl rfl hth hiZ (by simp[Value.oneCell']) ?_;refine zo hK ⟨⟨({({s with pty:=true}:Sn) with term:=r.tx}:Sn).size r,HS.out.t,B8.out⟩,M8.out⟩ fun hHeld=>?_;clear hK K)
      clear hth B7 M7 hHeld
      generalize World.setCells D2 a 2 [.int .u32 r.c1,.int .u32 r.c2,.int .u32 r.c3,.int .u32 r.c4]=D3 at*
      have hHeld:(∃s':Sn,s'.t.Ok∧Blk D3 a 372 (asV s' ev r mv pv acN))∧Kb.Mod (fun k=>k=a) w4 D3:=⟨⟨({({s with pty:=true}:Sn) with term:=r.tx}:Sn).size r,HS.out.t,B8.out⟩,M8.out⟩
      refine zr 27 ?_
      refine zr 28 ?_
      refine zr 29 ?_
      have hS8:(({({s with pty:=true}:Sn) with term:=r.tx}:Sn).size r).t.Ok:=HS.out.t
      have ht24:T.cells.length=24:=Md.Tm.len HTO.out
      have hth:D3.there a 6 T.arr.size:=fun t ht=>⟨by
       rw[Md.Tm.size HTO.out] at ht
       have h6:(({({s with pty:=true}:Sn) with term:=r.tx}:Sn).size r).t.cells[t]?≠none:=by rw[List.getElem?_eq_getElem (by rw[Md.Tm.len hS8];exact ht)];simp
       obtain⟨u,hu⟩:=Option.ne_none_iff_exists'.1 h6
       rw[Zak B8.out (ZsK hu)];rfl,B8.out.frozen _⟩
      have B9:=zh (show Blk (D3.setCells a 6 T.arr.toList) a 372 (asV (s.ptyd r) ev r mv pv acN) by
       have h9:=Blk.setCells T.cells 6 D3 _ B8.out (by rw[List.size_toArray,ZfK hS8,ht24];decide)
       rw[as6 hS8 HTO.out] at h9
       rw[HPD.out T (by rw[HDQ.out])]
       exact h9)
      have M9:=zh (show Kb.Mod (fun k=>k=a) w4 (D3.setCells a 6 T.arr.toList) from Mod.setCells T.arr.toList 6 w4 D3 M8.out)
      have hPt:(s.ptyd r).t.Ok:=by rw[HPD.out T (by rw[HDQ.out])];exact HTO.out
      refine zw 30 fun K hK=>?_
      rw[if_pos (by rfl)]
      refine wp_store_mid 39 _ _ rfl a 6 T.arr rfl rfl hth hiT (Md.Tm.one T) ?_
      refine zo hK ⟨⟨_,hPt,B9.out⟩,M9.out⟩ fun hHeld=>?_
      clear hK K
      refine zd ?_
      clear hth hHeld B8 M8
      obtain⟨w9,hw9⟩:=zn (D3.setCells a 6 T.arr.toList)
      rw[←hw9] at B9 M9⊢
      have HO:=zh (Zek a _ (.bool false) w9 B9.out (Zar hPt (i:=14) rfl))
      clear hw9
      go_wp2_with fail
      refine(HO.out).mono ?_
      rintro e w10 ⟨rfl,B10,M10⟩
      rw[Zqg hPt] at B10
      have B10:=zh B10
      have M10:=zh M10
      clear HO
      go_wp2
      go_end0
      have hz:Zcy s r=(s.ptyd r,acY):=by unfold Zcy;rw[if_neg (by rw[HP.out];decide),if_neg (by rw[HST.out];decide),HDQ.out,if_neg (by simp),if_pos HRQ.out]
      rw[hz]
      exact KdP.of HE.out HB.out rfl B10.out (((Mod.of_ext E04.out).trans M9.out).trans M10.out)
    ·have hec:¬ec=0:=h0
     go_wp2_with(refine wpList_openG rfl rfl ?_)
     refine bodyPost_ret (v:=.tuple #[]) (results_none rfl _ _ _) rfl ?_
     have hz:Zcy s r=(s,acN):=by unfold Zcy;rw[if_neg (by rw[HP.out];decide),if_neg (by rw[HST.out];decide),HDQ.out,if_pos h0]
     rw[hz]
     exact KdP.of HE.out HB.out rfl HB3.out (Mod.of_ext E02)
theorem KrO.open {kb base:Nat}{w:World}{pv:Value}{p:Tb.Pr}{tt:Option Nat}{z:Sz}(h:KrO kb base w pv p tt z):∃At ct tk ss,Blk w kb 218 (ZeW pv (.slice At 1 ct) (.int .i64 2) tk ss (.int .i64 2))∧OwnS Tb.Rp 234 base (fun _=>False) w (.slice At 1 ct) [p]∧
 ∀w' A' c' q,Mod (fun k=>k=kb) w w'→Blk w' kb 218 (ZeW pv (.slice A' 1 c') (.int .i64 2) tk ss (.int .i64 2))→OwnS Tb.Rp 234 base (fun _=>False) w' (.slice A' 1 c') [q]→KrO kb base w' pv q tt z:=by
 obtain⟨hkb,At,ct,Tt,ctt,As,cs,tb,sb,i,o,r,HB,HP,HT,HTA,HS,HSB,HTT⟩:=h
 refine⟨At,ct,_,_,HB,HP,fun w' A' c' q M HB2 HP2=>⟨hkb,A',c',Tt,ctt,As,cs,tb,sb,i,o,r,HB2,HP2,?_,?_,?_,?_,?_⟩⟩
 ·exact HT.mod M (fun k hk he=>Zai HT HB (by decide) (by rw[hk,he])) (fun k _ hk=>hk.elim)
 ·exact HTA.mod M (fun he=>Zap HTA HB (by decide) he)
 ·exact HS.mod M (fun k hk he=>Zai HS HB (by decide) (by rw[hk,he])) (fun k _ hk=>hk.elim)
 ·exact HSB.mod M (fun he=>Zap HSB HB (by decide) he)
 ·exact HTT.mod M (fun k ⟨cs,hk⟩ he=>Zap hk HB (by decide) he)
def KrS (kb base:Nat)(w:World)(pv:Value)(tt:Option Nat)(z:Sz):Prop:=∃p,Sg.U64 p.pending∧KrO kb base w pv p tt z
theorem KrS.ext {kb base:Nat}{w w':World}{pv:Value}{tt:Option Nat}{z:Sz}(h:KrS kb base w pv tt z)(E:Ext w w'):KrS kb base w' pv tt z:=by
 obtain⟨p,h1,h2⟩:=h
 exact⟨p,h1,h2.ext E⟩
theorem KrS.modT {kb base base2:Nat}{w w':World}{pv:Value}{tt:Option Nat}{z:Sz}{tys:List TypeId}(h:KrS kb base w pv tt z)(M:ZaR tys base2 w w')(hd:∀t∈krTys,t∉tys):KrS kb base w' pv tt z:=by
 obtain⟨p,h1,h2⟩:=h
 exact⟨p,h1,h2.modT M hd⟩
theorem newP_bd (nx prog:Int):Sg.U64 (newP nx prog).pending:=⟨Int.le_refl 0,show(0:Int)<18446744073709551616 by decide⟩
theorem Zoz {α:Type}{l:List α}(h:l.length=1):∃q,l=[q]:=by
 match l,h with
 | [q],_=>exact⟨q,rfl⟩
theorem KrS.sent {kb base:Nat}{w w2 w3:World}{pv tk ss:Value}{p:Tb.Pr}{tt:Option Nat}{z:Sz}{At A':Option Addr}{ct c':Nat}{g sig:Int}(hu:Sg.U64 p.pending)(hb:base≤w.heap.size)(HP:OwnS Tb.Rp 234 base (fun _=>False) w (.slice At 1 ct) [p])(HB:Blk w kb 218 (ZeW pv (.slice At 1 ct) (.int .i64 2) tk ss (.int .i64 2)))
 (HK:∀w' A' c' q,Mod (fun k=>k=kb) w w'→Blk w' kb 218 (ZeW pv (.slice A' 1 c') (.int .i64 2) tk ss (.int .i64 2))→OwnS Tb.Rp 234 base (fun _=>False) w' (.slice A' 1 c') [q]→KrO kb base w' pv q tt z)
 (E:Ext w w2) (hz:w.heap.size≤w3.heap.size) (HT:Tb.ZfG 234 At ct [p] w3.heap.size w2 A' c' (Tb.ZgH [p] 2 g sig)):KrS kb base (w2.setCells kb 1 [.slice A' 1 c',.int .i64 2]) pv tt z∧Mod (fun k=>k=kb) w (w2.setCells kb 1 [.slice A' 1 c',.int .i64 2]):=by
 obtain⟨q,hq⟩:=Zoz (l:=Tb.ZgH [p] 2 g sig) Tb.Zlr
 have hbd:Sg.U64 q.pending:=Tb.Zev (l:=[p]) (fun x hx=>by
  obtain rfl:x=p:=by simpa using hx
  exact hu) q (show q∈Tb.ZgH [p] 2 g sig by rw[hq];exact List.mem_singleton.2 rfl)
 rw[hq] at HT
 have M3:Mod (fun k=>k=kb) w2 (w2.setCells kb 1 [.slice A' 1 c',.int .i64 2]):=Mod.setCells [.slice A' 1 c',.int .i64 2] 1 w2 w2 (Mod.refl (fun k=>k=kb) w2)
 have M:Mod (fun k=>k=kb) w (w2.setCells kb 1 [.slice A' 1 c',.int .i64 2]):=(Mod.of_ext E).trans M3
 have HO:OwnS Tb.Rp 234 base (fun _=>False) w2 (.slice A' 1 c') [q]:=by
  rcases HT with⟨rfl,rfl,h9⟩|h9
  ·rw[h9];exact HP.ext E
  ·exact h9.lower (by omega)
 have HB2:=HB.ext E
 exact⟨⟨q,hbd,HK _ A' c' q M (Blk.setCells [.slice A' 1 c',.int .i64 2] 1 w2 _ HB2 (by simp)) (HO.mod M3 (fun k hk he=>Zai HO HB2 (by decide) (by rw[hk,he])) (fun k _ hk=>hk.elim))⟩,M⟩
theorem Zlt {A:Nat→Prop}(kb base:Nat)(pv:Value)(tt:Option Nat)(z:Sz)(Ae:Option Addr)(ce:Nat)(evs:List (Int×Int))(w:World)(h:KrS kb base w pv tt z)(hb:base≤w.heap.size)(he:RdY Zl4 A w (.slice Ae evs.length ce) evs)(hl:evs.length≤1):
 Calls Tryz.prog 271 #[.pointer (some ⟨kb,0,none⟩),.slice Ae evs.length ce] w fun e w'=>e= .returned (.tuple #[])∧KrS kb base w' pv tt z∧Mod (fun k=>k=kb) w w':=by
 have HK:=zh h
 have H:=zh he
 have hiT:=zi Tryz.prog 79 2
 have hiE:=zi Tryz.prog 392 2
 obtain⟨n,hn⟩:=zm (evs.length)
 rw[hn] at H hl⊢
 have HN:=zh hn
 clear h he hn
 go_enter Tryz.func271,Tryz.ntmps271
 go_wp2
 go_loopw [8] (fun i wr=>∃m:Nat,m≤n∧i= .int .i64 m∧(m=0→wr=w)∧Hid (KrS kb base wr pv tt z)∧Hid (Mod (fun k=>k=kb) w wr)) (fun i _=>n - (intOf i).toNat)
 case atStart=>exact⟨0,Nat.zero_le _,rfl,fun _=>rfl,HK,zh (Mod.refl _ _)⟩
 case round=>
  obtain⟨m,hm,rfl,hw,HKr,HM⟩:=hrel
  by_cases hlt:m<n
  ·obtain rfl:m=0:=by omega
   obtain rfl:=hw rfl
   obtain⟨b,off,c2,d,cs,hv,hd,hrel2,hlen,hcell⟩:=H.out.cells (j:=0) (by rw[HN.out];exact hlt)
   simp only[Value.slice.injEq] at hv
   obtain⟨rfl,-,rfl⟩:=hv
   obtain⟨g,sig⟩:=d
   obtain rfl:cs=[.int .i64 g,.int .i64 sig]:=hrel2.out
   have HCELL:=zh (show wr.rangeAt b off [.int .i64 g,.int .i64 sig] from fun i u hu=>by
    have h9:=hcell i u hu
    rwa [show off+0*Zl4.size+i=off+i by omega] at h9)
   clear hcell hlen hrel2 hd hw
   obtain⟨p,hu,hko⟩:=HKr.out
   obtain⟨At,ct,tk,ss,HB,HP,HKO⟩:=hko.open
   have HU:=zh hu
   have HB:=zh HB
   have HP:=zh HP
   have HKO:=zh HKO
   clear hu hko HKr
   obtain⟨W9,hW9⟩:=zn (wr.alloc (.cells #[.int .i64 g,.int .i64 sig] 392))
   have E9:Ext wr W9:=by rw[hW9];exact(Ext.refl _).alloc _
   have P9:=zh (show Blk W9 wr.heap.size 392 #[.int .i64 g,.int .i64 sig] by rw[hW9];exact Blk.new wr _ _)
   have HB9:=zh (HB.out.ext E9)
   have HP9:=zh (HP.out.ext E9)
   have HW9:=zh hW9
   have hz9:=E9.size
   clear hW9
   go_upto_region 3 with(refine wpList_load_mid rfl 392 _ rfl b off rfl [.int .i64 g,.int .i64 sig] _ HCELL.out Tryz.underlying392 rfl hiE ?_)
   rw[←HW9.out]
   have k1:=HB9.out.cell 1
   have k2:=HB9.out.cell 2
   have p0:=P9.out.cell 0
   have p1:=P9.out.cell 1
   simp only[zG] at k1 k2 p0 p1
   have hLP:∀w',Ext W9 w'→w'.rangeAt kb 1 [.slice At 1 ct,.int .i64 2]:=fun w' E i u hu=>by
    rcases i with _|_|i
    ·simp at hu;rw[←hu];exact Zaa E k1
    ·simp at hu;rw[←hu];exact Zaa E k2
    ·simp at hu
   have HSG:=zh (fun w' (E:Ext W9 w')=>Tb.Zbx (A:=fun _=>True) At ct [p] 2 g sig w' (HP9.out.ext E).rdT.y (fun x hx=>by
    obtain rfl:x=p:=by simpa using hx
    exact HU.out))
   clear HW9
   have hpk:¬wr.heap.size=kb:=fun he=>Zap P9.out HB9.out (by decide) he
   have hplt:=P9.out.lt
   refine zg (fun w'=>Mod (fun k=>k=kb) W9 w') (Mod.of_ext (Ext.drew (Ext.refl _))) fun hHeld=>?_
   obtain⟨D,hD⟩:=zn (W9.drew)
   have ED:Ext W9 D:=by rw[hD];exact(Ext.refl _).drew
   rw[←hD] at hHeld⊢
   clear hD
   refine zr 0 ?_
   refine zr 1 ?_
   refine zr 2 ?_
   refine zr 3 ?_
   refine zr 5 ?_
   (refine zu 6 (fun _ h=>(h.cell _ 0 hplt hpk).trans p0) ?_)
   refine zr 7 ?_
   (refine zu 8 (fun _ h=>(h.cell _ 1 hplt hpk).trans p1) ?_)
   (refine zw 4 fun K hK=>?_;rw[if_pos (by rfl)];refine wp_load_mid 79 _ rfl kb (1) rfl [.slice At 1 ct,.int .i64 2] _ (hLP _ ED) Tryz.underlying79 rfl hiT ?_;refine zo hK hHeld fun hHeld=>?_;clear hK K)
   (refine zc 9 (HSG.out D ED) ?_;rintro e w2 ⟨A2,c2,k2',rfl,HT2,E2⟩ K hK;refine zo hK (Mod.of_ext (ED.trans E2)) fun hHeld=>?_;clear hK K)
   have E92:=zh (ED.trans E2)
   refine zr 10 ?_
   refine zr 11 ?_
   refine zr 12 ?_
   refine zr 13 ?_
   refine zr 14 ?_
   have HB2:=HB9.out.ext E92.out
   have hth:w2.there kb 1 2:=fun t ht=>⟨by
    rw[HB2.cell]
    rcases t with _|_|t
    ·rfl
    ·rfl
    ·omega,HB2.frozen _⟩
   (refine zw 15 fun K hK=>?_;rw[if_pos (by rfl)];refine wp_store_mid 79 _ _ rfl (kb) (1) (#[.slice A2 1 c2,.int .i64 2]) rfl rfl hth hiT (by simp[Value.oneCell']) ?_;refine zo hK (Mod.setCells [.slice A2 1 c2,.int .i64 2] 1 W9 w2 hHeld) fun hHeld=>?_;clear hK K)
   refine zd ?_
   have HS:=KrS.sent HU.out (Nat.le_trans hb hz9) HP9.out HB9.out (fun w' A' c' q M hB hP=>HKO.out w' A' c' q ((Mod.of_ext E9).trans M) hB hP) E92.out ED.size HT2
   have HKN:=zh HS.1
   have HMN:=zh (show Mod (fun k=>k=kb) wr _ from(Mod.of_ext E9).trans HS.2)
   clear HS hth HB2 E2 ED HT2 hLP
   generalize w2.setCells kb 1 [.slice A2 1 c2,.int .i64 2]=w4 at*
   go_wp2
   go_roundw
   case rel=>exact⟨1,by omega,by go_num,fun h=>by omega,HKN,HMN⟩
   case measure=>simp[intOf];omega
  ·obtain rfl:m=n:=by omega
   go_wp2
   go_end0
   exact⟨rfl,HKr.out,HM.out⟩
structure Sz.Ok (z:Sz):Prop where
 h1:ZbG z.z1
 h2:ZbG z.z2
 h3:ZbG z.z3
 h4:ZbG z.z4
theorem ZhF (kb base:Nat)(pv:Value)(tt:Option Nat)(z x:Sz)(w:World)(h:KrS kb base w pv tt z)(hb:base≤w.heap.size)(hz:z.Ok)(hx:x.Ok):
 Calls Tryz.prog 226 #[.pointer (some ⟨kb,0,none⟩),.int .i64 1,.agg (szA x.z1 x.z2 x.z3 x.z4)] w fun e w'=>e= .returned (.tuple #[])∧KrS kb base w' pv tt (if tt.isSome then x else z)∧Mod (fun k=>k=kb∨tt=some k) w w':=by
 have hiZ:=zi Tryz.prog 35 4
 obtain⟨W1,hW1⟩:=zn (w.alloc (.cells (szA x.z1 x.z2 x.z3 x.z4) 35))
 have E1:Ext w W1:=by rw[hW1];exact(Ext.refl _).alloc _
 have B1:=zh (show Blk W1 w.heap.size 35 (szA x.z1 x.z2 x.z3 x.z4) by rw[hW1];exact Blk.new w _ _)
 have HW1:=zh hW1
 have hz1:=E1.size
 obtain⟨p0,hu,hko⟩:=h.ext E1
 obtain⟨hkb,At,ct,Tt,ctt,As,cs,tb,sb,i,o,r,HB,HP,HT,HTA,HS,HSB,HTT⟩:=hko
 have HSE:=zh (Zdv (A:=fun _=>True) kb sb pv _ _ _ _ As cs tt i o r 1 W1 HB HS.rdT.y HSB)
 have HB:=zh HB
 have HP:=zh HP
 have HT:=zh HT
 have HTA:=zh HTA
 have HS:=zh HS
 have HSB:=zh HSB
 have HTT:=zh HTT
 have HU:=zh hu
 have HKB:=zh hkb
 clear h hu hkb hW1
 go_enter Tryz.func226,Tryz.ntmps226
 go_upto_region 1 with fail
 rw[←HW1.out]
 clear HW1
 go_wp2_with fail
 refine(HSE.out).mono ?_
 rintro e w2 ⟨rfl,E2⟩
 have E12:=zh E2
 have q2:=(HSB.out.ext E2).cell 2
 simp only[zG] at q2
 have B2:=zh (B1.out.ext E2)
 clear HSE E2 B1
 cases tt with
 |none=>
  have q2:w2.cell? ⟨sb,2,none⟩=some (.pointer none):=q2
  go_wp2_with(first|(refine wpList_openG rfl rfl ?_)|fail)
  go_end0
  have E02:=E1.trans E12.out
  exact⟨rfl,⟨p0,HU.out,KrO.ext ⟨HKB.out,At,ct,Tt,ctt,As,cs,tb,sb,i,o,r,HB.out,HP.out,HT.out,HTA.out,HS.out,HSB.out,HTT.out⟩ E12.out⟩,Mod.of_ext E02⟩
 |some p=>
  have q2:w2.cell? ⟨sb,2,none⟩=some (.pointer (some ⟨p,0,none⟩)):=q2
  obtain⟨hbp,d,sl,hpt⟩:=HTT.out p rfl
  have HPT:=zh (hpt.ext E12.out)
  have HBP:=zh hbp
  have HSZ:=zh (fun w' (E:Ext w2 w')=>Zhk p d ⟨z.z1,z.z2,z.z3,z.z4,1,1,sl⟩ x.z1 x.z2 x.z3 x.z4 w' (HPT.out.ext E) (show ¬(1:Int)=0 by decide) hx.h1 hx.h2 hx.h3 hx.h4 hz.h1 hz.h2 hz.h3 hz.h4)
  unfold SzP at HSZ
  dsimp only at HSZ
  clear hpt hbp hz hx
  go_upto_region 3 with(first|(refine wpList_openG rfl rfl ?_)|fail)
  have hpl:=HPT.out.lt
  have hsp:¬(sb=kb∨sb=p):=fun he=>he.elim (fun he=>Zap HSB.out HB.out (by decide) he) (fun he=>Zap (HSB.out.ext E12.out) HPT.out (by decide) he)
  have hbs:¬(w.heap.size=kb∨w.heap.size=p):=fun he=>he.elim (fun he=>Zap B2.out (HB.out.ext E12.out) (by decide) he) (fun he=>Zap B2.out HPT.out (by decide) he)
  have hsl:=(HSB.out.ext E12.out).lt
  refine zg (fun w'=>Mod (fun k=>k=kb∨k=p) w2 w') (Mod.of_ext (Ext.drew (Ext.refl _))) fun hHeld=>?_
  obtain⟨D,hD⟩:=zn (w2.drew)
  have ED:Ext w2 D:=by rw[hD];exact(Ext.refl _).drew
  rw[←hD] at hHeld⊢
  clear hD
  refine zr 0 ?_
  refine zr 1 ?_
  refine zr 2 ?_
  refine zr 3 ?_
  (refine zu 4 (fun _ h=>(h.cell sb 2 hsl hsp).trans q2) ?_)
  (refine zU 5 rfl (Zac (by rfl) 35 _ rfl _ rfl 35 (szA x.z1 x.z2 x.z3 x.z4) _ _ (fun w' hSw=>(B2.out.mod hSw hbs)) Tryz.underlying35 rfl hiZ) ?_)
  refine zc 6 ((HSZ.out D ED)) ?_
  rintro e w3 ⟨⟨l,hl,A3,c3,rfl,R3⟩,HPT3,M3⟩ K hK
  have M23:=zh (show Mod (fun k=>k=kb∨k=p) w2 w3 from(Mod.of_ext ED).trans (M3.mono (fun k _ hk=>.inr hk)))
  refine zo hK M23.out fun hHeld=>?_
  clear hK K
  have hl1:l.length≤1:=by rcases hl with rfl|rfl<;>simp
  have hz3:=M23.out.size
  have hz2:=E12.out.size
  have E1D:=E12.out.trans ED
  have HPD:=HPT.out.ext ED
  have HK3:=zh (show KrS kb base w3 pv (some p) x from⟨p0,HU.out,HKB.out,At,ct,Tt,ctt,As,cs,tb,sb,i,o,r,(HB.out.ext E1D).mod M3 (fun he=>Zap (HB.out.ext E1D) HPD (by decide) he),(HP.out.ext E1D).mod M3 (fun k hk he=>Zai (HP.out.ext E1D) HPD (by decide) (by rw[hk,he])) (fun k _ hk=>hk.elim),
   (HT.out.ext E1D).mod M3 (fun k hk he=>Zai (HT.out.ext E1D) HPD (by decide) (by rw[hk,he])) (fun k _ hk=>hk.elim),(HTA.out.ext E1D).mod M3 (fun he=>Zap (HTA.out.ext E1D) HPD (by decide) he),(HS.out.ext E1D).mod M3 (fun k hk he=>Zai (HS.out.ext E1D) HPD (by decide) (by rw[hk,he])) (fun k _ hk=>hk.elim),
   (HSB.out.ext E1D).mod M3 (fun he=>Zap (HSB.out.ext E1D) HPD (by decide) he),fun p' hp'=>by
     obtain rfl:=Option.some.inj hp'
     exact⟨HBP.out,d,sl,HPT3⟩⟩)
  have HSN:=zh (Zlt (A:=fun _=>False) kb base pv (some p) x A3 c3 l w3 HK3.out (by omega) R3 hl1)
  have M03:=zh (show Mod (fun k=>k=kb∨some p=some k) w w3 from(Mod.of_ext (E1.trans E12.out)).trans (M23.out.mono (fun k _ hk=>hk.elim .inl (fun h9=>.inr (by rw[h9])))))
  clear HSZ HB HP HT HTA HS HSB HTT HPT HPT3 M3 HK3 R3 HPD E1D ED
  refine zc 7 (HSN.out) ?_
  rintro e w4 ⟨rfl,HK4,M4⟩ K hK
  have HK4:=zh HK4
  have M04:=zh (show Mod (fun k=>k=kb∨some p=some k) w w4 from M03.out.trans (M4.mono (fun k _ hk=>.inl hk)))
  refine zo hK (hHeld.trans (M4.mono (fun k _ hk=>.inl hk))) fun hHeld=>?_
  clear hK K
  clear HSN M4
  refine zd ?_
  go_wp2
  go_end0
  exact⟨rfl,HK4.out,M04.out.mono (fun k _ hk=>hk.elim .inl (fun h9=>.inr (Option.some.inj h9)))⟩
theorem ZhG (kb base:Nat)(pv:Value)(tt:Option Nat)(z:Sz)(sig:Int)(w:World)(h:KrS kb base w pv tt z)(hb:base≤w.heap.size)(hs:Sg.wireL sig=true):
 Calls Tryz.prog 227 #[.pointer (some ⟨kb,0,none⟩),.int .i64 1,.int .i64 sig] w fun e w'=>e= .returned (.int .i64 0)∧KrS kb base w' pv tt z∧Mod (fun k=>k=kb) w w':=by
 have hiT:=zi Tryz.prog 79 2
 obtain⟨p0,hu,hko⟩:=h
 have HKO:=hko
 obtain⟨hkb,At,ct,Tt,ctt,As,cs,tb,sb,i,o,r,HB,HP,HT,HTA,HS,HSB,HTT⟩:=hko
 have HSE:=zh (Zdv (A:=fun _=>True) kb sb pv _ _ _ _ As cs tt i o r 1 w HB HS.rdT.y HSB)
 have HWI:=zh (fun w'=>Sg.Ziq sig w')
 rw[hs] at HWI
 have HSB:=zh HSB
 have HTT:=zh HTT
 have HU:=zh hu
 have HK:=zh HKO
 clear hu hkb hs HB HP HT HTA HS HKO
 go_enter Tryz.func227,Tryz.ntmps227
 go_wp2_with fail
 refine(HSE.out).mono ?_
 rintro e w1 ⟨rfl,E1⟩
 go_wp2_with fail
 refine(HWI.out _).mono ?_
 rintro e w2 ⟨rfl,E2⟩
 have E02:=E1.trans E2
 have q1:=(HSB.out.ext E02).cell 1
 have q2:=(HSB.out.ext E02).cell 2
 simp only[zG] at q1 q2
 have HTT2:=zh (HTT.out.ext E02)
 have HK2:=zh (HK.out.ext E02)
 have E02:=zh E02
 have hz2:=E02.out.size
 clear HSE HWI E1 E2 HSB HTT HK
 cases tt with
 |none=>
  have q2:w2.cell? ⟨sb,2,none⟩=some (.pointer none):=q2
  clear HTT2
  go_upto_region 13 with fail
  obtain⟨At2,ct2,tk,ss,HB2,HP2,HKO⟩:=HK2.out.open
  have HB9:=zh HB2
  have HP9:=zh HP2
  have HKO:=zh HKO
  clear HB2 HP2 HK2 q1 q2
  have k1:=HB9.out.cell 1
  have k2:=HB9.out.cell 2
  simp only[zG] at k1 k2
  have hLP:∀w',Ext w2 w'→w'.rangeAt kb 1 [.slice At2 1 ct2,.int .i64 2]:=fun w' E i u hu=>by
   rcases i with _|_|i
   ·simp at hu;rw[←hu];exact Zaa E k1
   ·simp at hu;rw[←hu];exact Zaa E k2
   ·simp at hu
  have HSG:=zh (fun w' (E:Ext w2 w')=>Tb.Zbx (A:=fun _=>True) At2 ct2 [p0] 2 1 sig w' (HP9.out.ext E).rdT.y (fun x hx=>by
   obtain rfl:x=p0:=by simpa using hx
   exact HU.out))
  go_wp2_with(first|(refine wpList_load_mid rfl 79 _ rfl kb 1 rfl [.slice At2 1 ct2,.int .i64 2] _ (hLP _ (Ext.refl _)) Tryz.underlying79 rfl hiT ?_)|fail)
  refine(HSG.out _ (Ext.refl _)).mono ?_
  rintro e w3 ⟨A2,c2,k2',rfl,HT2,E3⟩
  have E23:=zh E3
  have HB3:=HB9.out.ext E23.out
  have hth:w3.there kb 1 2:=fun t ht=>⟨by
   rw[HB3.cell]
   rcases t with _|_|t
   ·rfl
   ·rfl
   ·omega,HB3.frozen _⟩
  go_upto_region 14 with(refine wpList_store_mid rfl 79 _ _ rfl kb 1 #[.slice A2 1 c2,.int .i64 2] rfl rfl (by exact hth) hiT (by simp[Value.oneCell']) ?_)
  (try simp only[zP])
  have HS:=KrS.sent HU.out (Nat.le_trans hb hz2) HP9.out HB9.out (fun w' A' c' q M hB hP=>HKO.out w' A' c' q M hB hP) E23.out (Nat.le_refl _) HT2
  have HKN:=zh HS.1
  have HMN:=zh (show Mod (fun k=>k=kb) w _ from(Mod.of_ext E02.out).trans HS.2)
  clear HS hth HB3 E3 HT2 hLP
  obtain⟨w4,hw4⟩:=zn (w3.setCells kb 1 [.slice A2 1 c2,.int .i64 2])
  rw[←hw4] at HKN HMN
  first|rw[←hw4]|(change Code.wp _ _ _ _ (w3.setCells kb 1 [.slice A2 1 c2,.int .i64 2]);rw[←hw4])
  clear hw4
  go_wp2
  go_ret
  exact⟨rfl,HKN.out,HMN.out⟩
 |some p=>
  have q2:w2.cell? ⟨sb,2,none⟩=some (.pointer (some ⟨p,0,none⟩)):=q2
  obtain⟨hbp,d,sl,hpt⟩:=HTT2.out p rfl
  have q6:w2.cell? ⟨p,6,none⟩=some (.int .i64 1):=hpt.cell 6
  clear hbp hpt HTT2
  go_upto_region 13 with fail
  obtain⟨At2,ct2,tk,ss,HB2,HP2,HKO⟩:=HK2.out.open
  have HB9:=zh HB2
  have HP9:=zh HP2
  have HKO:=zh HKO
  clear HB2 HP2 HK2 q1 q2
  have k1:=HB9.out.cell 1
  have k2:=HB9.out.cell 2
  simp only[zG] at k1 k2
  have hLP:∀w',Ext w2 w'→w'.rangeAt kb 1 [.slice At2 1 ct2,.int .i64 2]:=fun w' E i u hu=>by
   rcases i with _|_|i
   ·simp at hu;rw[←hu];exact Zaa E k1
   ·simp at hu;rw[←hu];exact Zaa E k2
   ·simp at hu
  have HSG:=zh (fun w' (E:Ext w2 w')=>Tb.Zbx (A:=fun _=>True) At2 ct2 [p0] 2 1 sig w' (HP9.out.ext E).rdT.y (fun x hx=>by
   obtain rfl:x=p0:=by simpa using hx
   exact HU.out))
  go_wp2_with(first|(refine wpList_load_mid rfl 79 _ rfl kb 1 rfl [.slice At2 1 ct2,.int .i64 2] _ (hLP _ (Ext.refl _)) Tryz.underlying79 rfl hiT ?_)|fail)
  refine(HSG.out _ (Ext.refl _)).mono ?_
  rintro e w3 ⟨A2,c2,k2',rfl,HT2,E3⟩
  have E23:=zh E3
  have HB3:=HB9.out.ext E23.out
  have hth:w3.there kb 1 2:=fun t ht=>⟨by
   rw[HB3.cell]
   rcases t with _|_|t
   ·rfl
   ·rfl
   ·omega,HB3.frozen _⟩
  go_upto_region 14 with(refine wpList_store_mid rfl 79 _ _ rfl kb 1 #[.slice A2 1 c2,.int .i64 2] rfl rfl (by exact hth) hiT (by simp[Value.oneCell']) ?_)
  (try simp only[zP])
  have HS:=KrS.sent HU.out (Nat.le_trans hb hz2) HP9.out HB9.out (fun w' A' c' q M hB hP=>HKO.out w' A' c' q M hB hP) E23.out (Nat.le_refl _) HT2
  have HKN:=zh HS.1
  have HMN:=zh (show Mod (fun k=>k=kb) w _ from(Mod.of_ext E02.out).trans HS.2)
  clear HS hth HB3 E3 HT2 hLP
  obtain⟨w4,hw4⟩:=zn (w3.setCells kb 1 [.slice A2 1 c2,.int .i64 2])
  rw[←hw4] at HKN HMN
  first|rw[←hw4]|(change Code.wp _ _ _ _ (w3.setCells kb 1 [.slice A2 1 c2,.int .i64 2]);rw[←hw4])
  clear hw4
  go_wp2
  go_ret
  exact⟨rfl,HKN.out,HMN.out⟩
end Go.Proofs.YtmmhcllibpmfnaaGreatDoor
