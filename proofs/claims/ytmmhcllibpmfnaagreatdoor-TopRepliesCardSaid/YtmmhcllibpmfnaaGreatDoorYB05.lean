/- Parts RH28 SN28 TN28 UN28 VN28 WN28 XN28 YN28 ZN28 TA28 TB28 KA28. No condition. -/
import Derived.Test.YtmmhcllibpmfnaaGreatDoorYB01
import Derived.Test.YtmmhcllibpmfnaaGreatDoorYB04
import Derived.Deep.CutBlock
import Derived.IntWalk
import Derived.Test.YtmmhcllibpmfnaaGreatDoorRows
import Derived.Deep.OwnRows
set_option maxRecDepth 100000
set_option maxHeartbeats 8000000
namespace Go.Proofs.YtmmhcllibpmfnaaGreatDoor
open Go.RowKit Go.Kb
theorem Zb4 {P:Program}{fn:Func}{p q q2 q3:Tmp}{ty:TypeId}(h:fn.results=#[.cell p ty,.tmp q,.tmp q2,.tmp q3])(tmps:Array Value)(w:World)(g:Nat)(t:TypeId)(cs:Array Value)(fr:Nat×Nat)(d:TypeDesc)
  (hp:tmps.getD p undef= .pointer (some ⟨g,0,none⟩)) (v v2 v3:Value) (hq:tmps.getD q undef=v) (hq2:tmps.getD q2 undef=v2) (hq3:tmps.getD q3 undef=v3) (hg:w.heap[g]?=some (.cells cs t fr))
  (hu:P.underlying ty=some d) (hd:(match d with| .struct _| .array _ _=>true|_=>false)=true) (hi:(P.info? ty).map (·.size)=some cs.size):
  (results fn tmps).run P w= .ok (.tuple #[.agg cs,v,v2,v3]) w:=by
 have hp':tmps[p]?.getD undef= .pointer (some ⟨g,0,none⟩):=by simpa using hp
 have hq':tmps[q]?.getD undef=v:=by simpa using hq
 have hq2':tmps[q2]?.getD undef=v2:=by simpa using hq2
 have hq3':tmps[q3]?.getD undef=v3:=by simpa using hq3
 simp[results,h,hp',hq',hq2',hq3',asAddr,run_loadVar_row w g t ty cs fr d hg hu hd hi]
def Zsr (base g:Nat)(cv:Value)(cs2:List Ch)(dd:Bool)(ms:List Mg)(evs:List Ev)(er:Int)(D:World)(e:Ending)(w':World):Prop:=
 e= .returned (.tuple #[])∧∃cv2 ov vv,Blk w' g 267 (tkA cv2 (.int .u32 4096) (.bool dd) ov vv (.int .i64 er))∧OwnS ChR 156 base (fun _=>False) w' cv2 cs2∧
  OwnS MgR 62 base (fun k=>base≤k) w' ov ms∧OwnS EvR 207 base (fun k=>base≤k) w' vv evs∧Mod (fun k=>k=g∨cv.ownBlock=some k) D w'
def TkDo (fn:Nat)(m:Mg)(v:Value)(cs cs2:List Ch)(dd:Bool)(ms:List Mg)(evs:List Ev)(er:Int)(w:World):Prop:=
 ∀ (base g:Nat) (cv:Value) (D:World),Ext w D→w.heap.size≤base→base≤D.heap.size→Blk D g 267 (tkA cv (.int .u32 4096) (.bool false) (.slice none 0 0) (.slice none 0 0) (.int .i64 0))→OwnS ChR 156 base (fun _=>False) D cv cs→
  Calls Tryz.prog fn #[.pointer (some ⟨g,0,none⟩),.agg (mgA m v)] D (Zsr base g cv cs2 dd ms evs er D)
def Zi5 (cs2:List Ch)(dd:Bool)(ms:List Mg)(evs:List Ev)(er:Int)(w:World)(e:Ending)(w':World):Prop:=
 ∃cv2 ov vv,e= .returned (.tuple #[.agg (muxA cv2 dd),ov,vv,.int .i64 er])∧OwnS ChR 156 w.heap.size (fun _=>False) w' cv2 cs2∧
  OwnS MgR 62 w.heap.size (fun k=>w.heap.size≤k) w' ov ms∧OwnS EvR 207 w.heap.size (fun k=>w.heap.size≤k) w' vv evs∧Ext w w'
theorem Zh5 {A:Nat→Prop}(fn i:Nat)(cv:Value)(cs cs2:List Ch)(dd:Bool)(ms:List Mg)(evs:List Ev)(er:Int)(m:Mg)(v:Value)(w:World)
  (hl:Instr.findNow (.int .i64) (.int .i64 m.k) mkE.toList 0=some (some (i,.func (.func fn) #[] #[]))) (hen:∀args w,(callFunc fn args).run Tryz.prog w= .ok (.enter fn args) w)
  (h:RdY ChR A w cv cs) (hn:cs.length≤1000) (hdo:TkDo fn m v cs cs2 dd ms evs er w):
  Calls Tryz.prog 72 #[.agg (muxA cv false),.agg (mgA m v)] w (Zi5 cs2 dd ms evs er w):=by
 have hiM:=zi Tryz.prog 62 10
 have hiX:=zi Tryz.prog 72 3
 obtain⟨Ad,cc,rfl,-,-⟩:=h.shape
 obtain⟨W1,hW1⟩:=zn (((w.alloc (.cells (muxA (.slice Ad cs.length cc) false) 72)).alloc (.cells (mgA m v) 62)).alloc (.cells #[.slice none 0 0,.int .u32 0,.bool false] 72))
 have E1:Ext w W1:=by rw[hW1];exact(((Ext.refl _).alloc _).alloc _).alloc _
 have B1:=zh (show Blk W1 w.heap.size 72 (muxA (.slice Ad cs.length cc) false) by rw[hW1];exact((Blk.new w _ _).alloc _).alloc _)
 have B2:=zh (show Blk W1 (w.heap.size+1) 62 (mgA m v) by rw[hW1];exact(Blk.at_ _ _ (by simp)).alloc _)
 have B3:=zh (show Blk W1 (w.heap.size+2) 72 #[.slice none 0 0,.int .u32 0,.bool false] by rw[hW1];exact Blk.at_ _ _ (by simp))
 have hw1:w.heap.size+2<W1.heap.size:=B3.out.lt
 have HW1:=zh hW1
 have HT:=zh (Zh1 (.slice Ad cs.length cc) false cs W1 (h.ext E1) hn)
 unfold Zmx at HT
 have HL:=zh hl
 have HDO:=zh hdo
 unfold Zi5
 obtain⟨L,hL⟩:=zm (cs.length)
 rw[hL] at HT B1 HW1⊢
 obtain⟨n0,hn0⟩:=zm (w.heap.size)
 have HN0:=zh hn0
 rw[hn0] at B1 B2 B3 hw1⊢
 clear h hW1 hL hn hdo hl hn0
 go_enter Tryz.func72,Tryz.ntmps72
 go_upto_region 1 with fail
 rw[←HW1.out]
 rw[HN0.out]
 clear HW1
 go_wp2_with(first|(refine wpList_load_row rfl 72 _ rfl _ rfl 72 _ _ _ B1.out Tryz.underlying72 rfl hiX ?_)|fail)
 refine(HT.out).mono ?_
 rintro e w2 ⟨A2,c2,rfl,O2,E2⟩
 have B2:=zh (B2.out.ext E2)
 have B3:=zh (B3.out.ext E2)
 have E02:=E1.trans E2
 have O2:=zh O2
 have hs2:=E2.size
 clear B1 HT
 have HG:=zh (Blk.new w2 267 (tkA (.slice A2 L c2) (.int .u32 4096) (.bool false) (.slice none 0 0) (.slice none 0 0) (.int .i64 0)))
 have q2:=HG.out.cell 2
 simp only[zG] at q2
 go_upto_region 4 with fail
 obtain⟨W3,hW3⟩:=zn (w2.alloc (.cells (tkA (.slice A2 L c2) (.int .u32 4096) (.bool false) (.slice none 0 0) (.slice none 0 0) (.int .i64 0)) 267))
 have HG:=zh (show Blk W3 w2.heap.size 267 (tkA (.slice A2 L c2) (.int .u32 4096) (.bool false) (.slice none 0 0) (.slice none 0 0) (.int .i64 0)) by rw[hW3];exact HG.out)
 rw[←hW3]
 have E23:Ext w2 W3:=by rw[hW3];exact(Ext.refl _).alloc _
 have O3:=zh (O2.out.ext E23)
 have B2:=zh (B2.out.ext E23)
 have B3:=zh (B3.out.ext E23)
 have E03:=E02.trans E23
 clear hW3 O2 q2 E23 E02
 obtain⟨g,hg⟩:=zm (w2.heap.size)
 rw[hg] at HG hs2⊢
 have k0:=(mgC B2.out).k0
 refine zg (fun w'=>Ext W3 w') (Ext.drew (Ext.refl _)) fun hHeld=>?_
 obtain⟨D,hD⟩:=zn (W3.drew)
 have ED:Ext W3 D:=by rw[hD];exact(Ext.refl _).drew
 rw[←hD] at hHeld⊢
 clear hD
 refine zr 1 ?_
 refine zv 2 k0 ?_
 (refine zc 0 (Zq1 _) ?_;rintro e w4 ⟨rfl,D4,E4⟩ K hK;refine zo hK (ED.trans E4) fun hHeld=>?_;clear hK K)
 have kl:(Instr.lookup 270 (.map (some D.heap.size)) (.int .i64 m.k) true).run Tryz.prog w4= .ok (.tuple #[.func (.func fn) #[] #[],.bool true]) w4:=Zpi (x:=m.k) (a:=some (i,.func (.func fn) #[] #[])) D4 HL.out
 (refine za 3 (ED.trans E4) fun hHeld=>?_)
 refine zr 4 ?_
 refine zr 5 ?_
 refine zr 6 ?_
 refine zr 7 ?_
 refine zr 8 ?_
 refine zd ?_
 have E34:=hHeld
 have HG:=zh (HG.out.ext E34)
 have O3:=zh (O3.out.ext E34)
 have B2:=zh (B2.out.ext E34)
 have B3:=zh (B3.out.ext E34)
 have E04:=E03.trans E34
 have EW4:=zh (show Ext w w4 from E04)
 have hs34:=E34.size
 have hs03:=E03.size
 have hs01:=E1.size
 have hs04:=E04.size
 have hgW:W1.heap.size≤g:=by omega
 have hglt:=HG.out.lt
 clear kl D4 E4 ED hHeld k0 E34 E03
 have hcal:=hen
 go_wp2_with(first|(refine wpList_load_row rfl 62 _ rfl _ rfl 62 _ _ _ B2.out Tryz.underlying62 rfl hiM ?_)|fail)
 refine(HDO.out W1.heap.size g _ w4 EW4.out (by omega) (by omega) HG.out O3.out).mono ?_
 rintro e w5 ⟨rfl,cv2,ov,vv,G5,O5,S5,V5,M5⟩
 obtain⟨A5,c5,rfl,-,-⟩:=O5.shape
 obtain⟨N5,hN5⟩:=zm (cs2.length)
 rw[hN5] at G5 O5
 have M04:=zh (show Ext w w5 from Mod.toExt EW4.out M5 (fun k hk he=>by
  have hN:=HN0.out
  rcases he with rfl|he
  ·omega
  ·have:=(O3.out.row k he).1
   omega))
 have hB3:¬(n0+2=g∨(Value.slice A2 L c2).ownBlock=some (n0+2)):=fun h9=>h9.elim (fun h8=>by omega) (fun h8=>by have:=(O3.out.row _ h8).1;omega)
 have B3:=zh (B3.out.mod M5 hB3)
 have hn2:n0+2<w5.heap.size:=B3.out.lt
 have hng:¬g=n0+2:=by omega
 have hg5:=G5.lt
 have q0:=G5.cell 0
 have q1:=G5.cell 1
 have q2:=G5.cell 2
 have q3:=G5.cell 3
 have q4:=G5.cell 4
 have q5:=G5.cell 5
 simp only[zG] at q0 q1 q2 q3 q4 q5
 have hN:=HN0.out
 clear HDO O3 HG M5 B2 E1 E2 HL
 have hLP:∀w',Kb.Mod (fun k=>k=n0+2) w5 w'→∀i u,[.slice A5 N5 c5,.int .u32 4096,.bool dd][i]?=some u→w'.cell? ⟨g,0+i,none⟩=some u:=by
  intro w' hSw i u hu
  rw[hSw.cell g _ hg5 hng,Nat.zero_add]
  rcases i with _|_|_|i
  ·simp at hu;rw[←hu];exact q0
  ·simp at hu;rw[←hu];exact q1
  ·simp at hu;rw[←hu];exact q2
  ·simp at hu
 go_upto_region 8 with fail
 refine zg (fun w'=>Kb.Mod (fun k=>k=n0+2) w5 w') (Mod.of_ext (Ext.drew (Ext.refl _))) fun hHeld=>?_
 refine zr 0 ?_
 refine zr 1 ?_
 refine zr 2 ?_
 (refine zU 3 rfl (yieldsIf_load_mid (by rfl) 72 _ rfl _ _ rfl [.slice A5 N5 c5,.int .u32 4096,.bool dd] _ (fun w' hSw=>(fun i u hu=>hLP w' hSw i u hu)) Tryz.underlying72 rfl hiX) ?_)
 refine zr 4 ?_
 refine zr 5 ?_
 refine zr 6 ?_
 (refine zu 7 (fun _ h=>(h.cell g 3 hg5 hng).trans q3) ?_)
 refine zr 8 ?_
 refine zr 9 ?_
 refine zr 10 ?_
 (refine zu 11 (fun _ h=>(h.cell g 4 hg5 hng).trans q4) ?_)
 refine zr 12 ?_
 refine zr 13 ?_
 refine zr 14 ?_
 (refine zu 15 (fun _ h=>(h.cell g 5 hg5 hng).trans q5) ?_)
 obtain⟨D,hD⟩:=zn (w5.drew)
 have ED:Ext w5 D:=by rw[hD];exact(Ext.refl _).drew
 rw[←hD] at hHeld⊢
 clear hD
 (refine zw 16 fun K hK=>?_;rw[if_pos (by rfl)];refine Zag 72 _ _ rfl (n0+2) _ rfl rfl 72 _ (B3.out.ext ED) hiX (by rfl) (by simp[Value.oneCell']) ?_;intro u3 B6 M6;refine zo hK ((Mod.of_ext ED).trans M6) fun hHeld=>?_;clear hK K)
 refine zr 17 ?_
 refine zr 18 ?_
 refine zr 19 ?_
 refine zd ?_
 go_wp2_with fail
 refine bodyPost_ret_by (Zb4 Tryz.results72 _ _ (n0+2) 72 _ _ _ rfl _ _ _ rfl rfl rfl B6 Tryz.underlying72 rfl hiX) rfl ?_
 refine⟨_,ov,vv,rfl,(O5.mod hHeld (fun k hk he=>by have:=(O5.row k hk).1;omega) (fun k _ hk=>hk.elim)).lower (by omega),((S5.mod hHeld (fun k hk he=>by have:=(S5.row k hk).1;omega) (fun k _ hk he=>by omega)).lower (by omega)).mono (fun k _ hk=>by omega),((V5.mod hHeld (fun k hk he=>by have:=(V5.row k hk).1;omega) (fun k _ hk he=>by omega)).lower (by omega)).mono (fun k _ hk=>by omega),Mod.toExt M04.out hHeld (fun k hk he=>by omega)⟩
theorem Zg8 (args:Array Value)(w:World):(callFunc 209 args).run Tryz.prog w= .ok (.enter 209 args) w:=by kernel_rfl
theorem Zgb (args:Array Value)(w:World):(callFunc 214 args).run Tryz.prog w= .ok (.enter 214 args) w:=by kernel_rfl
theorem mk90:Instr.findNow (.int .i64) (.int .i64 90) mkE.toList 0=some (some (2,ZaK)):=by kernel_rfl
theorem mk98:Instr.findNow (.int .i64) (.int .i64 98) mkE.toList 0=some (some (8,Zkk)):=by kernel_rfl
theorem ZmC {A:Nat→Prop}(cv:Value)(cs:List Ch)(m:Mg)(v:Value)(w:World)(h:RdY ChR A w cv cs)(hn:cs.length<8)(hlo:Zg7 cs)(hk:m.k=90)(hnm:m.nm=Zsi)(hse:∀c∈cs,c.re≠m.se):
  Calls Tryz.prog 72 #[.agg (muxA cv false),.agg (mgA m v)] w (Zi5 (cs++ [newC cs m]) false [ZaI cs m] [Zoq cs] 0 w):=by
 refine Zh5 209 2 cv cs _ false _ _ 0 m v w (by rw[hk];exact mk90) Zg8 h (by omega) ?_
 intro base g cv2 D E h1 h2 hb hc
 refine(ZmA g base cv2 cs m v D hb hc h2 hn hlo hnm hse).mono ?_
 rintro e w' ⟨rfl,A1,c1,A2,c2,A3,c3,B,O1,O2,O3,M⟩
 exact⟨rfl,_,_,_,B,by simpa using O1,O2.mono (fun k _ h=>h.elim),O3.mono (fun k _ h=>h.elim),M⟩
theorem ZmD {A B:Nat→Prop}(cv:Value)(cs:List Ch)(j:Nat)(c:Ch)(m:Mg)(v:Value)(w:World)(h:RdY ChR A w cv cs)(hn:cs.length≤1000)(hlo:Zg7 cs)(hj:cs[j]?=some c)(hch:m.ch=(j:Int))(hk:m.k=98)(hwa:m.wa=true)(how:c.ow=0)
  (hd:RdS Ub8 B w v m.da) (hdl:m.da.length≤1000000):
  Calls Tryz.prog 72 #[.agg (muxA cv false),.agg (mgA m v)] w (Zi5 (cs.set j (owe c 1)) false [] [askEv j m] 0 w):=by
 refine Zh5 214 8 cv cs _ false _ _ 0 m v w (by rw[hk];exact mk98) Zgb h hn ?_
 intro base g cv2 D E h1 h2 hb hc
 refine(Zkj g base cv2 cs j c m v D hb hc hlo hj hch hk hwa how (hd.ext E) hdl).mono ?_
 rintro e w' ⟨rfl,A3,c3,B,O1,O3,M⟩
 exact⟨rfl,_,_,_,B,O1,OwnS.nil _ _ _ _ _,(O3.lower h2).mono (fun k _ h=>by omega),M⟩
theorem Zb5 {P:Program}{fn:Func}{p p2 q:Tmp}{ty ty2:TypeId}(h:fn.results=#[.cell p ty,.cell p2 ty2,.tmp q])(tmps:Array Value)(w:World)(g g2:Nat)(t t2:TypeId)(cs cs2:Array Value)(fr fr2:Nat×Nat)(d d2:TypeDesc)
  (hp:tmps.getD p undef= .pointer (some ⟨g,0,none⟩)) (hp2:tmps.getD p2 undef= .pointer (some ⟨g2,0,none⟩)) (v:Value) (hq:tmps.getD q undef=v) (hg:w.heap[g]?=some (.cells cs t fr)) (hg2:w.heap[g2]?=some (.cells cs2 t2 fr2))
  (hu:P.underlying ty=some d) (hd:(match d with| .struct _| .array _ _=>true|_=>false)=true) (hi:(P.info? ty).map (·.size)=some cs.size)
  (hu2:P.underlying ty2=some d2) (hd2:(match d2 with| .struct _| .array _ _=>true|_=>false)=true) (hi2:(P.info? ty2).map (·.size)=some cs2.size):
  (results fn tmps).run P w= .ok (.tuple #[.agg cs,.agg cs2,v]) w:=by
 have hp':tmps[p]?.getD undef= .pointer (some ⟨g,0,none⟩):=by simpa using hp
 have hp2':tmps[p2]?.getD undef= .pointer (some ⟨g2,0,none⟩):=by simpa using hp2
 have hq':tmps[q]?.getD undef=v:=by simpa using hq
 simp[results,h,hp',hp2',hq',asAddr,run_loadVar_row w g t ty cs fr d hg hu hd hi,run_loadVar_row w g2 t2 ty2 cs2 fr2 d2 hg2 hu2 hd2 hi2]
def ansM (x:Int)(c:Ch):Mg:=⟨x,c.re,0,0,0,0,⟨#[]⟩,⟨#[]⟩,false,[]⟩
abbrev mgZ:Array Value:=#[.int .i64 0,.int .u32 0,.int .u32 0,.int .u32 0,.int .u32 0,.int .u32 0,.string ⟨#[]⟩,.string ⟨#[]⟩,.bool false,.slice none 0 0]
theorem ZmE (c:Ch)(x:Int)(w:World):Calls Tryz.prog 276 #[.agg (chL c).toArray,.int .i64 x] w fun e w'=>e= .returned (.agg (mgA (ansM x c) (.slice none 0 0)))∧Ext w w':=by
 have hiM:=zi Tryz.prog 62 10
 obtain⟨W1,hW1⟩:=zn ((w.alloc (.cells (chL c).toArray 156)).alloc (.cells mgZ 62))
 have E1:Ext w W1:=by rw[hW1];exact((Ext.refl _).alloc _).alloc _
 have B1:=zh (show Blk W1 w.heap.size 156 (chL c).toArray by rw[hW1];exact(Blk.new w _ _).alloc _)
 have B2:=zh (show Blk W1 (w.heap.size+1) 62 mgZ by rw[hW1];exact Blk.at_ _ _ (by simp))
 have HW1:=zh hW1
 have k1:=B1.out.cell 1
 simp only[zG] at k1
 clear hW1
 go_enter Tryz.func276,Tryz.ntmps276
 go_upto_region 1 with fail
 rw[←HW1.out]
 clear HW1
 go_wp2_with(first|(refine wpList_store_M rfl 62 _ _ rfl (w.heap.size+1) _ rfl rfl 62 _ B2.out hiM rfl (by simp[Value.oneCell']) ?_;intro w4 P4 M4)|fail)
 refine bodyPost_ret_by (results_cell_row Tryz.results276 _ _ (w.heap.size+1) 62 _ _ _ rfl P4 Tryz.underlying62 rfl hiM) rfl ?_
 exact⟨rfl,Mod.toExt E1 M4 (fun k hk he=>by omega)⟩
def ansK (ok:Bool):Int:=if ok then 99 else 100
theorem Zkl (c:Ch)(ok:Bool)(w:World)(how:c.ow=1):Calls Tryz.prog 228 #[.agg (chL c).toArray,.bool ok] w fun e w'=>
  e= .returned (.tuple #[.agg (chL (owe c 0)).toArray,.agg (mgA (ansM (ansK ok) c) (.slice none 0 0)),.int .i64 0])∧Ext w w':=by
 have hiC:=zi Tryz.prog 156 12
 have hiM:=zi Tryz.prog 62 10
 obtain⟨W1,hW1⟩:=zn (((w.alloc (.cells (chL c).toArray 156)).alloc (.cells ch0 156)).alloc (.cells mgZ 62))
 have E1:Ext w W1:=by rw[hW1];exact(((Ext.refl _).alloc _).alloc _).alloc _
 have B1:=zh (show Blk W1 w.heap.size 156 (chL c).toArray by rw[hW1];exact((Blk.new w _ _).alloc _).alloc _)
 have B2:=zh (show Blk W1 (w.heap.size+1) 156 ch0 by rw[hW1];exact(Blk.at_ _ _ (by simp)).alloc _)
 have B3:=zh (show Blk W1 (w.heap.size+1+1) 62 mgZ by rw[hW1];exact Blk.at_ _ _ (by simp))
 have HW1:=zh hW1
 have k10:=B1.out.cell 10
 have k7:=B1.out.cell 7
 have f10:=B1.out.frozen 10
 simp only[List.getElem?_toArray,List.getElem?_cons_zero,List.getElem?_cons_succ,how] at k10 k7
 have hw1:w.heap.size+1+1<W1.heap.size:=B3.out.lt
 clear hW1
 go_enter Tryz.func228,Tryz.ntmps228
 go_upto_region 1 with fail
 rw[←HW1.out]
 clear HW1
 have B1:=zh (show Blk (W1.setCell ⟨w.heap.size,10,none⟩ (.int .i64 0)) w.heap.size 156 (chL (owe c 0)).toArray by simpa [owe] using B1.out.set_ 10 (.int .i64 0))
 have M1:Kb.Mod (fun k=>k=w.heap.size) W1 (W1.setCell ⟨w.heap.size,10,none⟩ (.int .i64 0)):=(Mod.refl _ _).set1 _
 have B2:=zh (B2.out.mod M1 (by omega))
 have B3:=zh (B3.out.mod M1 (by omega))
 have E1:=zh (Mod.toExt E1 M1 (fun k hk he=>by omega))
 have hs1:w.heap.size+1+1<(W1.setCell ⟨w.heap.size,10,none⟩ (.int .i64 0)).heap.size:=B3.out.lt
 clear M1
 obtain⟨n0,hn0⟩:=zm (w.heap.size)
 have HN0:=zh hn0
 rw[hn0] at E1 B1 B2 B3 hs1 k10 k7 f10⊢
 cases ok
 all_goals
  go_upto_region 7 with fail
  generalize W1.setCell ⟨n0,10,none⟩ (.int .i64 0)=W2 at*
  clear k10 k7 f10 hw1
  refine zg (fun w'=>Kb.Mod (fun k=>k=n0+1∨k=n0+1+1) W2 w') (Mod.of_ext (Ext.drew (Ext.refl _))) fun hHeld=>?_
  obtain⟨D,hD⟩:=zn (W2.drew)
  have ED:Ext W2 D:=by rw[hD];exact(Ext.refl _).drew
  rw[←hD] at hHeld⊢
  clear hD
  (refine zU 0 rfl (Zac (by rfl) 156 _ rfl _ rfl 156 (chL (owe c 0)).toArray _ _ (fun w' hSw=>(B1.out.mod hSw (by omega))) Tryz.underlying156 rfl hiC) ?_)
  (refine zU 1 rfl (Zac (by rfl) 156 _ rfl _ rfl 156 (chL (owe c 0)).toArray _ _ (fun w' hSw=>(B1.out.mod hSw (by omega))) Tryz.underlying156 rfl hiC) ?_)
  refine zr 2 ?_
  refine zw 3 fun K hK=>?_
  go_simp
  refine(ZmE _ _ _).mono ?_
  rintro e w3 ⟨rfl,E3⟩
  (try dsimp only)
  refine zo hK (Mod.of_ext (ED.trans E3)) fun hHeld=>?_
  clear hK K
  have E23:=ED.trans E3
  (refine zw 4 fun K hK=>?_;rw[if_pos (by rfl)];refine Zag 156 _ _ rfl (n0+1) _ rfl rfl 156 _ (B2.out.ext E23) hiC (by rfl) (by simp[Value.oneCell']) ?_;intro u4 B4 M4;refine zo hK ((Mod.of_ext E23).trans (M4.mono (fun k _ h=>.inl h))) fun hHeld=>?_;clear hK K)
  have M24:=zh hHeld
  have B34:=zh ((B3.out.ext E23).mod M4 (by omega))
  (refine zw 5 fun K hK=>?_;rw[if_pos (by rfl)];refine Zag 62 _ _ rfl (n0+1+1) _ rfl rfl 62 _ B34.out hiM (by rfl) (by simp[Value.oneCell']) ?_;intro u5 B5 M5;refine zo hK (M24.out.trans (M5.mono (fun k _ h=>.inr h))) fun hHeld=>?_;clear hK K)
  have B45:=zh (B4.mod M5 (by omega))
  refine zr 6 ?_
  refine zd ?_
  go_wp2_with fail
  refine bodyPost_ret_by (Zb5 Tryz.results228 _ _ (n0+1) (n0+1+1) 156 62 _ _ _ _ _ _ rfl rfl _ rfl B45.out B5 Tryz.underlying156 rfl hiC Tryz.underlying62 rfl hiM) rfl ?_
  have hN:=HN0.out
  exact⟨rfl,Mod.toExt E1.out hHeld (fun k hk he=>by omega)⟩
theorem Zee (m:Mg)(v:Value)(w:World)(hd:RdS Ub8 (fun k=>k<w.heap.size) w v m.da)(hg:GoodM m):Calls Tryz.prog 46 #[.agg (mgA m v)] w fun e w'=>
  ∃u,e= .returned (.tuple #[u,.int .i64 0])∧OwnS Ub8 5 w.heap.size (fun _=>False) w' u (encM m)∧Ext w w':=by
 obtain⟨ps,hp1,hp2,hp3,hp4⟩:=hg.ps
 refine(ZiR m v w hd hg.ok).mono ?_
 rintro e w' ⟨u,q,rfl,E,h0,-,h2⟩
 obtain rfl:=h2 ps hp1 hp2 hp3 hp4
 obtain⟨ps2,hq1,-,-,-,ho⟩:=h0 rfl
 refine⟨u,rfl,?_,E⟩
 unfold encM
 rw[hq1]
 exact ho
def pkM (m:Mg):List Int:=Fr.four ((encM m).length:Int)++encM m
theorem Zcg (m:Mg):(pkM m).length=4+(encM m).length:=by simp[pkM,Fr.four];omega
theorem Zh6 (v:Value)(m:Mg)(w:World)(h:RI .u8 w v (encM m))(hg:GoodM m):Calls Tryz.prog 23 #[v] w fun e w'=>∃u,e= .returned (.tuple #[u,.int .i64 0])∧OwnS Ub8 5 w.heap.size (fun _=>False) w' u (pkM m)∧Ext w w':=by
 have hle:=Za2 hg
 refine(Fr.ZjY v _ w h (by omega)).mono ?_
 rintro e w' ⟨u,rfl,op,E⟩
 rw[Fr.Zfg hle] at op⊢
 exact⟨u,rfl,OwnS.of_ints op,E⟩
theorem ZeV (m:Mg)(v:Value)(w:World)(hd:RdS Ub8 (fun k=>k<w.heap.size) w v m.da)(hg:GoodM m):Calls Tryz.prog 19 #[.agg (mgA m v)] w fun e w'=>
  ∃u,e= .returned u∧OwnS Ub8 5 w.heap.size (fun _=>False) w' u (pkM m)∧Ext w w':=by
 have hiM:=zi Tryz.prog 62 10
 obtain⟨Av,cv,rfl,-,-⟩:=hd.shape
 obtain⟨W1,hW1⟩:=zn (w.alloc (.cells (mgA m (.slice Av m.da.length cv)) 62))
 have E1:Ext w W1:=by rw[hW1];exact(Ext.refl _).alloc _
 have P1:=zh (show Blk W1 w.heap.size 62 (mgA m (.slice Av m.da.length cv)) by rw[hW1];exact Blk.new w _ _)
 have HW1:=zh hW1
 have HEN:=zh (Zee m (.slice Av m.da.length cv) W1 ((hd.ext E1).mono (fun k hk _=>hk)) hg)
 have HPU:=zh (fun u w' (h:RI .u8 w' u (encM m))=>Zh6 u m w' h hg)
 have hs1:=E1.size
 clear hd hW1
 go_enter Tryz.func19,Tryz.ntmps19
 go_upto_region 1 with fail
 rw[←HW1.out]
 clear HW1
 go_wp2_with(first|(refine wpList_load_row rfl 62 _ rfl _ rfl 62 _ _ _ P1.out Tryz.underlying62 rfl hiM ?_)|fail)
 refine(HEN.out).mono ?_
 rintro e w2 ⟨u,rfl,O2,E2⟩
 have HRI:=zh (RdS.ri O2.rdT)
 go_wp2_with fail
 refine(HPU.out _ _ HRI.out).mono ?_
 rintro e w3 ⟨u3,rfl,O3,E3⟩
 have E12:=E1.trans E2
 have hs12:=E12.size
 go_wp2
 go_ret
 exact⟨_,rfl,O3.lower hs12,E12.trans E3⟩
theorem wpList_appX {D:Type}{e:Rep D}{T:TypeId}{base:Nat}{A B:Nat→Prop}{w:World}{ds ds2:List D}{v:Value}{P:Program}{z:Value}{bytes:Nat}{t:TypeId}
  {ops:Array Oper} {rest:List Oper} {o:Oper} {a:Act} {Q:Exit→Act→World→Prop} (hgd:o.guard=none) (s x:Operand)
  (ho:o.op= .call {callee:=.builtin .append,args:=#[s,x],argTypes:=#[t,t]})
  (ht:P.underlying t=some (.slice T)) (hi:(P.info? T).map (fun i=>(i.zero,i.size,i.bytes))=some (some z,e.size,bytes)) (hz:z.cells.size=e.size)
  (hown:OwnS e T base B w v ds) (hs:a.eval s=v) {y:Value} (hr:RdY e A w y ds2) (hx:a.eval x=y) (hA:∀k,k<w.heap.size→A k→B k∧v.ownBlock≠some k)
  {N:Nat} (hN:ds.length+ds2.length=N) (h63:N≤maxLen) (hbytes:N*bytes≤140737488355328) (hbase:base≤w.heap.size)
  (h:∀Ad c w',OwnS e T base B w' (.slice Ad N c) (ds++ds2)→Mod (fun k=>v.ownBlock=some k) w w'→Below base w w'→((Value.slice Ad N c).ownBlock=v.ownBlock∨(Value.slice Ad N c).ownBlock=some w.heap.size)→wpList P ops Q rest (a.put o.dst (.slice Ad N c)) w'):wpList P ops Q (o::rest) a w:=by
 subst hN
 obtain⟨us,hus,he⟩:=hown
 obtain⟨news,hn,hne⟩:=hr
 obtain⟨i0,hi0,hz0,hz1,hz2⟩:=info_parts hi
 refine Za1 w hgd s x t ho base T i0 z e.size bytes ht hi0 hz0 hz1 hz2 hz e.pos v ds.length us hs hus y ds2.length news hx hn hne.one h63 hbytes hbase fun v' w' h1 h2 h3=>?_
 obtain⟨Ad,c,rfl⟩:=Zau h1
 exact h Ad c w' (OwnS.app he hne hA h1 h2 h3) (Zd2 h2) ((Below.refl _ _).grown h2 hbase fun k hk=>(hus.lt k hk).1) h3
abbrev ZbA (pv fv bd cv lm dd kp lv lf sv:Value):Array Value:=#[pv,fv,bd,cv,lm,dd,kp,lv,lf,sv]
def ZmF (g base:Nat)(pv fv bd cv lm dd kp lv lf sv:Value)(l:List Int)(m:Mg)(w:World)(e:Ending)(w':World):Prop:=
 e= .returned (.tuple #[])∧∃sv',Blk w' g 143 (ZbA pv fv bd cv lm dd kp lv lf sv')∧OwnS Ub8 5 base (fun _=>False) w' sv' (l++pkM m)∧(∀k,sv'.ownBlock=some k→sv.ownBlock=some k∨w.heap.size≤k)∧Mod (fun k=>k=g∨sv.ownBlock=some k) w w'
theorem Zh7 (g base:Nat)(pv fv bd cv lm dd kp lv lf sv:Value)(l:List Int)(m:Mg)(v:Value)(w:World)(h:Blk w g 143 (ZbA pv fv bd cv lm dd kp lv lf sv))(hs:OwnS Ub8 5 base (fun _=>False) w sv l)(hb:base≤w.heap.size)
  (hl:l.length≤100000000) (hd:RdS Ub8 (fun k=>k<w.heap.size) w v m.da) (hg:GoodM m):
  Calls Tryz.prog 74 #[.pointer (some ⟨g,0,none⟩),.agg (mgA m v)] w (ZmF g base pv fv bd cv lm dd kp lv lf sv l m w):=by
 have hiM:=zi Tryz.prog 62 10
 obtain⟨Av,cA,rfl,-,-⟩:=hd.shape
 obtain⟨W1,hW1⟩:=zn (w.alloc (.cells (mgA m (.slice Av m.da.length cA)) 62))
 have E1:Ext w W1:=by rw[hW1];exact(Ext.refl _).alloc _
 have P1:=zh (show Blk W1 w.heap.size 62 (mgA m (.slice Av m.da.length cA)) by rw[hW1];exact Blk.new w _ _)
 have HW1:=zh hW1
 have HEN:=zh (Zee m (.slice Av m.da.length cA) W1 ((hd.ext E1).mono (fun k hk _=>hk)) hg)
 have HPU:=zh (fun u w' (h:RI .u8 w' u (encM m))=>Zh6 u m w' h hg)
 have hs1:=E1.size
 have hle:=Za2 hg
 have hpl:=Zcg m
 obtain⟨As,cs,rfl,-,-⟩:=hs.shape
 obtain⟨L,hL⟩:=zm (l.length)
 obtain⟨PL,hPL⟩:=zm ((pkM m).length)
 have HL:=zh hL
 have HPL:=zh hPL
 rw[hL] at h hs hl⊢
 rw[hPL] at hpl
 have hpb:PL≤33796:=by omega
 clear hpl
 have HB:=zh (h.ext E1)
 have HS:=zh (hs.ext E1)
 clear hd hW1 h hs hL hPL
 unfold ZmF
 go_enter Tryz.func74,Tryz.ntmps74
 go_upto_region 1 with fail
 rw[←HW1.out]
 clear HW1
 go_wp2_with(first|(refine wpList_load_row rfl 62 _ rfl _ rfl 62 _ _ _ P1.out Tryz.underlying62 rfl hiM ?_)|fail)
 refine(HEN.out).mono ?_
 rintro e w2 ⟨u,rfl,O2,E2⟩
 have HRI:=zh (RdS.ri O2.rdT)
 go_wp2_with fail
 refine(HPU.out _ _ HRI.out).mono ?_
 rintro e w3 ⟨u3,rfl,O3,E3⟩
 have E12:=E1.trans E2
 have E13:=E12.trans E3
 have hs13:=E13.size
 obtain⟨A3,c3,rfl,-,-⟩:=O3.shape
 have HP3:=zh (O3.rdT.y)
 rw[HPL.out] at HP3⊢
 have HB:=zh (HB.out.ext (E2.trans E3))
 have HS:=zh (HS.out.ext (E2.trans E3))
 have hgS:(Value.slice As L cs).ownBlock≠some g:=by
  obtain⟨us,ho,_⟩:=HS.out
  exact Zal ho HB.out (by decide)
 have q9:=HB.out.cell 9
 simp only[zG] at q9
 have HP3:=zh (show RdY Ub8 (fun _=>False) w3 (.slice A3 PL c3) (pkM m) from HP3.out)
 clear HEN HPU HRI E2 E3 O2 O3 P1
 go_upto_region 5 with fail
 go_wp2_with(at_builtin;refine wpList_appX (e:=Ub8) (base:=base) (B:=fun _=>False) (A:=fun _=>False) rfl (.tmp 26) (.tmp 27) rfl Tryz.underlying43 ZaQ rfl HS.out rfl HP3.out rfl (fun k _ hk=>hk.elim) (N:=L+PL) (by rw[HL.out,HPL.out]) (by unfold maxLen;omega) (by omega) (by omega) ?_;intro A4 c4 w4 o4 M4 L4 X4;have HB4:=zh (HB.out.mod M4 hgS);have f9:=HB4.out.frozen 9;have q94:=HB4.out.cell 9;simp only[zG] at q94)
 go_end0
 have HB5:=zh (show Blk (w4.setCell ⟨g,9,none⟩ (.slice A4 (L+PL) c4)) g 143 (ZbA pv fv bd cv lm dd kp lv lf (.slice A4 (L+PL) c4)) by simpa using HB4.out.set_ 9 (.slice A4 (L+PL) c4))
 have M5:Kb.Mod (fun k=>k=g) w4 (w4.setCell ⟨g,9,none⟩ (.slice A4 (L+PL) c4)):=(Mod.refl _ _).set1 _
 have hg4:(Value.slice A4 (L+PL) c4).ownBlock≠some g:=by
  obtain⟨us,ho,_⟩:=o4
  exact Zal ho HB4.out (by decide)
 exact⟨rfl,_,HB5.out,o4.mod M5 (fun k hk he=>hg4 (by rw[hk,he])) (fun k _ hk=>hk.elim),(fun k hk=>X4.elim (fun h9=>.inl (by rw[←h9];exact hk)) (fun h9=>.inr (by rw[hk] at h9;cases h9;exact hs13))),((Mod.of_ext E13).trans (M4.mono (fun k _ hk=>.inr hk))).trans (M5.mono (fun k _ hk=>.inl hk))⟩
def pks (ms:List Mg):List Int:=(ms.map pkM).flatten
theorem ZmG {ms:List Mg}{j:Nat}{m:Mg}(h:ms[j]?=some m):pks (ms.take (j+1))=pks (ms.take j)++pkM m:=by
 unfold pks
 rw[List.take_add_one,h]
 simp
theorem Zkm (ms:List Mg)(h:∀m∈ms,GoodM m):(pks ms).length≤33796*ms.length:=by
 induction ms with
 |nil=>simp[pks]
 |cons m ms ih=>
  have h1:=ih (fun x hx=>h x (List.mem_cons_of_mem _ hx))
  have h2:=Zcg m
  have h3:=Za2 (h m List.mem_cons_self)
  have h4:pks (m::ms)=pkM m++pks ms:=rfl
  rw[h4,List.length_append,List.length_cons]
  omega
def Zpj (g base:Nat)(pv fv bd cv lm dd kp lv lf sv:Value)(l:List Int)(ms:List Mg)(w:World)(e:Ending)(w':World):Prop:=
 e= .returned (.tuple #[])∧∃sv',Blk w' g 143 (ZbA pv fv bd cv lm dd kp lv lf sv')∧OwnS Ub8 5 base (fun _=>False) w' sv' (l++pks ms)∧(∀k,sv'.ownBlock=some k→sv.ownBlock=some k∨w.heap.size≤k)∧Mod (fun k=>k=g∨sv.ownBlock=some k) w w'
theorem ZmH {A:Nat→Prop}(g base:Nat)(pv fv bd cv lm dd kp lv lf sv ov:Value)(l:List Int)(ms:List Mg)(w:World)(h:Blk w g 143 (ZbA pv fv bd cv lm dd kp lv lf sv))(hs:OwnS Ub8 5 base (fun _=>False) w sv l)(hb:base≤w.heap.size)
  (hl:l.length≤1000000) (hn:ms.length≤1000) (hd:RdS MgR A w ov ms) (hA:∀k,A k→k<w.heap.size∧k≠g∧sv.ownBlock≠some k) (hg:∀m∈ms,GoodM m):
  Calls Tryz.prog 73 #[ov,.func (.func 74) #[.pointer (some ⟨g,0,none⟩)] #[]] w (Zpj g base pv fv bd cv lm dd kp lv lf sv l ms w):=by
 have hiM:=zi Tryz.prog 62 10
 have hiML:∀m v,(Tryz.prog.info? 62).map (·.size)=some (mgA m v).toList.length:=fun _ _=>hiM
 obtain⟨Ad,c,rfl,-,-⟩:=hd.shape
 have H:=zh hd
 have HB:=zh h
 have HS:=zh hs
 have HG:=zh hg
 have HA:=zh hA
 obtain⟨N,hN⟩:=zm (ms.length)
 have HN:=zh hN
 rw[hN] at H hn⊢
 have hgl:=h.lt
 clear hd h hs hg hA hN
 unfold Zpj
 go_enter Tryz.func73,Tryz.ntmps73
 go_upto_region 1 with fail
 go_wp2
 go_loopw [8] (fun i wr=>∃ (j:Nat) (sv':Value),j≤N∧i= .int .i64 j∧Hid (Blk wr g 143 (ZbA pv fv bd cv lm dd kp lv lf sv'))∧Hid (OwnS Ub8 5 base (fun _=>False) wr sv' (l++pks (ms.take j)))∧Hid (Mod (fun k=>k=g∨sv.ownBlock=some k) w wr)∧Hid (∀k,sv'.ownBlock=some k→sv.ownBlock=some k∨w.heap.size≤k)) (fun i _=>N - (intOf i).toNat)
 case atStart=>exact⟨0,sv,Nat.zero_le _,rfl,HB,zh (by simpa [pks] using HS.out),zh (Mod.refl _ _),zh (fun k hk=>.inl hk)⟩
 case round=>
  obtain⟨j,sv',hj,rfl,HBj,HSj,HMj,HOj⟩:=hrel
  by_cases hjn:j<N
  ·have hst:=zh (H.out.mod HMj.out (fun k hk ha he=>he.elim (fun h9=>(HA.out k ha).2.1 h9) (fun h9=>(HA.out k ha).2.2 h9)))
   obtain⟨b,off,m,At,ct,rfl,hra,hd,ht⟩:=Zpc hst.out.y hjn
   have HGm:=zh (HG.out m (List.mem_of_getElem? hd.out))
   have hpl:=Zkm (ms.take j) (fun x hx=>HG.out x (List.mem_of_mem_take hx))
   have htl:(ms.take j).length≤1000:=by rw[List.length_take,HN.out];omega
   have hsz:(l++pks (ms.take j)).length≤100000000:=by rw[List.length_append];omega
   have HSN:=zh (ZmG hd.out)
   have hwr:=HMj.out.size
   go_upto_region 3 with(refine wpList_load_mid rfl 62 _ rfl b (off+j*10) rfl (mgA m (.slice At m.da.length ct)).toList _ hra.out Tryz.underlying62 rfl (hiML _ _) ?_)
   obtain⟨W9,hW9⟩:=zn (wr.alloc (.cells (mgA m (.slice At m.da.length ct)) 62))
   have E9:Ext wr W9:=by rw[hW9];exact(Ext.refl _).alloc _
   have P9:=zh (show Blk W9 wr.heap.size 62 (mgA m (.slice At m.da.length ct)) by rw[hW9];exact Blk.new wr _ _)
   have HSE:=zh (Zh7 g base pv fv bd cv lm dd kp lv lf sv' (l++pks (ms.take j)) m (.slice At m.da.length ct) W9 (HBj.out.ext E9) (HSj.out.ext E9) (by have:=E9.size;omega) hsz ((ht.out.ext E9).mono (fun k hk _=>hk)) HGm.out)
   unfold ZmF at HSE
   rw[←hW9]
   clear hW9 hpl htl hsz hra
   generalize Value.agg #[.int .i64 m.k,.int .u32 m.ch,.int .u32 m.se,.int .u32 m.wi,.int .u32 m.pk,.int .u32 m.co,.string m.nm,.string m.la,.bool m.wa,.slice At m.da.length ct]=z11
   obtain⟨n9,hn9⟩:=zm (wr.heap.size)
   rw[hn9] at P9⊢
   clear hn9
   go_wp2_with(first|(refine wpList_load_row rfl 62 _ rfl _ rfl 62 _ _ _ P9.out Tryz.underlying62 rfl hiM ?_)|fail)
   refine(HSE.out).mono ?_
   rintro e w10 ⟨rfl,sv2,B10,O10,X10,M10⟩
   have HM10:=zh (Mod.transN HMj.out ((Mod.of_ext E9).trans M10) (fun k hk he=>he.elim .inl (fun h9=>(HOj.out k h9).elim .inr (fun h8=>absurd hk (by omega)))))
   have HO10:=zh (show ∀k,sv2.ownBlock=some k→sv.ownBlock=some k∨w.heap.size≤k from fun k hk=>(X10 k hk).elim (fun h9=>HOj.out k h9) (fun h9=>.inr (by have:=E9.size;omega)))
   have HB10:=zh B10
   have HS10:=zh (show OwnS Ub8 5 base (fun _=>False) w10 sv2 (l++pks (ms.take (j+1))) by rw[HSN.out,←List.append_assoc];exact O10)
   clear HSE B10 O10 M10 X10 HBj HSj HMj HOj E9
   go_wp2
   go_roundw
   case rel=>exact⟨j+1,sv2,by omega,by go_num,HB10,HS10,HM10,HO10⟩
   case measure=>simp[intOf];omega
  ·obtain rfl:j=N:=by omega
   have HSN:=zh (show OwnS Ub8 5 base (fun _=>False) wr sv' (l++pks ms) by have h9:=HSj.out;rw[List.take_of_length_le (Nat.le_of_eq HN.out)] at h9;exact h9)
   go_wp2
   go_end0
   exact⟨rfl,sv',HBj.out,HSN.out,HOj.out,HMj.out⟩
abbrev lm4:Value:=.int .u32 4096
def SayP (g base:Nat)(pv fv bd kp lv lf sv:Value)(cs:List Ch)(l:List Int)(m:Mg)(w:World)(e:Ending)(w':World):Prop:=
 e= .returned (.tuple #[])∧∃cv' sv',Blk w' g 143 (ZbA pv fv bd cv' lm4 (.bool false) kp lv lf sv')∧OwnS ChR 156 w.heap.size (fun _=>False) w' cv' cs∧OwnS Ub8 5 base (fun _=>False) w' sv' (l++pkM m)∧
  (∀k,sv'.ownBlock=some k→sv.ownBlock=some k∨w.heap.size≤k)∧Mod (fun k=>k=g∨sv.ownBlock=some k) w w'
theorem Zq2 {A:Nat→Prop}(g base:Nat)(pv fv bd cv kp lv lf sv:Value)(cs:List Ch)(l:List Int)(j:Nat)(c:Ch)(m:Mg)(w:World)(h:Blk w g 143 (ZbA pv fv bd cv lm4 (.bool false) kp lv lf sv))(hc:RdY ChR A w cv cs)(hn:cs.length≤1000)
  (hf:Zl8 cs c.lo=j) (hj:j<cs.length) (hs:OwnS Ub8 5 base (fun _=>False) w sv l) (hb:base≤w.heap.size) (hl:l.length≤100000000) (hda:m.da=[]) (hg:GoodM m):
  Calls Tryz.prog 218 #[.pointer (some ⟨g,0,none⟩),.agg (chL c).toArray,.agg (mgA m (.slice none 0 0)),.int .i64 0] w (SayP g base pv fv bd kp lv lf sv (cs.set j c) l m w):=by
 have hiM:=zi Tryz.prog 62 10
 have hiC:=zi Tryz.prog 156 12
 have hiX:=zi Tryz.prog 72 3
 obtain⟨Ad,cc,rfl,-,-⟩:=hc.shape
 obtain⟨W1,hW1⟩:=zn ((w.alloc (.cells (chL c).toArray 156)).alloc (.cells (mgA m (.slice none 0 0)) 62))
 have E1:Ext w W1:=by rw[hW1];exact((Ext.refl _).alloc _).alloc _
 have B1:=zh (show Blk W1 w.heap.size 156 (chL c).toArray by rw[hW1];exact(Blk.new w _ _).alloc _)
 have B2:=zh (show Blk W1 (w.heap.size+1) 62 (mgA m (.slice none 0 0)) by rw[hW1];exact Blk.at_ _ _ (by simp))
 have HW1:=zh hW1
 have HB:=zh (h.ext E1)
 have HS:=zh (hs.ext E1)
 have HSET:=zh (fun w' (E:Ext W1 w')=>Zpf (A:=A) (.slice Ad cs.length cc) false cs j c w' ((hc.ext E1).ext E) hn hf hj)
 unfold Zpe at HSET
 have hgl:=h.lt
 have hgS:sv.ownBlock≠some g:=by
  obtain⟨us,ho,_⟩:=hs
  exact Zal ho h (by decide)
 have hrow:=zh hs.row
 obtain⟨L,hL⟩:=zm (cs.length)
 have hL2:(cs.set j c).length=L:=by rw[List.length_set];exact hL
 rw[hL] at HB HSET
 obtain⟨n0,hn0⟩:=zm (w.heap.size)
 have HN0:=zh hn0
 rw[hn0] at B1 B2 hgl hb
 have hw1:n0+1<W1.heap.size:=B2.out.lt
 unfold SayP
 clear h hc hs hW1 hL hf hj hn hn0
 go_enter Tryz.func218,Tryz.ntmps218
 go_upto_region 1 with fail
 rw[←HW1.out]
 rw[HN0.out]
 clear HW1
 go_upto_region 2 with fail
 have q3:=HB.out.cell 3
 have q4:=HB.out.cell 4
 have q5:=HB.out.cell 5
 simp only[zG] at q3 q4 q5
 refine Zao 9 (fun w'=>Ext W1 w') (by kernel_rfl) (Ext.drew (Ext.refl _)) (fun hHeld=>?_)
 obtain⟨D,hD⟩:=zn (W1.drew)
 have ED:Ext W1 D:=by rw[hD];exact(Ext.refl _).drew
 rw[←hD] at hHeld⊢
 clear hD
 have hLP:∀w',Ext W1 w'→∀i u,[.slice Ad L cc,.int .u32 4096,.bool false][i]?=some u→w'.cell? ⟨g,3+i,none⟩=some u:=by
  intro w' hSw i u hu
  rcases i with _|_|_|i
  ·simp at hu;rw[←hu];exact Zaa hSw q3
  ·simp at hu;rw[←hu];exact Zaa hSw q4
  ·simp at hu;rw[←hu];exact Zaa hSw q5
  ·simp at hu
 refine zk 0 ?_
 refine zk 1 ?_
 refine zk 2 ?_
 refine zk 3 ?_
 (refine ZaJ (i:=4) (v:=.agg (muxA (.slice Ad L cc) false)) rfl (by kernel_rfl) (by kernel_rfl) (by kernel_rfl) (by kernel_rfl) (fun _ _ _ h=>h) (yieldsIf_load_mid (by rfl) 72 _ rfl _ _ rfl [.slice Ad L cc,.int .u32 4096,.bool false] _ (fun w' hSw=>(fun i u hu=>hLP w' hSw i u hu)) Tryz.underlying72 rfl hiX) (by assumption) ?_;(try simp only[zP]))
 (refine ZaJ (i:=5) (v:=.agg (chL c).toArray) rfl (by kernel_rfl) (by kernel_rfl) (by kernel_rfl) (by kernel_rfl) (fun _ _ _ h=>h) (Zac (by rfl) 156 _ rfl _ rfl 156 (chL c).toArray _ _ (fun w' hSw=>(B1.out.ext hSw)) Tryz.underlying156 rfl hiC) (by assumption) ?_;(try simp only[zP]))
 refine zy 6 fun K hK=>?_
 go_simp
 refine(HSET.out D ED).mono ?_
 rintro e w2 ⟨A2,c2,rfl,O2,E2⟩
 (try dsimp only)
 have E12:=ED.trans E2
 refine zo hK E12 fun hHeld=>?_
 clear hK K
 (refine zy 7 fun K hK=>?_;go_simp;refine zo hK E12 fun hHeld=>?_;clear hK K)
 refine zk 8 ?_
 have HB2:=zh (HB.out.ext E12)
 have hth:w2.there g 3 3:=fun t ht=>⟨by
  rcases t with _|_|_|t
  ·rw[Zaa E12 q3];rfl
  ·rw[Zaa E12 q4];rfl
  ·rw[Zaa E12 q5];rfl
  ·omega,HB2.out.frozen _⟩
 have B3:=zh (show Blk (w2.setCells g 3 [.slice A2 L c2,.int .u32 4096,.bool false]) g 143 (ZbA pv fv bd (.slice A2 L c2) lm4 (.bool false) kp lv lf sv) from Blk.setCells [.slice A2 L c2,.int .u32 4096,.bool false] 3 w2 _ HB2.out (by simp))
 have M3:=zh (Mod.setCells [.slice A2 L c2,.int .u32 4096,.bool false] 3 w2 w2 (Mod.refl (fun k=>k=g) w2))
 refine Zam (rs:=[9]) (by kernel_rfl) (by simp) ?_
 refine Zaj.last rfl (fun K hK=>?_) Zaj.nil
 rw[if_pos (by rfl)]
 refine wp_store_mid 72 _ _ rfl g 3 (muxA (.slice A2 L c2) false) rfl rfl (by exact hth) hiX (by simp[Value.oneCell']) ?_
 refine hK.out _ _ ?_
 clear hK K
 (try simp only[zP])
 refine Zaw (by kernel_rfl) ?_ _
 have hs12:=E12.size
 have hs01:=E1.size
 have hgr:∀k,(Value.slice A2 L c2).ownBlock=some k→k≠g:=fun k hk he=>by have:=(O2.row k hk).1;have:=ED.size;omega
 have O3:=zh (O2.mod M3.out hgr (fun k _ hk=>hk.elim))
 have HS3:=zh ((HS.out.ext E12).mod M3.out (fun k hk he=>hgS (by rw[hk,he])) (fun k _ hk=>hk.elim))
 have B23:=zh ((B2.out.ext E12).mod M3.out (by omega))
 have M03:=zh (show Kb.Mod (fun k=>k=g) w _ from(Mod.of_ext (E1.trans E12)).trans M3.out)
 obtain⟨w3,hw3⟩:=zn (w2.setCells g 3 [.slice A2 L c2,.int .u32 4096,.bool false])
 rw[←hw3] at B3 O3 HS3 B23 M03
 first|rw[←hw3]|(change Exit.then _ _ _ _ (w2.setCells g 3 [.slice A2 L c2,.int .u32 4096,.bool false]);rw[←hw3])
 have hs03:=M03.out.size
 have HN:=HN0.out
 have HSE:=zh (Zh7 g base pv fv bd (.slice A2 L c2) lm4 (.bool false) kp lv lf sv l m (.slice none 0 0) w3 B3.out HS3.out (by omega) hl (by rw[hda];exact RdS.nil _ _ _) hg)
 unfold ZmF at HSE
 have hbD:w.heap.size≤D.heap.size:=(E1.trans ED).size
 clear hw3 M3 HB HB2 HS HSET B1 O2 hth hLP q3 q4 q5 hHeld E12 E2 ED E1
 go_wp2_with(first|(refine wpList_load_row rfl 62 _ rfl _ rfl 62 _ _ _ B23.out Tryz.underlying62 rfl hiM ?_)|fail)
 refine(HSE.out).mono ?_
 rintro e w4 ⟨rfl,sv2,B4,O4,X4,M4⟩
 go_wp2
 go_end0
 exact⟨rfl,_,sv2,B4,(O3.out.mod M4 (fun k hk he=>he.elim (fun h9=>hgr k hk h9) (fun h9=>by have:=(O3.out.row k hk).1;have:=(hrow.out k h9).2;omega)) (fun k _ hk=>hk.elim)).lower hbD,O4,(fun k hk=>(X4 k hk).elim .inl (fun h9=>.inr (by omega))),(M03.out.mono (fun k _ hk=>.inl hk)).trans M4⟩
theorem Zpk:(Tryz.prog.info? 272).map (fun i=>(i.zero,i.size,i.bytes))=some (some (.pointer none),Zcn.size,8):=by kernel_rfl
structure Ln where
 lo:Int
 sc:List Value
 kid:Int
def lnL (x:Ln):List Value:=.int .u32 x.lo::(x.sc++ [.int .i64 x.kid,.slice none 0 0,.bool false])
def ses0:List Value:=[.bool false,.string ⟨#[]⟩,.int .u32 0,.int .u32 0,.int .u32 0,.int .u32 0,.int .u8 0,.int .u8 0,.int .u8 0,.int .u8 0,.int .u8 0,.int .u8 0,.int .u8 0,.int .u8 0,.int .u8 0,.int .u8 0,.int .u8 0,.int .u8 0,.int .u8 0,.int .u8 0,.int .u8 0,.int .u8 0,.int .u8 0,.int .u8 0,.int .u8 0,.int .u64 0,.int .u32 0,.int .u32 0,.int .i64 0,.int .i64 0,.slice none 0 0,.bool false]
def newL (x:Ev):Ln:=⟨x.ch,ses0,0⟩
def Zkn (g base:Nat)(pv fv bd cv lm dd kp lv lf sv:Value)(bs:List Nat)(x:Ev)(w:World)(e:Ending)(w':World):Prop:=
 e= .returned (.tuple #[])∧∃lv' b,w.heap.size≤b∧Blk w' b 311 (lnL (newL x)).toArray∧Blk w' g 143 (ZbA pv fv bd cv lm dd kp lv' lf sv)∧OwnS Zcn 272 base (fun _=>False) w' lv' (bs++ [b])∧
  (∀k,lv'.ownBlock=some k→lv.ownBlock=some k∨w.heap.size≤k)∧Mod (fun k=>k=g∨lv.ownBlock=some k) w w'
theorem Zi6 (g base:Nat)(pv fv bd cv lm dd kp lv lf sv v:Value)(bs:List Nat)(x:Ev)(w:World)(h:Blk w g 143 (ZbA pv fv bd cv lm dd kp lv lf sv))(hl:OwnS Zcn 272 base (fun _=>False) w lv bs)(hb:base≤w.heap.size)(hn:bs.length≤1000):
  Calls Tryz.prog 150 #[.pointer (some ⟨g,0,none⟩),.agg (evA x v)] w (Zkn g base pv fv bd cv lm dd kp lv lf sv bs x w):=by
 obtain⟨Al,cl,rfl,-,-⟩:=hl.shape
 obtain⟨W1,hW1⟩:=zn (w.alloc (.cells (evA x v) 207))
 have E1:Ext w W1:=by rw[hW1];exact(Ext.refl _).alloc _
 have B1:=zh (show Blk W1 w.heap.size 207 (evA x v) by rw[hW1];exact Blk.new w _ _)
 have HW1:=zh hW1
 have HB:=zh (h.ext E1)
 have HL:=zh (hl.ext E1)
 have hgl:=h.lt
 have hgL:(Value.slice Al bs.length cl).ownBlock≠some g:=by
  obtain⟨us,ho,_⟩:=hl
  exact Zal ho h (by decide)
 obtain⟨L,hL⟩:=zm (bs.length)
 have HLN:=zh hL
 have hrW:=zh (show ∀k,(Value.slice Al bs.length cl).ownBlock=some k→k<w.heap.size from fun k hk=>(hl.row k hk).2)
 rw[hL] at HB HL hgL hn hrW⊢
 have hn0:¬(Value.slice Al L cl).ownBlock=some w.heap.size:=fun h9=>by have:=hrW.out _ h9;omega
 have q7:=HB.out.cell 7
 have q1:=B1.out.cell 1
 simp only[zG] at q7 q1
 have hs01:=E1.size
 unfold Zkn
 clear h hl hW1 hL
 have hgl1:=HB.out.lt
 have hnl1:=B1.out.lt
 go_enter Tryz.func150,Tryz.ntmps150
 go_upto_region 1 with fail
 rw[←HW1.out]
 clear HW1
 refine Zao 13 (fun w'=>Kb.Mod (fun k=>(Value.slice Al L cl).ownBlock=some k) W1 w') (by kernel_rfl) (Mod.of_ext (Ext.drew (Ext.refl _))) (fun hHeld=>?_)
 obtain⟨D,hD⟩:=zn (W1.drew)
 have ED:Ext W1 D:=by rw[hD];exact(Ext.refl _).drew
 rw[←hD] at hHeld⊢
 clear hD
 refine zk 0 ?_
 refine zk 1 ?_
 refine zk 2 ?_
 refine zk 3 ?_
 (refine zl 4 (fun _ h=>(h.cell g 7 hgl1 hgL).trans q7) ?_)
 refine zk 5 ?_
 (refine zl 6 (fun _ h=>(h.cell w.heap.size 1 hnl1 hn0).trans q1) ?_)
 (refine ZaJ (i:=7) (v:=.agg (lnL (newL x)).toArray) rfl (by kernel_rfl) (by kernel_rfl) (by kernel_rfl) (by kernel_rfl) (fun _ _ _ h=>h) (Zae (by rfl) 311 _ rfl (by simp[go_sem];exact(by kernel_rfl))) (by assumption) ?_;(try simp only[zP]))
 refine zy 8 fun K hK=>?_
 go_simp
 have HX:=zh (Blk.new D 311 (lnL (newL x)).toArray)
 have EX:Ext D (D.alloc (.cells (lnL (newL x)).toArray 311)):=(Ext.refl _).alloc _
 refine zo hK (Mod.of_ext (ED.trans EX)) fun hHeld=>?_
 clear hK K
 have hds:W1.heap.size≤D.heap.size:=ED.size
 have HB4:=zh ((HB.out.ext ED).ext EX)
 have HL4:=zh ((HL.out.ext ED).ext EX)
 have E4:=ED.trans EX
 have hx4:=HX.out.lt
 generalize D.alloc (.cells (lnL (newL x)).toArray 311)=u4 at*
 obtain⟨b,hb9⟩:=zm (D.heap.size)
 rw[hb9] at HX hds hx4⊢
 clear EX ED hb9
 refine zy 9 fun K hK=>?_
 go_simp
 have HY:=zh (Blk.new u4 272 #[.pointer (some ⟨b,0,none⟩)])
 have EY:Ext u4 (u4.alloc (.cells #[.pointer (some ⟨b,0,none⟩)] 272)):=(Ext.refl _).alloc _
 refine zo hK (Mod.of_ext (E4.trans EY)) fun hHeld=>?_
 clear hK K
 have HB5:=zh (HB4.out.ext EY)
 have HL5:=zh (HL4.out.ext EY)
 have HX5:=zh (HX.out.ext EY)
 have E5:=E4.trans EY
 have hs4:=E4.size
 have hs45:=EY.size
 generalize u4.alloc (.cells #[.pointer (some ⟨b,0,none⟩)] 272)=u5 at*
 generalize u4.heap.size=nY at*
 clear EY E4 HB4 HL4 HX
 refine zy 10 fun K hK=>?_
 refine ZaE (e:=Zcn) (base:=base) (B:=fun _=>False) (A:=fun _=>False) rfl (.tmp 8) (.tmp 13) rfl Tryz.underlying141 Zpk rfl HL5.out rfl (RdY.singleB (e:=Zcn) (cs:=[.pointer (some ⟨b,0,none⟩)]) (d:=b) rfl HY.out) rfl (fun _ _ h=>h.elim) (N:=L+1) (by rw[HLN.out];rfl) (by unfold maxLen;omega) (by omega) (by omega) ?_
 intro A9 c9 u6 o9 M9 X9
 have M69:=(Mod.of_ext E5).trans M9
 refine zo hK M69 fun hHeld=>?_
 clear hK K
 have HB6:=zh (HB5.out.mod M9 hgL)
 have HX6:=zh (HX5.out.mod M9 (fun he=>by have:=hrW.out _ he;omega))
 have o9:=zh o9
 have hs56:=M9.size
 have hs5:=E5.size
 clear M9 HY HB5 HL5 HX5 E5
 (refine zy 11 fun K hK=>?_;go_simp;refine zo hK M69 fun hHeld=>?_;clear hK K)
 refine zk 12 ?_
 have q7:=HB6.out.cell 7
 have f7:=HB6.out.frozen 7
 simp only[List.getElem?_toArray,List.getElem?_cons_succ,List.getElem?_cons_zero] at q7
 (refine Zam (rs:=[13]) (by kernel_rfl) (by simp) ?_;refine Zaj.last rfl (fun K hK=>?_) Zaj.nil;go_simp;refine hK.out _ _ ?_;clear hK K;(try simp only[zP]))
 refine Zaw (by kernel_rfl) ?_ _
 go_end0
 have M7:Kb.Mod (fun k=>k=g) u6 (u6.setCell ⟨g,7,none⟩ (.slice A9 (L+1) c9)):=(Mod.refl _ _).set1 _
 have hg9:(Value.slice A9 (L+1) c9).ownBlock≠some g:=by
  obtain⟨us,ho,_⟩:=o9.out
  exact Zal ho HB6.out (by decide)
 refine⟨rfl,_,b,by omega,HX6.out.mod M7 (by omega),by simpa using HB6.out.set_ 7 (.slice A9 (L+1) c9),o9.out.mod M7 (fun k hk he=>hg9 (by rw[hk,he])) (fun k _ hk=>hk.elim),(fun k hk=>X9.elim (fun h9=>.inl (by rw[←h9];exact hk)) (fun h9=>.inr (by rw[hk] at h9;cases h9;omega))),?_⟩
 exact((Mod.of_ext E1).trans (M69.mono (fun k _ hk=>.inr hk))).trans (M7.mono (fun k _ hk=>.inl hk))
structure LnsAt (w:World)(bs:List Nat)(ls:List Ln):Prop where
 len:bs.length=ls.length
 blk:∀ (j:Nat) b x,bs[j]?=some b→ls[j]?=some x→Blk w b 311 (lnL x).toArray
 lo:∀ (j:Nat) x,ls[j]?=some x→x.lo=(j:Int)
 sc:∀x∈ls,x.sc.length=32
theorem LnsAt.keep {w w':World}{bs:List Nat}{ls:List Ln}(h:LnsAt w bs ls)(hk:∀b∈bs,w'.heap[b]?=w.heap[b]?):LnsAt w' bs ls:=
 ⟨h.len,fun j b x h1 h2=>by
  have h9:=h.blk j b x h1 h2
  unfold Blk at*
  rw[hk b (List.mem_of_getElem? h1)]
  exact h9,h.lo,h.sc⟩
theorem LnsAt.ext {w w':World}{bs:List Nat}{ls:List Ln}(h:LnsAt w bs ls)(E:Ext w w'):LnsAt w' bs ls:=
 h.keep (fun b hb=>by
  obtain⟨j,hj,rfl⟩:=List.getElem_of_mem hb
  exact E.block _ (h.blk j _ (ls[j]'(by rw[←h.len];exact hj)) (List.getElem?_eq_getElem hj) (List.getElem?_eq_getElem _)).lt)
theorem ZmI {A:Nat→Prop}(g:Nat)(pv fv bd cv lm dd kp lv lf sv:Value)(bs:List Nat)(ls:List Ln)(j b:Nat)(w:World)(h:Blk w g 143 (ZbA pv fv bd cv lm dd kp lv lf sv))(hr:RdY Zcn A w lv bs)(hl:LnsAt w bs ls)(hn:bs.length≤1000)(hj:bs[j]?=some b):
  Calls Tryz.prog 217 #[.pointer (some ⟨g,0,none⟩),.int .u32 j] w fun e w'=>e= .returned (.pointer (some ⟨b,0,none⟩))∧Ext w w':=by
 obtain⟨Al,cl,rfl,-,-⟩:=hr.shape
 have HB:=zh h
 have HR:=zh hr
 have HL:=zh hl
 have HJ:=zh hj
 obtain⟨L,hL⟩:=zm (bs.length)
 have HLN:=zh hL
 have hjl:=(List.getElem?_eq_some_iff.1 hj).1
 rw[hL] at HB HR hn hjl
 have q7:=HB.out.cell 7
 simp only[zG] at q7
 clear h hr hl hj hL
 go_enter Tryz.func217,Tryz.ntmps217
 go_upto_region 2 with fail
 go_wp2
 go_loopw [12] (fun i wr=>∃m:Nat,m≤j∧i= .int .i64 m∧Hid (Ext w wr)) (fun i _=>L - (intOf i).toNat)
 case atStart=>exact⟨0,Nat.zero_le _,rfl,zh (Ext.refl _)⟩
 case round=>
  obtain⟨m,hm,rfl,hE⟩:=hrel
  have hml:m<L:=by omega
  obtain⟨b0,off,u,d,rfl,hcell,hd,hrel2⟩:=(HR.out.ext hE.out).at1 rfl hml
  obtain rfl:u= .pointer (some ⟨d,0,none⟩):=by
   have h9: [u]=[.pointer (some ⟨d,0,none⟩)]:=hrel2.out
   simpa using h9
  have hml2:m<ls.length:=by rw[←HL.out.len,HLN.out];omega
  have hBd:=(HL.out.blk m d _ hd.out (List.getElem?_eq_getElem hml2)).ext hE.out
  have hlo:=HL.out.lo m _ (List.getElem?_eq_getElem hml2)
  have k0:=hBd.cell 0
  simp only[List.getElem?_toArray,lnL,List.getElem?_cons_zero,hlo] at k0
  by_cases hmj:m<j
  ·have hne:¬(m:Int)=(j:Int):=by omega
   clear hd hrel2 hBd hlo
   go_wp2
   go_roundw
   case rel=>exact⟨m+1,by omega,by go_num,hE⟩
   case measure=>simp[intOf];omega
  ·obtain rfl:m=j:=by omega
   obtain rfl:b=d:=Option.some.inj (HJ.out.symm.trans hd.out)
   clear hd hrel2 hBd hlo
   go_wp2
   go_ret
   exact⟨rfl,hE.out⟩
theorem Zi7 {A:Nat→Prop}(g b:Nat)(pv fv bd cv kp lv lf sv:Value)(cs:List Ch)(x:Ln)(j:Nat)(c:Ch)(w:World)(h:Blk w g 143 (ZbA pv fv bd cv lm4 (.bool false) kp lv lf sv))(hc:RdY ChR A w cv cs)
  (hl:Blk w b 311 (lnL x).toArray) (hx:x.lo=(j:Int)) (hlo:Zg7 cs) (hj:cs[j]?=some c):
  Calls Tryz.prog 220 #[.pointer (some ⟨g,0,none⟩),.pointer (some ⟨b,0,none⟩)] w fun e w'=>e= .returned (.agg (chL c).toArray)∧Ext w w':=by
 have hiC:=zi Tryz.prog 156 12
 have hiX:=zi Tryz.prog 72 3
 obtain⟨Ad,cc,rfl,-,-⟩:=hc.shape
 obtain⟨W1,hW1⟩:=zn (w.alloc (.cells ch0 156))
 have E1:Ext w W1:=by rw[hW1];exact(Ext.refl _).alloc _
 have B1:=zh (show Blk W1 w.heap.size 156 ch0 by rw[hW1];exact Blk.new w _ _)
 have HW1:=zh hW1
 have HB:=zh (h.ext E1)
 have HL:=zh (hl.ext E1)
 have HG:=zh (fun w' (E:Ext W1 w')=>Zpd (A:=A) (.slice Ad cs.length cc) false cs (j:Int) j c w' ((hc.ext E1).ext E) (hlo.fnd hj) hj)
 obtain⟨L,hL⟩:=zm (cs.length)
 rw[hL] at HB HG
 have q3:=HB.out.cell 3
 have q4:=HB.out.cell 4
 have q5:=HB.out.cell 5
 have k0:=HL.out.cell 0
 simp only[List.getElem?_toArray,lnL,List.getElem?_cons_zero,List.getElem?_cons_succ,hx] at q3 q4 q5 k0
 have hw1:w.heap.size<W1.heap.size:=B1.out.lt
 clear h hc hl hW1 hL hj hlo
 go_enter Tryz.func220,Tryz.ntmps220
 go_upto_region 1 with fail
 rw[←HW1.out]
 clear HW1
 obtain⟨n0,hn0⟩:=zm (w.heap.size)
 have HN0:=zh hn0
 rw[hn0] at B1 hw1⊢
 clear hn0
 have hLP:∀w',Ext W1 w'→∀i u,[.slice Ad L cc,.int .u32 4096,.bool false][i]?=some u→w'.cell? ⟨g,3+i,none⟩=some u:=by
  intro w' hSw i u hu
  rcases i with _|_|_|i
  ·simp at hu;rw[←hu];exact Zaa hSw q3
  ·simp at hu;rw[←hu];exact Zaa hSw q4
  ·simp at hu;rw[←hu];exact Zaa hSw q5
  ·simp at hu
 go_cut [5] (fun s5 wx=>∃n5:Nat,s5= .pointer (some ⟨n5,0,none⟩)∧W1.heap.size≤n5∧Hid (Blk wx n5 156 (chL c).toArray)∧Ext W1 wx)
 case first=>
  refine zg (fun w'=>Ext W1 w') (Ext.drew (Ext.refl _)) fun hHeld=>?_
  obtain⟨D,hD⟩:=zn (W1.drew)
  have ED:Ext W1 D:=by rw[hD];exact(Ext.refl _).drew
  rw[←hD] at hHeld⊢
  clear hD
  have hs2:=ED.size
  refine zr 0 ?_
  refine zr 1 ?_
  refine zr 2 ?_
  (refine zU 3 rfl (yieldsIf_load_mid (by rfl) 72 _ rfl _ _ rfl [.slice Ad L cc,.int .u32 4096,.bool false] _ (fun w' hSw=>(fun i u hu=>hLP w' hSw i u hu)) Tryz.underlying72 rfl hiX) ?_)
  refine zr 4 ?_
  refine zr 5 ?_
  refine zr 6 ?_
  refine zv 7 k0 ?_
  refine wpAnyH_ready (rs:=[8,12]) (by kernel_rfl) (by simp) ?_
  refine AllReadyH.cons rfl (fun K hK=>?_) (AllReadyH.cons rfl (fun K hK=>?_) AllReadyH.nil)
  ·go_simp
   refine(HG.out D ED).mono ?_
   rintro e u1 ⟨rfl,F1⟩
   (try dsimp only)
   refine zo hK (ED.trans F1) fun hHeld=>?_
   clear hK K
   refine zr 9 ?_
   refine zr 10 ?_
   refine zr 11 ?_
   have B5:=zh (Blk.new u1 156 ch0)
   have EU:=(ED.trans F1).alloc (.cells ch0 156)
   have hs3:=(ED.trans F1).size
   (refine za 12 EU fun hHeld=>?_)
   obtain⟨n5,hn5⟩:=zm (u1.heap.size)
   rw[hn5] at B5 hs3⊢
   generalize u1.alloc (.cells ch0 156)=u2 at*
   (refine zw 13 fun K hK=>?_;rw[if_pos (by rfl)];refine Zag 156 _ _ rfl (n5) _ rfl rfl 156 _ B5.out hiC (by rfl) (by simp[Value.oneCell']) ?_;intro u3 B6 M6;refine zo hK (Mod.toExt EU M6 (fun k hk he=>by omega)) fun hHeld=>?_;clear hK K)
   refine zr 14 ?_
   refine zd ?_
   go_wp2_with fail
   go_meet
   exact⟨n5,rfl,hs3,zh B6,hHeld⟩
  ·go_simp
   have B5:=zh (Blk.new D 156 ch0)
   have EU:=ED.alloc (.cells ch0 156)
   refine zo hK EU fun hHeld=>?_
   clear hK K
   obtain⟨n5,hn5⟩:=zm (D.heap.size)
   rw[hn5] at B5 hs2⊢
   generalize D.alloc (.cells ch0 156)=u2 at*
   refine zw 8 fun K hK=>?_
   go_simp
   refine(HG.out u2 EU).mono ?_
   rintro e u1 ⟨rfl,F1⟩
   (try dsimp only)
   refine zo hK (EU.trans F1) fun hHeld=>?_
   clear hK K
   refine zr 9 ?_
   refine zr 10 ?_
   refine zr 11 ?_
   (refine zw 13 fun K hK=>?_;rw[if_pos (by rfl)];refine Zag 156 _ _ rfl (n5) _ rfl rfl 156 _ (B5.out.ext F1) hiC (by rfl) (by simp[Value.oneCell']) ?_;intro u3 B6 M6;refine zo hK (Mod.toExt (EU.trans F1) M6 (fun k hk he=>by omega)) fun hHeld=>?_;clear hK K)
   refine zr 14 ?_
   refine zd ?_
   go_wp2_with fail
   go_meet
   exact⟨n5,rfl,hs2,zh B6,hHeld⟩
 case rest=>
  obtain⟨n5,rfl,hn5,B5,E25⟩:=hcut
  obtain⟨W5,hW5⟩:=zn (wc)
  subst hW5
  have B15:=zh (B1.out.ext E25)
  have E05:=E1.trans E25
  have hN:=HN0.out
  clear HG hLP HB HL q3 q4 q5 k0 E25 B1
  go_wp2_with(first|(refine wpList_load_row rfl 156 _ rfl _ rfl 156 _ _ _ B5.out Tryz.underlying156 rfl hiC ?_)|(refine wpList_store_M rfl 156 _ _ rfl n0 _ rfl rfl 156 _ B15.out hiC rfl (by simp[Value.oneCell']) ?_;intro w4 P4 M4))
  refine bodyPost_ret_by (results_cell_row Tryz.results220 _ _ n0 156 _ _ _ rfl P4 Tryz.underlying156 rfl hiC) rfl ?_
  exact⟨rfl,Mod.toExt E05 M4 (fun k hk he=>by omega)⟩
end Go.Proofs.YtmmhcllibpmfnaaGreatDoor
namespace Go.Proofs.YtmmhcllibpmfnaaGreatDoor.Tb
open Go.RowKit Go.Kb
structure Pr where
 (pid parent group session state prog pc pending mask:Int)
 acts:List Int
 status:Int
 told:Bool
deriving DecidableEq
def Pr.cells (p:Pr):List Value:=
 [.int .i64 p.pid,.int .i64 p.parent,.int .i64 p.group,.int .i64 p.session,.int .i64 p.state,.int .i64 p.prog,.int .i64 p.pc,.int .u64 p.pending,.int .u64 p.mask]++ (p.acts.map (Value.int .i64)++ [.int .i64 p.status,.bool p.told])
def Pr.ok (p:Pr):Prop:=p.acts.length=32
theorem Pr.len {p:Pr}(h:p.ok):p.cells.length=43:=by
 unfold Pr.ok at h
 simp[Pr.cells,h]
def Rp:Rep Pr where
 size:=43
 pos:=by decide
 rel:=fun _ _ cs d=>cs=d.cells∧d.ok
 len:=fun h=>by rw[h.1];exact Pr.len h.2
 one:=fun h u hu=>by
  rw[h.1] at hu
  simp only[Pr.cells,List.mem_append,List.mem_cons,List.not_mem_nil,or_false,List.mem_map] at hu
  rcases hu with hu|⟨x,_,rfl⟩|hu|hu
  ·rcases hu with rfl|rfl|rfl|rfl|rfl|rfl|rfl|rfl|rfl<;>rfl
  ·rfl
  ·rw[hu];rfl
  ·rw[hu];rfl
 keep:=fun h _=>h
def Pr.arr (p:Pr):Array Value:=p.cells.toArray
theorem Pr.size {p:Pr}(h:p.ok):p.arr.size=43:=by unfold Pr.arr;simp[Pr.len h]
structure PrAt (w:World)(b o:Nat)(p:Pr):Prop where
 c0:w.cell? ⟨b,o,none⟩=some (.int .i64 p.pid)
 c1:w.cell? ⟨b,o+1,none⟩=some (.int .i64 p.parent)
 c2:w.cell? ⟨b,o+2,none⟩=some (.int .i64 p.group)
 c3:w.cell? ⟨b,o+3,none⟩=some (.int .i64 p.session)
 c4:w.cell? ⟨b,o+4,none⟩=some (.int .i64 p.state)
 c5:w.cell? ⟨b,o+5,none⟩=some (.int .i64 p.prog)
 c6:w.cell? ⟨b,o+6,none⟩=some (.int .i64 p.pc)
 c7:w.cell? ⟨b,o+7,none⟩=some (.int .u64 p.pending)
 c8:w.cell? ⟨b,o+8,none⟩=some (.int .u64 p.mask)
 ca:∀ (i:Nat) x,p.acts[i]?=some x→w.cell? ⟨b,o+9+i,none⟩=some (.int .i64 x)
 c41:w.cell? ⟨b,o+41,none⟩=some (.int .i64 p.status)
 c42:w.cell? ⟨b,o+42,none⟩=some (.bool p.told)
theorem Zko {w:World}{b o:Nat}{p:Pr}(hp:p.ok)(h:∀i u,p.cells[i]?=some u→w.cell? ⟨b,o+i,none⟩=some u):PrAt w b o p:=by
 unfold Pr.ok at hp
 have hb:∀i u,(p.acts.map (Value.int .i64)++ [.int .i64 p.status,.bool p.told])[i]?=some u→w.cell? ⟨b,o+9+i,none⟩=some u:=fun i u hu=>by
  rw[Nat.add_assoc]
  refine h (9+i) u ?_
  unfold Pr.cells
  rw[List.getElem?_append_right (by simp)]
  simpa using hu
 refine⟨h 0 _ rfl,h 1 _ rfl,h 2 _ rfl,h 3 _ rfl,h 4 _ rfl,h 5 _ rfl,h 6 _ rfl,h 7 _ rfl,h 8 _ rfl,fun i x hx=>hb i _ ?_,?_,?_⟩
 ·have hlt:=(List.getElem?_eq_some_iff.1 hx).1
  rw[List.getElem?_append_left (by simpa using hlt),List.getElem?_map,hx];rfl
 ·have:=hb 32 (.int .i64 p.status) (by rw[List.getElem?_append_right (by simp[hp])];simp[hp])
  simpa [Nat.add_assoc] using this
 ·have:=hb 33 (.bool p.told) (by rw[List.getElem?_append_right (by simp[hp])];simp[hp])
  simpa [Nat.add_assoc] using this
theorem PrAt.ext {w w':World}{b o:Nat}{p:Pr}(h:PrAt w b o p)(hE:Ext w w'):PrAt w' b o p:=
 ⟨Zaa hE h.c0,Zaa hE h.c1,Zaa hE h.c2,Zaa hE h.c3,Zaa hE h.c4,Zaa hE h.c5,Zaa hE h.c6,Zaa hE h.c7,Zaa hE h.c8,fun i x hx=>Zaa hE (h.ca i x hx),Zaa hE h.c41,Zaa hE h.c42⟩
theorem Zaq {w:World}{g:Nat}{t:TypeId}{p:Pr}(hp:p.ok)(h:Blk w g t p.arr):PrAt w g 0 p:=Zko hp fun i u hu=>by
 rw[Nat.zero_add,h.cell i]
 unfold Pr.arr
 simpa using hu
theorem Zg9 {A:Nat→Prop}{w:World}{Ad:Option Addr}{n c:Nat}{ds:List Pr}(h:RdY Rp A w (.slice Ad n c) ds){j:Nat}(hj:j<n):
  ∃b off p,Ad=some ⟨b,off,none⟩∧Hid (ds[j]?=some p)∧p.ok∧Hid (∀i u,p.cells[i]?=some u→w.cell? ⟨b,off+j*43+i,none⟩=some u):=by
 obtain⟨Ad',c',hv,_⟩:=h.shape
 simp only[Value.slice.injEq] at hv
 obtain⟨rfl,rfl,rfl⟩:=hv
 obtain⟨b,off,c,d,cs,hv,hd,hr,hl,hc⟩:=h.cells hj
 simp only[Value.slice.injEq] at hv
 obtain⟨rfl,hok⟩:=hr.out
 exact⟨b,off,d,hv.1,hd,hok,hc⟩
def ZgW (k:Nat)(bs fs:Array Value)(f:Pr→Bool)(w:World):Prop:=
 (∀args w',(callFunc k args).run Tryz.prog w'= .ok (.enter k args) w')∧∀p w',p.ok→Ext w w'→Calls Tryz.prog k (bs.push (.agg p.cells.toArray)++fs) w' fun e w''=>e= .returned (.bool (f p))∧Ext w' w''
theorem ZgW.ext {k:Nat}{bs fs:Array Value}{f:Pr→Bool}{w w':World}(h:ZgW k bs fs f w)(hE:Ext w w'):ZgW k bs fs f w':=⟨h.1,fun p w2 hp h2=>h.2 p w2 hp (hE.trans h2)⟩
theorem i43:(Tryz.prog.info? 234).map (·.size)=some 43:=by kernel_rfl
theorem ZbI {p:Pr}(h:p.ok):(Tryz.prog.info? 234).map (·.size)=some p.cells.length:=by rw[Pr.len h];exact i43
def idxL (f:Pr→Bool)(l:List Pr):Int:=match l.findIdx? f with|some i=>i|none=> -1
theorem Zfm {f:Pr→Bool}{l:List Pr}(h:∀p∈l,f p=false):idxL f l= -1:=by
 unfold idxL
 rw[List.findIdx?_eq_none_iff.2 h]
theorem ZdO {f:Pr→Bool}{l:List Pr}{m:Nat}{p:Pr}(hp:l[m]?=some p)(h:∀q∈l.take m,f q=false)(hf:f p=true):idxL f l=m:=by
 unfold idxL
 have:l.findIdx? f=some m:=by
  rw[List.findIdx?_eq_some_iff_getElem]
  obtain⟨hlt,rfl⟩:=List.getElem?_eq_some_iff.1 hp
  refine⟨hlt,hf,fun j hj=>?_⟩
  have:=h (l[j]'(by omega)) (by rw[List.mem_take_iff_getElem];exact⟨j,by omega,rfl⟩)
  simp[this]
 rw[this]
theorem Zcr {A:Nat→Prop}(k:Nat)(bs fs:Array Value)(f:Pr→Bool)(v:Value)(l:List Pr)(w:World)(h:RdY Rp A w v l)(hf:ZgW k bs fs f w):
  Calls Tryz.prog 399 #[v,.func (.func k) bs fs] w fun e w'=>e= .returned (.int .i64 (idxL f l))∧Ext w w':=by
 obtain⟨Ad,c,rfl,hc1,hc2⟩:=h.shape
 have H:=zh (h.mono (B:=fun _=>True) fun _ _ _=>trivial)
 have HF:=zh hf
 obtain⟨n,hn⟩:=zm (l.length)
 rw[hn] at H hc1⊢
 have HN:=zh hn
 clear h hf hn
 go_enter Tryz.func399,Tryz.ntmps399
 go_wp2
 go_loopw [8] (fun i wr=>∃m:Nat,m≤n∧i= .int .i64 m∧Hid (∀p∈l.take m,f p=false)∧Ext w wr) (fun i _=>n - (intOf i).toNat)
 case atStart=>exact⟨0,Nat.zero_le _,rfl,zh (by simp),zX⟩
 case round=>
  obtain⟨m,hm,rfl,HD,hE⟩:=hrel
  by_cases hlt:m<n
  ·obtain⟨b,off,p,rfl,hd,hok,hcell⟩:=Zg9 (H.out.ext hE) hlt
   have HA:=zh (HF.out.2 p wr hok hE)
   have HK:=HF.out.1
   have hx:=hd.out
   cases hp:f p
   ·have HP:=zh hp
    clear hp hx
    go_wp2_with(first
     |(refine wpList_load_mid rfl 234 _ rfl b (off+m*43) rfl p.cells _ hcell.out Tryz.underlying234 rfl (ZbI hok) ?_)
     |(refine HA.out.mono ?_;rintro e w2 ⟨rfl,E2⟩;rw[HP.out]))
    go_roundw
    case rel=>exact⟨m+1,by omega,by go_num,zh (by
     rw[List.take_add_one,hd.out]
     intro q hq
     rcases List.mem_append.1 hq with h|h
     ·exact HD.out q h
     ·simp at h;rw[h];exact HP.out),zX⟩
    case measure=>simp[intOf];omega
   ·have HP:=zh hp
    clear hp hx
    go_wp2_with(first
     |(refine wpList_load_mid rfl 234 _ rfl b (off+m*43) rfl p.cells _ hcell.out Tryz.underlying234 rfl (ZbI hok) ?_)
     |(refine HA.out.mono ?_;rintro e w2 ⟨rfl,E2⟩;rw[HP.out]))
    go_ret
    exact⟨by rw[ZdO hd.out HD.out HP.out];rfl,zX⟩
  ·go_wp2
   go_ret
   obtain rfl:m=l.length:=by have:=HN.out;omega
   have:=HD.out
   rw[List.take_length] at this
   exact⟨by rw[Zfm this];rfl,zX⟩
theorem Zh8 (w:World)(t:TypeId){p:Pr}(h:p.ok):PrAt (w.alloc (.cells p.cells.toArray t)) w.heap.size 0 p:=Zaq h (Blk.new w t p.arr)
theorem Zkp (args:Array Value)(w:World):(callFunc 401 args).run Tryz.prog w= .ok (.enter 401 args) w:=by kernel_rfl
theorem Zpl (pid:Int)(n:Nat)(p:Pr)(w:World)(hp:p.ok)(h:Blk w n 3 #[.int .i64 pid]):
  Calls Tryz.prog 401 #[.agg p.cells.toArray,.pointer (some ⟨n,0,none⟩)] w fun e w'=>e= .returned (.bool (p.pid==pid))∧Ext w w':=by
 have c0:=(Zh8 w 234 hp).c0
 have c1:=(h.alloc (.cells p.cells.toArray 234)).cell0
 generalize p.cells.toArray=cs at c0 c1⊢
 clear hp h
 go_enter Tryz.func401,Tryz.ntmps401
 go_wp2
 go_ret
 exact⟨rfl,zX⟩
theorem Zpm {pid:Int}{n:Nat}{w:World}(h:Blk w n 3 #[.int .i64 pid]):ZgW 401 #[] #[.pointer (some ⟨n,0,none⟩)] (fun p=>p.pid==pid) w:=
 ⟨Zkp,fun p w' hp hE=>Zpl pid n p w' hp (h.ext hE)⟩
theorem Zds (pid:Int)(w:World):Calls Tryz.prog 380 #[.int .i64 pid] w fun e w'=>∃n,e= .returned (.func (.func 401) #[] #[.pointer (some ⟨n,0,none⟩)])∧ZgW 401 #[] #[.pointer (some ⟨n,0,none⟩)] (fun p=>p.pid==pid) w'∧Ext w w':=by
 go_enter Tryz.func380,Tryz.ntmps380
 go_wp2
 go_ret
 exact⟨_,rfl,Zpm (Blk.new _ _ _),zX⟩
def Zgc (p:Pr):Bool:=p.state !=3
theorem Zgd (args:Array Value)(w:World):(callFunc 376 args).run Tryz.prog w= .ok (.enter 376 args) w:=by kernel_rfl
theorem Zcs (p:Pr)(w:World)(hp:p.ok):
  Calls Tryz.prog 376 #[.agg p.cells.toArray] w fun e w'=>e= .returned (.bool (Zgc p))∧Ext w w':=by
 have c4:=(Zh8 w 234 hp).c4
 unfold Zgc
 generalize p.cells.toArray=cs at c4⊢
 clear hp
 go_enter Tryz.func376,Tryz.ntmps376
 go_wp2
 go_ret
 exact⟨rfl,zX⟩
theorem Zi8 (w:World):ZgW 376 #[] #[] Zgc w:=⟨Zgd,fun p w' hp _=>Zcs p w' hp⟩
theorem Zi9 (args:Array Value)(w:World):(callFunc 400 args).run Tryz.prog w= .ok (.enter 400 args) w:=by kernel_rfl
structure Two2 (w:World)(n:Nat)(k1:Nat)(b1 f1:Array Value)(k2:Nat)(b2 f2:Array Value):Prop where
 at_:∃b,Blk w n 475 #[.slice (some ⟨b,0,none⟩) 2 2]∧Blk w b 455 #[.func (.func k1) b1 f1,.func (.func k2) b2 f2]
theorem ZmJ {k1 k2:Nat}{b1 f1 b2 f2:Array Value}{t1 t2:Pr→Bool}(n:Nat)(p:Pr)(w:World)(hp:p.ok)(h:Two2 w n k1 b1 f1 k2 b2 f2)(h1:ZgW k1 b1 f1 t1 w)(h2:ZgW k2 b2 f2 t2 w):
  Calls Tryz.prog 400 #[.agg p.cells.toArray,.pointer (some ⟨n,0,none⟩)] w fun e w'=>e= .returned (.bool (t1 p&&t2 p))∧Ext w w':=by
 obtain⟨b,hn,hb⟩:=h
 have e1:=h1.1
 have e2:=h2.1
 have H1:=zh fun w' hE=>h1.2 p w' hp hE
 have H2:=zh fun w' hE=>h2.2 p w' hp hE
 have hi:(Tryz.prog.info? 234).map (·.size)=some p.cells.toArray.size:=by rw[List.size_toArray];exact ZbI hp
 have hT:=zh (Blk.new w 234 p.cells.toArray)
 have n0:=fun o=>(hn.alloc o).cell0
 have HB:=zh hb
 generalize p.cells.toArray=cs at H1 H2 hi hT⊢
 generalize t1 p=r1 at H1⊢
 generalize t2 p=r2 at H2⊢
 clear h1 h2 hn hb hp
 go_enter Tryz.func400,Tryz.ntmps400
 go_wp2
 go_loopw [8] (fun i wr=>∃m:Nat,m≤2∧i= .int .i64 m∧Hid (m=0∨r1=true)∧Hid (m≤1∨r2=true)∧Hid (Blk wr w.heap.size 234 cs)∧Ext w wr) (fun i _=>2 - (intOf i).toNat)
 case atStart=>exact⟨0,by omega,rfl,zh (.inl rfl),zh (.inl (by omega)),hT,zX⟩
 case round=>
  obtain⟨m,hm,rfl,hr1,hr2,hT,hE⟩:=hrel
  have hb0:=(HB.out.ext hE).cell 0
  have hb1:=(HB.out.ext hE).cell 1
  by_cases hlt:m<2
  ·obtain rfl|rfl:m=0∨m=1:=by omega
   ·have hb0:wr.cell? ⟨b,0,none⟩=some (.func (.func k1) b1 f1):=hb0
    cases r1
    ·go_wp2_with(first|(refine wpList_load_row rfl 234 _ rfl _ rfl 234 _ _ _ hT.out Tryz.underlying234 rfl hi ?_)|(refine(H1.out _ zX).mono ?_;rintro e w2 ⟨rfl,E2⟩))
     go_ret
     exact⟨rfl,zX⟩
    ·go_wp2_with(first|(refine wpList_load_row rfl 234 _ rfl _ rfl 234 _ _ _ hT.out Tryz.underlying234 rfl hi ?_)|(refine(H1.out _ zX).mono ?_;rintro e w2 ⟨rfl,E2⟩))
     go_roundw
     case rel=>exact⟨1,by omega,by go_num,zh (.inr (by simp)),zh (.inl (by omega)),zh (hT.out.ext zX),zX⟩
     case measure=>simp[intOf]
   ·have hb1:wr.cell? ⟨b,1,none⟩=some (.func (.func k2) b2 f2):=hb1
    obtain rfl:r1=true:=hr1.out.resolve_left (by omega)
    cases r2
    ·go_wp2_with(first|(refine wpList_load_row rfl 234 _ rfl _ rfl 234 _ _ _ hT.out Tryz.underlying234 rfl hi ?_)|(refine(H2.out _ zX).mono ?_;rintro e w2 ⟨rfl,E2⟩))
     go_ret
     exact⟨rfl,zX⟩
    ·go_wp2_with(first|(refine wpList_load_row rfl 234 _ rfl _ rfl 234 _ _ _ hT.out Tryz.underlying234 rfl hi ?_)|(refine(H2.out _ zX).mono ?_;rintro e w2 ⟨rfl,E2⟩))
     go_roundw
     case rel=>exact⟨2,by omega,by go_num,zh (.inr (by simp)),zh (.inr (by simp)),zh (hT.out.ext zX),zX⟩
     case measure=>simp[intOf]
  ·obtain rfl:r1=true:=hr1.out.resolve_left (by omega)
   obtain rfl:r2=true:=hr2.out.resolve_left (by omega)
   go_wp2
   go_ret
   exact⟨rfl,zX⟩
theorem ZmK {k1 k2:Nat}{b1 f1 b2 f2:Array Value}{t1 t2:Pr→Bool}{n:Nat}{w:World}(h:Two2 w n k1 b1 f1 k2 b2 f2)(h1:ZgW k1 b1 f1 t1 w)(h2:ZgW k2 b2 f2 t2 w):ZgW 400 #[] #[.pointer (some ⟨n,0,none⟩)] (fun p=>t1 p&&t2 p) w:=
 ⟨Zi9,fun p w' hp hE=>ZmJ n p w' hp (by obtain⟨b,x,y⟩:=h;exact⟨b,x.ext hE,y.ext hE⟩) (h1.ext hE) (h2.ext hE)⟩
theorem Zpn {k1 k2:Nat}{b1 f1 b2 f2:Array Value}{t1 t2:Pr→Bool}(b:Nat)(w:World)(hb:Blk w b 455 #[.func (.func k1) b1 f1,.func (.func k2) b2 f2])(h1:ZgW k1 b1 f1 t1 w)(h2:ZgW k2 b2 f2 t2 w):
  Calls Tryz.prog 379 #[.slice (some ⟨b,0,none⟩) 2 2] w fun e w'=>∃n,e= .returned (.func (.func 400) #[] #[.pointer (some ⟨n,0,none⟩)])∧ZgW 400 #[] #[.pointer (some ⟨n,0,none⟩)] (fun p=>t1 p&&t2 p) w'∧Ext w w':=by
 have HB:=zh hb
 have H1:=zh h1
 have H2:=zh h2
 clear hb h1 h2
 go_enter Tryz.func379,Tryz.ntmps379
 go_wp2
 go_ret
 have E:Ext w (w.alloc (.cells #[.slice (some ⟨b,0,none⟩) 2 2] 475)):=zX
 exact⟨_,rfl,ZmK ⟨b,Blk.new _ _ _,HB.out.ext E⟩ (H1.out.ext E) (H2.out.ext E),E⟩
def zeroP:Pr:=⟨0,0,0,0,0,0,0,0,0,List.replicate 32 0,0,false⟩
theorem Za4:zeroP.ok:=rfl
def ZmL (f:Pr→Bool)(l:List Pr)(Ad:Option Addr)(w:World)(e:Ending)(w':World):Prop:=
 Ext w w'∧((idxL f l= -1∧∃n,e= .returned (.tuple #[.pointer (some ⟨n,0,none⟩),.bool false])∧w.heap.size≤n∧Blk w' n 234 zeroP.cells.toArray)∨
  ∃ (j:Nat) (b off:Nat),idxL f l=j∧j<l.length∧Ad=some ⟨b,off,none⟩∧e= .returned (.tuple #[.pointer (some ⟨b,off+j*43,none⟩),.bool true]))
theorem Zq3 {f:Pr→Bool}{l:List Pr}:idxL f l= -1∨∃j:Nat,idxL f l=j∧j<l.length:=by
 unfold idxL
 cases h:l.findIdx? f with
 |none=>exact .inl rfl
 |some i=>exact .inr ⟨i,rfl,by have:=List.findIdx?_eq_some_iff_getElem.1 h;exact this.1⟩
theorem Zfn {A:Nat→Prop}{k:Nat}{bs fs:Array Value}{f:Pr→Bool}(Ad:Option Addr)(c:Nat)(l:List Pr)(nx:Int)(w:World)(h:RdY Rp A w (.slice Ad l.length c) l)(hf:ZgW k bs fs f w):
  Calls Tryz.prog 378 #[.agg #[.slice Ad l.length c,.int .i64 nx],.func (.func k) bs fs] w (ZmL f l Ad w):=by
 have H:=zh (h.mono (B:=fun _=>True) fun _ _ _=>trivial)
 have HF:=zh hf
 obtain⟨_,_,hv,hc1,hc2⟩:=h.shape
 simp only[Value.slice.injEq] at hv
 obtain⟨-,-,rfl⟩:=hv
 clear h hf
 rcases Zq3 (f:=f) (l:=l) with hx|⟨j,hx,hlt⟩
 ·have HX:=zh hx
  clear hx
  go_enter Tryz.func378,Tryz.ntmps378
  go_wp2_with fail
  refine(Zcr k bs fs f _ l _ (H.out.ext zX) (HF.out.ext zX)).mono ?_
  rintro e w1 ⟨rfl,E1⟩
  rw[HX.out]
  go_wp2
  go_ret2
  exact⟨zX,.inl ⟨HX.out,_,rfl,by have:=E1.size;simp at this;omega,Blk.at_ _ _ rfl⟩⟩
 ·have HX:=zh hx
  obtain⟨b,off,p,rfl,-,-,-⟩:=Zg9 H.out hlt
  have j0:¬((j:Int)<0):=by omega
  have j1:(0:Int)≤(j:Int):=by omega
  have j2:(j:Int)<(l.length:Int):=by omega
  clear hx
  go_enter Tryz.func378,Tryz.ntmps378
  go_wp2_with fail
  refine(Zcr k bs fs f _ l _ (H.out.ext zX) (HF.out.ext zX)).mono ?_
  rintro e w1 ⟨rfl,E1⟩
  rw[HX.out]
  have B1:=Blk.ext (Blk.new w 79 #[.slice (some ⟨b,off,none⟩) l.length c,.int .i64 nx]) E1
  obtain⟨q0,q1,_,_⟩:=B1.two
  go_wp2
  go_ret2
  exact⟨zX,.inr ⟨j,b,off,HX.out,hlt,rfl,rfl⟩⟩
theorem Pr.one {p:Pr}(h:p.ok):p.cells.toArray.all (·.oneCell')=true:=all_oneCell_toArray (Rp.one (A:=fun _=>True) (w:=(default:World)) (d:=p) ⟨rfl,h⟩)
def Zor (nx:Int):Int→List Pr→Bool
 |_,[]=>true
 |last,p::r=>decide (last<p.pid)&& (decide (p.pid<nx)&&Zor nx p.pid r)
def rightL (l:List Pr)(nx:Int):Bool:=decide (1≤nx)&& (decide (l.length≤32)&&Zor nx 0 l)
theorem ZbJ {l:List Pr}{nx:Int}(h:rightL l nx=true):l.length≤32∧1≤nx:=by
 simp only[rightL,Bool.and_eq_true,decide_eq_true_eq] at h
 exact⟨h.2.1,h.1⟩
theorem ZaA {A:Nat→Prop}(Ad:Option Addr)(c:Nat)(l:List Pr)(nx:Int)(w:World)(h:RdY Rp A w (.slice Ad l.length c) l):
  Calls Tryz.prog 348 #[.agg #[.slice Ad l.length c,.int .i64 nx]] w fun e w'=>e= .returned (.bool (rightL l nx))∧Ext w w':=by
 have H:=zh (h.mono (B:=fun _=>True) fun _ _ _=>trivial)
 obtain⟨_,_,hv,hc1,hc2⟩:=h.shape
 simp only[Value.slice.injEq] at hv
 obtain⟨-,-,rfl⟩:=hv
 obtain⟨n,hn⟩:=zm (l.length)
 have hR:rightL l nx=(decide (1≤nx)&& (decide (n≤32)&&Zor nx 0 l)):=by rw[←hn];rfl
 rw[hn] at H hc1⊢
 have HN:=zh hn
 have HR:=zh hR
 clear h hn hR
 by_cases h1:nx<1
 ·go_enter Tryz.func348,Tryz.ntmps348
  go_wp2
  go_ret
  exact⟨by rw[HR.out,decide_eq_false (by omega)];rfl,zX⟩
 by_cases h2:32<n
 ·have h3:(32:Int)<n:=by omega
  go_enter Tryz.func348,Tryz.ntmps348
  go_wp2
  go_ret
  exact⟨by rw[HR.out,decide_eq_true (show 1≤nx by omega),decide_eq_false (show ¬n≤32 by omega)];rfl,zX⟩
 have h3:¬((32:Int)<n):=by omega
 have HR2:Hid (rightL l nx=Zor nx 0 l):=zh (by rw[HR.out,decide_eq_true (show 1≤nx by omega),decide_eq_true (show n≤32 by omega)];rfl)
 clear HR
 have hbox:=zh (Blk.new w 79 #[.slice Ad n c,.int .i64 nx])
 go_enter Tryz.func348,Tryz.ntmps348
 go_wp2
 go_loopw [3,18] (fun s i wr=>∃ (m:Nat) (last:Int),m≤n∧i= .int .i64 m∧s= .int .i64 last∧Hid (Zor nx 0 l=Zor nx last (l.drop m))∧Hid (Blk wr w.heap.size 79 #[.slice Ad n c,.int .i64 nx])∧Ext w wr) (fun _ i _=>n - (intOf i).toNat)
 case atStart=>exact⟨0,0,Nat.zero_le _,rfl,rfl,zh rfl,hbox,zX⟩
 case round=>
  clear hbox
  obtain⟨m,last,hm,rfl,rfl,HD,hbox,hE⟩:=hrel
  by_cases hlt:m<n
  ·obtain⟨b,off,p,rfl,hd,hok,hcell⟩:=Zg9 (H.out.ext hE) hlt
   have hsp:l.drop m=p::l.drop (m+1):=by
    obtain⟨hl,hx⟩:=List.getElem?_eq_some_iff.1 hd.out
    rw[List.drop_eq_getElem_cons hl,hx]
   have HS:Hid (Zor nx last (l.drop m)=(decide (last<p.pid)&& (decide (p.pid<nx)&&Zor nx p.pid (l.drop (m+1))))):=zh (by rw[hsp];rfl)
   obtain⟨_,q1,_,_⟩:=hbox.out.two
   have hs:=hE.size
   clear hsp
   by_cases k1:p.pid≤last
   ·go_wp2_with(first
     |(refine wpList_load_mid rfl 234 _ rfl b (off+m*43) rfl p.cells _ hcell.out Tryz.underlying234 rfl (ZbI hok) ?_)
     |((refine wpList_store_A rfl 234 _ _ rfl wr.heap.size _ rfl rfl 234 _ (Blk.at_ _ _ (by simp)) (by rw[List.size_toArray];exact ZbI hok) (by rw[show p.cells.toArray.size=43 from Pr.size hok];rfl) (Pr.one hok) ?_;intro w2 Hw2 Ew2;have Ew2:=Ew2 wr.heap.size wr zX (Nat.le_refl _);have cw2:=Zaq hok Hw2);have c0:=cw2.c0))
    go_ret
    exact⟨by rw[HR2.out,HD.out,HS.out,decide_eq_false (show ¬last<p.pid by omega)];rfl,zX⟩
   by_cases k2:nx≤p.pid
   ·go_wp2_with(first
     |(refine wpList_load_mid rfl 234 _ rfl b (off+m*43) rfl p.cells _ hcell.out Tryz.underlying234 rfl (ZbI hok) ?_)
     |((refine wpList_store_A rfl 234 _ _ rfl wr.heap.size _ rfl rfl 234 _ (Blk.at_ _ _ (by simp)) (by rw[List.size_toArray];exact ZbI hok) (by rw[show p.cells.toArray.size=43 from Pr.size hok];rfl) (Pr.one hok) ?_;intro w2 Hw2 Ew2;have Ew2:=Ew2 wr.heap.size wr zX (Nat.le_refl _);have cw2:=Zaq hok Hw2);have c0:=cw2.c0;have q1:=Zaa Ew2 q1))
    go_ret
    exact⟨by rw[HR2.out,HD.out,HS.out,decide_eq_true (show last<p.pid by omega),decide_eq_false (show ¬p.pid<nx by omega)];rfl,zX⟩
   ·go_wp2_with(first
     |(refine wpList_load_mid rfl 234 _ rfl b (off+m*43) rfl p.cells _ hcell.out Tryz.underlying234 rfl (ZbI hok) ?_)
     |((refine wpList_store_A rfl 234 _ _ rfl wr.heap.size _ rfl rfl 234 _ (Blk.at_ _ _ (by simp)) (by rw[List.size_toArray];exact ZbI hok) (by rw[show p.cells.toArray.size=43 from Pr.size hok];rfl) (Pr.one hok) ?_;intro w2 Hw2 Ew2;have Ew2:=Ew2 wr.heap.size wr zX (Nat.le_refl _);have cw2:=Zaq hok Hw2);have c0:=cw2.c0;have q1:=Zaa Ew2 q1;have hbox:=zh (hbox.out.ext Ew2)))
    go_roundw
    case rel=>exact⟨m+1,p.pid,by omega,by go_num,rfl,zh (by rw[HD.out,HS.out,decide_eq_true (show last<p.pid by omega),decide_eq_true (show p.pid<nx by omega)];rfl),hbox,zX⟩
    case measure=>simp[intOf];omega
  ·go_wp2
   go_ret
   refine⟨?_,zX⟩
   rw[HR2.out,HD.out,List.drop_of_length_le (by have:=HN.out;omega)]
   rfl
theorem Zef {f:Pr→Bool}{l:List Pr}:(idxL f l= -1∧l.any f=false)∨∃ (j:Nat) (p:Pr),idxL f l=j∧l[j]?=some p∧f p=true∧l.any f=true∧l.find? f=some p:=by
 unfold idxL
 cases h:l.findIdx? f with
 |none=>exact .inl ⟨rfl,by rw[List.findIdx?_eq_none_iff] at h;rw[List.any_eq_false];intro x hx;simp[h x hx]⟩
 |some i=>
  rw[List.findIdx?_eq_some_iff_getElem] at h
  obtain⟨hlt,hf,hm⟩:=h
  refine .inr ⟨i,l[i],rfl,List.getElem?_eq_getElem hlt,hf,List.any_eq_true.2 ⟨_,List.getElem_mem hlt,hf⟩,?_⟩
  rw[List.find?_eq_some_iff_getElem]
  exact⟨hf,i,hlt,rfl,fun j hj=>by have:=hm j hj;simpa using this⟩
abbrev Tb (w:World)(n:Nat)(Ad:Option Addr)(k c:Nat)(nx:Int):Prop:=Blk w n 79 #[.slice Ad k c,.int .i64 nx]
def ZbK (l:List Pr)(nx pid:Int):Bool:=rightL l nx&&l.any fun p=>p.pid==pid&&Zgc p
theorem ZdP {A:Nat→Prop}(Ad:Option Addr)(c:Nat)(l:List Pr)(nx pid:Int)(w:World)(h:RdY Rp A w (.slice Ad l.length c) l):
  Calls Tryz.prog 351 #[.agg #[.slice Ad l.length c,.int .i64 nx],.int .i64 pid] w fun e w'=>e= .returned (.bool (ZbK l nx pid))∧Ext w w':=by
 have H:=zh (h.mono (B:=fun _=>True) fun _ _ _=>trivial)
 have hbox:=zh (Blk.new w 79 #[.slice Ad l.length c,.int .i64 nx])
 obtain⟨n,hn⟩:=zm (l.length)
 have HN:=zh hn
 clear h hn
 cases hr:rightL l nx
 ·have HR:=zh hr
  clear hr
  go_enter Tryz.func351,Tryz.ntmps351
  go_wp2_with fail
  refine(ZaA Ad c l nx _ (H.out.ext zX)).mono ?_
  rintro e w1 ⟨rfl,E1⟩
  rw[HR.out]
  go_wp2
  go_ret
  exact⟨by unfold ZbK;rw[HR.out];rfl,zX⟩
 ·have HR:=zh hr
  clear hr
  go_enter Tryz.func351,Tryz.ntmps351
  go_wp2_with fail
  refine(ZaA Ad c l nx _ (H.out.ext zX)).mono ?_
  rintro e w1 ⟨rfl,E1⟩
  rw[HR.out]
  have hbox:=zh (hbox.out.ext E1)
  have E01:Ext w w1:=zX
  clear E1
  go_wp2
  refine zg (fun w'=>Ext w1 w') (Ext.drew (Ext.refl _)) fun hHeld=>?_
  (refine zu 0 (fun _ h=>(hbox.out.ext h).two) ?_)
  refine zr 1 ?_
  (refine zc 2 (Zds pid _) ?_;rintro e w2 ⟨n2,rfl,F2,E2⟩ K hK;refine zo hK zX fun hHeld=>?_;clear hK K)
  (refine ze 3 fun hHeld=>?_)
  (refine zc 4 (Zpn (t1:=fun p=>p.pid==pid) (t2:=Zgc) _ _ (Blk.at_ _ _ rfl) (F2.ext ((Ext.refl _).alloc _)) (Zi8 _)) ?_;rintro e w3 ⟨n3,rfl,F3,E3⟩ K hK;refine zo hK zX fun hHeld=>?_;clear hK K)
  have E13:Ext w1 w3:=by assumption
  have hfind:=Zfn Ad c l nx w3 (H.out.ext (E01.trans E13)) F3
  (refine zw 5 fun K hK=>?_;go_simp;go_at_call 378;refine(hfind).mono ?_;rintro e w4 ⟨E4,(⟨hx,m0,rfl,hm0,hz⟩|⟨j,b,off,hx,hlt,rfl,rfl⟩)⟩;all_goals ((try dsimp only);refine zo hK zX fun hHeld=>?_;clear hK K))
  all_goals
   refine zr 6 ?_
   refine zr 7 ?_
   refine zr 8 ?_
   refine zr 9 ?_
   refine zr 10 ?_
   refine zd ?_
   go_wp2
   go_ret
   refine⟨?_,E01.trans (by assumption)⟩
   unfold ZbK
   rw[HR.out]
   rcases Zef (f:=fun p=>p.pid==pid&&Zgc p) (l:=l) with⟨h1,h2⟩|⟨j',p,h1,h2,h3,h4,h5⟩
   all_goals first
    |(rw[h2];rfl)
    |(rw[h4];rfl)
    |(rw[h1] at hx;omega)
/- slices.Clone at one slice type: slices.Clone[[]parlour/table.Proc,parlour/table.Proc] (pr), slice type []table.Proc, element parlour/table.Proc, rep Rp -/
theorem Zfo:(Tryz.prog.info? 234).map (fun i=>(i.zero,i.size,i.bytes))=some (some (.agg zeroP.cells.toArray),(Rp).size,344):=by kernel_rfl
theorem ZdQ {A:Nat→Prop}(v:Value)(ds:List _)(w:World)(h:RdY Rp A w v ds)(hn:ds.length*344≤140737488355328):
  Calls Tryz.prog 83 #[v] w fun e w'=>∃Ad c,e= .returned (.slice Ad ds.length c)∧OwnS Rp 234 w.heap.size (fun k=>A k∧k<w.heap.size) w' (.slice Ad ds.length c) ds∧Ext w w':=by
 obtain⟨us,⟨hl,Ad,c,rfl,hnc,hcm,hA⟩,he⟩:=id h
 have H:=zh h
 have HL:=zh hl
 clear h hl he
 have heq:=fun u=>Lib.run_eql_slice_nil (P:=Tryz.prog) u 77 _ Ad ds.length c 0 0 Tryz.underlying77
 rcases Ad with _|ad
 ·have h0:ds.length=0∧c=0:=by
   rcases hA with rfl|⟨b,off,h0,_⟩
   ·omega
   ·cases h0
  obtain⟨h1,rfl⟩:=h0
  obtain rfl:ds=[]:=List.eq_nil_of_length_eq_zero h1
  clear hA HL h1
  simp only[List.length_nil] at heq⊢
  go_enter Tryz.func83,Tryz.ntmps83
  go_wp2
  go_ret
  exact⟨_,_,rfl,OwnS.nil _ _ _ _ _,zX⟩
 ·clear hA
  go_enter Tryz.func83,Tryz.ntmps83
  go_wp2_with((at_builtin;refine wpList_app (e:=Rp) (base:=w.heap.size) (B:=fun k=>A k∧k<w.heap.size) (A:=fun k=>A k∧k<w.heap.size) rfl _ _ rfl Tryz.underlying77 Zfo rfl (OwnS.empty _ _ _ rfl (Nat.le_refl _)) rfl (RdY.alloc (RdY.lt H.out) _) rfl (fun k _ hk=>⟨hk,fun h=>by have:=hk.2;simp[Value.ownBlock] at h;omega⟩) (N:=ds.length) (by simp) (by simp[maxLen];omega) (by omega) (by simp) ?_;intro A1 c1 w1 hown hM hB;simp only[List.nil_append] at hown))
  go_ret
  exact⟨_,_,rfl,hown,zX⟩
theorem Za9 {A B:Nat→Prop}{w:World}{v:Value}{l:List Pr}(h:RdY Rp A w v l):RdY Rp B w v l:=by
 obtain⟨us,hr,he,h2⟩:=h
 exact⟨us,hr,he,h2⟩
abbrev tv (Ad:Option Addr)(n c:Nat)(nx:Int):Value:=.agg #[.slice Ad n c,.int .i64 nx]
theorem ZmM {A:Nat→Prop}(Ad:Option Addr)(c:Nat)(l:List Pr)(nx:Int)(w:World)(h:RdY Rp A w (.slice Ad l.length c) l)(hn:l.length≤1000000):
  Calls Tryz.prog 404 #[.agg #[.slice Ad l.length c,.int .i64 nx]] w fun e w'=>∃A' c',e= .returned (.agg #[.slice A' l.length c',.int .i64 nx])∧OwnS Rp 234 w.heap.size (fun _=>False) w' (.slice A' l.length c') l∧Ext w w':=by
 have H:=zh (Za9 (B:=fun _=>False) h)
 have hbox:=zh (Blk.new w 79 #[.slice Ad l.length c,.int .i64 nx])
 have hres:=zh (Blk.at_ (w:=w.alloc (.cells #[.slice Ad l.length c,.int .i64 nx] 79)) (B:=w.heap.size+1) 79 #[.slice none 0 0,.int .i64 0] (by simp))
 obtain⟨W,hW⟩:=zn ((w.alloc (.cells #[.slice Ad l.length c,.int .i64 nx] 79)).alloc (.cells #[.slice none 0 0,.int .i64 0] 79))
 have E0:Ext w W:=by rw[hW];exact zX
 have hbox:=zh (hbox.out.alloc (.cells #[.slice none 0 0,.int .i64 0] 79))
 rw[←hW] at hbox hres
 have HW:=zh hW
 clear h hW
 go_enter Tryz.func404,Tryz.ntmps404
 go_wp2
 rw[←HW.out]
 have hl:w.heap.size<w.heap.size+1:=by omega
 refine zg (fun w'=>Mod (fun k=>k=w.heap.size+1) W w') (Mod.of_ext (Ext.drew (Ext.refl _))) fun hHeld=>?_
 refine zr 0 ?_
 refine zr 3 ?_
 (refine zu 1 (fun _ h=>(hbox.out.mod h (by omega)).two) ?_)
 (refine zu 4 (fun _ h=>(hbox.out.mod h (by omega)).two) ?_)
 (refine zc 2 (ZdQ (A:=fun _=>False) _ l _ (H.out.ext (E0.trans (Ext.drew (Ext.refl _)))) (by omega)) ?_;rintro e w2 ⟨A2,c2,rfl,O2,E2⟩ K hK;refine zo hK (Mod.of_ext (Ext.trans (Ext.drew (Ext.refl W)) E2)) fun hHeld=>?_;clear hK K)
 refine zr 5 ?_
 have Em:Ext W w2:=(Ext.drew (Ext.refl W)).trans E2
 have hr2:=hres.out.ext Em
 have kr:=hr2.two
 (refine za 6 (((Mod.of_ext Em).set1 _).set1 _) fun hHeld=>?_)
 refine zd ?_
 have BW:=hr2.put2 (.slice A2 l.length c2) (.int .i64 nx)
 have hMz:Mod (fun k=>k=w.heap.size+1) W _:=((Mod.of_ext Em).set1 (.slice A2 l.length c2) (o:=0)).set1 (.int .i64 nx) (o:=1)
 obtain⟨q0,q1,_,_⟩:=BW.two
 go_wp2
 refine bodyPost_ret (v:=.agg #[.slice A2 l.length c2,.int .i64 nx]) (by simp[results,Tryz.results404,go_sem,q0,q1]) rfl ?_
 have hr:=O2.row
 have hdr:W.drew.heap.size=w.heap.size+2:=by rw[HW.out];simp
 have hM2:Mod (fun k=>k=w.heap.size+1) w2 _:=((Mod.refl _ w2).set1 (.slice A2 l.length c2) (o:=0)).set1 (.int .i64 nx) (o:=1)
 exact⟨_,_,rfl,((O2.mod hM2 (fun k hk he=>by have:=(hr k hk).1;omega) (fun k _ hk he=>hk.1)).lower (by omega)).mono (fun k _ hk=>hk.1),Mod.toExt E0 hMz (by intro k hk he;omega)⟩
theorem Zh9:∀ (cs pre post:List Value),post.length=cs.length→List.foldl (fun(a:Array Value) (x:Value×Nat)=>a.setIfInBounds x.snd x.fst) (pre++post).toArray (cs.zipIdx pre.length)=(pre++cs).toArray
 | [],pre,post,h=>by
  have:post=[]:=List.eq_nil_of_length_eq_zero h
  rw[this];rfl
 |c::cs,pre,[],h=>by simp at h
 |c::cs,pre,d::post,h=>by
  have ih:=Zh9 cs (pre++ [c]) post (by simpa using h)
  rw[List.zipIdx_cons,List.foldl_cons]
  have e:((pre++d::post).toArray.setIfInBounds pre.length c)=(pre++ [c]++post).toArray:=by simp
  simp only[e]
  rw[show pre.length+1=(pre++ [c]).length by simp,ih]
  simp
theorem Zkq {q:Pr}(h:q.ok):List.foldl (fun(a:Array Value) (x:Value×Nat)=>a.setIfInBounds x.snd x.fst) #[.int .i64 0,.int .i64 0,.int .i64 0,.int .i64 0,.int .i64 0,.int .i64 0,.int .i64 0,.int .u64 0,.int .u64 0,.int .i64 0,.int .i64 0,.int .i64 0,.int .i64 0,.int .i64 0,.int .i64 0,.int .i64 0,.int .i64 0,.int .i64 0,.int .i64 0,.int .i64 0,.int .i64 0,.int .i64 0,.int .i64 0,.int .i64 0,.int .i64 0,.int .i64 0,.int .i64 0,.int .i64 0,.int .i64 0,.int .i64 0,.int .i64 0,.int .i64 0,.int .i64 0,.int .i64 0,.int .i64 0,.int .i64 0,.int .i64 0,.int .i64 0,.int .i64 0,.int .i64 0,.int .i64 0,.int .i64 0,.bool false] q.cells.zipIdx=q.cells.toArray:=by
 have:=Zh9 q.cells [] [.int .i64 0,.int .i64 0,.int .i64 0,.int .i64 0,.int .i64 0,.int .i64 0,.int .i64 0,.int .u64 0,.int .u64 0,.int .i64 0,.int .i64 0,.int .i64 0,.int .i64 0,.int .i64 0,.int .i64 0,.int .i64 0,.int .i64 0,.int .i64 0,.int .i64 0,.int .i64 0,.int .i64 0,.int .i64 0,.int .i64 0,.int .i64 0,.int .i64 0,.int .i64 0,.int .i64 0,.int .i64 0,.int .i64 0,.int .i64 0,.int .i64 0,.int .i64 0,.int .i64 0,.int .i64 0,.int .i64 0,.int .i64 0,.int .i64 0,.int .i64 0,.int .i64 0,.int .i64 0,.int .i64 0,.int .i64 0,.bool false] (by rw[Pr.len h];rfl)
 exact this
theorem Zia (A:Nat→Prop)(w:World){q:Pr}(h:q.ok):Rp.rel A w q.cells q:=⟨rfl,h⟩
def Pr.newAs (p:Pr)(nx:Int):Pr:={p with pid:=nx,state:=1}
theorem Zha (p:Pr)(nx:Int):(p.cells.set 0 (.int .i64 nx)).set 4 (.int .i64 1)=(p.newAs nx).cells:=by
 simp[Pr.cells,Pr.newAs]
def Zct (nx:Int):Int:=IntKind.i64.wrap (nx+1)
def ZaY (l:List Pr)(nx:Int)(p:Pr)(Ad:Option Addr)(c:Nat)(w:World)(e:Ending)(w':World):Prop:=
 Ext w w'∧((l.length=32∧e= .returned (.tuple #[tv Ad l.length c nx,.int .i64 0,.int .i64 10]))∨
  (l.length≠32∧∃A' c',e= .returned (.tuple #[tv A' (l.length+1) c' (Zct nx),.int .i64 nx,.int .i64 0])∧
   OwnS Rp 234 w.heap.size (fun _=>False) w' (.slice A' (l.length+1) c') (l++ [p.newAs nx])))
theorem Zib {A:Nat→Prop}(Ad:Option Addr)(c:Nat)(l:List Pr)(nx:Int)(p:Pr)(w:World)(h:RdY Rp A w (.slice Ad l.length c) l)(hn:l.length≤100000)(hok:p.ok):
  Calls Tryz.prog 394 #[tv Ad l.length c nx,.agg p.cells.toArray] w (ZaY l nx p Ad c w):=by
 have H:=zh (Za9 (B:=fun _=>False) h)
 clear h
 by_cases hl:l.length=32
 ·have hl2:((l.length:Int)=32):=by omega
  have k4:=(Zaq hok (Blk.new w 234 p.arr)).c0
  go_enter Tryz.func394,Tryz.ntmps394
  go_wp2
  refine bodyPost_ret (v:=.tuple #[tv Ad 32 c nx,.int .i64 0,.int .i64 10]) (by simp[results,Tryz.results394,go_sem]) rfl ?_
  exact⟨zX,.inl ⟨hl,by rw[hl]⟩⟩
 ·have hl2:((l.length:Int)=32)=False:=by simp;omega
  have k4:(w.alloc (.cells #[.slice Ad l.length c,.int .i64 nx] 79)).heap.size=w.heap.size+1:=by simp
  have c0:=(Zh8 (w.alloc (.cells #[.slice Ad l.length c,.int .i64 nx] 79)) 234 hok).c0
  have c4:=(Zh8 (w.alloc (.cells #[.slice Ad l.length c,.int .i64 nx] 79)) 234 hok).c4
  go_enter Tryz.func394,Tryz.ntmps394
  go_wp2
  rw[Zha]
  clear c0 c4 k4
  obtain⟨q,hq⟩:=zn (p.newAs nx)
  have hqk:q.ok:=by rw[hq];exact hok
  have HQ:=zh hq
  have hq3:=Pr.len hqk
  have hq4:=Zkq hqk
  have hq0:=zh (show q.pid=nx by rw[hq];rfl)
  rw[←hq]
  clear hq
  have hbox:=zh (Blk.new w 79 #[.slice Ad l.length c,.int .i64 nx])
  have hp:=zh (Blk.at_ (w:=w.alloc (.cells #[.slice Ad l.length c,.int .i64 nx] 79)) (B:=w.heap.size+1) 234 q.cells.toArray (by simp))
  have hres:=zh (Blk.at_ (w:=(w.alloc (.cells #[.slice Ad l.length c,.int .i64 nx] 79)).alloc (.cells q.cells.toArray 234)) (B:=w.heap.size+1+1) 79 #[.slice none 0 0,.int .i64 0] (by simp))
  obtain⟨W,hW⟩:=zn (((w.alloc (.cells #[.slice Ad l.length c,.int .i64 nx] 79)).alloc (.cells q.cells.toArray 234)).alloc (.cells #[.slice none 0 0,.int .i64 0] 79))
  have E0:Ext w W:=by rw[hW];exact zX
  have hbox:=zh ((hbox.out.alloc (.cells q.cells.toArray 234)).alloc (.cells #[.slice none 0 0,.int .i64 0] 79))
  have hp:=zh (hp.out.alloc (.cells #[.slice none 0 0,.int .i64 0] 79))
  have hsz:=zh (show W.heap.size=w.heap.size+3 by rw[hW];simp)
  rw[←hW] at hbox hres hp⊢
  clear hW
  refine Zao 10 (fun w'=>Ext W w') (by kernel_rfl) (Ext.drew (Ext.refl _)) (fun hHeld=>?_)
  refine zk 0 ?_
  (refine zl 1 (fun _ h=>(hbox.out.ext h).two) ?_)
  (refine ZaJ (i:=3) (v:=.agg q.cells.toArray) rfl (by kernel_rfl) (by kernel_rfl) (by kernel_rfl) (by kernel_rfl) (fun _ _ _ h=>h) (Zac (by rfl) 234 _ rfl _ rfl 234 q.cells.toArray _ _ (fun w' hSw=>(Blk.ext hp.out hSw)) Tryz.underlying234 rfl (by rw[List.size_toArray];exact ZbI hqk)) (by assumption) ?_;(try simp only[zP]))
  refine zk 6 ?_
  (refine zl 7 (fun _ h=>(hbox.out.ext h).two) ?_)
  refine zk 8 ?_
  refine Zam (rs:=[2,4]) (by kernel_rfl) (by simp) ?_
  refine Zaj.cons rfl (fun K hK=>?_) (Zaj.cons rfl (fun K hK=>?_) Zaj.nil)
  ·go_simp
   go_at_call 83
   refine(ZdQ (A:=fun _=>False) _ l _ (H.out.ext zX) (by omega)).mono ?_
   rintro e w2 ⟨A2,c2,rfl,o2,E2⟩
   have O2:=zh ((o2.mono (B:=fun _=>False) fun k _ hk=>hk.1).lower (base':=W.heap.size) (by simp))
   have hs2:=E2.size;simp at hs2
   (try dsimp only);refine zo hK zX fun hHeld=>?_;clear hK K
   (refine zy 4 fun K hK=>?_;go_simp;refine zo hK zX fun hHeld=>?_;clear hK K)
   refine zy 5 fun K hK=>?_
   refine ZaX (e:=Rp) (base:=W.heap.size) (B:=fun _=>False) (A:=fun _=>False) rfl (.tmp 18) (.tmp 20) rfl Tryz.underlying77 Zfo rfl (O2.out.ext zX) rfl (RdY.singleB (cs:=q.cells) (Zia (fun _=>False) _ hqk) (Blk.at_ _ _ rfl)) rfl (fun _ _ h=>h.elim) (N:=l.length+1) rfl (by simp[maxLen];omega) (by omega) (by first|omega|(simp;omega)) ?_
   intro A5 c5 w5 o5 M5 B5
   refine zo hK (Below.trans hHeld (B5.mono (by simp))) fun hHeld=>?_
   clear hK K
   have O5:=zh o5
   clear M5 B5 o5
   refine zk 9 ?_
   have kb:=(hbox.out.ext hHeld).two
   (refine Zam (rs:=[10]) (by kernel_rfl) (by simp) ?_;refine Zaj.last rfl (fun K hK=>?_) Zaj.nil;go_simp;refine hK.out _ _ ?_;clear hK K;(try simp only[zP]))
   refine Zaw (by kernel_rfl) ?_ _
   have hz:=hsz.out
   have hb5:=hHeld.size
   have hr5:=O5.out.row
   have hMz:Mod (fun k=>k=w.heap.size) w5 _:=((Mod.refl _ w5).set1 (.slice A5 (l.length+1) c5) (o:=0)).set1 (.int .i64 (IntKind.i64.wrap (nx+1))) (o:=1)
   have BW:=zh ((hbox.out.ext hHeld).put2 (.slice A5 (l.length+1) c5) (.int .i64 (IntKind.i64.wrap (nx+1))))
   have hp6:=zh ((hp.out.ext hHeld).mod hMz (by show ¬_=_;omega))
   have hs6:=zh ((hres.out.ext hHeld).mod hMz (by show ¬_=_;omega))
   have O6:=zh ((O5.out.mod hMz (fun k hk he=>by have:=(hr5 k hk).1;omega) (fun k _ hk he=>hk)))
   have hr6:=O6.out.row
   have E6:Ext w _:=Mod.toExt (E0.trans hHeld) hMz (by intro k hk he;omega)
   clear hMz kb
   generalize (w5.setCell _ _).setCell _ _=W1 at*
   go_wp2
   refine zg (fun w'=>Mod (fun k=>k=w.heap.size+1+1) W1 w') (Mod.of_ext (Ext.drew (Ext.refl _))) fun hHeld=>?_
   have Ed:Ext W1 W1.drew:=Ext.drew (Ext.refl _)
   generalize W1.drew=W2 at*
   (refine zu 0 (fun _ h=>(BW.out.mod h (by omega)).two) ?_)
   refine zr 1 ?_
   (refine zu 2 (fun _ h=>(Zaq hqk (hp6.out.mod h (by omega))).c0) ?_)
   have hr7:=hs6.out.ext Ed
   have ks:=hr7.two
   (refine za 3 (((Mod.of_ext Ed).set1 _).set1 _) fun hHeld=>?_)
   refine zr 4 ?_
   refine zr 5 ?_
   refine zd ?_
   have hM7:Mod (fun k=>k=w.heap.size+1+1) W1 _:=((Mod.of_ext Ed).set1 (.slice A5 (l.length+1) c5) (o:=0)).set1 (.int .i64 (IntKind.i64.wrap (nx+1))) (o:=1)
   obtain⟨q0,q1,_,_⟩:=(hr7.put2 (.slice A5 (l.length+1) c5) (.int .i64 (IntKind.i64.wrap (nx+1)))).two
   have hz6:=E6.size
   clear ks
   go_wp2
   refine bodyPost_ret (v:=.tuple #[tv A5 (l.length+1) c5 (IntKind.i64.wrap (nx+1)),.int .i64 q.pid,.int .i64 0]) (by simp[results,Tryz.results394,go_sem,q0,q1]) rfl ?_
   exact⟨Mod.toExt E6 hM7 (by intro k hk he;omega),.inr ⟨hl,A5,c5,by rw[hq0.out];rfl,by rw[←HQ.out];exact((O6.out.mod hM7 (fun k hk he=>by have:=(hr6 k hk).1;omega) (fun k _ hk he=>hk)).lower (by omega))⟩⟩
  ·go_simp;refine zo hK zX fun hHeld=>?_;clear hK K
   (refine zy 2 fun K hK=>?_)
   go_simp
   go_at_call 83
   refine(ZdQ (A:=fun _=>False) _ l _ (H.out.ext zX) (by omega)).mono ?_
   rintro e w2 ⟨A2,c2,rfl,o2,E2⟩
   have O2:=zh ((o2.mono (B:=fun _=>False) fun k _ hk=>hk.1).lower (base':=W.heap.size) (by simp))
   have hs2:=E2.size;simp at hs2
   (try dsimp only);refine zo hK zX fun hHeld=>?_;clear hK K
   refine zy 5 fun K hK=>?_
   refine ZaX (e:=Rp) (base:=W.heap.size) (B:=fun _=>False) (A:=fun _=>False) rfl (.tmp 18) (.tmp 20) rfl Tryz.underlying77 Zfo rfl (O2.out.ext zX) rfl (RdY.singleB (cs:=q.cells) (Zia (fun _=>False) _ hqk) (Blk.ext (Blk.drew (Blk.at_ _ _ rfl)) E2)) rfl (fun _ _ h=>h.elim) (N:=l.length+1) rfl (by simp[maxLen];omega) (by omega) (by first|omega|(simp;omega)) ?_
   intro A5 c5 w5 o5 M5 B5
   refine zo hK (Below.trans hHeld (B5.mono (by simp))) fun hHeld=>?_
   clear hK K
   have O5:=zh o5
   clear M5 B5 o5
   refine zk 9 ?_
   have kb:=(hbox.out.ext hHeld).two
   (refine Zam (rs:=[10]) (by kernel_rfl) (by simp) ?_;refine Zaj.last rfl (fun K hK=>?_) Zaj.nil;go_simp;refine hK.out _ _ ?_;clear hK K;(try simp only[zP]))
   refine Zaw (by kernel_rfl) ?_ _
   have hz:=hsz.out
   have hb5:=hHeld.size
   have hr5:=O5.out.row
   have hMz:Mod (fun k=>k=w.heap.size) w5 _:=((Mod.refl _ w5).set1 (.slice A5 (l.length+1) c5) (o:=0)).set1 (.int .i64 (IntKind.i64.wrap (nx+1))) (o:=1)
   have BW:=zh ((hbox.out.ext hHeld).put2 (.slice A5 (l.length+1) c5) (.int .i64 (IntKind.i64.wrap (nx+1))))
   have hp6:=zh ((hp.out.ext hHeld).mod hMz (by show ¬_=_;omega))
   have hs6:=zh ((hres.out.ext hHeld).mod hMz (by show ¬_=_;omega))
   have O6:=zh ((O5.out.mod hMz (fun k hk he=>by have:=(hr5 k hk).1;omega) (fun k _ hk he=>hk)))
   have hr6:=O6.out.row
   have E6:Ext w _:=Mod.toExt (E0.trans hHeld) hMz (by intro k hk he;omega)
   clear hMz kb
   generalize (w5.setCell _ _).setCell _ _=W1 at*
   go_wp2
   refine zg (fun w'=>Mod (fun k=>k=w.heap.size+1+1) W1 w') (Mod.of_ext (Ext.drew (Ext.refl _))) fun hHeld=>?_
   have Ed:Ext W1 W1.drew:=Ext.drew (Ext.refl _)
   generalize W1.drew=W2 at*
   (refine zu 0 (fun _ h=>(BW.out.mod h (by omega)).two) ?_)
   refine zr 1 ?_
   (refine zu 2 (fun _ h=>(Zaq hqk (hp6.out.mod h (by omega))).c0) ?_)
   have hr7:=hs6.out.ext Ed
   have ks:=hr7.two
   (refine za 3 (((Mod.of_ext Ed).set1 _).set1 _) fun hHeld=>?_)
   refine zr 4 ?_
   refine zr 5 ?_
   refine zd ?_
   have hM7:Mod (fun k=>k=w.heap.size+1+1) W1 _:=((Mod.of_ext Ed).set1 (.slice A5 (l.length+1) c5) (o:=0)).set1 (.int .i64 (IntKind.i64.wrap (nx+1))) (o:=1)
   obtain⟨q0,q1,_,_⟩:=(hr7.put2 (.slice A5 (l.length+1) c5) (.int .i64 (IntKind.i64.wrap (nx+1)))).two
   have hz6:=E6.size
   clear ks
   go_wp2
   refine bodyPost_ret (v:=.tuple #[tv A5 (l.length+1) c5 (IntKind.i64.wrap (nx+1)),.int .i64 q.pid,.int .i64 0]) (by simp[results,Tryz.results394,go_sem,q0,q1]) rfl ?_
   exact⟨Mod.toExt E6 hM7 (by intro k hk he;omega),.inr ⟨hl,A5,c5,by rw[hq0.out];rfl,by rw[←HQ.out];exact((O6.out.mod hM7 (fun k hk he=>by have:=(hr6 k hk).1;omega) (fun k _ hk he=>hk)).lower (by omega))⟩⟩
theorem ZaY.before {l:List Pr}{nx:Int}{p:Pr}{Ad:Option Addr}{c:Nat}{w w1:World}{e:Ending}{w':World}(h:ZaY l nx p Ad c w1 e w')(hE:Ext w w1):ZaY l nx p Ad c w e w':=
 ⟨hE.trans h.1,h.2.imp id fun⟨h1,A,c',h2,h3⟩=>⟨h1,A,c',h2,h3.lower hE.size⟩⟩
theorem ZaY.box {l:List Pr}{nx:Int}{p:Pr}{Ad:Option Addr}{c:Nat}{w w1:World}{e:Ending}{w' w2:World}{g:Nat}(h:ZaY l nx p Ad c w1 e w')(hE:Ext w w1)(hg:w.heap.size≤g)(hg1:g<w1.heap.size)(hM:Mod (fun k=>k=g) w' w2):ZaY l nx p Ad c w e w2:=
 ⟨Mod.toExt (hE.trans h.1) hM (by intro k hk he;omega),h.2.imp id fun⟨h1,A,c',h2,h3⟩=>⟨h1,A,c',h2,(h3.mod hM (fun k hk he=>by have:=(h3.row k hk).1;omega) (fun k _ hk _=>hk)).lower hE.size⟩⟩
def Zic (nx prog:Int):Pr:=⟨0,0,nx,nx,0,prog,0,0,0,List.replicate 32 0,0,false⟩
theorem Zkr (nx prog:Int):(Zic nx prog).ok:=rfl
def Zks (l:List Pr)(nx prog:Int)(Ad:Option Addr)(c:Nat)(w:World)(e:Ending)(w':World):Prop:=
 (rightL l nx=false∧Ext w w'∧e= .returned (.tuple #[tv Ad l.length c nx,.int .i64 0,.int .i64 4]))∨(rightL l nx=true∧ZaY l nx (Zic nx prog) Ad c w e w')
theorem Zkt {A:Nat→Prop}(Ad:Option Addr)(c:Nat)(l:List Pr)(nx prog:Int)(w:World)(h:RdY Rp A w (.slice Ad l.length c) l):
  Calls Tryz.prog 365 #[tv Ad l.length c nx,.int .i64 prog] w (Zks l nx prog Ad c w):=by
 have H:=zh (Za9 (B:=fun _=>False) h)
 have hres:=zh (Blk.at_ (w:=w.alloc (.cells #[.slice Ad l.length c,.int .i64 nx] 79)) (B:=w.heap.size+1) 79 #[.slice none 0 0,.int .i64 0] (by simp))
 have hbox:=zh ((Blk.new w 79 #[.slice Ad l.length c,.int .i64 nx]).alloc (.cells #[.slice none 0 0,.int .i64 0] 79))
 clear h
 cases hr:rightL l nx
 ·have HR:=zh hr
  clear hr
  go_enter Tryz.func365,Tryz.ntmps365
  go_wp2_with fail
  refine(ZaA Ad c l nx _ (H.out.ext zX)).mono ?_
  rintro e w1 ⟨rfl,E1⟩
  rw[HR.out]
  have E01:Ext w w1:=zX
  have hs:=hres.out.ext E1
  have hb:=(hbox.out.ext E1).two
  have ks:=hs.two
  have hM7:Mod (fun k=>k=w.heap.size+1) w1 _:=((Mod.refl _ w1).set1 (.slice Ad l.length c) (o:=0)).set1 (.int .i64 nx) (o:=1)
  obtain⟨q0,q1,_,_⟩:=(hs.put2 (.slice Ad l.length c) (.int .i64 nx)).two
  go_wp2
  refine bodyPost_ret (v:=.tuple #[tv Ad l.length c nx,.int .i64 0,.int .i64 4]) (by simp[results,Tryz.results365,go_sem,q0,q1]) rfl ?_
  exact .inl ⟨HR.out,Mod.toExt E01 hM7 (by intro k hk he;omega),rfl⟩
 ·have HR:=zh hr
  have hl:=(ZbJ hr).1
  clear hr
  go_enter Tryz.func365,Tryz.ntmps365
  go_wp2_with fail
  refine(ZaA Ad c l nx _ (H.out.ext zX)).mono ?_
  rintro e w1 ⟨rfl,E1⟩
  rw[HR.out]
  have E01:Ext w w1:=zX
  have hs:=zh (hres.out.ext E1)
  have hb:=(hbox.out.ext E1).two
  have hsz:=hs.out.lt
  clear E1
  go_wp2_with fail
  refine(Zib Ad c l nx (Zic nx prog) _ (H.out.ext E01) (by omega) (Zkr _ _)).mono ?_
  rintro e w2 hm
  have hE:=hm.1
  obtain⟨_,⟨h32,rfl⟩|⟨h32,A',c',rfl,_⟩⟩:=id hm
  ·clear h32
   have hs2:=hs.out.ext hE
   have ks:=hs2.two
   have hM7:Mod (fun k=>k=w.heap.size+1) w2 _:=((Mod.refl _ w2).set1 (.slice Ad l.length c) (o:=0)).set1 (.int .i64 nx) (o:=1)
   obtain⟨q0,q1,_,_⟩:=(hs2.put2 (.slice Ad l.length c) (.int .i64 nx)).two
   go_wp2
   refine bodyPost_ret (v:=.tuple #[tv Ad l.length c nx,.int .i64 0,.int .i64 10]) (by simp[results,Tryz.results365,go_sem,q0,q1]) rfl ?_
   exact .inr ⟨HR.out,hm.box E01 (by omega) hsz hM7⟩
  ·clear h32
   have hs2:=hs.out.ext hE
   have ks:=hs2.two
   have hM7:Mod (fun k=>k=w.heap.size+1) w2 _:=((Mod.refl _ w2).set1 (.slice A' (l.length+1) c') (o:=0)).set1 (.int .i64 (Zct nx)) (o:=1)
   obtain⟨q0,q1,_,_⟩:=(hs2.put2 (.slice A' (l.length+1) c') (.int .i64 (Zct nx))).two
   go_wp2
   refine bodyPost_ret (v:=.tuple #[tv A' (l.length+1) c' (Zct nx),.int .i64 nx,.int .i64 0]) (by simp[results,Tryz.results365,go_sem,q0,q1]) rfl ?_
   exact .inr ⟨HR.out,hm.box E01 (by omega) hsz hM7⟩
end Go.Proofs.YtmmhcllibpmfnaaGreatDoor.Tb
namespace Go.Proofs.YtmmhcllibpmfnaaGreatDoor
open Go.RowKit Go.Kb
theorem Zpo (w:World):(Instr.makeSlice 43 (.int .i64 4096) (.int .i64 4096)).run Tryz.prog w= .ok (.slice (some ⟨w.heap.size,0,none⟩) 4096 4096) (w.alloc (.cells (madeCells #[.int .u8 0] 4096) 5)):=
 run_make_row' 43 5 (.int .u8 0) 1 Tryz.underlying43 ZaQ rfl .i64 .i64 4096 (by decide) (by decide) w
theorem ZmN (w:World):Calls Tryz.prog 369 #[.int .i64 4096] w fun e w'=>∃r,e= .returned (.tuple #[.pointer (some ⟨r,0,none⟩),.int .i64 0])∧Ext w w':=by
 have hmk:=Zpo
 obtain⟨c0,hc0⟩:=zm (madeCells #[.int .u8 0] 4096)
 simp only[hc0] at hmk
 go_enter Tryz.func369,Tryz.ntmps369
 go_wp2
 go_ret2
 exact⟨_,rfl,zX⟩
theorem Zfp (w:World):Calls Tryz.prog 323 #[] w fun e w'=>∃r,e= .returned (.pointer (some ⟨r,0,none⟩))∧Ext w w':=by
 go_enter Tryz.func323,Tryz.ntmps323
 go_wp2_with fail
 refine(ZmN _).mono ?_
 rintro e w1 ⟨r,rfl,E1⟩
 go_wp2
 go_ret
 exact⟨_,rfl,E1⟩
abbrev ZeW (pv tv nx tk ss kn:Value):Array Value:=#[pv,tv,nx,tk,ss,kn]
theorem ZeX (kb:Nat)(Ap:Option Addr)(n c:Nat)(tv nx tk ss kn:Value)(i:Nat)(w:World)(h:Blk w kb 218 (ZeW (.slice Ap n c) tv nx tk ss kn))(hi:i<n):
  Calls Tryz.prog 319 #[.pointer (some ⟨kb,0,none⟩),.int .i64 i] w fun e w'=>e= .returned (.bool true)∧Ext w w':=by
 have k0:=h.cell 0
 simp only[List.getElem?_toArray,List.getElem?_cons_zero] at k0
 have h0:(0:Int)≤(i:Int):=by omega
 have h1:(i:Int)<(n:Int):=by omega
 clear h
 go_enter Tryz.func319,Tryz.ntmps319
 go_wp2
 go_ret
 exact⟨rfl,zX⟩
end Go.Proofs.YtmmhcllibpmfnaaGreatDoor
