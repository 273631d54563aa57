/- Parts UC28 UD28 NF28 NG28 NI28. No condition. -/
import Derived.Test.YtmmhcllibpmfnaaGreatDoorYB06
import Derived.Test.YtmmhcllibpmfnaaGreatDoorYB08
import Derived.DeepKeys
import Derived.Laws.BitsAllLaws
import Derived.Laws.StructEq
set_option maxRecDepth 100000
set_option maxHeartbeats 8000000
namespace Go.Proofs.YtmmhcllibpmfnaaGreatDoor
open Go.RowKit Go.Kb
abbrev Zow (id ld:Int)(tt:Option Nat)(i o r:Value):Array Value:=#[.int .i64 id,.int .i64 ld,.pointer (tt.map fun p=>⟨p,0,none⟩),i,o,r,.bool false,.bool false,.bool false,.int .i64 0]
structure Sz where
 z1:Int
 z2:Int
 z3:Int
 z4:Int
def ZbE (base:Nat)(w:World)(tt:Option Nat)(z:Sz)(g:Int):Prop:=∀p,tt=some p→base≤p∧∃d sl,Blk w p 382 (ptA d ⟨z.z1,z.z2,z.z3,z.z4,g,g,sl⟩)
theorem ZbE.ext {base:Nat}{w w':World}{tt:Option Nat}{z:Sz}{g:Int}(h:ZbE base w tt z g)(E:Ext w w'):ZbE base w' tt z g:=fun p hp=>by
 obtain⟨h1,d,sl,h2⟩:=h p hp
 exact⟨h1,d,sl,h2.ext E⟩
theorem ZbE.mod {S:Nat→Prop}{base:Nat}{w w':World}{tt:Option Nat}{z:Sz}{g:Int}(h:ZbE base w tt z g)(M:Mod S w w')(hS:∀k,(∃cs,Blk w k 382 cs)→¬S k):ZbE base w' tt z g:=fun p hp=>by
 obtain⟨h1,d,sl,h2⟩:=h p hp
 exact⟨h1,d,sl,h2.mod M (hS p ⟨_,h2⟩)⟩
theorem ZbE.ne {base:Nat}{w:World}{tt:Option Nat}{z:Sz}{g:Int}(h:ZbE base w tt z g){k:Nat}{t:TypeId}{cs:Array Value}(hb:Blk w k t cs)(ht:t≠382):tt≠some k:=fun he=>by
 obtain⟨-,d,sl,h2⟩:=h k he
 exact Zap hb h2 ht rfl
theorem Zhl {A:Nat→Prop}{w:World}{Ad:Option Addr}{c b:Nat}(h:RdY Zcn A w (.slice Ad 1 c) [b]):∃g off,Ad=some ⟨g,off,none⟩∧w.cell? ⟨g,off,none⟩=some (.pointer (some ⟨b,0,none⟩)):=by
 obtain⟨g,off,u,d,hv,hcell,hd,hr⟩:=h.at1 (j:=0) rfl (by decide)
 obtain rfl:u= .pointer (some ⟨d,0,none⟩):=by
  have h9: [u]=[.pointer (some ⟨d,0,none⟩)]:=hr.out
  simpa using h9
 have h8:b=d:=by have h9:=hd.out;simpa using h9
 subst h8
 exact⟨g,off,hv,by simpa using hcell⟩
theorem Zdv {A:Nat→Prop}(kb sb:Nat)(pv tv nx tk kn:Value)(As:Option Addr)(cs:Nat)(tt:Option Nat)(i o r:Value)(ld:Int)(w:World)(h:Blk w kb 218 (ZeW pv tv nx tk (.slice As 1 cs) kn))(hs:RdY Zcn A w (.slice As 1 cs) [sb])(hb:Blk w sb 281 (Zow 1 ld tt i o r)):
 Calls Tryz.prog 157 #[.pointer (some ⟨kb,0,none⟩),.int .i64 1] w fun e w'=>e= .returned (.pointer (some ⟨sb,0,none⟩))∧Ext w w':=by
 obtain⟨g,off,rfl,kc⟩:=Zhl hs
 have k4:=h.cell 4
 have q0:=hb.cell 0
 simp only[zG] at k4 q0
 clear h hs hb
 go_enter Tryz.func157,Tryz.ntmps157
 go_wp2
 go_loopw [14] (fun i wr=>i= .int .i64 0∧wr=w) (fun _ _=>0)
 case atStart=>exact⟨rfl,rfl⟩
 case round=>
  obtain⟨rfl,rfl⟩:=hrel
  go_wp2
  go_ret
  exact⟨rfl,Ext.refl _⟩
theorem Zk2 {A:Nat→Prop}(kb tb:Nat)(pv tv nx ss kn:Value)(Tt:Option Addr)(ct:Nat)(pid sess id:Int)(w:World)(h:Blk w kb 218 (ZeW pv tv nx (.slice Tt 1 ct) ss kn))(ht:RdY Zcn A w (.slice Tt 1 ct) [tb])(hb:Blk w tb 329 (tskA pid sess)):
 Calls Tryz.prog 158 #[.pointer (some ⟨kb,0,none⟩),.int .i64 id] w fun e w'=>∃n,e= .returned (.int .i64 n)∧Ext w w':=by
 obtain⟨g,off,rfl,kc⟩:=Zhl ht
 have k3:=h.cell 3
 have q1:=hb.cell 1
 simp only[zG] at k3 q1
 clear h ht hb
 go_enter Tryz.func158,Tryz.ntmps158
 go_wp2
 go_loopw [5,13] (fun u i wr=>∃ (m:Nat) (n:Int),m≤1∧u= .int .i64 n∧i= .int .i64 m∧wr=w) (fun _ i _=>1 - (intOf i).toNat)
 case atStart=>exact⟨0,0,Nat.zero_le _,rfl,rfl,rfl⟩
 case round=>
  obtain⟨m,n,hm,rfl,rfl,rfl⟩:=hrel
  by_cases hm1:m<1
  ·obtain rfl:m=0:=by omega
   by_cases hsi:sess=id
   ·subst hsi
    go_wp2
    go_roundw
    case rel=>exact⟨1,_,Nat.le_refl _,rfl,by go_num,trivial⟩
    case measure=>simp[intOf]
   ·go_wp2
    go_roundw
    case rel=>exact⟨1,n,Nat.le_refl _,rfl,by go_num,trivial⟩
    case measure=>simp[intOf]
  ·obtain rfl:m=1:=by omega
   go_wp2
   go_ret
   exact⟨n,rfl,Ext.refl _⟩
theorem Znt {A:Nat→Prop}(kb base sb tb:Nat)(pv kn:Value)(At As Tt:Option Addr)(ct cs ctt:Nat)(p0:Tb.Pr)(nx pid sess ld:Int)(tt:Option Nat)(z:Sz)(gp:Int)(i o r:Value)(w:World)
 (h:Blk w kb 218 (ZeW pv (.slice At 1 ct) (.int .i64 nx) (.slice Tt 1 ctt) (.slice As 1 cs) kn)) (hr:RdY Tb.Rp A w (.slice At 1 ct) [p0]) (ht:OwnS Zcn 327 base (fun _=>False) w (.slice Tt 1 ctt) [tb]) (hta:Blk w tb 329 (tskA pid sess)) (hlv:Tb.ZbK [p0] nx pid=true)
 (hs:OwnS Zcn 276 base (fun _=>False) w (.slice As 1 cs) [sb]) (hsb:Blk w sb 281 (Zow 1 ld tt i o r)) (htt:ZbE base w tt z gp):
 Calls Tryz.prog 367 #[.pointer (some ⟨kb,0,none⟩)] w fun e w'=>e= .returned (.tuple #[])∧Blk w' kb 218 (ZeW pv (.slice At 1 ct) (.int .i64 nx) (.slice Tt 1 ctt) (.slice As 1 cs) kn)∧ZbE base w' tt z gp∧Mod (fun k=>k=kb∨tt=some k) w w':=by
 obtain⟨W1,hW1⟩:=zn (w.alloc (.cells #[.pointer (some ⟨kb,0,none⟩)] 140))
 have E1:Ext w W1:=by rw[hW1];exact(Ext.refl _).alloc _
 have B1:=zh (show Blk W1 w.heap.size 140 #[.pointer (some ⟨kb,0,none⟩)] by rw[hW1];exact Blk.new w _ _)
 have HW1:=zh hW1
 have HB:=zh (h.ext E1)
 have HTA:=zh (hta.ext E1)
 have HASK:=zh (show ∀w',Ext W1 w'→ZqK 396 #[] #[.pointer (some ⟨w.heap.size,0,none⟩)] Zcn (fun _=>false) [tb] w' from fun w' E=>⟨Zge,fun u d w2 hd E2 hr2=>by
  have h9: [u]=[.pointer (some ⟨d,0,none⟩)]:=hr2
  obtain rfl:u= .pointer (some ⟨d,0,none⟩):=by simpa using h9
  obtain rfl:d=tb:=by simpa using hd
  have EE:=E.trans E2
  exact Zku kb w.heap.size d pv (.slice Tt 1 ctt) _ kn At ct [p0] nx pid sess w2 (HB.out.ext EE) ((hr.ext E1).ext EE) (B1.out.ext EE) (HTA.out.ext EE) hlv⟩)
 have HDEL:=zh (fun w' (E:Ext W1 w')=>Zhb _ _ _ _ _ _ w' ((ht.ext E1).ext E).rdT.y (HASK.out w' E) (fun _ _=>rfl))
 have HTK:=zh (ht.ext E1)
 have HS:=zh (hs.ext E1)
 have HSB:=zh (hsb.ext E1)
 have HTT:=zh (htt.ext E1)
 have HK0:=zh h
 have HT0:=zh htt
 have k3:=HB.out.cell 3
 have b0:=B1.out.cell 0
 simp only[zG] at k3 b0
 have hkl:=h.lt
 clear h hr ht hta hlv hs hsb hW1 HASK htt
 go_enter Tryz.func367,Tryz.ntmps367
 go_upto_region 1 with fail
 rw[←HW1.out]
 clear HW1
 refine Zao 9 (fun w'=>Ext W1 w') (by kernel_rfl) (Ext.drew (Ext.refl _)) (fun hHeld=>?_)
 obtain⟨D,hD⟩:=zn (W1.drew)
 have ED:Ext W1 D:=by rw[hD];exact(Ext.refl _).drew
 rw[←hD] at hHeld⊢
 clear hD
 (refine zl 0 (fun _ h=>Zaa h b0) ?_)
 (refine zl 1 (fun _ h=>Zaa h b0) ?_)
 refine zk 2 ?_
 refine zk 3 ?_
 (refine zl 4 (fun _ h=>Zaa h k3) ?_)
 refine zk 5 ?_
 refine zy 6 fun K hK=>?_
 go_simp
 refine(HDEL.out D ED).mono ?_
 rintro e w2 ⟨rfl,E2⟩
 (try dsimp only)
 have E12:=ED.trans E2
 refine zo hK E12 fun hHeld=>?_
 clear hK K
 (refine zy 7 fun K hK=>?_;go_simp;refine zo hK E12 fun hHeld=>?_;clear hK K)
 refine zk 8 ?_
 have HB2:=zh (HB.out.ext E12)
 have k3:=HB2.out.cell 3
 have f3:=HB2.out.frozen 3
 simp only[zG] at k3
 (refine Zam (rs:=[9]) (by kernel_rfl) (by simp) ?_;refine Zaj.last rfl (fun K hK=>?_) Zaj.nil;go_simp;refine hK.out _ _ ?_;clear hK K;(try simp only[zP]))
 refine Zaw (by kernel_rfl) ?_ _
 have HB3:=zh (show Blk (w2.setCell ⟨kb,3,none⟩ (.slice Tt 1 ctt)) kb 218 (ZeW pv (.slice At 1 ct) (.int .i64 nx) (.slice Tt 1 ctt) (.slice As 1 cs) kn) by simpa using HB2.out.set_ 3 (.slice Tt 1 ctt))
 have M3:Kb.Mod (fun k=>k=kb) w2 (w2.setCell ⟨kb,3,none⟩ (.slice Tt 1 ctt)):=(Mod.refl _ _).set1 _
 have HS3:=zh ((HS.out.ext E12).mod M3 (fun k hk he=>Zai HS.out HB.out (by decide) (by rw[hk,he])) (fun k _ hk=>hk.elim))
 have HTK3:=zh ((HTK.out.ext E12).mod M3 (fun k hk he=>Zai HTK.out HB.out (by decide) (by rw[hk,he])) (fun k _ hk=>hk.elim))
 have HSB3:=zh ((HSB.out.ext E12).mod M3 (fun he=>Zap HSB.out HB.out (by decide) he))
 have HTA3:=zh ((HTA.out.ext E12).mod M3 (fun he=>Zap HTA.out HB.out (by decide) he))
 have HTT3:=zh ((HTT.out.ext E12).mod M3 (fun k ⟨cs,hk⟩ he=>Zap hk HB2.out (by decide) he))
 have B13:=zh ((B1.out.ext E12).mod M3 (by omega))
 have M03:=zh (show Kb.Mod (fun k=>k=kb) w _ from(Mod.of_ext (E1.trans E12)).trans M3)
 generalize w2.setCell ⟨kb,3,none⟩ (.slice Tt 1 ctt)=w3 at*
 have k4:=HB3.out.cell 4
 have b0:=B13.out.cell 0
 have q2:=HSB3.out.cell 2
 simp only[zG] at k4 b0 q2
 have HTN:=zh (HTT3.out.ne HB3.out (by decide))
 clear HB HB2 HTA HDEL HS HSB HTK HTT B1 hHeld E12 ED E2 E1 M3 k3 f3
 go_upto_region 3 with fail
 go_wp2
 go_loopw [18] (fun i wr=>∃m:Nat,m≤1∧i= .int .i64 m∧(m=0→wr=w3)∧Hid (ZbE base wr tt z gp)∧Hid (Mod (fun k=>tt=some k) w3 wr)) (fun i _=>1 - (intOf i).toNat)
 case atStart=>exact⟨0,Nat.zero_le _,rfl,fun _=>rfl,HTT3,zh (Mod.refl _ _)⟩
 case round=>
  obtain⟨m,hm,rfl,hw3,HTR,HM⟩:=hrel
  by_cases hms:m<1
  ·obtain rfl:m=0:=by omega
   obtain rfl:=hw3 rfl
   obtain⟨g4,of4,hAs,c4⟩:=Zhl HS3.out.rdT.y
   subst hAs
   clear hw3
   cases tt with
   |none=>
    go_wp2
    go_roundw
    case rel=>exact⟨1,Nat.le_refl _,by go_num,fun h=>by omega,HTR,HM⟩
    case measure=>simp[intOf]
   |some p=>
    obtain⟨hbp,d,sl,hbl⟩:=HTR.out p rfl
    have HPT:=zh hbl
    have HBP:=zh hbp
    have HUS:=zh (fun w' (E:Ext wr w')=>Zk2 (A:=fun _=>True) kb tb pv _ _ _ kn Tt ctt pid sess 1 w' (HB3.out.ext E) (HTK3.out.ext E).rdT.y (HTA3.out.ext E))
    have q0:=HSB3.out.cell 0
    simp only[List.getElem?_toArray,List.getElem?_cons_zero] at q0
    have q2:wr.cell? ⟨sb,2,none⟩=some (.pointer (some ⟨p,0,none⟩)):=q2
    clear hbl hbp
    go_upto_region 6 with fail
    refine Zao 12 (fun w'=>Ext wr w') (by kernel_rfl) (Ext.drew (Ext.refl _)) (fun hHeld=>?_)
    obtain⟨D,hD⟩:=zn (World.drew wr)
    have ED:Ext wr D:=by rw[hD];exact(Ext.refl _).drew
    rw[←hD] at hHeld⊢
    clear hD
    refine zk 0 ?_
    refine zk 1 ?_
    refine zk 2 ?_
    (refine zl 3 (fun _ h=>Zaa h q2) ?_)
    (refine zl 4 (fun _ h=>Zaa h b0) ?_)
    refine zk 5 ?_
    refine zk 6 ?_
    refine zk 7 ?_
    (refine zl 8 (fun _ h=>Zaa h q0) ?_)
    (refine zy 9 fun K hK=>?_;go_simp;go_at_call 158;refine(HUS.out D ED).mono ?_;rintro e w5 ⟨n5,rfl,E5⟩;(try dsimp only);refine zo hK (ED.trans E5) fun hHeld=>?_;clear hK K)
    have E35:=zh (ED.trans E5)
    (refine zy 10 fun K hK=>?_;go_simp;refine zo hK E35.out fun hHeld=>?_;clear hK K)
    refine zk 11 ?_
    have HP5:=zh (HPT.out.ext E35.out)
    have k7:=HP5.out.cell 7
    have f7:=HP5.out.frozen 7
    simp only[zG] at k7
    (refine Zam (rs:=[12]) (by kernel_rfl) (by simp) ?_;refine Zaj.last rfl (fun K hK=>?_) Zaj.nil;go_simp;refine hK.out _ _ ?_;clear hK K;(try simp only[zP]))
    refine Zaw (by kernel_rfl) ?_ _
    have HP6:=zh (show Blk (w5.setCell ⟨p,7,none⟩ (.int .i64 n5)) p 382 (ptA d ⟨z.z1,z.z2,z.z3,z.z4,gp,gp,n5⟩) by simpa using HP5.out.set_ 7 (.int .i64 n5))
    have M6:=zh (show Mod (fun k=>some p=some k) wr (w5.setCell ⟨p,7,none⟩ (.int .i64 n5)) from(Mod.of_ext E35.out).trans (((Mod.refl (fun k=>k=p) _).set1 _).mono (fun k _ hk=>by rw[hk])))
    clear k7 f7 HP5 hHeld ED E5 HUS q0 q2
    generalize w5.setCell ⟨p,7,none⟩ (.int .i64 n5)=w6 at*
    go_wp2
    go_roundw
    case rel=>exact⟨1,Nat.le_refl _,by go_num,fun h=>by omega,zh (fun p' hp'=>by
     obtain rfl:=Option.some.inj hp'
     exact⟨HBP.out,d,n5,HP6.out⟩),M6⟩
    case measure=>simp[intOf]
  ·obtain rfl:m=1:=by omega
   go_wp2
   go_end0
   exact⟨rfl,HB3.out.mod HM.out HTN.out,HTR.out,(M03.out.mono (fun k _ hk=>.inl hk)).trans (HM.out.mono (fun k _ hk=>.inr hk))⟩
theorem Zhm {D:Type}{e:Rep D}{T:TypeId}{base base2:Nat}{B:Nat→Prop}{w:World}{v:Value}{l:List D}{tt:Option Nat}{z:Sz}{g:Int}(h:OwnS e T base B w v l)(ht:ZbE base2 w tt z g)(hne:T≠382){k:Nat}(hk:v.ownBlock=some k):tt≠some k:=fun he=>by
 obtain⟨-,d,sl,h2⟩:=ht k he
 exact Zai h h2 hne hk
abbrev Zrv (pv:Value):Array Value:=ZeW pv (.slice none 0 0) (.int .i64 1) (.slice none 0 0) (.slice none 0 0) (.int .i64 1)
def KrO (kb base:Nat)(w:World)(pv:Value)(p:Tb.Pr)(tt:Option Nat)(z:Sz):Prop:=
 base≤kb∧∃At ct Tt ctt As cs tb sb i o r,Blk w kb 218 (ZeW pv (.slice At 1 ct) (.int .i64 2) (.slice Tt 1 ctt) (.slice As 1 cs) (.int .i64 2))∧OwnS Tb.Rp 234 base (fun _=>False) w (.slice At 1 ct) [p]∧
  OwnS Zcn 327 base (fun _=>False) w (.slice Tt 1 ctt) [tb]∧Blk w tb 329 (tskA 1 1)∧OwnS Zcn 276 base (fun _=>False) w (.slice As 1 cs) [sb]∧Blk w sb 281 (Zow 1 1 tt i o r)∧ZbE base w tt z 1
theorem Zrw (prog:Int)(w:World):Calls Tryz.prog 365 #[.agg #[.slice none 0 0,.int .i64 1],.int .i64 prog] w fun e w'=>∃A' c',e= .returned (.tuple #[.agg #[.slice A' 1 c',.int .i64 2],.int .i64 1,.int .i64 0])∧
 OwnS Tb.Rp 234 w.heap.size (fun _=>False) w' (.slice A' 1 c') [newP 1 prog]∧Ext w w':=
 ZmP (A:=fun _=>True) none 0 [] 1 prog w (OwnS.nil _ _ _ _ _:OwnS Tb.Rp 234 0 (fun _=>False) w _ []).rdT.y rfl (by decide) (by decide)
def ZfC (kb base sb:Nat)(pv:Value)(prog:Int)(tt:Option Nat)(z:Sz)(w:World)(e:Ending)(w':World):Prop:=
 e= .returned (.tuple #[.int .i64 1,.int .i64 0])∧KrO kb base w' pv (newP 1 prog) tt z∧Mod (fun k=>k=sb∨k=kb∨tt=some k) w w'
theorem Zgv (kb base sb:Nat)(pv:Value)(prog:Int)(tt:Option Nat)(z:Sz)(i o r:Value)(w:World)(hkb:base≤kb)(HB:Blk w kb 218 (Zrv pv))(hb:base≤w.heap.size)
 (hsb:Blk w sb 281 (Zow 0 0 tt i o r)) (htt:ZbE base w tt z 0):
 Calls Tryz.prog 321 #[.pointer (some ⟨kb,0,none⟩),.int .i64 prog,.pointer (some ⟨sb,0,none⟩)] w (ZfC kb base sb pv prog tt z w):=by
 have hiT:=zi Tryz.prog 79 2
 have HLV:=zh (show Tb.ZbK [newP 1 prog] 2 1=true from rfl)
 have HB:=zh HB
 have HSB:=zh hsb
 have HTT:=zh htt
 have hkl:=HB.out.lt
 have hsl:=hsb.lt
 have hks:kb≠sb:=Zap HB.out hsb (by decide)
 have k1:=HB.out.cell 1
 have k2:=HB.out.cell 2
 have k4:=HB.out.cell 4
 simp only[zG] at k1 k2 k4
 have hLP:∀i u,[.slice none 0 0,.int .i64 1][i]?=some u→w.cell? ⟨kb,1+i,none⟩=some u:=by
  intro i u hu
  rcases i with _|_|i
  ·simp at hu;rw[←hu];exact k1
  ·simp at hu;rw[←hu];exact k2
  ·simp at hu
 clear hsb htt
 unfold ZfC
 go_enter Tryz.func321,Tryz.ntmps321
 go_upto_region 3 with fail
 go_wp2_with(first|(refine wpList_load_mid rfl 79 _ rfl kb 1 rfl [.slice none 0 0,.int .i64 1] _ hLP Tryz.underlying79 rfl hiT ?_)|fail)
 refine(Zrw prog _).mono ?_
 rintro e w1 ⟨A1,c1,rfl,HP1,E1⟩
 have HB1:=zh (HB.out.ext E1)
 have HSB1:=zh (HSB.out.ext E1)
 have HTT1:=zh (HTT.out.ext E1)
 have hs01:=E1.size
 clear HB HSB HTT k1 k2 k4 hLP
 have B8:=zh (Blk.new w1 79 #[.slice none 0 0,.int .i64 0])
 go_upto_region 6 with(refine wpList_store_M rfl 79 _ _ rfl w1.heap.size _ rfl rfl 79 _ B8.out hiT rfl (by simp[Value.oneCell']) ?_;intro w2 P2 M2)
 have E12:Ext w1 w2:=Mod.toExt ((Ext.refl _).alloc _) M2 (fun k hk he=>by omega)
 have HB2:=zh (HB1.out.ext E12)
 have k1:=HB2.out.cell 1
 have k2:=HB2.out.cell 2
 simp only[zG] at k1 k2
 have hth:w2.there kb 1 2:=fun t ht=>⟨by
  rcases t with _|_|t
  ·rw[k1];rfl
  ·rw[k2];rfl
  ·omega,HB2.out.frozen _⟩
 have P2:=zh P2
 have HB3:=zh (show Blk (w2.setCells kb 1 [.slice A1 1 c1,.int .i64 2]) kb 218 (ZeW pv (.slice A1 1 c1) (.int .i64 2) (.slice none 0 0) (.slice none 0 0) (.int .i64 1)) from Blk.setCells [.slice A1 1 c1,.int .i64 2] 1 w2 _ HB2.out (by simp))
 have M3:=zh (Mod.setCells [.slice A1 1 c1,.int .i64 2] 1 w2 w2 (Mod.refl (fun k=>k=kb) w2))
 go_upto_region 7 with(first|(refine wpList_load_row rfl 79 _ rfl _ rfl 79 _ _ _ P2.out Tryz.underlying79 rfl hiT ?_)|(refine wpList_store_mid rfl 79 _ _ rfl kb 1 #[.slice A1 1 c1,.int .i64 2] rfl rfl (by exact hth) hiT (by simp[Value.oneCell']) ?_))
 (try simp only[zP])
 have hpk:(Value.slice A1 1 c1).ownBlock≠some kb:=by
  obtain⟨us,ho,_⟩:=HP1
  exact Zal ho HB1.out (by decide)
 have HP3:=zh (((HP1.ext E12).mod M3.out (fun k hk he=>hpk (by rw[hk,he])) (fun k _ hk=>hk.elim)))
 have HSB3:=zh ((HSB1.out.ext E12).mod M3.out (fun he=>hks he.symm))
 have HTT3:=zh ((HTT1.out.ext E12).mod M3.out (fun k ⟨cs,hk⟩ he=>Zap hk HB2.out (by decide) he))
 have M03:=zh (show Kb.Mod (fun k=>k=kb) w _ from(Mod.of_ext (E1.trans E12)).trans M3.out)
 clear HB1 HSB1 HTT1 HP1 HB2 B8 P2 M2 M3 E12 hth k1 k2 hpk
 obtain⟨w3,hw3⟩:=zn (w2.setCells kb 1 [.slice A1 1 c1,.int .i64 2])
 rw[←hw3] at HB3 HP3 HSB3 HTT3 M03
 first|rw[←hw3]|(change Code.wp _ _ _ _ (w2.setCells kb 1 [.slice A1 1 c1,.int .i64 2]);rw[←hw3])
 clear hw3
 generalize w1.heap.size=g8 at*
 have q0:=HSB3.out.cell 0
 have q1:=HSB3.out.cell 1
 have q2:=HSB3.out.cell 2
 have r0:=HSB3.out.frozen 0
 have r1:=HSB3.out.frozen 1
 have k5:=HB3.out.cell 5
 simp only[zG] at q0 q1 q2 k5
 have hksl:¬sb=kb:=fun he=>hks he.symm
 go_upto_region 8 with fail
 obtain⟨w4,hw4⟩:=zn ((w3.setCell ⟨sb,0,none⟩ (.int .i64 1)).setCell ⟨sb,1,none⟩ (.int .i64 1))
 have M34:Kb.Mod (fun k=>k=sb) w3 w4:=by
  rw[hw4]
  exact((Mod.refl (fun k=>k=sb) w3).set1 _).set1 _
 have HSB4:=zh (show Blk w4 sb 281 (Zow 1 1 tt i o r) by
  rw[hw4]
  exact(by simpa using(HSB3.out.set_ 0 (.int .i64 1)).set_ 1 (.int .i64 1):Blk _ sb 281 (Zow 1 1 tt i o r)))
 rw[←hw4]
 clear hw4
 have HB4:=zh (HB3.out.mod M34 hks)
 have HP4:=zh (HP3.out.mod M34 (fun k hk he=>Zai HP3.out HSB3.out (by decide) (by rw[hk,he])) (fun k _ hk=>hk.elim))
 have HTT4:=zh (HTT3.out.mod M34 (fun k ⟨cs,hk⟩ he=>Zap hk HSB3.out (by decide) he))
 have M04:=zh (show Kb.Mod (fun k=>k=sb∨k=kb) w w4 from(M03.out.mono (fun k _ hk=>.inr hk)).trans (M34.mono (fun k _ hk=>.inl hk)))
 clear M34 HP3 HSB3 HTT3 HB3 M03 q0 q1 q2 r0 r1 k5
 rcases tt with _|p
 all_goals first
  |(
   obtain⟨w5,hw5⟩:=zm (w4)
   subst hw5
   have q2:w4.cell? ⟨sb,2,none⟩=some (.pointer none):=HSB4.out.cell 2
   go_upto_region 10 with fail
   have HSB5:=HSB4
   have HB5:=HB4
   have HP5:=HP4
   have HTT5:=zh (show ZbE base w4 none z 1 from fun p hp=>by cases hp)
   have M05:=zh (show Kb.Mod (fun k=>k=sb∨k=kb∨none=some k) w w4 from M04.out.mono (fun k _ hk=>hk.elim .inl (fun h=>.inr (.inl h))))
   clear HSB4 HB4 HP4 HTT4 M04 q2
   obtain⟨w5,hw5⟩:=zn (w4)
   rw[←hw5] at HSB5 HB5 HP5 HTT5 M05⊢
   clear hw5
   )
  |(
   have q2:w4.cell? ⟨sb,2,none⟩=some (.pointer (some ⟨p,0,none⟩)):=HSB4.out.cell 2
   obtain⟨hbp,d,sl,hpt⟩:=HTT4.out p rfl
   have HPT:=zh hpt
   have HBP:=zh hbp
   clear hpt hbp
   go_wp2_with fail
   refine(Znq p d z.z1 z.z2 z.z3 z.z4 sl 1 _ HPT.out (by decide)).mono ?_
   rintro e w5 ⟨rfl,HPT5,M45⟩
   have HSB5:=zh (HSB4.out.mod M45 (fun he=>Zap HSB4.out HPT.out (by decide) he))
   have HB5:=zh (HB4.out.mod M45 (fun he=>Zap HB4.out HPT.out (by decide) he))
   have HP5:=zh (HP4.out.mod M45 (fun k hk he=>Zai HP4.out HPT.out (by decide) (by rw[hk,he])) (fun k _ hk=>hk.elim))
   have HTT5:=zh (show ZbE base w5 (some p) z 1 from fun p' hp'=>by
    obtain rfl:=Option.some.inj hp'
    exact⟨HBP.out,d,sl,HPT5⟩)
   have M05:=zh (show Kb.Mod (fun k=>k=sb∨k=kb∨some p=some k) w w5 from(M04.out.mono (fun k _ hk=>hk.elim .inl (fun h=>.inr (.inl h)))).trans (M45.mono (fun k _ hk=>.inr (.inr (by rw[hk])))))
   clear HSB4 HB4 HP4 HTT4 M04 q2 HPT HBP HPT5 M45
   go_upto_region 10 with fail
   )
 all_goals
  have q0:=HSB5.out.cell 0
  have k4:=HB5.out.cell 4
  have k5:=HB5.out.cell 5
  have f5:=HB5.out.frozen 5
  simp only[zG] at q0 k4 k5
  go_upto_region 11 with fail
  obtain⟨w6,hw6⟩:=zn (w5.setCell ⟨kb,5,none⟩ (.int .i64 2))
  have M56:Kb.Mod (fun k=>k=kb) w5 w6:=by rw[hw6];exact(Mod.refl _ _).set1 _
  have HB6:=zh (show Blk w6 kb 218 (ZeW pv (.slice A1 1 c1) (.int .i64 2) (.slice none 0 0) (.slice none 0 0) (.int .i64 2)) by
   rw[hw6]
   simpa using HB5.out.set_ 5 (.int .i64 2))
  rw[←hw6]
  clear hw6
  have HSB6:=zh (HSB5.out.mod M56 (fun he=>hks he.symm))
  have HP6:=zh (HP5.out.mod M56 (fun k hk he=>Zai HP5.out HB5.out (by decide) (by rw[hk,he])) (fun k _ hk=>hk.elim))
  have HTT6:=zh (HTT5.out.mod M56 (fun k ⟨cs,hk⟩ he=>Zap hk HB5.out (by decide) he))
  have M06:=zh (M05.out.trans (M56.mono (fun k _ hk=>.inr (.inl hk))))
  have hs06:=M06.out.size
  clear M56 HSB5 HB5 HP5 HTT5 M05 q0 k4 k5 f5
  have k4:=HB6.out.cell 4
  simp only[zG] at k4
  have E67:Ext w6 (w6.alloc (.cells #[.pointer (some ⟨sb,0,none⟩)] 276)):=(Ext.refl _).alloc _
  have HY:=zh (Blk.new w6 276 #[.pointer (some ⟨sb,0,none⟩)])
  have HB7:=zh (HB6.out.ext E67)
  have hb7:=E67.size
  go_upto_region 12 with(at_builtin;refine wpList_appX (e:=Zcn) (base:=base) (B:=fun _=>False) (A:=fun _=>False) (v:=.slice none 0 0) (ds:=[]) rfl (.tmp 68) (.tmp 70) rfl Tryz.underlying216 Zpq rfl (OwnS.nil _ _ _ _ _) rfl (RdY.singleB (e:=Zcn) (cs:=[.pointer (some ⟨sb,0,none⟩)]) (d:=sb) rfl HY.out) rfl (fun _ _ h=>h.elim) (N:=1) rfl (by unfold maxLen;omega) (by omega) (by omega) ?_;intro A9 c9 w8 o9 M9 L9 X9;have HB8:=zh (HB7.out.mod M9 (by intro h9;cases h9));have f4:=HB8.out.frozen 4;have k48:=HB8.out.cell 4;simp only[zG] at k48)
  obtain⟨w9,hw9⟩:=zn (w8.setCell ⟨kb,4,none⟩ (.slice A9 1 c9))
  have M89:Kb.Mod (fun k=>k=kb) w8 w9:=by rw[hw9];exact(Mod.refl _ _).set1 _
  have M69:Kb.Mod (fun k=>k=kb) w6 w9:=((Mod.of_ext E67).trans (M9.mono (fun k _ hk=>by cases hk))).trans M89
  have HB9:=zh (show Blk w9 kb 218 (ZeW pv (.slice A1 1 c1) (.int .i64 2) (.slice none 0 0) (.slice A9 1 c9) (.int .i64 2)) by rw[hw9];simpa using HB8.out.set_ 4 (.slice A9 1 c9))
  rw[←hw9]
  clear hw9
  have HO9:=zh (o9.mod M89 (fun k hk he=>Zai o9 HB8.out (by decide) (by rw[hk,he])) (fun k _ hk=>hk.elim))
  have HP9:=zh (HP6.out.mod M69 (fun k hk he=>Zai HP6.out HB6.out (by decide) (by rw[hk,he])) (fun k _ hk=>hk.elim))
  have HSB9:=zh (HSB6.out.mod M69 (fun he=>hks he.symm))
  have HTT9:=zh (HTT6.out.mod M69 (fun k ⟨cs,hk⟩ he=>Zap hk HB6.out (by decide) he))
  have M09:=zh (M06.out.trans (M69.mono (fun k _ hk=>.inr (.inl hk))))
  have hs09:=M09.out.size
  clear M69 M89 M9 L9 X9 E67 HY HB7 HB8 HB6 HP6 HSB6 HTT6 o9 M06 k4 k48 f4 hb7
  have k3:=HB9.out.cell 3
  have q0:=HSB9.out.cell 0
  simp only[zG] at k3 q0
  refine Zao 16 (fun w'=>Ext w9 w') (by kernel_rfl) (Ext.drew (Ext.refl _)) (fun hHeld=>?_)
  obtain⟨D,hD⟩:=zn (w9.drew)
  have ED:Ext w9 D:=by rw[hD];exact(Ext.refl _).drew
  rw[←hD] at hHeld⊢
  clear hD
  refine zk 0 ?_
  refine zk 1 ?_
  refine zk 2 ?_
  refine zk 3 ?_
  (refine zl 4 (fun _ h=>Zaa h k3) ?_)
  refine zk 5 ?_
  refine zk 6 ?_
  refine zk 7 ?_
  refine zk 8 ?_
  (refine zl 9 (fun _ h=>Zaa h q0) ?_)
  (refine ZaJ (i:=10) (v:=.agg (tskA 1 1)) rfl (by kernel_rfl) (by kernel_rfl) (by kernel_rfl) (by kernel_rfl) (fun _ _ _ h=>h) (Zae (by rfl) 329 _ rfl (by simp[go_sem];exact(by kernel_rfl))) (by assumption) ?_;(try simp only[zP]))
  refine zy 11 fun K hK=>?_
  go_simp
  have HX:=zh (Blk.new D 329 (tskA 1 1))
  have EX:Ext D (D.alloc (.cells (tskA 1 1) 329)):=(Ext.refl _).alloc _
  refine zo hK (ED.trans EX) fun hHeld=>?_
  clear hK K
  have hds:w9.heap.size≤D.heap.size:=ED.size
  have E4:=ED.trans EX
  have hx4:=HX.out.lt
  generalize D.alloc (.cells (tskA 1 1) 329)=u4 at*
  obtain⟨tb,htb⟩:=zm (D.heap.size)
  rw[htb] at HX hds hx4⊢
  clear EX ED htb
  refine zy 12 fun K hK=>?_
  go_simp
  have HY:=zh (Blk.new u4 327 #[.pointer (some ⟨tb,0,none⟩)])
  have EY:Ext u4 (u4.alloc (.cells #[.pointer (some ⟨tb,0,none⟩)] 327)):=(Ext.refl _).alloc _
  refine zo hK (E4.trans EY) fun hHeld=>?_
  clear hK K
  have HX5:=zh (HX.out.ext EY)
  have E5:=E4.trans EY
  have hs4:=E4.size
  have hs45:=EY.size
  generalize u4.alloc (.cells #[.pointer (some ⟨tb,0,none⟩)] 327)=u5 at*
  generalize u4.heap.size=nY at*
  clear EY E4 HX
  refine zy 13 fun K hK=>?_
  refine ZaE (e:=Zcn) (base:=base) (B:=fun _=>False) (A:=fun _=>False) (v:=.slice none 0 0) (ds:=[]) rfl (.tmp 78) (.tmp 86) rfl Tryz.underlying215 Zpp rfl (OwnS.nil _ _ _ _ _) rfl (RdY.singleB (e:=Zcn) (cs:=[.pointer (some ⟨tb,0,none⟩)]) (d:=tb) rfl HY.out) rfl (fun _ _ h=>h.elim) (N:=1) rfl (by unfold maxLen;omega) (by omega) (by omega) ?_
  intro A8 c8 u6 o8 M8 X8
  have E96:Ext w9 u6:=E5.trans (Mod.toExt (Ext.refl _) M8 (fun k hk he=>by cases he))
  refine zo hK E96 fun hHeld=>?_
  clear hK K
  have HX6:=zh (HX5.out.mod M8 (by intro h9;cases h9))
  have HB6:=zh (HB9.out.ext E96)
  have HSB6:=zh (HSB9.out.ext E96)
  have HP6:=zh (HP9.out.ext E96)
  have HO6:=zh (HO9.out.ext E96)
  have HTT6:=zh (HTT9.out.ext E96)
  have o8:=zh o8
  have hs6:=E96.size
  have M06:=zh (M09.out.ext E96)
  clear M8 HY HX5 E5 HB9 HSB9 HP9 HO9 HTT9 M09 k3 q0 hHeld
  (refine zy 14 fun K hK=>?_;go_simp;refine zo hK E96 fun hHeld=>?_;clear hK K)
  refine zk 15 ?_
  have k3:=HB6.out.cell 3
  have f3:=HB6.out.frozen 3
  simp only[List.getElem?_toArray,List.getElem?_cons_succ,List.getElem?_cons_zero] at k3
  (refine Zam (rs:=[16]) (by kernel_rfl) (by simp) ?_;refine Zaj.last rfl (fun K hK=>?_) Zaj.nil;go_simp;refine hK.out _ _ ?_;clear hK K;(try simp only[zP]))
  refine Zaw (by kernel_rfl) ?_ _
  obtain⟨wA,hwA⟩:=zn (u6.setCell ⟨kb,3,none⟩ (.slice A8 1 c8))
  have MA:Kb.Mod (fun k=>k=kb) u6 wA:=by rw[hwA];exact(Mod.refl _ _).set1 _
  have HBA:=zh (show Blk wA kb 218 (ZeW pv (.slice A1 1 c1) (.int .i64 2) (.slice A8 1 c8) (.slice A9 1 c9) (.int .i64 2)) by rw[hwA];simpa using HB6.out.set_ 3 (.slice A8 1 c8))
  rw[←hwA]
  clear hwA
  have HPA:=zh (HP6.out.mod MA (fun k hk he=>Zai HP6.out HB6.out (by decide) (by rw[hk,he])) (fun k _ hk=>hk.elim))
  have HOA:=zh (HO6.out.mod MA (fun k hk he=>Zai HO6.out HB6.out (by decide) (by rw[hk,he])) (fun k _ hk=>hk.elim))
  have HTKA:=zh (o8.out.mod MA (fun k hk he=>Zai o8.out HB6.out (by decide) (by rw[hk,he])) (fun k _ hk=>hk.elim))
  have HXA:=zh (HX6.out.mod MA (fun he=>Zap HX6.out HB6.out (by decide) he))
  have HSBA:=zh (HSB6.out.mod MA (fun he=>hks he.symm))
  have HTTA:=zh (HTT6.out.mod MA (fun k ⟨cs,hk⟩ he=>Zap hk HB6.out (by decide) he))
  have M0A:=zh (M06.out.trans (MA.mono (fun k _ hk=>.inr (.inl hk))))
  have HTI:=zh (Znt (A:=fun _=>True) kb base sb tb pv (.int .i64 2) A1 A9 A8 c1 c9 c8 (newP 1 prog) 2 1 1 1 _ z 1 i o r wA HBA.out HPA.out.rdT.y HTKA.out HXA.out HLV.out HOA.out HSBA.out HTTA.out)
  clear HB6 HP6 HO6 o8 HX6 HSB6 HTT6 MA M06 k3 f3 E96
  go_wp2_with fail
  refine(HTI.out).mono ?_
  rintro e wB ⟨rfl,HBB,HTB,MB⟩
  have HSBB:=HSBA.out.mod MB (fun he=>he.elim (fun he=>hks he.symm) (HTTA.out.ne HSBA.out (by decide)))
  have q0:=HSBB.cell 0
  simp only[List.getElem?_toArray,List.getElem?_cons_zero] at q0
  have HBB:=zh HBB
  have HSBB:=zh HSBB
  have HTB:=zh HTB
  have MB:=zh MB
  clear HTI
  go_wp2
  go_ret2
  exact⟨rfl,⟨hkb,A1,c1,A8,c8,A9,c9,tb,sb,i,o,r,HBB.out,(HPA.out.mod MB.out (fun k hk he=>he.elim (fun he=>Zai HPA.out HBA.out (by decide) (by rw[hk,he])) (fun he=>Zhm HPA.out HTTA.out (by decide) hk he)) (fun k _ hk=>hk.elim)).lower hb,HTKA.out.mod MB.out (fun k hk he=>he.elim (fun he=>Zai HTKA.out HBA.out (by decide) (by rw[hk,he])) (fun he=>Zhm HTKA.out HTTA.out (by decide) hk he)) (fun k _ hk=>hk.elim),HXA.out.mod MB.out (fun he=>he.elim (fun he=>Zap HXA.out HBA.out (by decide) he) (HTTA.out.ne HXA.out (by decide))),HOA.out.mod MB.out (fun k hk he=>he.elim (fun he=>Zai HOA.out HBA.out (by decide) (by rw[hk,he])) (fun he=>Zhm HOA.out HTTA.out (by decide) hk he)) (fun k _ hk=>hk.elim),HSBB.out,HTB.out⟩,M0A.out.trans (MB.out.mono (fun k _ hk=>.inr hk))⟩
end Go.Proofs.YtmmhcllibpmfnaaGreatDoor
namespace Go.Proofs.YtmmhcllibpmfnaaGreatDoor.Md
open Go.RowKit Go.Kb
set_option linter.unusedSimpArgs false
theorem ZcH {P:Program}{o:Oper}{a:Act}{w:World}{K:Act→World→Prop}{Q:Exit→Act→World→Prop}(ty:TypeId)(x y:Operand)(ho:o.op= .store ty x y)
 (g k:Nat) (hx:a.eval x= .pointer (some ⟨g,k,none⟩)) (u:Value) (hy:a.eval y=u) (h1:u.oneCell'=true) (hc:u.cells=#[u])
 (t:TypeId) (old:Array Value) (hg:Blk w g t old) (hk:k<old.size) (hi:(P.info? ty).map (·.size)=some 1)
 (h:∀w',Blk w' g t (old.setIfInBounds k u)→(∀ (g':Nat) (t':TypeId) (c':Array Value),g'≠g→Blk w g' t' c'→Blk w' g' t' c')→(∀ (B:Nat) (a:World),Below B a w→B≤g→Below B a w')→K (a.put o.dst undef) w'):o.wp P a w K Q:=by
 have hrun:(storeVar ty ⟨g,k,none⟩ u).run P w= .ok () (w.setCell ⟨g,k,none⟩ u):=by
  have hst:=run_storeCells_cells (P:=P) g k [u] 0 w (fun j hj=>by
   have:j=0:=by simpa using hj
   subst this
   rw[hg.cell,Array.getElem?_eq_getElem (by omega)]
   rfl) (fun j _=>hg.frozen _) (fun v hv=>by rw[List.mem_singleton.1 hv];exact h1)
  cases hq:P.info? ty with
  |none=>simp[hq] at hi
  |some i=>
   have hs:i.size=1:=by simpa [hq] using hi
   simp only[storeVar,sizeOf,typeInfo,hc]
   simp[hq,hs,hst]
   rfl
 unfold Oper.wp execOp
 simp only[ho,hx,hy,Instr.storeAt,Instr.sureAddr,Sem.run_bind,Sem.run_pure,Result.andThen_ok,hrun]
 exact h _ (hg.set_ k u) (fun g' t' c' hne hb=>hb.far (p:=⟨g,k,none⟩) hne u) (fun B a hB hl=>Below.setCell hB hl u)
theorem Zan {P:Program}{ops:Array Oper}{rest:List Oper}{o:Oper}{a:Act}{w:World}{Q:Exit→Act→World→Prop}(hgd:o.guard=none)(ty:TypeId)(x y:Operand)(ho:o.op= .store ty x y)
 (g k:Nat) (hx:a.eval x= .pointer (some ⟨g,k,none⟩)) (u:Value) (hy:a.eval y=u) (h1:u.oneCell'=true) (hc:u.cells=#[u])
 (t:TypeId) (old:Array Value) (hg:Blk w g t old) (hk:k<old.size) (hi:(P.info? ty).map (·.size)=some 1)
 (h:∀w',Blk w' g t (old.setIfInBounds k u)→(∀ (g':Nat) (t':TypeId) (c':Array Value),g'≠g→Blk w g' t' c'→Blk w' g' t' c')→(∀ (B:Nat) (a:World),Below B a w→B≤g→Below B a w')→wpList P ops Q rest (a.put o.dst undef) w'):wpList P ops Q (o::rest) a w:=
 wpList_plain hgd fun _ hK=>ZcH ty x y ho g k hx u hy h1 hc t old hg hk hi fun w' h1 h2 h3=>hK _ _ (h w' h1 h2 h3)
theorem Zab {P:Program}{fn:Func}{p q:Tmp}{ty:TypeId}(h:fn.results=#[.cell p ty,.tmp q])(tmps:Array Value)(w:World)(g:Nat)(t:TypeId)(cs:Array Value)(fr:Nat×Nat)(d:TypeDesc)
 (hp:tmps.getD p undef= .pointer (some ⟨g,0,none⟩)) (v:Value) (hq:tmps.getD q undef=v) (hg:w.heap[g]?=some (.cells cs t fr))
 (hu:P.underlying ty=some d) (hd:(match d with| .struct _| .array _ _=>true|_=>false)=true) (hi:(P.info? ty).map (·.size)=some cs.size):
 (results fn tmps).run P w= .ok (.tuple #[.agg cs,v]) w:=by
 have hp':tmps[p]?.getD undef= .pointer (some ⟨g,0,none⟩):=by simpa using hp
 have hq':tmps[q]?.getD undef=v:=by simpa using hq
 simp[results,h,hp',hq',asAddr,run_loadVar_row w g t ty cs fr d hg hu hd hi]
theorem Zbs (x y:Int)(i:Nat)(hx0:0≤x)(hx1:x<4294967296)(hy0:0≤y)(hy1:y<4294967296)(hx:x.toNat % 2 ^ i=0)(hy:y.toNat<2 ^ i):bits .or .u32 x y=x+y:=by
 obtain⟨a,rfl⟩:=Int.eq_ofNat_of_zero_le hx0
 obtain⟨b,rfl⟩:=Int.eq_ofNat_of_zero_le hy0
 rw[ZeR a b (by omega) (by omega),nat_join i a b (by simpa using hx) (by simpa using hy)]
 simp
theorem Zhn (a b c d:Int)(ba:0≤a∧a≤255)(bb:0≤b∧b≤255)(bc:0≤c∧c≤255)(bd:0≤d∧d≤255):
 bits .or .u32 (bits .or .u32 (bits .or .u32 (a*16777216) (b*65536)) (c*256)) d=a*16777216+b*65536+c*256+d:=by
 rw[Zbs (a*16777216) (b*65536) 24 (by omega) (by omega) (by omega) (by omega) (by omega) (by omega)]
 rw[Zbs _ (c*256) 16 (by omega) (by omega) (by omega) (by omega) (by omega) (by omega)]
 rw[Zbs _ d 8 (by omega) (by omega) (by omega) (by omega) (by omega) (by omega)]
theorem Za5 {w:World}{v:Value}{a b c d:Int}{r:List Int}(h:RI .u8 w v (a::b::c::d::r)):
 ∃B off n cap,v= .slice (some ⟨B,off,none⟩) n cap∧4≤n∧n≤maxLen∧w.cell? ⟨B,off,none⟩=some (.int .u8 a)∧w.cell? ⟨B,off+1,none⟩=some (.int .u8 b)∧w.cell? ⟨B,off+2,none⟩=some (.int .u8 c)∧w.cell? ⟨B,off+3,none⟩=some (.int .u8 d):=by
 obtain⟨B,off,cap,hv,h1,h2,hc⟩:=h.form (by simp)
 exact⟨B,off,_,cap,hv,by simp,by simpa using Nat.le_trans h1 h2,hc 0 _ rfl,hc 1 _ rfl,hc 2 _ rfl,hc 3 _ rfl⟩
theorem Zgw (v:Value)(l:List Int)(w:World)(hl:RI .u8 w v l)(hb:Bs l)(h4:4≤l.length):
 Calls Tryz.prog 389 #[v] w fun e w'=>e= .returned (.int .u32 (hd4 l))∧Ext w w':=by
 obtain⟨a,b,c,d,r,rfl⟩:=Zbq h4
 have h:=hl
 have hB:=hb
 clear hl hb h4
 obtain⟨B,off,n,cap,rfl,h4,hm,c0,c1,c2,c3⟩:=Za5 h
 unfold maxLen at hm
 have ba:=hB a (by simp)
 have bb:=hB b (by simp)
 have bc:=hB c (by simp)
 have bd:=hB d (by simp)
 have i0:(0:Int)<(n:Int):=by omega
 have i1:(1:Int)<(n:Int):=by omega
 have i2:(2:Int)<(n:Int):=by omega
 have i3:(3:Int)<(n:Int):=by omega
 clear h hB
 go_enter Tryz.func389,Tryz.ntmps389
 go_wp2
 go_quiet (fail)
 go_wp2
 go_ret
 exact⟨Zfc (by rw[Zhn a b c d ba bb bc bd];simp[hd4]),zX⟩
theorem ZaF (v:Value)(l:List Int)(w:World)(hl:RI .u8 w v l)(hb:Bs l)(h4:4≤l.length):
 Calls Tryz.prog 65 #[v] w fun e w'=>e= .returned (.int .u32 (hd4 l))∧Ext w w':=by
 obtain⟨a,b,c,d,r,rfl⟩:=Zbq h4
 have h:=hl
 have hB:=hb
 clear hl hb h4
 obtain⟨B,off,n,cap,rfl,h4,hm,c0,c1,c2,c3⟩:=Za5 h
 unfold maxLen at hm
 have ba:=hB a (by simp)
 have bb:=hB b (by simp)
 have bc:=hB c (by simp)
 have bd:=hB d (by simp)
 have i0:(0:Int)<(n:Int):=by omega
 have i1:(1:Int)<(n:Int):=by omega
 have i2:(2:Int)<(n:Int):=by omega
 have i3:(3:Int)<(n:Int):=by omega
 clear h hB
 go_enter Tryz.func65,Tryz.ntmps65
 go_wp2
 go_quiet (fail)
 go_wp2
 go_ret
 exact⟨Zfc (by simp[hd4]),zX⟩
theorem Zav {P:Program}{ops:Array Oper}{rest:List Oper}{o:Oper}{a:Act}{w:World}{Q:Exit→Act→World→Prop}(hgd:o.guard=none)(ty:TypeId)(x y:Operand)(ho:o.op= .store ty x y)
 (g:Nat) (cells:Array Value) (hx:a.eval x= .pointer (some ⟨g,0,none⟩)) (hy:a.eval y= .agg cells)
 (t:TypeId) (old:Array Value) (hg:Blk w g t old) (hi:(P.info? ty).map (·.size)=some cells.size)
 (hold:old.size=cells.size) (h1:cells.all (·.oneCell')=true)
 (h:∀w',Blk w' g t cells→(∀ (g':Nat) (t':TypeId) (c':Array Value),g'≠g→Blk w g' t' c'→Blk w' g' t' c')→(∀ (B:Nat) (a:World),Below B a w→B≤g→Below B a w')→wpList P ops Q rest (a.put o.dst undef) w'):wpList P ops Q (o::rest) a w:=
 wpList_store_row hgd ty x y ho g cells hx hy t old hg hi hold h1 (h _ (Blk.setRow hg _) (fun g' t' c' hne hb=>by unfold Blk;rw[setRow_other w g g' cells hne];exact hb) fun _ _ hb hB=>Zah hb hB _)
def ZbN:Tm:=⟨List.replicate 19 0,0,0,0,0,0⟩
theorem Za0:ZbN.arr=#[.int .u8 0,.int .u8 0,.int .u8 0,.int .u8 0,.int .u8 0,.int .u8 0,.int .u8 0,.int .u8 0,.int .u8 0,.int .u8 0,.int .u8 0,.int .u8 0,.int .u8 0,.int .u8 0,.int .u8 0,.int .u8 0,.int .u8 0,.int .u8 0,.int .u8 0,.int .u64 0,.int .u32 0,.int .u32 0,.int .i64 0,.int .i64 0]:=rfl
theorem ZdY:ZbN.Ok:=⟨rfl,by decide,by decide,by decide,by decide,by decide,by decide⟩
def modeL (t:Tm)(op n:Int):Tm×Int:=
 if op≤18 then if 255<n then(ZbN,5) else({t with c:=t.c.set op.toNat n},0)
 else if op=128 then({t with i:=n},0) else if op=129 then({t with o:=n},0) else(setL t op (n !=0),0)
theorem ZdZ {t:Tm}(h:t.Ok){op n:Int}(hn:0≤n∧n<4294967296):(modeL t op n).1.Ok:=by
 unfold modeL
 repeat' split
 ·exact ZdY
 ·refine⟨by simp[h.c],fun x hx=>?_,h.f,h.i,h.o,h.m,h.t⟩
  rcases List.mem_or_eq_of_mem_set hx with hx|rfl
  ·exact h.b x hx
  ·omega
 ·exact⟨h.c,h.b,h.f,hn,h.o,h.m,h.t⟩
 ·exact⟨h.c,h.b,h.f,h.i,hn,h.m,h.t⟩
 ·exact ZcV h _ _
theorem Tm.setC {t:Tm}(h:t.Ok){k:Nat}(hk:k<19)(x:Int):t.arr.setIfInBounds k (.int .u8 x)=({t with c:=t.c.set k x}:Tm).arr:=by
 have hc:=h.c
 simp only[Tm.arr,Tm.cells]
 apply Array.ext'
 simp only[Array.toList_setIfInBounds,List.set_append,List.length_map,hc,hk,if_true,List.map_set]
theorem Tm.set20 {t:Tm}(h:t.Ok)(x:Int):t.arr.setIfInBounds 20 (.int .u32 x)=({t with i:=x}:Tm).arr:=by
 have hc:=h.c
 simp only[Tm.arr,Tm.cells]
 apply Array.ext'
 simp[hc]
theorem Tm.set21 {t:Tm}(h:t.Ok)(x:Int):t.arr.setIfInBounds 21 (.int .u32 x)=({t with o:=x}:Tm).arr:=by
 have hc:=h.c
 simp only[Tm.arr,Tm.cells]
 apply Array.ext'
 simp[hc]
theorem Za7:Tryz.prog.built 39 []=some #[.int .u8 0,.int .u8 0,.int .u8 0,.int .u8 0,.int .u8 0,.int .u8 0,.int .u8 0,.int .u8 0,.int .u8 0,.int .u8 0,.int .u8 0,.int .u8 0,.int .u8 0,.int .u8 0,.int .u8 0,.int .u8 0,.int .u8 0,.int .u8 0,.int .u8 0,.int .u64 0,.int .u32 0,.int .u32 0,.int .i64 0,.int .i64 0]:=by kernel_rfl
theorem Znu (t:Tm)(op n:Int)(w:World)(ht:t.Ok)(hop:1≤op∧op≤159)(hnb:0≤n∧n<4294967296):
 Calls Tryz.prog 388 #[.agg t.arr,.int .i64 op,.int .u32 n] w fun e w'=>e= .returned (.tuple #[.agg (modeL t op n).1.arr,.int .i64 (modeL t op n).2])∧Ext w w':=by
 have hn:=t.size ht
 have hok:=ZdZ ht (op:=op) hnb
 have hn':=Tm.size hok
 have h1':=zh (modeL t op n).1.one
 have hz:=Za0
 obtain⟨o1,o2⟩:=hop
 obtain⟨n1,n2⟩:=hnb
 have hzs:(#[.int .u8 0,.int .u8 0,.int .u8 0,.int .u8 0,.int .u8 0,.int .u8 0,.int .u8 0,.int .u8 0,.int .u8 0,.int .u8 0,.int .u8 0,.int .u8 0,.int .u8 0,.int .u8 0,.int .u8 0,.int .u8 0,.int .u8 0,.int .u8 0,.int .u8 0,.int .u64 0,.int .u32 0,.int .u32 0,.int .i64 0,.int .i64 0]:Array Value).size=24:=rfl
 by_cases a1:op≤18
 ·obtain⟨k,rfl⟩:=Int.eq_ofNat_of_zero_le (show 0≤op by omega)
  by_cases a2:255<n
  ·have hm:modeL t k n=(ZbN,5):=by unfold modeL;rw[if_pos a1,if_pos a2]
   rw[hm] at h1' hn'⊢
   simp only[hz] at h1' hn'⊢
   generalize t.arr=cs at*
   have hi:(Tryz.prog.info? 39).map (·.size)=some (#[.int .u8 0,.int .u8 0,.int .u8 0,.int .u8 0,.int .u8 0,.int .u8 0,.int .u8 0,.int .u8 0,.int .u8 0,.int .u8 0,.int .u8 0,.int .u8 0,.int .u8 0,.int .u8 0,.int .u8 0,.int .u8 0,.int .u8 0,.int .u8 0,.int .u8 0,.int .u64 0,.int .u32 0,.int .u32 0,.int .i64 0,.int .i64 0]:Array Value).size:=by rw[hzs];kernel_rfl
   clear hm hok ht
   go_enter Tryz.func388,Tryz.ntmps388
   go_wp2_with(first
    |(refine wpList_build_eq rfl 39 _ rfl (L:=#[.int .u8 0,.int .u8 0,.int .u8 0,.int .u8 0,.int .u8 0,.int .u8 0,.int .u8 0,.int .u8 0,.int .u8 0,.int .u8 0,.int .u8 0,.int .u8 0,.int .u8 0,.int .u8 0,.int .u8 0,.int .u8 0,.int .u8 0,.int .u8 0,.int .u8 0,.int .u64 0,.int .u32 0,.int .u32 0,.int .i64 0,.int .i64 0]) (by simp[go_sem];exact Za7) ?_)
    |(refine wpList_store_A rfl 39 _ _ rfl (w.heap.size+1) _ rfl rfl 39 _ (Blk.at_ (w:=w.alloc (.cells cs 39)) (B:=w.heap.size+1) 39 _ (by simp)) hi rfl h1'.out ?_;intro w3 H3 E3;have E3:=E3 w.heap.size w zX (Nat.le_succ _);have H3:=zh H3))
   refine bodyPost_ret_by (Zab Tryz.results388 _ _ (w.heap.size+1) 39 _ _ _ rfl _ rfl H3.out Tryz.underlying39 rfl hi) rfl ?_
   exact⟨rfl,E3⟩
  ·have hm:modeL t k n=({t with c:=t.c.set k n},0):=by unfold modeL;rw[if_pos a1,if_neg a2];simp
   have hST:=zh (Tm.setC ht (k:=k) (by omega) n)
   rw[hm] at h1' hn'⊢
   simp only at h1' hn'⊢
   generalize ({t with c:=t.c.set k n}:Tm).arr=ct at*
   generalize t.arr=cs at*
   have hk:k<cs.size:=by omega
   have hk1:(k:Int)<19:=by omega
   have hwn:IntKind.u8.wrap n=n:=by rw[IntKind.wrap_u8];omega
   have hi:(Tryz.prog.info? 39).map (·.size)=some ct.size:=by rw[hn'];kernel_rfl
   have hzt:(#[.int .u8 0,.int .u8 0,.int .u8 0,.int .u8 0,.int .u8 0,.int .u8 0,.int .u8 0,.int .u8 0,.int .u8 0,.int .u8 0,.int .u8 0,.int .u8 0,.int .u8 0,.int .u8 0,.int .u8 0,.int .u8 0,.int .u8 0,.int .u8 0,.int .u8 0,.int .u64 0,.int .u32 0,.int .u32 0,.int .i64 0,.int .i64 0]:Array Value).size=ct.size:=by rw[hn'];rfl
   clear hm hok ht hz
   go_enter Tryz.func388,Tryz.ntmps388
   go_wp2_with(first
    |(refine Zan rfl 5 _ _ rfl w.heap.size k rfl _ rfl rfl rfl 39 _ ((Blk.new w 39 cs).alloc _) hk (by kernel_rfl) ?_;intro w2 H2 F2 E2;have H2:=zh (Blk.cast H2 hST.out);have hB2:=zh (F2 _ _ _ (by simp) (Blk.at_ (w:=w.alloc (.cells cs 39)) (B:=w.heap.size+1) 39 _ (by simp)));have E2:=E2 w.heap.size w zX (Nat.le_refl _))
    |(refine wpList_load_row rfl 39 _ rfl _ rfl 39 _ _ _ H2.out Tryz.underlying39 rfl hi ?_)
    |(refine wpList_store_A rfl 39 _ _ rfl (w.heap.size+1) _ rfl rfl 39 _ hB2.out hi hzt h1'.out ?_;intro w3 H3 E3;have E3:=E3 w.heap.size w E2 (Nat.le_succ _);have H3:=zh H3))
   refine bodyPost_ret_by (Zab Tryz.results388 _ _ (w.heap.size+1) 39 _ _ _ rfl _ rfl H3.out Tryz.underlying39 rfl hi) rfl ?_
   exact⟨rfl,E3⟩
 ·by_cases a2:op=128
  ·subst a2
   have hm:modeL t 128 n=({t with i:=n},0):=by unfold modeL;rw[if_neg (by omega),if_pos rfl]
   have hST:=zh (Tm.set20 ht n)
   rw[hm] at h1' hn'⊢
   simp only at h1' hn'⊢
   generalize ({t with i:=n}:Tm).arr=ct at*
   generalize t.arr=cs at*
   have hk:20<cs.size:=by omega
   have hi:(Tryz.prog.info? 39).map (·.size)=some ct.size:=by rw[hn'];kernel_rfl
   have hzt:(#[.int .u8 0,.int .u8 0,.int .u8 0,.int .u8 0,.int .u8 0,.int .u8 0,.int .u8 0,.int .u8 0,.int .u8 0,.int .u8 0,.int .u8 0,.int .u8 0,.int .u8 0,.int .u8 0,.int .u8 0,.int .u8 0,.int .u8 0,.int .u8 0,.int .u8 0,.int .u64 0,.int .u32 0,.int .u32 0,.int .i64 0,.int .i64 0]:Array Value).size=ct.size:=by rw[hn'];rfl
   clear hm hok ht hz
   go_enter Tryz.func388,Tryz.ntmps388
   go_wp2_with(first
    |(refine Zan rfl 33 _ _ rfl w.heap.size 20 rfl _ rfl rfl rfl 39 _ ((Blk.new w 39 cs).alloc _) hk (by kernel_rfl) ?_;intro w2 H2 F2 E2;have H2:=zh (Blk.cast H2 hST.out);have hB2:=zh (F2 _ _ _ (by simp) (Blk.at_ (w:=w.alloc (.cells cs 39)) (B:=w.heap.size+1) 39 _ (by simp)));have E2:=E2 w.heap.size w zX (Nat.le_refl _))
    |(refine wpList_load_row rfl 39 _ rfl _ rfl 39 _ _ _ H2.out Tryz.underlying39 rfl hi ?_)
    |(refine wpList_store_A rfl 39 _ _ rfl (w.heap.size+1) _ rfl rfl 39 _ hB2.out hi hzt h1'.out ?_;intro w3 H3 E3;have E3:=E3 w.heap.size w E2 (Nat.le_succ _);have H3:=zh H3))
   refine bodyPost_ret_by (Zab Tryz.results388 _ _ (w.heap.size+1) 39 _ _ _ rfl _ rfl H3.out Tryz.underlying39 rfl hi) rfl ?_
   exact⟨rfl,E3⟩
  ·by_cases a3:op=129
   ·subst a3
    have hm:modeL t 129 n=({t with o:=n},0):=by unfold modeL;rw[if_neg (by omega),if_neg (by omega),if_pos rfl]
    have hST:=zh (Tm.set21 ht n)
    rw[hm] at h1' hn'⊢
    simp only at h1' hn'⊢
    generalize ({t with o:=n}:Tm).arr=ct at*
    generalize t.arr=cs at*
    have hk:21<cs.size:=by omega
    have hi:(Tryz.prog.info? 39).map (·.size)=some ct.size:=by rw[hn'];kernel_rfl
    have hzt:(#[.int .u8 0,.int .u8 0,.int .u8 0,.int .u8 0,.int .u8 0,.int .u8 0,.int .u8 0,.int .u8 0,.int .u8 0,.int .u8 0,.int .u8 0,.int .u8 0,.int .u8 0,.int .u8 0,.int .u8 0,.int .u8 0,.int .u8 0,.int .u8 0,.int .u8 0,.int .u64 0,.int .u32 0,.int .u32 0,.int .i64 0,.int .i64 0]:Array Value).size=ct.size:=by rw[hn'];rfl
    clear hm hok ht hz
    go_enter Tryz.func388,Tryz.ntmps388
    go_wp2_with(first
     |(refine Zan rfl 33 _ _ rfl w.heap.size 21 rfl _ rfl rfl rfl 39 _ ((Blk.new w 39 cs).alloc _) hk (by kernel_rfl) ?_;intro w2 H2 F2 E2;have H2:=zh (Blk.cast H2 hST.out);have hB2:=zh (F2 _ _ _ (by simp) (Blk.at_ (w:=w.alloc (.cells cs 39)) (B:=w.heap.size+1) 39 _ (by simp)));have E2:=E2 w.heap.size w zX (Nat.le_refl _))
     |(refine wpList_load_row rfl 39 _ rfl _ rfl 39 _ _ _ H2.out Tryz.underlying39 rfl hi ?_)
     |(refine wpList_store_A rfl 39 _ _ rfl (w.heap.size+1) _ rfl rfl 39 _ hB2.out hi hzt h1'.out ?_;intro w3 H3 E3;have E3:=E3 w.heap.size w E2 (Nat.le_succ _);have H3:=zh H3))
    refine bodyPost_ret_by (Zab Tryz.results388 _ _ (w.heap.size+1) 39 _ _ _ rfl _ rfl H3.out Tryz.underlying39 rfl hi) rfl ?_
    exact⟨rfl,E3⟩
   ·have hm:modeL t op n=(setL t op (n !=0),0):=by unfold modeL;rw[if_neg a1,if_neg a2,if_neg a3]
    have hS:=zh fun w'=>Zfy t op (n !=0) w' ht
    rw[hm] at h1' hn'⊢
    simp only at h1' hn'⊢
    generalize (setL t op (n !=0)).arr=ct at*
    generalize t.arr=cs at*
    have hi:(Tryz.prog.info? 39).map (·.size)=some ct.size:=by rw[hn'];kernel_rfl
    have hi0:(Tryz.prog.info? 39).map (·.size)=some cs.size:=by rw[hn];kernel_rfl
    have hss:cs.size=ct.size:=by rw[hn,hn']
    have hzt:(#[.int .u8 0,.int .u8 0,.int .u8 0,.int .u8 0,.int .u8 0,.int .u8 0,.int .u8 0,.int .u8 0,.int .u8 0,.int .u8 0,.int .u8 0,.int .u8 0,.int .u8 0,.int .u8 0,.int .u8 0,.int .u8 0,.int .u8 0,.int .u8 0,.int .u8 0,.int .u64 0,.int .u32 0,.int .u32 0,.int .i64 0,.int .i64 0]:Array Value).size=ct.size:=by rw[hn'];rfl
    have b1:(op==128)=false:=by simpa using a2
    have b2:(op==129)=false:=by simpa using a3
    clear hm hok ht hz
    go_enter Tryz.func388,Tryz.ntmps388
    go_wp2_with((refine wpList_load_row rfl 39 _ rfl _ rfl 39 _ _ _ ((Blk.new w 39 cs).alloc _) Tryz.underlying39 rfl hi0 ?_))
    (with_reducible refine(hS.out _).mono ?_);rintro e w2 ⟨rfl,E2⟩
    have hA2:=zh (((Blk.new w 39 cs).alloc _).ext E2)
    have hB2:=zh ((Blk.at_ (w:=w.alloc (.cells cs 39)) (B:=w.heap.size+1) 39 _ (by simp)).ext E2)
    have E02:Ext w w2:=zX
    clear E2
    go_wp2_with(first
     |(refine Zav rfl 39 _ _ rfl w.heap.size _ rfl rfl 39 _ hA2.out hi hss h1'.out ?_;intro w3 H3 F3 E3;have H3:=zh H3;have hB3:=zh (F3 _ _ _ (by simp) hB2.out);have E3:=E3 w.heap.size w E02 (Nat.le_refl _))
     |(refine wpList_load_row rfl 39 _ rfl _ rfl 39 _ _ _ H3.out Tryz.underlying39 rfl hi ?_)
     |(refine wpList_store_A rfl 39 _ _ rfl (w.heap.size+1) _ rfl rfl 39 _ hB3.out hi hzt h1'.out ?_;intro w4 H4 E4;have E4:=E4 w.heap.size w E3 (Nat.le_succ _);have H4:=zh H4))
    refine bodyPost_ret_by (Zab Tryz.results388 _ _ (w.heap.size+1) 39 _ _ _ rfl _ rfl H4.out Tryz.underlying39 rfl hi) rfl ?_
    exact⟨rfl,E4⟩
theorem Zep {P:Program}{o:Oper}{a:Act}{w:World}{K:Act→World→Prop}{Q:Exit→Act→World→Prop}(ty:TypeId)(x y:Operand)(ho:o.op= .store ty x y)
 (g:Nat) (cells:Array Value) (hx:a.eval x= .pointer (some ⟨g,0,none⟩)) (hy:a.eval y= .agg cells)
 (t:TypeId) (old:Array Value) (hg:Blk w g t old) (hi:(P.info? ty).map (·.size)=some cells.size)
 (hold:old.size=cells.size) (h1:cells.all (·.oneCell')=true)
 (h:∀w',Blk w' g t cells→(∀ (g':Nat) (t':TypeId) (c':Array Value),g'≠g→Blk w g' t' c'→Blk w' g' t' c')→(∀ (B:Nat) (a:World),Below B a w→B≤g→Below B a w')→K (a.put o.dst undef) w'):o.wp P a w K Q:=
 wp_store_row ty x y ho g cells hx hy t old hg hi hold h1 (h _ (Blk.setRow hg _) (fun g' t' c' hne hb=>by unfold Blk;rw[setRow_other w g g' cells hne];exact hb) fun _ _ hb hB=>Zah hb hB _)
def decL:List Int→Tm→Tm×Int
 |op::a::b::c::d::r,t=>if op=0∨160≤op then(t,0) else if(modeL t op (hd4 [a,b,c,d])).2=0 then decL r (modeL t op (hd4 [a,b,c,d])).1 else(ZbN,(modeL t op (hd4 [a,b,c,d])).2)
 | [],t=>(t,0)
 |op::_,t=>if op=0∨160≤op then(t,0) else(ZbN,3)
theorem ZfD {op:Int}{r:List Int}{t:Tm}(h:op=0∨160≤op):decL (op::r) t=(t,0):=by
 rcases r with _|⟨a,_|⟨b,_|⟨c,_|⟨d,r⟩⟩⟩⟩<;>simp only[decL,if_pos h]
theorem ZcW {op:Int}{r:List Int}{t:Tm}(h:¬(op=0∨160≤op))(hr:r.length<4):decL (op::r) t=(ZbN,3):=by
 rcases r with _|⟨a,_|⟨b,_|⟨c,_|⟨d,r⟩⟩⟩⟩
 all_goals first|(exfalso;simp at hr;omega)|simp only[decL,if_neg h]
theorem Zho {op:Int}{r:List Int}{t:Tm}(h:¬(op=0∨160≤op))(hr:4≤r.length)(he:(modeL t op (hd4 r)).2=0):decL (op::r) t=decL (r.drop 4) (modeL t op (hd4 r)).1:=by
 obtain⟨a,b,c,d,r,rfl⟩:=Zbq hr
 have e1:hd4 (a::b::c::d::r)=hd4 [a,b,c,d]:=rfl
 rw[e1] at he⊢
 simp only[decL,if_neg h,if_pos he,List.drop_succ_cons,List.drop_zero]
theorem ZfE {op:Int}{r:List Int}{t:Tm}(h:¬(op=0∨160≤op))(hr:4≤r.length)(he:¬(modeL t op (hd4 r)).2=0):decL (op::r) t=(ZbN,(modeL t op (hd4 r)).2):=by
 obtain⟨a,b,c,d,r,rfl⟩:=Zbq hr
 have e1:hd4 (a::b::c::d::r)=hd4 [a,b,c,d]:=rfl
 rw[e1] at he⊢
 simp only[decL,if_neg h,if_neg he]
theorem Bs.drop4 {l:List Int}(h:Bs l)(k:Nat):Bs (l.drop k):=fun x hx=>h x (List.mem_of_mem_drop hx)
theorem ZbO:∀ (k:Nat) (l:List Int) (t:Tm),l.length≤k→t.Ok→Bs l→(decL l t).1.Ok
 |_,[],t,_,h,_=>h
 |0,_::_,_,hk,_,_=>by simp at hk
 |k+1,op::r,t,hk,h,hB=>by
  by_cases h0:op=0∨160≤op
  ·rw[ZfD h0];exact h
  ·by_cases h4:4≤r.length
   ·have hr:Bs r:=fun x hx=>hB x (List.mem_cons_of_mem _ hx)
    by_cases he:(modeL t op (hd4 r)).2=0
    ·rw[Zho h0 h4 he]
     exact ZbO k _ _ (by simp at hk⊢;omega) (ZdZ h (ZeN hr)) (Bs.drop4 hr 4)
    ·rw[ZfE h0 h4 he];exact ZdY
   ·rw[ZcW h0 (by omega)];exact ZdY
theorem ZcP (t:Tm)(v:Value)(l:List Int)(w:World)(ht:t.Ok)(hl:RI .u8 w v l)(hB:Bs l):
 Calls Tryz.prog 355 #[v,.agg t.arr] w fun e w'=>e= .returned (.tuple #[.agg (decL l t).1.arr,.int .i64 (decL l t).2])∧Ext w w':=by
 have hD0:=zh (rfl:decL l t=decL l t)
 revert hD0
 generalize hD:decL l t=D
 intro _
 obtain⟨Ad,c,rfl,hc1,hc2⟩:=hl.shape
 have HR0:=zh hl
 have HB0:=zh hB
 have HO0:=zh ht
 have HD0:=zh hD
 clear hl hB ht hD
 have hzs:(#[.int .u8 0,.int .u8 0,.int .u8 0,.int .u8 0,.int .u8 0,.int .u8 0,.int .u8 0,.int .u8 0,.int .u8 0,.int .u8 0,.int .u8 0,.int .u8 0,.int .u8 0,.int .u8 0,.int .u8 0,.int .u8 0,.int .u8 0,.int .u8 0,.int .u8 0,.int .u64 0,.int .u32 0,.int .u32 0,.int .i64 0,.int .i64 0]:Array Value).size=24:=rfl
 have hiz:(Tryz.prog.info? 39).map (·.size)=some (#[.int .u8 0,.int .u8 0,.int .u8 0,.int .u8 0,.int .u8 0,.int .u8 0,.int .u8 0,.int .u8 0,.int .u8 0,.int .u8 0,.int .u8 0,.int .u8 0,.int .u8 0,.int .u8 0,.int .u8 0,.int .u8 0,.int .u8 0,.int .u8 0,.int .u8 0,.int .u64 0,.int .u32 0,.int .u32 0,.int .i64 0,.int .i64 0]:Array Value).size:=by rw[hzs];kernel_rfl
 have h1z:Hid ((#[.int .u8 0,.int .u8 0,.int .u8 0,.int .u8 0,.int .u8 0,.int .u8 0,.int .u8 0,.int .u8 0,.int .u8 0,.int .u8 0,.int .u8 0,.int .u8 0,.int .u8 0,.int .u8 0,.int .u8 0,.int .u8 0,.int .u8 0,.int .u8 0,.int .u8 0,.int .u64 0,.int .u32 0,.int .u32 0,.int .i64 0,.int .i64 0]:Array Value).all (·.oneCell')=true):=zh (by rw[←Za0];exact ZbN.one)
 have hn0:=t.size HO0.out
 go_enter Tryz.func355,Tryz.ntmps355
 go_wp2
 go_loopw [0] (fun v wr=>∃ (A:Option Addr) (n c:Nat) (xs:List Int) (t':Tm),v= .slice A n c∧Hid (xs.length=n)∧Hid (RI .u8 w (.slice A n c) xs)∧Hid (Bs xs)∧Hid t'.Ok∧Hid (Blk wr w.heap.size 39 t'.arr)∧Hid (Blk wr (w.heap.size+1) 39 #[.int .u8 0,.int .u8 0,.int .u8 0,.int .u8 0,.int .u8 0,.int .u8 0,.int .u8 0,.int .u8 0,.int .u8 0,.int .u8 0,.int .u8 0,.int .u8 0,.int .u8 0,.int .u8 0,.int .u8 0,.int .u8 0,.int .u8 0,.int .u8 0,.int .u8 0,.int .u64 0,.int .u32 0,.int .u32 0,.int .i64 0,.int .i64 0])∧Hid (decL xs t'=D)∧Ext w wr) (fun v _=>Zbz v)
 case atStart=>exact⟨Ad,l.length,c,l,t,rfl,zh rfl,HR0,HB0,HO0,zh ((Blk.new w 39 t.arr).alloc _),zh (Blk.at_ (w:=w.alloc (.cells t.arr 39)) (B:=w.heap.size+1) 39 _ (by simp)),HD0,zX⟩
 case round=>
  obtain⟨A,n,c',xs,t',rfl,HN,HR,HB,HO,HA,HZ,HD,hE⟩:=hrel
  clear HR0 HB0 HO0 HD0 hn0 hc1 hc2
  have hn24:=t'.size HO.out
  have h1:=zh t'.one
  rcases xs with _|⟨x,r⟩
  ·obtain rfl:0=n:=HN.out
   have HDE:=zh (show t'.arr=D.1.arr∧(0:Int)=D.2 by rw[←HD.out];exact⟨rfl,rfl⟩)
   clear HD HO
   generalize t'.arr=cs at*
   have hi:(Tryz.prog.info? 39).map (·.size)=some cs.size:=by rw[hn24];kernel_rfl
   have hzt:(#[.int .u8 0,.int .u8 0,.int .u8 0,.int .u8 0,.int .u8 0,.int .u8 0,.int .u8 0,.int .u8 0,.int .u8 0,.int .u8 0,.int .u8 0,.int .u8 0,.int .u8 0,.int .u8 0,.int .u8 0,.int .u8 0,.int .u8 0,.int .u8 0,.int .u8 0,.int .u64 0,.int .u32 0,.int .u32 0,.int .i64 0,.int .i64 0]:Array Value).size=cs.size:=by rw[hn24];rfl
   go_wp2_with(first
    |(refine wpList_load_row rfl 39 _ rfl _ rfl 39 _ _ _ HA.out Tryz.underlying39 rfl hi ?_)
    |(refine wpList_store_A rfl 39 _ _ rfl (w.heap.size+1) _ rfl rfl 39 _ HZ.out hi hzt h1.out ?_;intro w3 H3 E3;have E3:=E3 w.heap.size w hE (Nat.le_succ _);have H3:=zh H3))
   refine bodyPost_ret_by (Zab Tryz.results355 _ _ (w.heap.size+1) 39 _ _ _ rfl (.int .i64 0) rfl H3.out Tryz.underlying39 rfl hi) rfl ?_
   exact⟨by rw[←HDE.out.1,←HDE.out.2],E3⟩
  ·have hnr:r.length+1=n:=HN.out
   have hx:=HB.out x (by simp)
   have HBr:=zh (show Bs r from fun y hy=>HB.out y (List.mem_cons_of_mem _ hy))
   obtain⟨B,off,c2,hv,q1,q2,hc⟩:=HR.out.form (by simp)
   simp only[Value.slice.injEq] at hv
   obtain⟨rfl,hv2,rfl⟩:=hv
   simp only[List.length_cons] at q1
   unfold maxLen at q2
   have hn63:n≤9223372036854775807:=by omega
   clear hv2
   have HC:=zh fun w' (h:Ext w w')=>Zaa h (show w.cell? ⟨B,off,none⟩=some (.int .u8 x) from hc 0 _ rfl)
   have k1:=HC.out wr hE
   have i0:(0:Int)<(n:Int):=by omega
   have hwx:IntKind.i64.wrap x=x:=IntWalk.i64_in _ (by omega)
   clear hc
   by_cases hend:x=0∨160≤x
   ·have HDE:=zh (show t'.arr=D.1.arr∧(0:Int)=D.2 by rw[←HD.out,ZfD hend];exact⟨rfl,rfl⟩)
    clear HD HO
    generalize t'.arr=cs at*
    rcases hend with rfl|hge
    ·
     have hi:(Tryz.prog.info? 39).map (·.size)=some cs.size:=by rw[hn24];kernel_rfl
     have hzt:(#[.int .u8 0,.int .u8 0,.int .u8 0,.int .u8 0,.int .u8 0,.int .u8 0,.int .u8 0,.int .u8 0,.int .u8 0,.int .u8 0,.int .u8 0,.int .u8 0,.int .u8 0,.int .u8 0,.int .u8 0,.int .u8 0,.int .u8 0,.int .u8 0,.int .u8 0,.int .u64 0,.int .u32 0,.int .u32 0,.int .i64 0,.int .i64 0]:Array Value).size=cs.size:=by rw[hn24];rfl
     go_wp2_with(first
      |(refine wpList_load_row rfl 39 _ rfl _ rfl 39 _ _ _ HA.out Tryz.underlying39 rfl hi ?_)
      |(refine wpList_store_A rfl 39 _ _ rfl (w.heap.size+1) _ rfl rfl 39 _ HZ.out hi hzt h1.out ?_;intro w3 H3 E3;have E3:=E3 w.heap.size w hE (Nat.le_succ _);have H3:=zh H3))
     refine bodyPost_ret_by (Zab Tryz.results355 _ _ (w.heap.size+1) 39 _ _ _ rfl (.int .i64 0) rfl H3.out Tryz.underlying39 rfl hi) rfl ?_
     exact⟨by rw[←HDE.out.1,←HDE.out.2],E3⟩
    ·have b0:(x==0)=false:=by rw[beq_eq_false_iff_ne];omega
     have hi:(Tryz.prog.info? 39).map (·.size)=some cs.size:=by rw[hn24];kernel_rfl
     have hzt:(#[.int .u8 0,.int .u8 0,.int .u8 0,.int .u8 0,.int .u8 0,.int .u8 0,.int .u8 0,.int .u8 0,.int .u8 0,.int .u8 0,.int .u8 0,.int .u8 0,.int .u8 0,.int .u8 0,.int .u8 0,.int .u8 0,.int .u8 0,.int .u8 0,.int .u8 0,.int .u64 0,.int .u32 0,.int .u32 0,.int .i64 0,.int .i64 0]:Array Value).size=cs.size:=by rw[hn24];rfl
     go_wp2_with(first
      |(refine wpList_load_row rfl 39 _ rfl _ rfl 39 _ _ _ HA.out Tryz.underlying39 rfl hi ?_)
      |(refine wpList_store_A rfl 39 _ _ rfl (w.heap.size+1) _ rfl rfl 39 _ HZ.out hi hzt h1.out ?_;intro w3 H3 E3;have E3:=E3 w.heap.size w hE (Nat.le_succ _);have H3:=zh H3))
     refine bodyPost_ret_by (Zab Tryz.results355 _ _ (w.heap.size+1) 39 _ _ _ rfl (.int .i64 0) rfl H3.out Tryz.underlying39 rfl hi) rfl ?_
     exact⟨by rw[←HDE.out.1,←HDE.out.2],E3⟩
   ·have b0:(x==0)=false:=by rw[beq_eq_false_iff_ne];omega
    have b1:x<160:=by omega
    have b2:1≤x:=by omega
    by_cases h5:n<5
    ·have HDE:=zh (show ZbN.arr=D.1.arr∧(3:Int)=D.2 by rw[←HD.out,ZcW hend (by omega)];exact⟨rfl,rfl⟩)
     clear HD HO
     go_wp2_with(first
      |(refine wpList_build_eq rfl 39 _ rfl (L:=#[.int .u8 0,.int .u8 0,.int .u8 0,.int .u8 0,.int .u8 0,.int .u8 0,.int .u8 0,.int .u8 0,.int .u8 0,.int .u8 0,.int .u8 0,.int .u8 0,.int .u8 0,.int .u8 0,.int .u8 0,.int .u8 0,.int .u8 0,.int .u8 0,.int .u8 0,.int .u64 0,.int .u32 0,.int .u32 0,.int .i64 0,.int .i64 0]) (by simp[go_sem];exact Za7) ?_)
      |(refine wpList_store_A rfl 39 _ _ rfl (w.heap.size+1) _ rfl rfl 39 _ HZ.out hiz rfl h1z.out ?_;intro w3 H3 E3;have E3:=E3 w.heap.size w hE (Nat.le_succ _);have H3:=zh H3))
     refine bodyPost_ret_by (Zab Tryz.results355 _ _ (w.heap.size+1) 39 _ _ _ rfl (.int .i64 3) rfl H3.out Tryz.underlying39 rfl hiz) rfl ?_
     exact⟨by rw[←HDE.out.1,←HDE.out.2,Za0],E3⟩
    ·have h4:4≤r.length:=by omega
     have hc1:¬c'=1:=by omega
     have HR1:=zh fun w' (h:Ext w w')=>RI.from_ (RdN.ext HR.out h) (show 1≤n by omega)
     have HR5:=zh (RI.from_ HR.out (show 5≤n by omega))
     simp only[List.drop_succ_cons,List.drop_zero,hc1,if_false] at HR1 HR5
     have hM:=fun w'=>Znu t' x (hd4 r) w' HO.out ⟨b2,by omega⟩ (ZeN HBr.out)
     have HA4:=zh fun v w' h=>Zgw v r w' h HBr.out h4
     have hMO:=ZdZ (op:=x) HO.out (ZeN HBr.out)
     have hgo:=fun he=>@Zho x r t' hend h4 he
     have herr:=fun he=>@ZfE x r t' hend h4 he
     clear HO HB
     generalize modeL t' x (hd4 r)=U at hM hMO hgo herr
     obtain⟨u,e⟩:=U
     simp only at hM hMO hgo herr
     have hnu:=u.size hMO
     have h1u:=zh u.one
     have HMO:=zh hMO
     have HM:=zh hM
     have HGO:=zh hgo
     have HER:=zh herr
     clear hM hMO hgo herr
     obtain⟨cs,hcs⟩:=zm (t'.arr)
     obtain⟨cu,hcu⟩:=zm (u.arr)
     rw[hcs] at hn24 h1 HA HM
     rw[hcu] at hnu h1u HM
     have HCU:=zh hcu
     have hi:(Tryz.prog.info? 39).map (·.size)=some cs.size:=by rw[hn24];kernel_rfl
     have hiu:(Tryz.prog.info? 39).map (·.size)=some cu.size:=by rw[hnu];kernel_rfl
     have hsz:cs.size=cu.size:=by rw[hn24,hnu]
     have hzu:(#[.int .u8 0,.int .u8 0,.int .u8 0,.int .u8 0,.int .u8 0,.int .u8 0,.int .u8 0,.int .u8 0,.int .u8 0,.int .u8 0,.int .u8 0,.int .u8 0,.int .u8 0,.int .u8 0,.int .u8 0,.int .u8 0,.int .u8 0,.int .u8 0,.int .u8 0,.int .u64 0,.int .u32 0,.int .u32 0,.int .i64 0,.int .i64 0]:Array Value).size=cu.size:=by rw[hnu];rfl
     have j1:(1:Int)≤(n:Int):=by omega
     have j2:(5:Int)≤(n:Int):=by omega
     have j3:(n:Int)≤(c':Int):=by omega
     have j4:(1:Int)≤(c':Int):=by omega
     have j5:(5:Int)≤(c':Int):=by omega
     have j6:¬(n:Int)<5:=by omega
     clear hcs hcu hend h5
     generalize hd4 r=m at*
     go_wp2
     refine zg (fun w'=>Ext w w') zX fun hHeld=>?_
     refine zr 1 ?_
     refine zr 2 ?_
     refine zr 3 ?_
     refine wpAnyH_ready (rs:=[0,4]) (by kernel_rfl) (by simp) ?_
     refine AllReadyH.cons rfl (fun K hK=>?_) (AllReadyH.cons rfl (fun K hK=>?_) AllReadyH.nil)
     ·rw[if_pos (by rfl)]
      refine wp_load_row 39 _ rfl w.heap.size rfl 39 cs _ _ (Blk.ext HA.out (show Ext wr wr.drew from zX)) Tryz.underlying39 rfl hi ?_
      refine zo hK zX fun hHeld=>?_
      clear hK K
      (refine zc 4 (HA4.out _ _ (HR1.out _ zX)) ?_;rintro e w3 ⟨rfl,E3⟩ K hK;refine zo hK zX fun hHeld=>?_;clear hK K)
      have E3:Ext wr w3:=zX
      (refine zc 5 (HM.out _) ?_;rintro e w4 ⟨rfl,E4⟩ K hK;refine zo hK zX fun hHeld=>?_;clear hK K)
      have E4:Ext wr w4:=E3.trans E4
      refine zr 6 ?_
      refine zr 7 ?_
      refine zr 8 ?_
      refine zw 9 fun K hK=>?_
      rw[if_pos (by rfl)]
      refine Zep 39 _ _ rfl w.heap.size _ rfl rfl 39 _ (Blk.ext HA.out E4) hiu hsz h1u.out ?_
      intro w5 H5 F5 E5
      have E5:Ext w w5:=E5 w.heap.size w (hE.trans E4) (Nat.le_refl _)
      have H5:=zh H5
      have HZ:=zh (F5 _ _ _ (by simp) (Blk.ext HZ.out E4))
      refine hK.out _ _ E5 (fun hHeld=>?_)
      clear hK K F5
      (try simp only[zP])
      refine zr 10 ?_
      refine zd ?_
      clear E3 E4
      by_cases he:e=0
      ·have HD2:=zh ((HGO.out he).symm.trans HD.out)
       have HB2:=zh (Bs.drop4 HBr.out 4)
       have HL2:=zh (show(r.drop 4).length=n - 5 by rw[List.length_drop];omega)
       subst he
       clear HGO HER
       go_wp2
       go_roundw
       case rel=>exact⟨_,n - 5,c' - 5,r.drop 4,u,rfl,HL2,zh HR5.out,HB2,HMO,zh (by rw[HCU.out];exact H5.out),HZ,HD2,E5⟩
       case measure=>simp[Zbz];omega
      ·have HDE:=zh (show ZbN.arr=D.1.arr∧e=D.2 by rw[←HD.out,HER.out he];exact⟨rfl,rfl⟩)
       have e0:(e==0)=false:=by simpa using he
       have e1:(e !=0)=true:=by simpa using he
       clear HGO HER
       go_wp2_with(first
        |(refine wpList_build_eq rfl 39 _ rfl (L:=#[.int .u8 0,.int .u8 0,.int .u8 0,.int .u8 0,.int .u8 0,.int .u8 0,.int .u8 0,.int .u8 0,.int .u8 0,.int .u8 0,.int .u8 0,.int .u8 0,.int .u8 0,.int .u8 0,.int .u8 0,.int .u8 0,.int .u8 0,.int .u8 0,.int .u8 0,.int .u64 0,.int .u32 0,.int .u32 0,.int .i64 0,.int .i64 0]) (by simp[go_sem];exact Za7) ?_)
        |(refine wpList_store_A rfl 39 _ _ rfl (w.heap.size+1) _ rfl rfl 39 _ HZ.out hiz rfl h1z.out ?_;intro w3 H3 E3;have E3:=E3 w.heap.size w E5 (Nat.le_succ _);have H3:=zh H3))
       refine bodyPost_ret_by (Zab Tryz.results355 _ _ (w.heap.size+1) 39 _ _ _ rfl (.int .i64 e) rfl H3.out Tryz.underlying39 rfl hiz) rfl ?_
       exact⟨by rw[←HDE.out.1,←HDE.out.2,Za0],E3⟩
     ·go_simp
      go_at_call 389
      refine(HA4.out _ _ (HR1.out _ zX)).mono ?_
      rintro e2 w3 ⟨rfl,E3⟩
      (try dsimp only)
      refine zo hK zX fun hHeld=>?_
      clear hK K
      have E3:Ext wr w3:=zX
      refine zw 0 fun K hK=>?_
      rw[if_pos (by rfl)]
      refine wp_load_row 39 _ rfl w.heap.size rfl 39 cs _ _ (Blk.ext HA.out E3) Tryz.underlying39 rfl hi ?_
      refine zo hK (hE.trans E3) fun hHeld=>?_
      clear hK K
      (refine zc 5 (HM.out _) ?_;rintro e w4 ⟨rfl,E4⟩ K hK;refine zo hK zX fun hHeld=>?_;clear hK K)
      have E4:Ext wr w4:=E3.trans E4
      refine zr 6 ?_
      refine zr 7 ?_
      refine zr 8 ?_
      refine zw 9 fun K hK=>?_
      rw[if_pos (by rfl)]
      refine Zep 39 _ _ rfl w.heap.size _ rfl rfl 39 _ (Blk.ext HA.out E4) hiu hsz h1u.out ?_
      intro w5 H5 F5 E5
      have E5:Ext w w5:=E5 w.heap.size w (hE.trans E4) (Nat.le_refl _)
      have H5:=zh H5
      have HZ:=zh (F5 _ _ _ (by simp) (Blk.ext HZ.out E4))
      refine hK.out _ _ E5 (fun hHeld=>?_)
      clear hK K F5
      (try simp only[zP])
      refine zr 10 ?_
      refine zd ?_
      clear E3 E4
      by_cases he:e=0
      ·have HD2:=zh ((HGO.out he).symm.trans HD.out)
       have HB2:=zh (Bs.drop4 HBr.out 4)
       have HL2:=zh (show(r.drop 4).length=n - 5 by rw[List.length_drop];omega)
       subst he
       clear HGO HER
       go_wp2
       go_roundw
       case rel=>exact⟨_,n - 5,c' - 5,r.drop 4,u,rfl,HL2,zh HR5.out,HB2,HMO,zh (by rw[HCU.out];exact H5.out),HZ,HD2,E5⟩
       case measure=>simp[Zbz];omega
      ·have HDE:=zh (show ZbN.arr=D.1.arr∧e=D.2 by rw[←HD.out,HER.out he];exact⟨rfl,rfl⟩)
       have e0:(e==0)=false:=by simpa using he
       have e1:(e !=0)=true:=by simpa using he
       clear HGO HER
       go_wp2_with(first
        |(refine wpList_build_eq rfl 39 _ rfl (L:=#[.int .u8 0,.int .u8 0,.int .u8 0,.int .u8 0,.int .u8 0,.int .u8 0,.int .u8 0,.int .u8 0,.int .u8 0,.int .u8 0,.int .u8 0,.int .u8 0,.int .u8 0,.int .u8 0,.int .u8 0,.int .u8 0,.int .u8 0,.int .u8 0,.int .u8 0,.int .u64 0,.int .u32 0,.int .u32 0,.int .i64 0,.int .i64 0]) (by simp[go_sem];exact Za7) ?_)
        |(refine wpList_store_A rfl 39 _ _ rfl (w.heap.size+1) _ rfl rfl 39 _ HZ.out hiz rfl h1z.out ?_;intro w3 H3 E3;have E3:=E3 w.heap.size w E5 (Nat.le_succ _);have H3:=zh H3))
       refine bodyPost_ret_by (Zab Tryz.results355 _ _ (w.heap.size+1) 39 _ _ _ rfl (.int .i64 e) rfl H3.out Tryz.underlying39 rfl hiz) rfl ?_
       exact⟨by rw[←HDE.out.1,←HDE.out.2,Za0],E3⟩
theorem Zhp (t:Tm)(v:Value)(l:List Int)(w:World)(ht:t.Ok)(hl:RI .u8 w v l)(hB:Bs l):
 Calls Tryz.prog 31 #[v,.agg t.arr] w fun e w'=>e= .returned (.tuple #[.agg (decL l t).1.arr,.int .i64 (decL l t).2])∧Ext w w':=by
 have hD0:=zh (rfl:decL l t=decL l t)
 revert hD0
 generalize hD:decL l t=D
 intro _
 obtain⟨Ad,c,rfl,hc1,hc2⟩:=hl.shape
 have HR0:=zh hl
 have HB0:=zh hB
 have HO0:=zh ht
 have HD0:=zh hD
 clear hl hB ht hD
 have hzs:(#[.int .u8 0,.int .u8 0,.int .u8 0,.int .u8 0,.int .u8 0,.int .u8 0,.int .u8 0,.int .u8 0,.int .u8 0,.int .u8 0,.int .u8 0,.int .u8 0,.int .u8 0,.int .u8 0,.int .u8 0,.int .u8 0,.int .u8 0,.int .u8 0,.int .u8 0,.int .u64 0,.int .u32 0,.int .u32 0,.int .i64 0,.int .i64 0]:Array Value).size=24:=rfl
 have hiz:(Tryz.prog.info? 39).map (·.size)=some (#[.int .u8 0,.int .u8 0,.int .u8 0,.int .u8 0,.int .u8 0,.int .u8 0,.int .u8 0,.int .u8 0,.int .u8 0,.int .u8 0,.int .u8 0,.int .u8 0,.int .u8 0,.int .u8 0,.int .u8 0,.int .u8 0,.int .u8 0,.int .u8 0,.int .u8 0,.int .u64 0,.int .u32 0,.int .u32 0,.int .i64 0,.int .i64 0]:Array Value).size:=by rw[hzs];kernel_rfl
 have h1z:Hid ((#[.int .u8 0,.int .u8 0,.int .u8 0,.int .u8 0,.int .u8 0,.int .u8 0,.int .u8 0,.int .u8 0,.int .u8 0,.int .u8 0,.int .u8 0,.int .u8 0,.int .u8 0,.int .u8 0,.int .u8 0,.int .u8 0,.int .u8 0,.int .u8 0,.int .u8 0,.int .u64 0,.int .u32 0,.int .u32 0,.int .i64 0,.int .i64 0]:Array Value).all (·.oneCell')=true):=zh (by rw[←Za0];exact ZbN.one)
 have hn0:=t.size HO0.out
 go_enter Tryz.func31,Tryz.ntmps31
 go_wp2
 go_loopw [0] (fun v wr=>∃ (A:Option Addr) (n c:Nat) (xs:List Int) (t':Tm),v= .slice A n c∧Hid (xs.length=n)∧Hid (RI .u8 w (.slice A n c) xs)∧Hid (Bs xs)∧Hid t'.Ok∧Hid (Blk wr w.heap.size 39 t'.arr)∧Hid (Blk wr (w.heap.size+1) 39 #[.int .u8 0,.int .u8 0,.int .u8 0,.int .u8 0,.int .u8 0,.int .u8 0,.int .u8 0,.int .u8 0,.int .u8 0,.int .u8 0,.int .u8 0,.int .u8 0,.int .u8 0,.int .u8 0,.int .u8 0,.int .u8 0,.int .u8 0,.int .u8 0,.int .u8 0,.int .u64 0,.int .u32 0,.int .u32 0,.int .i64 0,.int .i64 0])∧Hid (decL xs t'=D)∧Ext w wr) (fun v _=>Zbz v)
 case atStart=>exact⟨Ad,l.length,c,l,t,rfl,zh rfl,HR0,HB0,HO0,zh ((Blk.new w 39 t.arr).alloc _),zh (Blk.at_ (w:=w.alloc (.cells t.arr 39)) (B:=w.heap.size+1) 39 _ (by simp)),HD0,zX⟩
 case round=>
  obtain⟨A,n,c',xs,t',rfl,HN,HR,HB,HO,HA,HZ,HD,hE⟩:=hrel
  clear HR0 HB0 HO0 HD0 hn0 hc1 hc2
  have hn24:=t'.size HO.out
  have h1:=zh t'.one
  rcases xs with _|⟨x,r⟩
  ·obtain rfl:0=n:=HN.out
   have HDE:=zh (show t'.arr=D.1.arr∧(0:Int)=D.2 by rw[←HD.out];exact⟨rfl,rfl⟩)
   clear HD HO
   generalize t'.arr=cs at*
   have hi:(Tryz.prog.info? 39).map (·.size)=some cs.size:=by rw[hn24];kernel_rfl
   have hzt:(#[.int .u8 0,.int .u8 0,.int .u8 0,.int .u8 0,.int .u8 0,.int .u8 0,.int .u8 0,.int .u8 0,.int .u8 0,.int .u8 0,.int .u8 0,.int .u8 0,.int .u8 0,.int .u8 0,.int .u8 0,.int .u8 0,.int .u8 0,.int .u8 0,.int .u8 0,.int .u64 0,.int .u32 0,.int .u32 0,.int .i64 0,.int .i64 0]:Array Value).size=cs.size:=by rw[hn24];rfl
   go_wp2_with(first
    |(refine wpList_load_row rfl 39 _ rfl _ rfl 39 _ _ _ HA.out Tryz.underlying39 rfl hi ?_)
    |(refine wpList_store_A rfl 39 _ _ rfl (w.heap.size+1) _ rfl rfl 39 _ HZ.out hi hzt h1.out ?_;intro w3 H3 E3;have E3:=E3 w.heap.size w hE (Nat.le_succ _);have H3:=zh H3))
   refine bodyPost_ret_by (Zab Tryz.results31 _ _ (w.heap.size+1) 39 _ _ _ rfl (.int .i64 0) rfl H3.out Tryz.underlying39 rfl hi) rfl ?_
   exact⟨by rw[←HDE.out.1,←HDE.out.2],E3⟩
  ·have hnr:r.length+1=n:=HN.out
   have hx:=HB.out x (by simp)
   have HBr:=zh (show Bs r from fun y hy=>HB.out y (List.mem_cons_of_mem _ hy))
   obtain⟨B,off,c2,hv,q1,q2,hc⟩:=HR.out.form (by simp)
   simp only[Value.slice.injEq] at hv
   obtain⟨rfl,hv2,rfl⟩:=hv
   simp only[List.length_cons] at q1
   unfold maxLen at q2
   have hn63:n≤9223372036854775807:=by omega
   clear hv2
   have HC:=zh fun w' (h:Ext w w')=>Zaa h (show w.cell? ⟨B,off,none⟩=some (.int .u8 x) from hc 0 _ rfl)
   have k1:=HC.out wr hE
   have i0:(0:Int)<(n:Int):=by omega
   have hwx:IntKind.i64.wrap x=x:=IntWalk.i64_in _ (by omega)
   clear hc
   by_cases hend:x=0∨160≤x
   ·have HDE:=zh (show t'.arr=D.1.arr∧(0:Int)=D.2 by rw[←HD.out,ZfD hend];exact⟨rfl,rfl⟩)
    clear HD HO
    generalize t'.arr=cs at*
    rcases hend with rfl|hge
    ·
     have hi:(Tryz.prog.info? 39).map (·.size)=some cs.size:=by rw[hn24];kernel_rfl
     have hzt:(#[.int .u8 0,.int .u8 0,.int .u8 0,.int .u8 0,.int .u8 0,.int .u8 0,.int .u8 0,.int .u8 0,.int .u8 0,.int .u8 0,.int .u8 0,.int .u8 0,.int .u8 0,.int .u8 0,.int .u8 0,.int .u8 0,.int .u8 0,.int .u8 0,.int .u8 0,.int .u64 0,.int .u32 0,.int .u32 0,.int .i64 0,.int .i64 0]:Array Value).size=cs.size:=by rw[hn24];rfl
     go_wp2_with(first
      |(refine wpList_load_row rfl 39 _ rfl _ rfl 39 _ _ _ HA.out Tryz.underlying39 rfl hi ?_)
      |(refine wpList_store_A rfl 39 _ _ rfl (w.heap.size+1) _ rfl rfl 39 _ HZ.out hi hzt h1.out ?_;intro w3 H3 E3;have E3:=E3 w.heap.size w hE (Nat.le_succ _);have H3:=zh H3))
     refine bodyPost_ret_by (Zab Tryz.results31 _ _ (w.heap.size+1) 39 _ _ _ rfl (.int .i64 0) rfl H3.out Tryz.underlying39 rfl hi) rfl ?_
     exact⟨by rw[←HDE.out.1,←HDE.out.2],E3⟩
    ·have b0:(x==0)=false:=by rw[beq_eq_false_iff_ne];omega
     have b1:¬x<160:=by omega
     have hi:(Tryz.prog.info? 39).map (·.size)=some cs.size:=by rw[hn24];kernel_rfl
     have hzt:(#[.int .u8 0,.int .u8 0,.int .u8 0,.int .u8 0,.int .u8 0,.int .u8 0,.int .u8 0,.int .u8 0,.int .u8 0,.int .u8 0,.int .u8 0,.int .u8 0,.int .u8 0,.int .u8 0,.int .u8 0,.int .u8 0,.int .u8 0,.int .u8 0,.int .u8 0,.int .u64 0,.int .u32 0,.int .u32 0,.int .i64 0,.int .i64 0]:Array Value).size=cs.size:=by rw[hn24];rfl
     go_wp2_with(first
      |(refine wpList_load_row rfl 39 _ rfl _ rfl 39 _ _ _ HA.out Tryz.underlying39 rfl hi ?_)
      |(refine wpList_store_A rfl 39 _ _ rfl (w.heap.size+1) _ rfl rfl 39 _ HZ.out hi hzt h1.out ?_;intro w3 H3 E3;have E3:=E3 w.heap.size w hE (Nat.le_succ _);have H3:=zh H3))
     refine bodyPost_ret_by (Zab Tryz.results31 _ _ (w.heap.size+1) 39 _ _ _ rfl (.int .i64 0) rfl H3.out Tryz.underlying39 rfl hi) rfl ?_
     exact⟨by rw[←HDE.out.1,←HDE.out.2],E3⟩
   ·have b0:(x==0)=false:=by rw[beq_eq_false_iff_ne];omega
    have b0':(x !=0)=true:=by rw[bne_iff_ne];omega
    have b1:x<160:=by omega
    have b2:1≤x:=by omega
    by_cases h5:n<5
    ·have HDE:=zh (show ZbN.arr=D.1.arr∧(3:Int)=D.2 by rw[←HD.out,ZcW hend (by omega)];exact⟨rfl,rfl⟩)
     clear HD HO
     go_wp2_with(first
      |(refine wpList_build_eq rfl 39 _ rfl (L:=#[.int .u8 0,.int .u8 0,.int .u8 0,.int .u8 0,.int .u8 0,.int .u8 0,.int .u8 0,.int .u8 0,.int .u8 0,.int .u8 0,.int .u8 0,.int .u8 0,.int .u8 0,.int .u8 0,.int .u8 0,.int .u8 0,.int .u8 0,.int .u8 0,.int .u8 0,.int .u64 0,.int .u32 0,.int .u32 0,.int .i64 0,.int .i64 0]) (by simp[go_sem];exact Za7) ?_)
      |(refine wpList_store_A rfl 39 _ _ rfl (w.heap.size+1) _ rfl rfl 39 _ HZ.out hiz rfl h1z.out ?_;intro w3 H3 E3;have E3:=E3 w.heap.size w hE (Nat.le_succ _);have H3:=zh H3))
     refine bodyPost_ret_by (Zab Tryz.results31 _ _ (w.heap.size+1) 39 _ _ _ rfl (.int .i64 3) rfl H3.out Tryz.underlying39 rfl hiz) rfl ?_
     exact⟨by rw[←HDE.out.1,←HDE.out.2,Za0],E3⟩
    ·have h4:4≤r.length:=by omega
     have hc1:¬c'=1:=by omega
     have HR1:=zh fun w' (h:Ext w w')=>RI.from_ (RdN.ext HR.out h) (show 1≤n by omega)
     have HR5:=zh (RI.from_ HR.out (show 5≤n by omega))
     simp only[List.drop_succ_cons,List.drop_zero,hc1,if_false] at HR1 HR5
     obtain⟨A5,hA5⟩:=zm ((if c'=5 then some (⟨B,off,none⟩:Addr) else some ⟨B,off+5,none⟩))
     rw[hA5] at HR5
     have HA4:=zh fun v w' h=>ZaF v r w' h HBr.out h4
     have hmb:=ZeN HBr.out
     have HMO:=zh (ZdZ (op:=x) HO.out hmb)
     have HGO:=zh fun he=>@Zho x r t' hend h4 he
     have HER:=zh fun he=>@ZfE x r t' hend h4 he
     have HB2:=zh (Bs.drop4 HBr.out 4)
     have HL2:=zh (show(r.drop 4).length=n - 5 by rw[List.length_drop];omega)
     have j1:(1:Int)≤(n:Int):=by omega
     have j2:(5:Int)≤(n:Int):=by omega
     have j3:(n:Int)≤(c':Int):=by omega
     have j4:(1:Int)≤(c':Int):=by omega
     have j5:(5:Int)≤(c':Int):=by omega
     have j6:¬(n:Int)<5:=by omega
     clear hend h5
     generalize hd4 r=m at*
     go_wp2
     refine zg (fun w'=>Ext wr w') zX fun hHeld=>?_
     refine zr 0 ?_
     refine zr 1 ?_
     refine zv 2 k1 ?_
     refine zr 3 ?_
     refine zr 4 ?_
     refine zr 5 ?_
     (refine zc 6 (HA4.out _ _ (HR1.out _ (hE.trans zX))) ?_;rintro e w3 ⟨rfl,E3⟩ K hK;refine zo hK zX fun hHeld=>?_;clear hK K)
     refine zr 7 ?_
     refine zr 8 ?_
     refine zd ?_
     have E3:Ext wr w3:=hHeld
     clear k1 HC HA4 HR1
     by_cases a1:x≤18
     ·obtain⟨k,rfl⟩:=Int.eq_ofNat_of_zero_le (show 0≤x by omega)
      by_cases a2:255<m
      ·have hm:modeL t' k m=(ZbN,5):=by unfold modeL;rw[if_pos a1,if_pos a2]
       rw[hm] at HER
       have HDE:=zh (show ZbN.arr=D.1.arr∧(5:Int)=D.2 by rw[←HD.out,HER.out (by decide)];exact⟨rfl,rfl⟩)
       have HZ:=zh (HZ.out.ext E3)
       have E5:=hE.trans E3
       clear HGO HER HMO hm
       go_wp2_with(first
        |(refine wpList_build_eq rfl 39 _ rfl (L:=#[.int .u8 0,.int .u8 0,.int .u8 0,.int .u8 0,.int .u8 0,.int .u8 0,.int .u8 0,.int .u8 0,.int .u8 0,.int .u8 0,.int .u8 0,.int .u8 0,.int .u8 0,.int .u8 0,.int .u8 0,.int .u8 0,.int .u8 0,.int .u8 0,.int .u8 0,.int .u64 0,.int .u32 0,.int .u32 0,.int .i64 0,.int .i64 0]) (by simp[go_sem];exact Za7) ?_)
        |(refine wpList_store_A rfl 39 _ _ rfl (w.heap.size+1) _ rfl rfl 39 _ HZ.out hiz rfl h1z.out ?_;intro w3 H3 E3;have E3:=E3 w.heap.size w E5 (Nat.le_succ _);have H3:=zh H3))
       refine bodyPost_ret_by (Zab Tryz.results31 _ _ (w.heap.size+1) 39 _ _ _ rfl (.int .i64 5) rfl H3.out Tryz.underlying39 rfl hiz) rfl ?_
       exact⟨by rw[←HDE.out.1,←HDE.out.2,Za0],E3⟩
      ·have hm:modeL t' k m=({t' with c:=t'.c.set k m},0):=by unfold modeL;rw[if_pos a1,if_neg a2];simp
       have hST:=zh (Tm.setC HO.out (k:=k) (by omega) m)
       rw[hm] at HMO HGO
       simp only at HMO HGO
       have hk1:(k:Int)<19:=by omega
       have hwn:IntKind.u8.wrap m=m:=by rw[IntKind.wrap_u8];omega
       clear hm
       have hm1:=zh (HMO.out:(({t' with c:=t'.c.set k m}:Tm)).Ok)
       have HD2:Hid (decL (r.drop 4) (({t' with c:=t'.c.set k m}:Tm))=D):=zh (by rw[←HD.out,HGO.out (by trivial)])
       clear HGO HER
       generalize hcs:t'.arr=cs at*
       generalize hct:(({t' with c:=t'.c.set k m}:Tm)).arr=ct at*
       have hk:k<cs.size:=by omega
       go_wp2_with(refine Zan rfl 5 _ _ rfl w.heap.size k rfl _ rfl rfl rfl 39 _ (HA.out.ext E3) hk (by kernel_rfl) ?_;intro w5 H5 F5 E5;have H5:=zh (Blk.cast H5 hST.out);have HZ5:=zh (F5 _ _ _ (by simp) (HZ.out.ext E3));have E5:Ext w w5:=E5 w.heap.size w (hE.trans E3) (Nat.le_refl _);clear F5)
       go_roundw
       case rel=>first|exact⟨_,n - 5,c' - 5,r.drop 4,({t' with c:=t'.c.set k m}:Tm),rfl,HL2,zh HR5.out,HB2,hm1,zh (by rw[hct];exact H5.out),HZ5,HD2,E5⟩|exact⟨A5,n - 5,c' - 5,⟨rfl,rfl,rfl⟩,r.drop 4,HL2,zh HR5.out,HB2,({t' with c:=t'.c.set k m}:Tm),hm1,zh (by rw[hct];exact H5.out),HD2⟩
       case measure=>first|(simp[Zbz];omega)|(show n - 5<n;omega)
     ·by_cases a2:x=128
      ·subst a2
       have hm:modeL t' 128 m=({t' with i:=m},0):=by unfold modeL;rw[if_neg (by omega),if_pos rfl]
       have hST:=zh (Tm.set20 HO.out m)
       rw[hm] at HMO HGO
       simp only at HMO HGO
       clear hm
       have hm1:=zh (HMO.out:(({t' with i:=m}:Tm)).Ok)
       have HD2:Hid (decL (r.drop 4) (({t' with i:=m}:Tm))=D):=zh (by rw[←HD.out,HGO.out (by trivial)])
       clear HGO HER
       generalize hcs:t'.arr=cs at*
       generalize hct:(({t' with i:=m}:Tm)).arr=ct at*
       have hk:20<cs.size:=by omega
       go_wp2_with(refine Zan rfl 33 _ _ rfl w.heap.size 20 rfl _ rfl rfl rfl 39 _ (HA.out.ext E3) hk (by kernel_rfl) ?_;intro w5 H5 F5 E5;have H5:=zh (Blk.cast H5 hST.out);have HZ5:=zh (F5 _ _ _ (by simp) (HZ.out.ext E3));have E5:Ext w w5:=E5 w.heap.size w (hE.trans E3) (Nat.le_refl _);clear F5)
       go_roundw
       case rel=>first|exact⟨_,n - 5,c' - 5,r.drop 4,({t' with i:=m}:Tm),rfl,HL2,zh HR5.out,HB2,hm1,zh (by rw[hct];exact H5.out),HZ5,HD2,E5⟩|exact⟨A5,n - 5,c' - 5,⟨rfl,rfl,rfl⟩,r.drop 4,HL2,zh HR5.out,HB2,({t' with i:=m}:Tm),hm1,zh (by rw[hct];exact H5.out),HD2⟩
       case measure=>first|(simp[Zbz];omega)|(show n - 5<n;omega)
      ·by_cases a3:x=129
       ·subst a3
        have hm:modeL t' 129 m=({t' with o:=m},0):=by unfold modeL;rw[if_neg (by omega),if_neg (by omega),if_pos rfl]
        have hST:=zh (Tm.set21 HO.out m)
        rw[hm] at HMO HGO
        simp only at HMO HGO
        clear hm
        have hm1:=zh (HMO.out:(({t' with o:=m}:Tm)).Ok)
        have HD2:Hid (decL (r.drop 4) (({t' with o:=m}:Tm))=D):=zh (by rw[←HD.out,HGO.out (by trivial)])
        clear HGO HER
        generalize hcs:t'.arr=cs at*
        generalize hct:(({t' with o:=m}:Tm)).arr=ct at*
        have hk:21<cs.size:=by omega
        go_wp2_with(refine Zan rfl 33 _ _ rfl w.heap.size 21 rfl _ rfl rfl rfl 39 _ (HA.out.ext E3) hk (by kernel_rfl) ?_;intro w5 H5 F5 E5;have H5:=zh (Blk.cast H5 hST.out);have HZ5:=zh (F5 _ _ _ (by simp) (HZ.out.ext E3));have E5:Ext w w5:=E5 w.heap.size w (hE.trans E3) (Nat.le_refl _);clear F5)
        go_roundw
        case rel=>first|exact⟨_,n - 5,c' - 5,r.drop 4,({t' with o:=m}:Tm),rfl,HL2,zh HR5.out,HB2,hm1,zh (by rw[hct];exact H5.out),HZ5,HD2,E5⟩|exact⟨A5,n - 5,c' - 5,⟨rfl,rfl,rfl⟩,r.drop 4,HL2,zh HR5.out,HB2,({t' with o:=m}:Tm),hm1,zh (by rw[hct];exact H5.out),HD2⟩
        case measure=>first|(simp[Zbz];omega)|(show n - 5<n;omega)
       ·have hm:modeL t' x m=(setL t' x (m !=0),0):=by unfold modeL;rw[if_neg a1,if_neg a2,if_neg a3]
        rw[hm] at HMO HGO
        simp only at HMO HGO
        have hS:=zh fun w'=>ZfA t' x (m !=0) w' HO.out
        have HD2:Hid (decL (r.drop 4) (setL t' x (m !=0))=D):=zh (by rw[←HD.out,HGO.out (by trivial)])
        have hnu:=Tm.size HMO.out
        have h1u:=zh (setL t' x (m !=0)).one
        have b3:(x==128)=false:=by simpa using a2
        have b4:(x==129)=false:=by simpa using a3
        clear HGO HER hm a2 a3
        generalize hcs:t'.arr=cs at*
        generalize hct:(setL t' x (m !=0)).arr=ct at*
        have hi:(Tryz.prog.info? 39).map (·.size)=some cs.size:=by rw[hn24];kernel_rfl
        have hiu:(Tryz.prog.info? 39).map (·.size)=some ct.size:=by rw[hnu];kernel_rfl
        have hss:cs.size=ct.size:=by rw[hn24,hnu]
        have HCT:=zh hct
        clear hcs hct
        go_wp2_with((refine wpList_load_row rfl 39 _ rfl _ rfl 39 _ _ _ (HA.out.ext E3) Tryz.underlying39 rfl hi ?_))
        (with_reducible refine(hS.out _).mono ?_);rintro e w4 ⟨rfl,E4⟩
        have E4:Ext wr w4:=E3.trans zX
        go_wp2_with(refine Zav rfl 39 _ _ rfl w.heap.size _ rfl rfl 39 _ (HA.out.ext E4) hiu hss h1u.out ?_;intro w5 H5 F5 E5;have H5:=zh H5;have HZ5:=zh (F5 _ _ _ (by simp) (HZ.out.ext E4));have E5:Ext w w5:=E5 w.heap.size w (hE.trans E4) (Nat.le_refl _);clear F5)
        try simp only[Act.put]
        go_roundw
        case rel=>first|exact⟨_,n - 5,c' - 5,r.drop 4,setL t' x (m !=0),rfl,HL2,zh HR5.out,HB2,HMO,zh (by rw[HCT.out];exact H5.out),HZ5,HD2,E5⟩|exact⟨A5,n - 5,c' - 5,⟨rfl,rfl,rfl⟩,r.drop 4,HL2,zh HR5.out,HB2,setL t' x (m !=0),HMO,zh (by rw[HCT.out];exact H5.out),HD2⟩|((repeat apply Exists.intro);exact⟨⟨_,n - 5,c' - 5,r.drop 4,setL t' x (m !=0),rfl,HL2,zh HR5.out,HB2,HMO,zh (by rw[HCT.out];exact H5.out),HZ5,HD2,E5⟩,rfl⟩)
        case measure=>first|(simp[Zbz];omega)|(show n - 5<n;omega)
def offT:Nat→Tm→Tm
 |0,t=>t
 |k+1,t=>setL (offT k t) (30+k) false
theorem Zhq {t:Tm}(h:t.Ok):∀k,(offT k t).Ok
 |0=>h
 |k+1=>ZcV (Zhq h k) _ _
def rightL (t:Tm):Bool:=decide ((offT 64 t).f=0∧t.c.getD 0 0=0∧0≤t.m∧t.m≤255∧0≤t.t∧t.t≤255)
theorem Tm.at22 {t:Tm}(h:t.Ok):t.arr[22]?=some (.int .i64 t.m):=by
 have hc:=h.c
 simp only[Tm.arr,Tm.cells,List.getElem?_toArray]
 rw[List.getElem?_append_right (by simp;omega)]
 simp[hc]
theorem Tm.at23 {t:Tm}(h:t.Ok):t.arr[23]?=some (.int .i64 t.t):=by
 have hc:=h.c
 simp only[Tm.arr,Tm.cells,List.getElem?_toArray]
 rw[List.getElem?_append_right (by simp;omega)]
 simp[hc]
theorem Zjv (t:Tm)(w:World)(ht:t.Ok):Calls Tryz.prog 33 #[.agg t.arr] w fun e w'=>e= .returned (.bool (rightL t))∧Ext w w':=by
 have hf:rightL t=decide ((offT 64 t).f=0∧t.c.getD 0 0=0∧0≤t.m∧t.m≤255∧0≤t.t∧t.t≤255):=rfl
 obtain⟨z,hz0⟩:=zm (rightL t);rw[hz0];have HZ:=zh (hz0.symm.trans hf);clear hz0 hf
 have hn:=t.size ht
 have h1:=zh t.one
 have HOk:=zh (Zhq ht)
 have a0:=Tm.at_ ht (k:=0) (by decide)
 have a22:=Tm.at22 ht
 have a23:=Tm.at23 ht
 have a19:=Tm.at19 (Zhq ht 64)
 generalize hcs:t.arr=cs at*
 have HCS:=zh hcs
 clear hcs
 have hi:(Tryz.prog.info? 39).map (·.size)=some cs.size:=by rw[hn];kernel_rfl
 have hn24:=zh hn
 go_enter Tryz.func33,Tryz.ntmps33
 go_wp2_with(first
  |(refine wpList_load_row rfl 39 _ rfl _ rfl 39 _ _ _ (Blk.new w 39 cs) Tryz.underlying39 rfl hi ?_)
  |(refine Zav rfl 39 _ _ rfl (w.heap.size+1) _ rfl rfl 39 _ (Blk.at_ (w:=w.alloc (.cells cs 39)) (B:=w.heap.size+1) 39 _ (by simp)) hi (by rw[hn24.out];rfl) h1.out ?_;intro w2 H2 F2 E2;have H2:=zh H2;have G2:=zh (F2 _ _ _ (by simp) ((Blk.new w 39 cs).alloc _));have E2:Ext w w2:=E2 w.heap.size w zX (Nat.le_succ _);clear F2))
 go_loopw [4] (fun i wr=>∃k:Nat,k≤64∧i= .int .i64 (30+(k:Int))∧Hid (Blk wr w.heap.size 39 cs)∧Hid (Blk wr (w.heap.size+1) 39 (offT k t).arr)∧Ext w wr) (fun i _=>94 - (intOf i).toNat)
 case atStart=>exact⟨0,Nat.zero_le _,by simp,G2,zh (by show Blk _ _ _ t.arr;rw[HCS.out];exact H2.out),E2⟩
 case round=>
  clear E2 H2 G2
  obtain⟨k,hk,rfl,HG,HH,hE⟩:=hrel
  by_cases hlt:k<64
  ·have h93:30+(k:Int)≤93:=by omega
   have hS:=zh fun w'=>ZfA (offT k t) (30+k) false w' (HOk.out k)
   have hnk:=(offT k t).size (HOk.out k)
   have hnk':=(offT (k+1) t).size (HOk.out (k+1))
   have h1k:=zh (offT (k+1) t).one
   have HK:Hid ((setL (offT k t) (30+k) false).arr=(offT (k+1) t).arr):=zh rfl
   rw[HK.out] at hS
   generalize (offT k t).arr=ck at*
   generalize hcl:(offT (k+1) t).arr=cl at*
   have HCL:=zh hcl
   clear hcl HK a0 a22 a23 a19
   have hik:(Tryz.prog.info? 39).map (·.size)=some ck.size:=by rw[hnk];kernel_rfl
   have hil:(Tryz.prog.info? 39).map (·.size)=some cl.size:=by rw[hnk'];kernel_rfl
   have hkl:ck.size=cl.size:=by rw[hnk,hnk']
   go_wp2_with((refine wpList_load_row rfl 39 _ rfl _ rfl 39 _ _ _ HH.out Tryz.underlying39 rfl hik ?_))
   (with_reducible refine(hS.out _).mono ?_);rintro e w3 ⟨rfl,E3⟩
   go_wp2_with(refine Zav rfl 39 _ _ rfl (w.heap.size+1) _ rfl rfl 39 _ (HH.out.ext E3) hil hkl h1k.out ?_;intro w5 H5 F5 E5;have H5:=zh H5;have G5:=zh (F5 _ _ _ (by simp) (HG.out.ext E3));have E5:Ext w w5:=E5 w.heap.size w (hE.trans E3) (Nat.le_succ _);clear F5)
   try simp only[Act.put]
   go_roundw
   case rel=>exact⟨k+1,by omega,by first|go_num|(congr 1;omega)|(simp;omega),G5,zh (by rw[HCL.out];exact H5.out),E5⟩
   case measure=>first|(simp[intOf];omega)|(show 94 - _<_;simp[intOf];omega)
  ·obtain rfl:k=64:=by omega
   have c19:=HH.out.cell 19
   have c0:=HG.out.cell 0
   have c22:=HG.out.cell 22
   have c23:=HG.out.cell 23
   rw[a19] at c19
   rw[a0] at c0
   rw[a22] at c22
   rw[a23] at c23
   clear a0 a22 a23 a19 HG HH HOk h1
   generalize (offT 64 t).f=f at*
   generalize t.c.getD 0 0=x0 at*
   generalize t.m=m at*
   generalize t.t=tt at*
   by_cases b1:f=0
   ·subst b1
    by_cases b2:x0=0
    ·subst b2
     by_cases b3:0≤m
     ·by_cases b4:m≤255
      ·by_cases b5:0≤tt
       ·by_cases b6:tt≤255
        ·replace HZ:Hid (z=true):=zh (by rw[HZ.out];exact decide_eq_true ⟨rfl,rfl,b3,b4,b5,b6⟩)
         go_wp2
         go_ret
         exact⟨by rw[HZ.out];rfl,hE⟩
        ·
         replace HZ:Hid (z=false):=zh (by rw[HZ.out];exact decide_eq_false (fun h=>b6 h.2.2.2.2.2))
         go_wp2
         go_ret
         exact⟨by rw[HZ.out];rfl,hE⟩
       ·
        replace HZ:Hid (z=false):=zh (by rw[HZ.out];exact decide_eq_false (fun h=>b5 h.2.2.2.2.1))
        go_wp2
        go_ret
        exact⟨by rw[HZ.out];rfl,hE⟩
      ·
       replace HZ:Hid (z=false):=zh (by rw[HZ.out];exact decide_eq_false (fun h=>b4 h.2.2.2.1))
       go_wp2
       go_ret
       exact⟨by rw[HZ.out];rfl,hE⟩
     ·
      replace HZ:Hid (z=false):=zh (by rw[HZ.out];exact decide_eq_false (fun h=>b3 h.2.2.1))
      go_wp2
      go_ret
      exact⟨by rw[HZ.out];rfl,hE⟩
    ·have b2':(x0==0)=false:=by simpa using b2
     replace HZ:Hid (z=false):=zh (by rw[HZ.out];exact decide_eq_false (fun h=>b2 h.2.1))
     go_wp2
     go_ret
     exact⟨by rw[HZ.out];rfl,hE⟩
   ·have b1':(f==0)=false:=by simpa using b1
    replace HZ:Hid (z=false):=zh (by rw[HZ.out];exact decide_eq_false (fun h=>b1 h.1))
    go_wp2
    go_ret
    exact⟨by rw[HZ.out];rfl,hE⟩
def flagsAll:List Int:=[30,31,32,33,34,35,36,37,38,39,40,41,42,50,51,52,53,54,55,56,57,58,59,60,61,62,70,71,72,73,74,75,90,91,92,93]
def ZqM (f:Int)(l:List Int):Int:=l.foldl (fun f op=>ZbD f op false) f
theorem Zgx (f:Int)(l:List Int)(op:Int):ZqM f (l++ [op])=ZbD (ZqM f l) op false:=by
 simp[ZqM,List.foldl_append]
theorem Zhr:flagsAll=((List.range 64).map fun(j:Nat)=>(30:Int)+(j:Int)).filter ZaL:=by decide+kernel
theorem Zk3 (t:Tm):∀k,(offT k t).f=ZqM t.f (((List.range k).map fun(j:Nat)=>(30:Int)+(j:Int)).filter ZaL)
 |0=>rfl
 |k+1=>by
  rw[List.range_succ,List.map_append,List.filter_append]
  show(setL (offT k t) (30+k) false).f=_
  unfold setL
  by_cases h:ZaL (30+(k:Int))=true
  ·rw[if_pos h]
   simp only[List.map_cons,List.map_nil,List.filter_cons,List.filter_nil,h,if_true]
   rw[Zgx,←Zk3 t k]
  ·rw[if_neg h]
   simp only[List.map_cons,List.map_nil,List.filter_cons,List.filter_nil,h]
   rw[Zk3 t k]
   simp
theorem Znv (t:Tm):(offT 64 t).f=ZqM t.f flagsAll:=by rw[Zk3,Zhr]
theorem ZfF:∀op∈flagsAll,ZaL op=true:=by decide
def d1 (k:Nat):Tm:=⟨(List.range 19).map fun j=>if 1≤j∧j<k then 255 else 0,0,38400,38400,1,0⟩
def tab0:List (Int×Int):=[(1,3),(2,28),(3,127),(4,21),(5,4),(8,17),(9,19),(10,26),(12,18),(13,23),(14,22),(18,15)]
def d2 (j:Nat):Tm:=⟨(tab0.take j).foldl (fun c p=>c.set p.1.toNat p.2) (d1 19).c,0,38400,38400,1,0⟩
def d3 (k:Nat):Tm:=(ops0.take k).foldl (fun t op=>setL t op true) (d2 12)
theorem Zp1 (k:Nat):(d1 k).Ok:=by
 refine⟨by simp[d1],?_,⟨by simp[d1],by simp[d1]⟩,⟨by simp[d1],by simp[d1]⟩,⟨by simp[d1],by simp[d1]⟩,⟨by simp[d1],by simp[d1]⟩,⟨by simp[d1],by simp[d1]⟩⟩
 intro x hx
 simp only[d1,List.mem_map,List.mem_range] at hx
 obtain⟨j,hj,rfl⟩:=hx
 show 0≤ite _ _ _∧ite _ _ _≤(255:Int)
 split<;>omega
theorem Zp2 {k:Nat}(h1:1≤k)(h:k<19):(d1 k).arr.setIfInBounds k (.int .u8 255)=(d1 (k+1)).arr:=by
 rw[Tm.setC (Zp1 k) h]
 have:∀k:Nat,k<19→1≤k→(d1 k).c.set k 255=(d1 (k+1)).c:=by decide
 have e:=this k h h1
 show(⟨(d1 k).c.set k 255,0,38400,38400,1,0⟩:Tm).arr=(⟨(d1 (k+1)).c,0,38400,38400,1,0⟩:Tm).arr
 rw[e]
theorem Znw (j:Nat)(hj:j<12):∃ (q:Nat) (b:Int),(∀w,(Instr.index 188 (.agg #[.int .u8 1,.int .u8 3,.int .u8 2,.int .u8 28,.int .u8 3,.int .u8 127,.int .u8 4,.int .u8 21,.int .u8 5,.int .u8 4,.int .u8 8,.int .u8 17,.int .u8 9,.int .u8 19,.int .u8 10,.int .u8 26,.int .u8 12,.int .u8 18,.int .u8 13,.int .u8 23,.int .u8 14,.int .u8 22,.int .u8 18,.int .u8 15]) (.int .i64 (j:Int))).run Tryz.prog w= .ok (.agg #[.int .u8 (q:Int),.int .u8 b]) w)∧q<19∧(d2 j).arr.setIfInBounds q (.int .u8 b)=(d2 (j+1)).arr:=by
 rcases j with _|_|_|_|_|_|_|_|_|_|_|_|j
 ·exact⟨1,3,fun w=>by kernel_rfl,by decide,by kernel_rfl⟩
 ·exact⟨2,28,fun w=>by kernel_rfl,by decide,by kernel_rfl⟩
 ·exact⟨3,127,fun w=>by kernel_rfl,by decide,by kernel_rfl⟩
 ·exact⟨4,21,fun w=>by kernel_rfl,by decide,by kernel_rfl⟩
 ·exact⟨5,4,fun w=>by kernel_rfl,by decide,by kernel_rfl⟩
 ·exact⟨8,17,fun w=>by kernel_rfl,by decide,by kernel_rfl⟩
 ·exact⟨9,19,fun w=>by kernel_rfl,by decide,by kernel_rfl⟩
 ·exact⟨10,26,fun w=>by kernel_rfl,by decide,by kernel_rfl⟩
 ·exact⟨12,18,fun w=>by kernel_rfl,by decide,by kernel_rfl⟩
 ·exact⟨13,23,fun w=>by kernel_rfl,by decide,by kernel_rfl⟩
 ·exact⟨14,22,fun w=>by kernel_rfl,by decide,by kernel_rfl⟩
 ·exact⟨18,15,fun w=>by kernel_rfl,by decide,by kernel_rfl⟩
 ·omega
theorem Zp3 (j:Nat)(hj:j≤12):(d2 j).arr.size=24:=by
 have:∀j:Nat,j≤12→(d2 j).arr.size=24:=by decide+kernel
 exact this j hj
theorem ZsI:(d2 12).Ok:=⟨by decide+kernel,by decide+kernel,⟨by decide,by decide⟩,⟨by decide,by decide⟩,⟨by decide,by decide⟩,⟨by decide,by decide⟩,⟨by decide,by decide⟩⟩
theorem Zk4:∀ (l:List Int) (t:Tm),t.Ok→(l.foldl (fun t op=>setL t op true) t).Ok
 | [],_,h=>h
 |op::l,_,h=>Zk4 l _ (ZcV h op true)
theorem Zp4 (k:Nat):(d3 k).Ok:=Zk4 _ _ ZsI
theorem Zp5 {k:Nat}(h:k<14):setL (d3 k) (ops0.getD k 0) true=d3 (k+1):=by
 have:∀k:Nat,k<14→setL (d3 k) (ops0.getD k 0) true=d3 (k+1):=by decide+kernel
 exact this k h
theorem Zrx:d3 14=Zca:=by decide+kernel
theorem Zgy (w:World):Calls Tryz.prog 32 #[] w fun e w'=>e= .returned (.agg Zca.arr)∧Ext w w':=by
 have hb0:Tryz.prog.built 39 [(2,.int .u32 38400),(3,.int .u32 38400),(4,.int .i64 1)]=some (d1 0).arr:=by kernel_rfl
 have hn:=Tm.size (Zp1 0)
 have h1:=zh (d1 0).one
 have h01:=zh (show(d1 0).arr=(d1 1).arr by rfl)
 generalize hcs:(d1 0).arr=cs at*
 clear hcs
 have hi:(Tryz.prog.info? 39).map (·.size)=some cs.size:=by rw[hn];kernel_rfl
 have hn24:=zh hn
 go_enter Tryz.func32,Tryz.ntmps32
 go_wp2_with(first
  |(refine wpList_build_eq rfl 39 _ rfl (L:=cs) (by simp[go_sem];exact hb0) ?_)
  |(refine Zav rfl 39 _ _ rfl (w.heap.size+1) _ rfl rfl 39 _ (Blk.at_ (B:=w.heap.size+1) 39 _ (by simp)) hi (by rw[hn24.out];rfl) h1.out ?_;intro w2 H2 F2 E2;have H2:=zh H2;have G2:=zh (F2 _ _ _ (by simp) ((Blk.new w 39 _).alloc _));have E2:Ext w w2:=E2 w.heap.size w zX (Nat.le_succ _);clear F2))
 go_loopw [2] (fun i wr=>∃k:Nat,1≤k∧k≤19∧i= .int .i64 k∧Hid (Blk wr w.heap.size 39 #[.int .u8 0,.int .u8 0,.int .u8 0,.int .u8 0,.int .u8 0,.int .u8 0,.int .u8 0,.int .u8 0,.int .u8 0,.int .u8 0,.int .u8 0,.int .u8 0,.int .u8 0,.int .u8 0,.int .u8 0,.int .u8 0,.int .u8 0,.int .u8 0,.int .u8 0,.int .u64 0,.int .u32 0,.int .u32 0,.int .i64 0,.int .i64 0])∧Hid (Blk wr (w.heap.size+1) 39 (d1 k).arr)∧Ext w wr) (fun i _=>19 - (intOf i).toNat)
 case atStart=>exact⟨1,by omega,by omega,rfl,G2,zh (by rw[←h01.out];exact H2.out),E2⟩
 case round=>
  clear E2 H2 G2
  obtain⟨k,hk1,hk,rfl,HG,HH,hE⟩:=hrel
  by_cases hlt:k<19
  ·have hk19:(k:Int)<19:=by omega
   have hk0:(0:Int)≤(k:Int):=by omega
   have hnk:=Tm.size (Zp1 k)
   have hks:k<(d1 k).arr.size:=by omega
   have HS:=zh (Zp2 hk1 hlt)
   generalize (d1 k).arr=ck at*
   generalize hcl:(d1 (k+1)).arr=cl at*
   have HCL:=zh hcl
   clear hcl
   go_wp2_with(refine Zan rfl 5 _ _ rfl (w.heap.size+1) k rfl _ rfl rfl rfl 39 _ HH.out hks (by kernel_rfl) ?_;intro w5 H5 F5 E5;have H5:=zh (Blk.cast H5 HS.out);have G5:=zh (F5 _ _ _ (by simp) HG.out);have E5:Ext w w5:=E5 w.heap.size w hE (Nat.le_succ _);clear F5)
   try simp only[Act.put]
   go_roundw
   case rel=>exact⟨k+1,by omega,by omega,by first|go_num|(congr 1;omega)|(simp;omega),G5,zh (by rw[HCL.out];exact H5.out),E5⟩
   case measure=>first|(simp[intOf];omega)|(show 19 - _<_;simp[intOf];omega)
  ·obtain rfl:k=19:=by omega
   have HH:=zh (Blk.cast HH.out (show(d1 19).arr=(d2 0).arr by rfl))
   clear hk hk1
   go_wp2
   go_loopw [4,28] (fun _ i wr=>∃k:Nat,k≤12∧i= .int .i64 k∧Hid (Blk wr w.heap.size 39 #[.int .u8 0,.int .u8 0,.int .u8 0,.int .u8 0,.int .u8 0,.int .u8 0,.int .u8 0,.int .u8 0,.int .u8 0,.int .u8 0,.int .u8 0,.int .u8 0,.int .u8 0,.int .u8 0,.int .u8 0,.int .u8 0,.int .u8 0,.int .u8 0,.int .u8 0,.int .u64 0,.int .u32 0,.int .u32 0,.int .i64 0,.int .i64 0])∧Hid (Blk wr (w.heap.size+1) 39 (d2 k).arr)∧Ext w wr) (fun _ i _=>12 - (intOf i).toNat)
   case atStart=>exact⟨0,by omega,rfl,HG,HH,hE⟩
   case round=>
    clear hE HG HH
    obtain⟨k,hk,rfl,HG,HH,hE⟩:=hrel
    by_cases hlt:k<12
    ·obtain⟨q,b,hix,hq,hst⟩:=Znw k hlt
     have hq19:(q:Int)<19:=by omega
     have hq0:(0:Int)≤(q:Int):=by omega
     have hnk:=Zp3 k hk
     have hks:q<(d2 k).arr.size:=by omega
     have HS:=zh hst
     generalize (d2 k).arr=ck at*
     generalize hcl:(d2 (k+1)).arr=cl at*
     have HCL:=zh hcl
     clear hcl hst
     go_wp2_with(refine Zan rfl 5 _ _ rfl (w.heap.size+1) q rfl _ rfl rfl rfl 39 _ (HH.out.ext (show Ext wr _ from zX)) hks (by kernel_rfl) ?_;intro w5 H5 F5 E5;have H5:=zh (Blk.cast H5 HS.out);have G5:=zh (F5 _ _ _ (by simp) (HG.out.ext (show Ext wr _ from zX)));have E5:Ext w w5:=E5 w.heap.size w (hE.trans zX) (Nat.le_succ _);clear F5)
     try simp only[Act.put]
     go_roundw
     case rel=>first|exact⟨k+1,by omega,by first|go_num|(congr 1;omega)|(simp;omega),G5,zh (by rw[HCL.out];exact H5.out),E5⟩|((repeat apply Exists.intro);exact⟨⟨k+1,by omega,by go_num,G5,zh (by rw[HCL.out];exact H5.out),E5⟩,rfl⟩)
     case measure=>first|(simp[intOf];omega)|(show 12 - _<_;simp[intOf];omega)
    ·obtain rfl:k=12:=by omega
     have HH:=zh (Blk.cast HH.out (show(d2 12).arr=(d3 0).arr by rfl))
     clear hk
     go_wp2
     go_loopw [6,39] (fun _ i wr=>∃k:Nat,k≤14∧i= .int .i64 k∧Hid (Blk wr w.heap.size 39 #[.int .u8 0,.int .u8 0,.int .u8 0,.int .u8 0,.int .u8 0,.int .u8 0,.int .u8 0,.int .u8 0,.int .u8 0,.int .u8 0,.int .u8 0,.int .u8 0,.int .u8 0,.int .u8 0,.int .u8 0,.int .u8 0,.int .u8 0,.int .u8 0,.int .u8 0,.int .u64 0,.int .u32 0,.int .u32 0,.int .i64 0,.int .i64 0])∧Hid (Blk wr (w.heap.size+1) 39 (d3 k).arr)∧Ext w wr) (fun _ i _=>14 - (intOf i).toNat)
     case atStart=>exact⟨0,by omega,rfl,HG,HH,hE⟩
     case round=>
      clear hE HG HH
      obtain⟨k,hk,rfl,HG,HH,hE⟩:=hrel
      by_cases hlt:k<14
      ·have hix:=Zgu k hlt
       have hS:=fun w'=>ZfA (d3 k) (ops0.getD k 0) true w' (Zp4 k)
       rw[Zp5 hlt] at hS
       have HS:=zh hS
       have hnk:=(d3 k).size (Zp4 k)
       have hnl:=(d3 (k+1)).size (Zp4 (k+1))
       have h1l:=zh (d3 (k+1)).one
       clear hS
       generalize ops0.getD k 0=op at*
       generalize (d3 k).arr=ck at*
       generalize hcl:(d3 (k+1)).arr=cl at*
       have HCL:=zh hcl
       clear hcl
       have hik:(Tryz.prog.info? 39).map (·.size)=some ck.size:=by rw[hnk];kernel_rfl
       have hil:(Tryz.prog.info? 39).map (·.size)=some cl.size:=by rw[hnl];kernel_rfl
       have hkl:ck.size=cl.size:=by rw[hnk,hnl]
       go_wp2_with((refine wpList_load_row rfl 39 _ rfl _ rfl 39 _ _ _ HH.out Tryz.underlying39 rfl hik ?_))
       (with_reducible refine(HS.out _).mono ?_);rintro e w3 ⟨rfl,E3⟩
       go_wp2_with(refine Zav rfl 39 _ _ rfl (w.heap.size+1) _ rfl rfl 39 _ (HH.out.ext E3) hil hkl h1l.out ?_;intro w5 H5 F5 E5;have H5:=zh H5;have G5:=zh (F5 _ _ _ (by simp) (HG.out.ext E3));have E5:Ext w w5:=E5 w.heap.size w (hE.trans E3) (Nat.le_succ _);clear F5)
       try simp only[Act.put]
       go_roundw
       case rel=>first|exact⟨k+1,by omega,by first|go_num|(congr 1;omega)|(simp;omega),G5,zh (by rw[HCL.out];exact H5.out),E5⟩|((repeat apply Exists.intro);exact⟨⟨k+1,by omega,by go_num,G5,zh (by rw[HCL.out];exact H5.out),E5⟩,rfl⟩)
       case measure=>first|(simp[intOf];omega)|(show 14 - _<_;simp[intOf];omega)
      ·obtain rfl:k=14:=by omega
       have HH:=zh (Blk.cast HH.out (show(d3 14).arr=Zca.arr by rw[Zrx]))
       have hnd:=Tm.size Zbb
       have h1d:=zh Zca.one
       generalize hcd:Zca.arr=cd at*
       have HCD:=zh hcd
       clear hcd
       have hid':(Tryz.prog.info? 39).map (·.size)=some cd.size:=by rw[hnd];kernel_rfl
       have hzd:(#[.int .u8 0,.int .u8 0,.int .u8 0,.int .u8 0,.int .u8 0,.int .u8 0,.int .u8 0,.int .u8 0,.int .u8 0,.int .u8 0,.int .u8 0,.int .u8 0,.int .u8 0,.int .u8 0,.int .u8 0,.int .u8 0,.int .u8 0,.int .u8 0,.int .u8 0,.int .u64 0,.int .u32 0,.int .u32 0,.int .i64 0,.int .i64 0]:Array Value).size=cd.size:=by rw[hnd];rfl
       go_wp2_with(first
        |(refine wpList_load_row rfl 39 _ rfl _ rfl 39 _ _ _ HH.out Tryz.underlying39 rfl hid' ?_)
        |(refine wpList_store_A rfl 39 _ _ rfl w.heap.size _ rfl rfl 39 _ HG.out hid' hzd h1d.out ?_;intro w3 H3 E3;have E3:=E3 w.heap.size w hE (Nat.le_refl _);have H3:=zh H3))
       refine bodyPost_ret_by (results_cell_row Tryz.results32 _ _ w.heap.size 39 _ _ _ rfl H3.out Tryz.underlying39 rfl hid') rfl ?_
       exact⟨by rw[HCD.out],E3⟩
end Go.Proofs.YtmmhcllibpmfnaaGreatDoor.Md
